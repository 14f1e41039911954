/- Lemmas for the walks (Sea5, Sea6, Sea7, Bits, Ahd). No condition. -/
import Derived.Test.YtaonijdhmgcbjaaG18
import Derived.Test.YtaonijdhmgcbjaaG15
import Derived.Test.YtaonijdhmgcbjaaG01
import Derived.Laws.BitsAllLaws
import Derived.Test.YtaonijdhmgcbjaaG06
import Derived.RegionTactic
import Derived.BigRegion
import Derived.Laws.ShiftsVarLaws
set_option linter.unusedSimpArgs false
set_option linter.unusedVariables false
set_option linter.unusedSectionVars false
set_option linter.unnecessarySimpa false
namespace Go.Proofs.Ytaonijdhmgcbjaa
open Go.RowKit

section
variable {C : Ctx} {S : List Ent} {W : World}
theorem complete_S {tv hv ov : Value} {n : Int} {f : Nat → Nat} {B : Option Addr} {d gf gm m : Nat} {cs : List Cl} (hw : Mem C W S) (hm : entBlk gf 179 (finC tv (.slice B cs.length d) n f hv m ov gm) ∈ S) (hB : RdCl W B cs) (h16 : m < 65536) (hl : cs.length ≤ 16) :
    Calls Try.prog 115 #[.pointer (some ⟨gf, 0, none⟩)] W fun e w' => e = .returned (.bool (compM cs m)) ∧ Below W.heap.size W w' :=
  complete_any B d cs gf m W (hw.blkAt hm).1 ((hw.blkAt hm).2 1) ((hw.blkAt hm).2 16) hB h16 hl
theorem key_S {tv cv ov : Value} {n : Int} {f : Nat → Nat} {H : Option Addr} {hc gf gm m : Nat} {hs : List Hd} {sts : List (List Int)} (hw : Mem C W S) (hm : entBlk gf 179 (finC tv cv n f (.slice H hs.length hc) m ov gm) ∈ S)
    (h1 : entOwn hdEnc 1 58 H hc hs ∈ S) (h2 : entInner intEnc 1 3 hs sts ∈ S) (h16 : m < 65536) (hl4 : sts.length ≤ 4) (hval : ∀ s ∈ sts, s.length ≤ 50 ∧ ∀ x ∈ s, 0 ≤ x ∧ x ≤ 1000) :
    Calls Try.prog 116 #[.pointer (some ⟨gf, 0, none⟩)] W fun e w' => e = .returned (.string (bytesOf (keyL m sts))) ∧ Below W.heap.size W w' :=
  key_any H hc hs sts gf m W (hw.blkAt hm).1 ((hw.blkAt hm).2 15) ((hw.blkAt hm).2 16) h16 (hw.ownRd h1 (fun _ => rfl)) (hw.innerLen h2) (fun _ a b => hw.innerRd h2 (fun _ => rfl) a b) hl4 hval
end
section
variable (T B : Option Addr) (tc d : Nat) (ts : List Int) (cs : List Cl) (n : Int) (f : Nat → Nat) (gf gm : Nat)
variable (hts : typesOk ts = true) (hcs : CallsOk ts cs) (h9 : cs.length ≤ 9) (hf16 : ∀ i, i < 12 → f i < 65536)
include hts hcs h9 hf16
set_option maxRecDepth 100000 in
set_option maxHeartbeats 4000000 in
theorem run_step (k : Nat) (hrun : ∀ k', k = k' + 1 → RunOk T B tc d ts cs n f gf gm k') : RunOk T B tc d ts cs n f gf gm k := by
  intro w x W n0 hp hD hk hT hB haT haB hm
  unfold runSays
  have hplace := fun i y => place_any T B tc d ts cs n f gf gm hcs h9 hf16 k hrun w i y
  obtain ⟨hA, hc, hs, oA, oc, D⟩ := x
  obtain ⟨F, hF⟩ : ∃ F, F = blks (finS T B tc d ts cs n f gf gm ⟨hA, hc, hs, oA, oc, D⟩ w) := ⟨_, rfl⟩
  rw [← hF] at haT haB hm ⊢
  have ht4 : 1 ≤ ts.length ∧ ts.length ≤ 4 := by
    unfold typesOk at hts
    rw [Bool.and_eq_true, decide_eq_true_eq] at hts
    exact hts.1
  have hsl := hp.sts.1
  have hml : maskW w < 2 ^ 9 := Nat.lt_of_lt_of_le (mask_lt hp) (Nat.pow_le_pow_right (by decide) h9)
  have hm16 : maskW w < 65536 := Nat.lt_trans hml (by decide)
  have hrows := stsOk_bounds hp.sts
  have hbT : ∀ b o, T = some ⟨b, o, none⟩ → b < W.heap.size := fun b o e => by
    obtain ⟨b', o', e', hb'⟩ := RdE.open hT (by omega)
    rw [e] at e'; cases e'; exact hb'
  have hbB : 0 < cs.length → ∀ b o, B = some ⟨b, o, none⟩ → b < W.heap.size := fun h0 b o e => by
    obtain ⟨b', o', e', hb'⟩ := RdE.open hB h0
    rw [e] at e'; cases e'; exact hb'
  have hrT : ∀ (C : Ctx) (S : List Ent) (W' : World), C.F = F → C.w0 = W → Mem C W' S → RdInt W' T ts := fun C S W' e1 e2 hw => by
    subst e2
    exact hw.rdAwayF hT (fun b o e => by rw [e1]; exact haT b o e)
  have hrB : ∀ (C : Ctx) (S : List Ent) (W' : World), C.F = F → C.w0 = W → Mem C W' S → RdCl W' B cs := fun C S W' e1 e2 hw => by
    subst e2
    rcases Nat.eq_zero_or_pos cs.length with h0 | h0
    · rw [List.length_eq_zero_iff.1 h0]; exact RdE.nil _
    · exact hw.rdAwayF hB (fun b o e => by rw [e1]; exact haB h0 b o e)
  have hawT : ∀ (C : Ctx) (S R : List Ent) (W' : World), C.F = F → C.w0 = W → Mem C W' (S ++ R) → Away T (blks S) := fun C S R W' e1 e2 hw b o e => by
    subst e2
    exact hw.newBlkF (by rw [e1]; exact haT b o e) (hbT b o e)
  have hawB : ∀ (C : Ctx) (S R : List Ent) (W' : World), C.F = F → C.w0 = W → Mem C W' (S ++ R) → 0 < cs.length → Away B (blks S) := fun C S R W' e1 e2 hw h0 b o e => by
    subst e2
    exact hw.newBlkF (by rw [e1]; exact haB h0 b o e) (hbB h0 b o e)
  have hkey : keyW ts cs w = bytesOf (keyL (maskW w) (statesW ts cs w)) := rfl
  have hmemo := hD w hp
  rw [hk, hkey] at hmemo
  have hadd := fun (y : Fn) (hy : MemoOk ts cs f y.D) (hn : srchC ts cs f k w = none) => memo_add (by omega) hy hp (by rw [hk]; exact hn)
  rw [hkey] at hadd
  have hcompW : compW cs w = compM cs (maskW w) := rfl
  unfold finS at hm
  dsimp only at hm
  refine calls_T F Try.func91 rfl Try.ntmps91 (by simp) (hm.anyN _) ?_
  have hc1 := fun (C : Ctx) (S : List Ent) (W' : World) (hw : Mem C W' S) (hm : entBlk gf 179 (finC (.slice T ts.length tc) (.slice B cs.length d) n f (.slice hA hs.length hc) (maskW w) (.slice oA w.length oc) gm) ∈ S) (hB : RdCl W' B cs) => complete_S hw hm hB hm16 (by omega)
  cases hcm : compM cs (maskW w) with
  | true =>
    rw [hcm] at hc1
    repeat' (first | ((first | with_reducible (first | apply TL_q | apply TD_q0 | apply TD_q1 | apply TD_q2 | apply TD_q3) | ((with_reducible (first | apply TD_q0y | apply TD_q1y)); exact rfl; exact rfl; (with_reducible exact rfl))); (first | exact QS.auto | ((with_reducible apply QS_lookStr); exact rfl; exact rfl; (first | ((repeat (first | with_reducible exact List.mem_cons_self | with_reducible apply List.mem_cons_of_mem)); done) | (repeat (first | exact List.Mem.head _ | apply List.Mem.tail))))); exact rfl) | (refine GO ?_) | (refine GOE ?_; (first | (rintro _ _ ⟨rfl, rfl⟩) | (rintro _ _ ⟨g, rfl, rfl⟩) | (rintro _ _ ⟨A', c', rfl, rfl⟩))) | ((refine GO2 ?_ ?_) <;> intro h <;> (try (repeat (first | with_reducible (replace h := of_decide_eq_true h) | with_reducible (replace h := of_decide_eq_false h) | with_reducible (replace h := bnt h) | with_reducible (replace h := bnf h) | with_reducible (replace h := Int.not_lt.mp h) | with_reducible (replace h := Int.not_le.mp h) | with_reducible (replace h := band_dec h) | with_reducible (replace h := band_decF h) | with_reducible (replace h := bor_dec h) | with_reducible (replace h := bor_decF h)))) <;> (try (exfalso; first | contradiction | omega))) | ((with_reducible (first | apply TD_e2z | apply TD_e3z | apply TL_e | apply TD_e2 | apply TD_e3)); ((with_reducible apply ES_callV (f := 115)); exact rfl; (intro w hw; exact hc1 _ _ w hw (by first | ((repeat (first | with_reducible exact List.mem_cons_self | with_reducible apply List.mem_cons_of_mem)); done) | (repeat (first | exact List.Mem.head _ | apply List.Mem.tail))) (hrB _ _ _ rfl rfl hw)); exact rfl); (first | exact rfl | exact ⟨rfl, rfl, rfl⟩); (rintro _ _ ⟨rfl, rfl⟩); (try refine ⟨SUB, ?_⟩)) | fail)
    (refine At_ret Try.results91 rfl (fun w' hw => ?_))
    have hsr : srchC ts cs f k w = some w := srch_comp _ _ _ _ (by rw [hcompW]; exact hcm)
    rw [hsr]
    exact ⟨⟨⟨hA, hc, hs, oA, oc, D⟩, hD⟩, rfl, (hw.anyN 0).sub (by first | ((repeat (first | with_reducible exact List.nil_sublist _ | with_reducible exact List.Sublist.refl _ | with_reducible apply List.Sublist.cons_cons | with_reducible apply List.Sublist.cons)); done) | (repeat (first | exact List.nil_sublist _ | exact List.Sublist.refl _ | apply List.Sublist.cons_cons | apply List.Sublist.cons)))⟩
  | false =>
    rw [hcm] at hc1
    have hnc : ¬ compW cs w = true := by rw [hcompW, hcm]; simp
    have hk1 := fun (C : Ctx) (S : List Ent) (W' : World) (hw : Mem C W' S) (hm : entBlk gf 179 (finC (.slice T ts.length tc) (.slice B cs.length d) n f (.slice hA hs.length hc) (maskW w) (.slice oA w.length oc) gm) ∈ S) h1 h2 => key_S (sts := statesW ts cs w) hw hm h1 h2 hm16 (by omega) hrows
    generalize bytesOf (keyL (maskW w) (statesW ts cs w)) = key at *
    repeat' (first | ((first | with_reducible (first | apply TL_q | apply TD_q0 | apply TD_q1 | apply TD_q2 | apply TD_q3) | ((with_reducible (first | apply TD_q0y | apply TD_q1y)); exact rfl; exact rfl; (with_reducible exact rfl))); (first | exact QS.auto | ((with_reducible apply QS_lookStr); exact rfl; exact rfl; (first | ((repeat (first | with_reducible exact List.mem_cons_self | with_reducible apply List.mem_cons_of_mem)); done) | (repeat (first | exact List.Mem.head _ | apply List.Mem.tail))))); exact rfl) | (refine GO ?_) | (refine GOE ?_; (first | (rintro _ _ ⟨rfl, rfl⟩) | (rintro _ _ ⟨g, rfl, rfl⟩) | (rintro _ _ ⟨A', c', rfl, rfl⟩))) | ((refine GO2 ?_ ?_) <;> intro h <;> (try (repeat (first | with_reducible (replace h := of_decide_eq_true h) | with_reducible (replace h := of_decide_eq_false h) | with_reducible (replace h := bnt h) | with_reducible (replace h := bnf h) | with_reducible (replace h := Int.not_lt.mp h) | with_reducible (replace h := Int.not_le.mp h) | with_reducible (replace h := band_dec h) | with_reducible (replace h := band_decF h) | with_reducible (replace h := bor_dec h) | with_reducible (replace h := bor_decF h)))) <;> (try (exfalso; first | contradiction | omega))) | ((with_reducible (first | apply TD_e2z | apply TD_e3z | apply TL_e | apply TD_e2 | apply TD_e3)); ((with_reducible apply ES_callV (f := 115)); exact rfl; (intro w hw; exact hc1 _ _ w hw (by first | ((repeat (first | with_reducible exact List.mem_cons_self | with_reducible apply List.mem_cons_of_mem)); done) | (repeat (first | exact List.Mem.head _ | apply List.Mem.tail))) (hrB _ _ _ rfl rfl hw)); exact rfl); (first | exact rfl | exact ⟨rfl, rfl, rfl⟩); (rintro _ _ ⟨rfl, rfl⟩); (try refine ⟨SUB, ?_⟩)) | ((with_reducible (first | apply TD_e2z | apply TD_e3z | apply TL_e | apply TD_e2 | apply TD_e3)); ((with_reducible apply ES_callV (f := 116)); exact rfl; (intro w hw; exact hk1 _ _ w hw (by first | ((repeat (first | with_reducible exact List.mem_cons_self | with_reducible apply List.mem_cons_of_mem)); done) | (repeat (first | exact List.Mem.head _ | apply List.Mem.tail))) (by first | ((repeat (first | with_reducible exact List.mem_cons_self | with_reducible apply List.mem_cons_of_mem)); done) | (repeat (first | exact List.Mem.head _ | apply List.Mem.tail))) (by first | ((repeat (first | with_reducible exact List.mem_cons_self | with_reducible apply List.mem_cons_of_mem)); done) | (repeat (first | exact List.Mem.head _ | apply List.Mem.tail)))); exact rfl); (first | exact rfl | exact ⟨rfl, rfl, rfl⟩); (rintro _ _ ⟨rfl, rfl⟩); (try refine ⟨SUB, ?_⟩)) | fail)
    · (refine At_ret Try.results91 rfl (fun w' hw => ?_))
      have hsr : srchC ts cs f k w = none := hmemo (hasB_iff.1 (by assumption))
      rw [hsr]
      exact ⟨⟨⟨hA, hc, hs, oA, oc, D⟩, hD⟩, rfl, (hw.anyN 0).sub (by first | ((repeat (first | with_reducible exact List.nil_sublist _ | with_reducible exact List.Sublist.refl _ | with_reducible apply List.Sublist.cons_cons | with_reducible apply List.Sublist.cons)); done) | (repeat (first | exact List.nil_sublist _ | exact List.Sublist.refl _ | apply List.Sublist.cons_cons | apply List.Sublist.cons)))⟩
    · refine T_loop (X := Nat × {y : Fn // MemoOk ts cs f y.D}) (fun x => [(20, .int .i64 (x.1 : Nat)), (19, .int .i64 cs.length), (3, .string key), (0, .pointer (some ⟨gf, 0, none⟩))])
        (fun x => finS T B tc d ts cs n f gf gm x.2.1 w) (fun x => x.1 ≤ cs.length ∧ ∀ j, j < x.1 → tryC ts cs f k w j = none) (fun x => cs.length - x.1) (0, ⟨⟨hA, hc, hs, oA, oc, D⟩, hD⟩) ⟨by omega, fun j hj => by (try dsimp only at hj); omega⟩ (by (repeat (first | exact SubE.nil _ | refine SubE.cons rfl ?_))) (by exact SUBS) ?_
      rintro ⟨i, y, hy⟩ ⟨hi, hno⟩
      dsimp only at hi hno ⊢
      by_cases hil : i < cs.length
      · have hpl := fun (C : Ctx) (R' : List Ent) (w' : World) (hw : Mem C w' (finS T B tc d ts cs n f gf gm y w ++ R')) (e1 : C.F = F) (e2 : C.w0 = W) =>
          hplace i y w' 0 hil hp hy hk (hrT C _ w' e1 e2 hw) (hrB C _ w' e1 e2 hw) (hawT C _ R' w' e1 e2 hw) (hawB C _ R' w' e1 e2 hw (by omega)) (hw.self 0)
        unfold placeSays at hpl
        obtain ⟨o, ho⟩ : ∃ o, tryC ts cs f k w i = o := ⟨_, rfl⟩
        rw [ho] at hpl
        repeat' (first | ((first | with_reducible (first | apply TL_q | apply TD_q0 | apply TD_q1 | apply TD_q2 | apply TD_q3) | ((with_reducible (first | apply TD_q0y | apply TD_q1y)); exact rfl; exact rfl; (with_reducible exact rfl))); (first | exact QS.auto | ((with_reducible apply QS_lookStr); exact rfl; exact rfl; (first | ((repeat (first | with_reducible exact List.mem_cons_self | with_reducible apply List.mem_cons_of_mem)); done) | (repeat (first | exact List.Mem.head _ | apply List.Mem.tail))))); exact rfl) | (refine GO ?_) | (refine GOE ?_; (first | (rintro _ _ ⟨rfl, rfl⟩) | (rintro _ _ ⟨g, rfl, rfl⟩) | (rintro _ _ ⟨A', c', rfl, rfl⟩))) | ((refine GO2 ?_ ?_) <;> intro h <;> (try (repeat (first | with_reducible (replace h := of_decide_eq_true h) | with_reducible (replace h := of_decide_eq_false h) | with_reducible (replace h := bnt h) | with_reducible (replace h := bnf h) | with_reducible (replace h := Int.not_lt.mp h) | with_reducible (replace h := Int.not_le.mp h) | with_reducible (replace h := band_dec h) | with_reducible (replace h := band_decF h) | with_reducible (replace h := bor_dec h) | with_reducible (replace h := bor_decF h)))) <;> (try (exfalso; first | contradiction | omega))) | fail)
        refine TL_e (ES_callX (f := 117) (X := {y : Fn // MemoOk ts cs f y.D}) (S1 := finS T B tc d ts cs n f gf gm y w)
          (fun _ => .bool o.isSome) (fun z => finS T B tc d ts cs n f gf gm z.1 (o.getD w)) rfl (by (repeat (first | exact Pull.nil _ | (apply Pull.cons; (repeat (first | with_reducible exact Pick.here _ _ | with_reducible apply Pick.there)))))) (fun x => by dsimp only [finS]; repeat (first | exact AppL.nil _ | apply AppL.cons))
          (fun w' hw => hpl _ _ w' hw rfl rfl) rfl) rfl ?_
        rintro _ _ ⟨⟨z, hz⟩, rfl, rfl⟩
        cases o with
        | some r =>
          dsimp only [Option.isSome, Option.getD]
          repeat' (first | ((first | with_reducible (first | apply TL_q | apply TD_q0 | apply TD_q1 | apply TD_q2 | apply TD_q3) | ((with_reducible (first | apply TD_q0y | apply TD_q1y)); exact rfl; exact rfl; (with_reducible exact rfl))); (first | exact QS.auto | ((with_reducible apply QS_lookStr); exact rfl; exact rfl; (first | ((repeat (first | with_reducible exact List.mem_cons_self | with_reducible apply List.mem_cons_of_mem)); done) | (repeat (first | exact List.Mem.head _ | apply List.Mem.tail))))); exact rfl) | (refine GO ?_) | (refine GOE ?_; (first | (rintro _ _ ⟨rfl, rfl⟩) | (rintro _ _ ⟨g, rfl, rfl⟩) | (rintro _ _ ⟨A', c', rfl, rfl⟩))) | ((refine GO2 ?_ ?_) <;> intro h <;> (try (repeat (first | with_reducible (replace h := of_decide_eq_true h) | with_reducible (replace h := of_decide_eq_false h) | with_reducible (replace h := bnt h) | with_reducible (replace h := bnf h) | with_reducible (replace h := Int.not_lt.mp h) | with_reducible (replace h := Int.not_le.mp h) | with_reducible (replace h := band_dec h) | with_reducible (replace h := band_decF h) | with_reducible (replace h := bor_dec h) | with_reducible (replace h := bor_decF h)))) <;> (try (exfalso; first | contradiction | omega))) | fail)
          (refine At_ret Try.results91 rfl (fun w' hw => ?_))
          have hsr : srchC ts cs f k w = some r := srch_some _ _ _ _ hnc hil hno ho
          rw [hsr]
          exact ⟨⟨z, hz⟩, rfl, (hw.anyN 0).sub (by first | ((repeat (first | with_reducible exact List.nil_sublist _ | with_reducible exact List.Sublist.refl _ | with_reducible apply List.Sublist.cons_cons | with_reducible apply List.Sublist.cons)); done) | (repeat (first | exact List.nil_sublist _ | exact List.Sublist.refl _ | apply List.Sublist.cons_cons | apply List.Sublist.cons)))⟩
        | none =>
          dsimp only [Option.isSome, Option.getD]
          repeat' (first | ((first | with_reducible (first | apply TL_q | apply TD_q0 | apply TD_q1 | apply TD_q2 | apply TD_q3) | ((with_reducible (first | apply TD_q0y | apply TD_q1y)); exact rfl; exact rfl; (with_reducible exact rfl))); (first | exact QS.auto | ((with_reducible apply QS_lookStr); exact rfl; exact rfl; (first | ((repeat (first | with_reducible exact List.mem_cons_self | with_reducible apply List.mem_cons_of_mem)); done) | (repeat (first | exact List.Mem.head _ | apply List.Mem.tail))))); exact rfl) | (refine GO ?_) | (refine GOE ?_; (first | (rintro _ _ ⟨rfl, rfl⟩) | (rintro _ _ ⟨g, rfl, rfl⟩) | (rintro _ _ ⟨A', c', rfl, rfl⟩))) | ((refine GO2 ?_ ?_) <;> intro h <;> (try (repeat (first | with_reducible (replace h := of_decide_eq_true h) | with_reducible (replace h := of_decide_eq_false h) | with_reducible (replace h := bnt h) | with_reducible (replace h := bnf h) | with_reducible (replace h := Int.not_lt.mp h) | with_reducible (replace h := Int.not_le.mp h) | with_reducible (replace h := band_dec h) | with_reducible (replace h := band_decF h) | with_reducible (replace h := bor_dec h) | with_reducible (replace h := bor_decF h)))) <;> (try (exfalso; first | contradiction | omega))) | fail)
          apply At_rounds (i + 1, ⟨z, hz⟩)
          case hE => (repeat (first | exact SubE.nil _ | refine SubE.cons rfl ?_))
          case hS => exact SUBS
          case hμ => (try dsimp only); omega
          case hp =>
            refine ⟨hil, fun j hj => ?_⟩
            (try dsimp only at hj)
            by_cases e : j = i
            · subst e; exact ho
            · exact hno j (by omega)
      · obtain rfl : i = cs.length := by omega
        have hsr : srchC ts cs f k w = none := srch_none _ _ _ _ hnc hno
        have hadd' := hadd y hy hsr
        repeat' (first | ((first | with_reducible (first | apply TL_q | apply TD_q0 | apply TD_q1 | apply TD_q2 | apply TD_q3) | ((with_reducible (first | apply TD_q0y | apply TD_q1y)); exact rfl; exact rfl; (with_reducible exact rfl))); (first | exact QS.auto | ((with_reducible apply QS_lookStr); exact rfl; exact rfl; (first | ((repeat (first | with_reducible exact List.mem_cons_self | with_reducible apply List.mem_cons_of_mem)); done) | (repeat (first | exact List.Mem.head _ | apply List.Mem.tail))))); exact rfl) | (refine GO ?_) | (refine GOE ?_; (first | (rintro _ _ ⟨rfl, rfl⟩) | (rintro _ _ ⟨g, rfl, rfl⟩) | (rintro _ _ ⟨A', c', rfl, rfl⟩))) | ((refine GO2 ?_ ?_) <;> intro h <;> (try (repeat (first | with_reducible (replace h := of_decide_eq_true h) | with_reducible (replace h := of_decide_eq_false h) | with_reducible (replace h := bnt h) | with_reducible (replace h := bnf h) | with_reducible (replace h := Int.not_lt.mp h) | with_reducible (replace h := Int.not_le.mp h) | with_reducible (replace h := band_dec h) | with_reducible (replace h := band_decF h) | with_reducible (replace h := bor_dec h) | with_reducible (replace h := bor_decF h)))) <;> (try (exfalso; first | contradiction | omega))) | ((with_reducible (first | apply TD_e2z | apply TD_e3z | apply TL_e | apply TD_e2 | apply TD_e3)); ((with_reducible apply ES_updateStr); exact rfl; exact rfl; (first | ((repeat (first | with_reducible exact Upd.here _ _ _ | with_reducible apply Upd.there)); done) | (repeat (first | exact Upd.here _ _ _ | apply Upd.there))); exact rfl); (first | exact rfl | exact ⟨rfl, rfl, rfl⟩); (rintro _ _ ⟨rfl, rfl⟩); (try refine ⟨SUB, ?_⟩)) | fail)
        (refine At_ret Try.results91 rfl (fun w' hw => ?_))
        rw [hsr]
        exact ⟨⟨⟨y.hA, y.hc, y.hs, y.oA, y.oc, addB y.D key⟩, hadd'⟩, rfl, (hw.anyN 0).sub (by first | ((repeat (first | with_reducible exact List.nil_sublist _ | with_reducible exact List.Sublist.refl _ | with_reducible apply List.Sublist.cons_cons | with_reducible apply List.Sublist.cons)); done) | (repeat (first | exact List.nil_sublist _ | exact List.Sublist.refl _ | apply List.Sublist.cons_cons | apply List.Sublist.cons)))⟩
omit hts hcs h9 hf16 in
theorem run_any' (hts : typesOk ts = true) (hcs : CallsOk ts cs) (h9 : cs.length ≤ 9) (hf16 : ∀ i, i < 12 → f i < 65536) : ∀ k, RunOk T B tc d ts cs n f gf gm k
  | 0 => run_step T B tc d ts cs n f gf gm hts hcs h9 hf16 0 (fun k' h => by omega)
  | k + 1 => run_step T B tc d ts cs n f gf gm hts hcs h9 hf16 (k + 1) (fun k' h => by
    obtain rfl : k = k' := by omega
    exact run_any' hts hcs h9 hf16 k)
end
end Go.Proofs.Ytaonijdhmgcbjaa

namespace Go.Proofs.Ytaonijdhmgcbjaa
open Go.RowKit

section
variable (A : Option Addr) (c : Nat) (s : List Stp) (w : World) (hA : RdStp w A s) (hl : s.length ≤ 1000)
include hA hl
set_option maxRecDepth 100000 in
theorem cloneStp_any : Calls Try.prog 92 #[.slice A s.length c] w fun e w' => ∃ A' c', e = .returned (.slice A' s.length c') ∧ Own Stp.enc 2 125 w' w.heap.size (.slice A' s.length c') s ∧ Below w.heap.size w w' := by
  cases A with
  | none =>
    have hs : s = [] := by
      cases s with
      | nil => rfl
      | cons x s =>
        obtain ⟨b, o, h, _⟩ := hA 0 x rfl
        cases h
    subst hs
    refine calls_T (S := []) [] Try.func92 rfl Try.ntmps92 (by simp) (Mem.nil _) ?_
    repeat' (first | (refine GO ?_) | (refine GOE ?_; (first | (rintro _ _ ⟨rfl, rfl⟩) | (rintro _ _ ⟨g, rfl, rfl⟩) | (rintro _ _ ⟨A', c', rfl, rfl⟩))) | ((refine GO2 ?_ ?_) <;> intro h <;> (try (repeat (first | with_reducible (replace h := of_decide_eq_true h) | with_reducible (replace h := of_decide_eq_false h) | with_reducible (replace h := bnt h) | with_reducible (replace h := bnf h) | with_reducible (replace h := Int.not_lt.mp h) | with_reducible (replace h := Int.not_le.mp h) | with_reducible (replace h := band_dec h) | with_reducible (replace h := band_decF h) | with_reducible (replace h := bor_dec h) | with_reducible (replace h := bor_decF h)))) <;> (try (exfalso; first | contradiction | omega))) | fail)
    all_goals first
      | ((refine At_ret Try.results92 rfl (fun w' hw => ?_))
         exact ⟨none, 0, rfl, Own.nil _ _, hw.below0 rfl⟩)
      | (exfalso; simp_all; done)
  | some ad =>
    have hne : some ad = none → c = 0 := fun h => by cases h
    refine calls_T (S := []) [] Try.func92 rfl Try.ntmps92 (by simp) (Mem.nil _) ?_
    repeat' (first | (refine GO ?_) | (refine GOE ?_; (first | (rintro _ _ ⟨rfl, rfl⟩) | (rintro _ _ ⟨g, rfl, rfl⟩) | (rintro _ _ ⟨A', c', rfl, rfl⟩))) | ((refine GO2 ?_ ?_) <;> intro h <;> (try (repeat (first | with_reducible (replace h := of_decide_eq_true h) | with_reducible (replace h := of_decide_eq_false h) | with_reducible (replace h := bnt h) | with_reducible (replace h := bnf h) | with_reducible (replace h := Int.not_lt.mp h) | with_reducible (replace h := Int.not_le.mp h) | with_reducible (replace h := band_dec h) | with_reducible (replace h := band_decF h) | with_reducible (replace h := bor_dec h) | with_reducible (replace h := bor_decF h)))) <;> (try (exfalso; first | contradiction | omega))) | ((with_reducible (first | apply TD_e2z | apply TD_e3z | apply TL_e | apply TD_e2 | apply TD_e3)); ((with_reducible apply ES_buildSlice0 Stp.enc); exact rfl); (first | exact rfl | exact ⟨rfl, rfl, rfl⟩); (rintro _ _ ⟨g, rfl, rfl⟩); (try refine ⟨SUB, ?_⟩)) | ((with_reducible (first | apply TD_e2z | apply TD_e3z | apply TL_e | apply TD_e2 | apply TD_e3)); ((with_reducible apply ES_append (enc := Stp.enc) (xs := s) (ls := [])); exact rfl; exact rfl; exact Lies.rd hA rfl (fun _ => rfl) (by omega) hne; exact fun _ => rfl; exact fun _ => rfl; (intro A' c'; first | ((repeat (first | with_reducible exact Upd.here _ _ _ | with_reducible apply Upd.there)); done) | (repeat (first | exact Upd.here _ _ _ | apply Upd.there))); (simp; omega); decide; exact rfl); (first | exact rfl | exact ⟨rfl, rfl, rfl⟩); (rintro _ _ ⟨A', c', rfl, rfl⟩); (try refine ⟨SUB, ?_⟩)) | fail)
    (refine At_ret Try.results92 rfl (fun w' hw => ?_))
    exact ⟨A', c', rfl, hw.ownOut rfl (by first | ((repeat (first | with_reducible exact List.mem_cons_self | with_reducible apply List.mem_cons_of_mem)); done) | (repeat (first | exact List.Mem.head _ | apply List.Mem.tail))), hw.below0 rfl⟩
end
theorem relCells_lit (n : Int) (f : Nat → Nat) : relCells n f = #[.int .i64 n, .int .u16 (f 0), .int .u16 (f 1), .int .u16 (f 2), .int .u16 (f 3), .int .u16 (f 4), .int .u16 (f 5), .int .u16 (f 6), .int .u16 (f 7), .int .u16 (f 8), .int .u16 (f 9), .int .u16 (f 10), .int .u16 (f 11)] := rfl
/-- the order that is found, and whether there is one -/
def foundS (ts : List Int) (cs : List Cl) (f : Nat → Nat) : Option (List Stp) := srchC ts cs f cs.length []
theorem found_len {ts : List Int} {cs : List Cl} {f : Nat → Nat} (hcs : CallsOk ts cs) : ∀ (k : Nat) (w : List Stp), PathW ts cs w → ∀ r, srchC ts cs f k w = some r → PathW ts cs r
  | 0, w, hp, r, h => by
    unfold srchC at h
    rw [srch] at h
    split at h
    · cases h; exact hp
    · cases h
  | k + 1, w, hp, r, h => by
    unfold srchC at h
    rw [srch] at h
    split at h
    · cases h; exact hp
    · obtain ⟨i, hi, hr⟩ := List.exists_of_findSome?_eq_some h
      rw [List.mem_range] at hi
      split at hr
      · rename_i hc
        obtain ⟨h1, _, h3⟩ := canC_iff.1 hc
        exact found_len hcs k _ (path_next hcs hp hi h1 (fitsSt_iff.1 h3).1) r hr
      · cases hr
section
variable (T B : Option Addr) (tc d : Nat) (ts : List Int) (cs : List Cl) (n : Int) (f : Nat → Nat) (w : World)
variable (hts : typesOk ts = true) (hcs : CallsOk ts cs) (h9 : cs.length ≤ 9) (hf16 : ∀ i, i < 12 → f i < 65536) (hT : RdInt w T ts) (hB : RdCl w B cs)
include hts hcs h9 hf16 hT hB
set_option maxRecDepth 100000 in
set_option maxHeartbeats 2000000 in
theorem smallest_any : Calls Try.prog 74 #[.slice T ts.length tc, .slice B cs.length d, .agg (relCells n f)] w fun e w' =>
    ∃ A c, e = .returned (.tuple #[.slice A ((foundS ts cs f).getD []).length c, .bool (foundS ts cs f).isSome]) ∧ Own Stp.enc 2 125 w' w.heap.size (.slice A ((foundS ts cs f).getD []).length c) ((foundS ts cs f).getD []) ∧ Below w.heap.size w w' := by
  have ht4 : 1 ≤ ts.length ∧ ts.length ≤ 4 := by
    unfold typesOk at hts
    rw [Bool.and_eq_true, decide_eq_true_eq] at hts
    exact hts.1
  have hrun := fun gf gm => run_any' T B tc d ts cs n f gf gm hts hcs h9 hf16 cs.length
  rw [relCells_lit]
  refine calls_T (S := []) [] Try.func74 rfl Try.ntmps74 (by simp) (Mem.nil _) ?_
  repeat' (first | (refine GG ?_) | (refine GE ?_; (first | (rintro _ _ ⟨rfl, rfl⟩) | (rintro _ _ ⟨g, rfl, rfl⟩) | (rintro _ _ ⟨A', c', rfl, rfl⟩)); (try refine ⟨SUB, ?_⟩)) | ((refine GO2 ?_ ?_) <;> intro h <;> (try (repeat (first | with_reducible (replace h := of_decide_eq_true h) | with_reducible (replace h := of_decide_eq_false h) | with_reducible (replace h := bnt h) | with_reducible (replace h := bnf h) | with_reducible (replace h := Int.not_lt.mp h) | with_reducible (replace h := Int.not_le.mp h) | with_reducible (replace h := band_dec h) | with_reducible (replace h := band_decF h) | with_reducible (replace h := bor_dec h) | with_reducible (replace h := bor_decF h)))) <;> (try (exfalso; first | contradiction | omega))) | (refine GOF ?_ ?_) | fail | ((with_reducible (first | apply TD_e2z | apply TD_e3z | apply TL_e | apply TD_e2 | apply TD_e3)); ((with_reducible apply ES_makeSet); exact rfl); (first | exact rfl | exact ⟨rfl, rfl, rfl⟩); (rintro _ _ ⟨g, rfl, rfl⟩); (try refine ⟨SUB, ?_⟩)) | fail)
  rename_i gB gM
  obtain ⟨gf, rfl⟩ : ∃ x, x = g := ⟨_, rfl⟩
  refine T_loop (X := Nat × Option Addr × Nat × List Hd) (fun x => [(21, .int .i64 (x.1 : Nat)), (20, .int .i64 ts.length), (19, .slice T ts.length tc), (8, .pointer (some ⟨gf, 0, none⟩))])
    (fun x => [entBlk gf 179 (finC (.slice T ts.length tc) (.slice B cs.length d) n f (.slice x.2.1 x.2.2.2.length x.2.2.1) 0 (.slice none 0 0) gM), entOwn hdEnc 1 58 x.2.1 x.2.2.1 x.2.2.2, entInner intEnc 1 3 x.2.2.2 ((ts.map begL).take x.1), entOwn Stp.enc 2 125 none 0 [], entSet gM []])
    (fun x => x.1 ≤ ts.length ∧ x.2.2.2.length = x.1) (fun x => ts.length - x.1) (0, none, 0, []) ⟨by (try dsimp only); omega, rfl⟩ (by (repeat (first | exact SubE.nil _ | refine SubE.cons rfl ?_))) (fun w' hw => ?_) ?_
  · have h1 := ((hw.nilOwn hdEnc 1 58).nilInner intEnc 1 3).nilOwn Stp.enc 2 125
    exact h1.sel (by repeat (first | exact Sel.nil _ | (apply Sel.cons; (repeat (first | exact Pick.here _ _ | apply Pick.there)))))
  rintro ⟨k, A, c, hs⟩ ⟨hk, hsl⟩
  dsimp only at hk hsl ⊢
  by_cases hkl : k < ts.length
  · obtain ⟨b, o, rfl, _⟩ := RdE.open hT (by omega)
    have hst := fun w => objStart_any ts[k] w
    have htk : (ts.map begL).take (k + 1) = (ts.map begL).take k ++ [begL ts[k]] := by
      rw [List.take_succ_eq_append_getElem (by rw [List.length_map]; exact hkl), List.getElem_map]
    generalize hrow : begL ts[k] = row at *
    repeat' (first | (refine GO ?_) | (refine GOE ?_; (first | (rintro _ _ ⟨rfl, rfl⟩) | (rintro _ _ ⟨g, rfl, rfl⟩) | (rintro _ _ ⟨A', c', rfl, rfl⟩))) | ((refine GO2 ?_ ?_) <;> intro h <;> (try (repeat (first | with_reducible (replace h := of_decide_eq_true h) | with_reducible (replace h := of_decide_eq_false h) | with_reducible (replace h := bnt h) | with_reducible (replace h := bnf h) | with_reducible (replace h := Int.not_lt.mp h) | with_reducible (replace h := Int.not_le.mp h) | with_reducible (replace h := band_dec h) | with_reducible (replace h := band_decF h) | with_reducible (replace h := bor_dec h) | with_reducible (replace h := bor_decF h)))) <;> (try (exfalso; first | contradiction | omega))) | ((with_reducible (first | apply TD_e2z | apply TD_e3z | apply TL_e | apply TD_e2 | apply TD_e3)); ((with_reducible apply ES_callOwn (f := 90)); exact rfl; (intro w hw; exact hst w); exact rfl); (first | exact rfl | exact ⟨rfl, rfl, rfl⟩); (rintro _ _ ⟨A0, c0, rfl, rfl⟩); (try refine ⟨SUB, ?_⟩)) | ((with_reducible (first | apply TD_e2z | apply TD_e3z | apply TL_e | apply TD_e2 | apply TD_e3)); ((with_reducible apply ES_append1 (enc := hdEnc) (xx := (⟨A0, row.length, c0⟩ : Hd))); exact rfl; exact rfl; (repeat (first | with_reducible exact List.mem_cons_self | with_reducible apply List.mem_cons_of_mem)); exact rfl; exact fun _ => rfl; exact fun _ => rfl; (intro A' c'; first | ((repeat (first | with_reducible exact Upd.here _ _ _ | with_reducible apply Upd.there)); done) | (repeat (first | exact Upd.here _ _ _ | apply Upd.there))); (omega); decide; exact rfl); (first | exact rfl | exact ⟨rfl, rfl, rfl⟩); (rintro _ _ ⟨A', c', rfl, rfl⟩); (try refine ⟨SUB, ?_⟩)) | fail)
    apply At_rounds (k + 1, A', c', hs ++ [⟨A0, row.length, c0⟩])
    case hE => (repeat (first | exact SubE.nil _ | refine SubE.cons rfl ?_))
    case hS =>
      intro w' hw
      have h1 := Mem.absorb (enc := intEnc) (M := 1) (e := 3) (A := A0) (c := c0) (l := row) (by repeat (first | exact Pick.here _ _ | apply Pick.there)) (by first | ((repeat (first | with_reducible exact Upd.here _ _ _ | with_reducible apply Upd.there)); done) | (repeat (first | exact Upd.here _ _ _ | apply Upd.there))) hw
      rw [← htk] at h1
      exact h1.sel (by (repeat (first | exact Sel.nil _ | (apply Sel.cons; (repeat (first | with_reducible exact Pick.here _ _ | with_reducible apply Pick.there))))))
    case hμ => (try dsimp only); omega
    case hp => exact ⟨hkl, by (try dsimp only); rw [List.length_append, hsl]; rfl⟩
  · obtain rfl : k = ts.length := by omega
    have htk : (ts.map begL).take ts.length = ts.map begL := by rw [List.take_of_length_le]; simp
    rw [htk]
    have hS0 : statesW ts cs [] = ts.map begL := rfl
    have hih := fun (C : Ctx) (R' : List Ent) (w' : World) (hw : Mem C w' (finS T B tc d ts cs n f gf gM ⟨A, c, hs, none, 0, []⟩ [] ++ R')) (e1 : C.F = []) (e2 : C.w0 = w) => show runSays T B tc d ts cs n f gf gM cs.length [] ⟨A, c, hs, none, 0, []⟩ w' from by
      subst e2
      exact hrun gf gM [] ⟨A, c, hs, none, 0, []⟩ w' 0 (path_nil hts) (memo_nil ts cs f) (by simp [maskW, unset_0]) (hw.rd e1 hT) (hw.rd e1 hB)
        (fun b o e => hw.newBlk e1 (by obtain ⟨b', o', e', hb'⟩ := RdE.open hT (by omega); rw [e] at e'; cases e'; exact hb'))
        (fun h0 b o e => hw.newBlk e1 (by obtain ⟨b', o', e', hb'⟩ := RdE.open hB h0; rw [e] at e'; cases e'; exact hb')) (hw.self 0)
    unfold runSays at hih
    have hfo : srchC ts cs f cs.length [] = foundS ts cs f := rfl
    have hlen := found_len (f := f) hcs cs.length [] (path_nil hts)
    rw [hfo] at hih hlen
    generalize foundS ts cs f = o at *
    repeat' (first | (refine GO ?_) | (refine GOE ?_; (first | (rintro _ _ ⟨rfl, rfl⟩) | (rintro _ _ ⟨g, rfl, rfl⟩) | (rintro _ _ ⟨A', c', rfl, rfl⟩))) | ((refine GO2 ?_ ?_) <;> intro h <;> (try (repeat (first | with_reducible (replace h := of_decide_eq_true h) | with_reducible (replace h := of_decide_eq_false h) | with_reducible (replace h := bnt h) | with_reducible (replace h := bnf h) | with_reducible (replace h := Int.not_lt.mp h) | with_reducible (replace h := Int.not_le.mp h) | with_reducible (replace h := band_dec h) | with_reducible (replace h := band_decF h) | with_reducible (replace h := bor_dec h) | with_reducible (replace h := bor_decF h)))) <;> (try (exfalso; first | contradiction | omega))) | fail)
    refine TL_mem (S' := finS T B tc d ts cs n f gf gM ⟨A, c, hs, none, 0, []⟩ []) (fun w' hw => hw.sel (by dsimp only [finS]; repeat (first | exact Sel.nil _ | (apply Sel.cons; (repeat (first | exact Pick.here _ _ | apply Pick.there)))))) ?_
    repeat' (first | (refine GO ?_) | (refine GOE ?_; (first | (rintro _ _ ⟨rfl, rfl⟩) | (rintro _ _ ⟨g, rfl, rfl⟩) | (rintro _ _ ⟨A', c', rfl, rfl⟩))) | ((refine GO2 ?_ ?_) <;> intro h <;> (try (repeat (first | with_reducible (replace h := of_decide_eq_true h) | with_reducible (replace h := of_decide_eq_false h) | with_reducible (replace h := bnt h) | with_reducible (replace h := bnf h) | with_reducible (replace h := Int.not_lt.mp h) | with_reducible (replace h := Int.not_le.mp h) | with_reducible (replace h := band_dec h) | with_reducible (replace h := band_decF h) | with_reducible (replace h := bor_dec h) | with_reducible (replace h := bor_decF h)))) <;> (try (exfalso; first | contradiction | omega))) | fail)
    refine TL_e (ES_callX (f := 91) (X := {y : Fn // MemoOk ts cs f y.D}) (S1 := finS T B tc d ts cs n f gf gM ⟨A, c, hs, none, 0, []⟩ [])
      (fun _ => .bool o.isSome) (fun z => finS T B tc d ts cs n f gf gM z.1 (o.getD [])) rfl (by (repeat (first | exact Pull.nil _ | (apply Pull.cons; (repeat (first | with_reducible exact Pick.here _ _ | with_reducible apply Pick.there)))))) (fun x => by dsimp only [finS]; repeat (first | exact AppL.nil _ | apply AppL.cons))
      (fun w' hw => hih _ _ w' hw rfl rfl) rfl) rfl ?_
    rintro _ _ ⟨⟨⟨hA3, hc3, hs3, oA3, oc3, D3⟩, hD3⟩, rfl, rfl⟩
    cases o with
    | none =>
      dsimp only [Option.isSome, Option.getD]
      repeat' (first | (refine GO ?_) | (refine GOE ?_; (first | (rintro _ _ ⟨rfl, rfl⟩) | (rintro _ _ ⟨g, rfl, rfl⟩) | (rintro _ _ ⟨A', c', rfl, rfl⟩))) | ((refine GO2 ?_ ?_) <;> intro h <;> (try (repeat (first | with_reducible (replace h := of_decide_eq_true h) | with_reducible (replace h := of_decide_eq_false h) | with_reducible (replace h := bnt h) | with_reducible (replace h := bnf h) | with_reducible (replace h := Int.not_lt.mp h) | with_reducible (replace h := Int.not_le.mp h) | with_reducible (replace h := band_dec h) | with_reducible (replace h := band_decF h) | with_reducible (replace h := bor_dec h) | with_reducible (replace h := bor_decF h)))) <;> (try (exfalso; first | contradiction | omega))) | fail)
      (refine At_ret Try.results74 rfl (fun w' hw => ?_))
      exact ⟨none, 0, rfl, Own.nil _ _, hw.below0 rfl⟩
    | some r =>
      dsimp only [Option.isSome, Option.getD]
      have hrl : r.length ≤ 9 := by have := (hlen r rfl).len; omega
      repeat' (first | (refine GO ?_) | (refine GOE ?_; (first | (rintro _ _ ⟨rfl, rfl⟩) | (rintro _ _ ⟨g, rfl, rfl⟩) | (rintro _ _ ⟨A', c', rfl, rfl⟩))) | ((refine GO2 ?_ ?_) <;> intro h <;> (try (repeat (first | with_reducible (replace h := of_decide_eq_true h) | with_reducible (replace h := of_decide_eq_false h) | with_reducible (replace h := bnt h) | with_reducible (replace h := bnf h) | with_reducible (replace h := Int.not_lt.mp h) | with_reducible (replace h := Int.not_le.mp h) | with_reducible (replace h := band_dec h) | with_reducible (replace h := band_decF h) | with_reducible (replace h := bor_dec h) | with_reducible (replace h := bor_decF h)))) <;> (try (exfalso; first | contradiction | omega))) | ((with_reducible (first | apply TD_e2z | apply TD_e3z | apply TL_e | apply TD_e2 | apply TD_e3)); ((with_reducible apply ES_callOwn (f := 92)); exact rfl; (intro w hw; exact cloneStp_any oA3 oc3 r w (hw.ownRd (by first | ((repeat (first | with_reducible exact List.mem_cons_self | with_reducible apply List.mem_cons_of_mem)); done) | (repeat (first | exact List.Mem.head _ | apply List.Mem.tail))) (fun _ => rfl)) (by omega)); exact rfl); (first | exact rfl | exact ⟨rfl, rfl, rfl⟩); (rintro _ _ ⟨A5, c5, rfl, rfl⟩); (try refine ⟨SUB, ?_⟩)) | fail)
      (refine At_ret Try.results74 rfl (fun w' hw => ?_))
      exact ⟨A5, c5, rfl, hw.ownOut rfl (by first | ((repeat (first | with_reducible exact List.mem_cons_self | with_reducible apply List.mem_cons_of_mem)); done) | (repeat (first | exact List.Mem.head _ | apply List.Mem.tail))), hw.below0 rfl⟩
end
end Go.Proofs.Ytaonijdhmgcbjaa

namespace Go.Proofs.Ytaonijdhmgcbjaa
open Go.RowKit

section
variable {P : Program} {C : Ctx} {E : Slots} {S : List Ent} {ty ty2 ty3 a : Nat} {x y : Operand} {k : IntKind} {z : Int}
theorem QS_shr16Z (hx : evo E x = some (.int .u16 (a : Nat))) (hy : evo E y = some (.int k z)) (h0 : 0 ≤ z) (ha : a < 65536) : QS P C E S (.binOp .shr ty2 x y ty3) ty (.int .u16 ((a >>> z.toNat : Nat) : Int)) :=
  QS_shr16 (b := z.toNat) hx (by rw [hy]; congr; omega) ha
theorem QS_shl16Y (hx : evo E x = some (.int .u16 1)) (hy : evo E y = some (.int k z)) (h0 : 0 ≤ z) (hb : z < 16) : QS P C E S (.binOp .shl ty2 x y ty3) ty (.int .u16 ((2 ^ z.toNat : Nat) : Int)) :=
  QS_shl16 (b := z.toNat) hx (by rw [hy]; congr; omega) (by omega)
end
theorem dosOf_len (cs : List Cl) (w : List Stp) (t : Int) : (dosOf cs w t).length ≤ w.length := by
  unfold dosOf; rw [List.length_map]; exact List.length_filter_le _ _
/-- as many are placed as were gone through -/
theorem seq_len {cs : List Cl} {w : List Stp} : ∀ {k : Nat}, k ≤ w.length → (∀ i (h : i < w.length), i < k → okR cs (maskW (w.take i)) w[i] = true) → k + unset cs.length (maskW (w.take k)) = cs.length
  | 0, _, _ => by simp [maskW, unset_0]
  | k + 1, hk, h => by
    have ih := seq_len (k := k) (by omega) (fun i hi hik => h i hi (by omega))
    obtain ⟨_, h2, h3, _⟩ := okR_parts (h k (by omega) (by omega))
    rw [List.take_succ_eq_append_getElem (by omega), maskW_snoc]
    have := unset_put h2 h3
    omega
section
variable (T B D : Option Addr) (tc d dc : Nat) (ts : List Int) (cs : List Cl) (n : Int) (f : Nat → Nat) (w : List Stp) (W : World)
variable (hts : typesOk ts = true) (hcs : CallsOk ts cs) (h9 : cs.length ≤ 9) (hf16 : ∀ i, i < 12 → f i < 65536) (hT : RdInt W T ts) (hB : RdCl W B cs) (hD : RdStp W D w) (hwl : w.length ≤ 9223372036854775807)
include hts hcs h9 hf16 hT hB hD hwl
end
end Go.Proofs.Ytaonijdhmgcbjaa

namespace Go.Proofs.Ytaonijdhmgcbjaa
theorem upd_same (f : Nat → Nat) (i a : Nat) : upd f i a i = a := by simp [upd]
theorem pow_lt_16 {m : Nat} (h : m < 16) : 2 ^ m < 65536 := by
  have := Nat.pow_lt_pow_right (a := 2) (by omega) h
  simpa using this
theorem bitsTo_lt_16 (p : Nat → Bool) {m : Nat} (h : m ≤ 16) : bitsTo p m < 65536 := by
  have h1 := bitsTo_lt p m
  have h2 := Nat.pow_le_pow_right (n := 2) (by omega) h
  have : (2 : Nat) ^ 16 = 65536 := by decide
  omega
end Go.Proofs.Ytaonijdhmgcbjaa

namespace Go.Proofs.Ytaonijdhmgcbjaa
open Go.RowKit
attribute [local go_sem ↓] run_eql_rel run_eqGuard_rel exec_load_rel exec_store_rel
attribute [local go_sem] relCells_size relCells_ones relCells_get0 relCells_getS


theorem tb_rem (x j : Nat) : (((x : Int) / 2 ^ j).tmod 2 == 1) = x.testBit j := by
  have e : ((x : Int) / 2 ^ j) = ((x / 2 ^ j : Nat) : Int) := by simp
  rw [e, Int.tmod_eq_emod_of_nonneg (Int.natCast_nonneg _), Nat.testBit_eq_decide_div_mod_eq]
  generalize x / 2 ^ j = y
  by_cases h : y % 2 = 1
  · have : ((y : Int) % 2 == 1) = true := by simp; omega
    simp [h, this]
  · have : ((y : Int) % 2 == 1) = false := by simp; omega
    simp [h, this]
set_option maxHeartbeats 1000000 in
theorem ahead_any (n : Int) (f : Nat → Nat) (i j : Nat) (w : World) (hi : i < 12) (hj : j < 16) :
    Calls Try.prog 54 #[.agg (relCells n f), .int .i64 i, .int .i64 j] w fun e w' => e = .returned (.bool ((f i).testBit j)) ∧ Below w.heap.size w w' := by
  have hi' : (i : Int) < 12 := by omega
  have a1 := relCells_at n f i hi
  go_enter Try.func54, Try.ntmps54
  go_wp2_with (fail)
  go_ret
  exact ⟨ret_bool (tb_rem _ _), by (repeat (first | assumption | exact Below.refl _ _ | refine bel_alloc ?_ _ | refine Below.drew ?_ | refine below_drewN' ?_ _ | (refine bel_set ?_ (by first | (simp; done) | (simp; omega)) _) | (refine bel_row ?_ (by first | (simp; done) | (simp; omega)) _)))⟩
end Go.Proofs.Ytaonijdhmgcbjaa
