/- Lemmas for the walks (Mut9). No condition. -/
import Derived.Test.YtiimjppceobkfaaG06
import Derived.Test.YtiimjppceobkfaaG09
import Derived.Test.YtiimjppceobkfaaG07
set_option linter.unusedSimpArgs false
set_option linter.unusedVariables false
set_option linter.unusedSectionVars false
set_option linter.unnecessarySimpa false
namespace Go.Proofs.Ytiimjppceobkfaa
open Go.RowKit
set_option linter.unusedSectionVars false

def Wt.str : Wt → ByteArray
  | .set => ⟨#[115, 101, 116]⟩
  | .unset => ⟨#[117, 110, 115, 101, 116]⟩
  | .give => ⟨#[103, 105, 118, 101]⟩
  | .none => ⟨#[110, 111, 110, 101]⟩
  | .number => ⟨#[110, 117, 109, 98, 101, 114]⟩
  | .inn => ⟨#[105, 110]⟩
  | .out => ⟨#[111, 117, 116]⟩
  | .peterson => ⟨#[112, 101, 116, 101, 114, 115, 111, 110]⟩
  | .door => ⟨#[100, 111, 111, 114]⟩
  | .first => ⟨#[102, 105, 114, 115, 116]⟩
  | .alone => ⟨#[97, 108, 111, 110, 101]⟩
  | .swap => ⟨#[115, 119, 97, 112]⟩
def Wd.enc (x : Wd) : List Value := [.string x.what.str, .int .i64 x.whom]
theorem doors_succ (w j : Nat) : doorsL w (j + 1) = doorsL w j ++ if j = w then [] else [⟨.door, (j : Nat)⟩, ⟨.first, (j : Nat)⟩] := by
  unfold doorsL; rw [List.range_succ, List.flatMap_append]; simp
theorem doors_len (w : Nat) : ∀ j, (doorsL w j).length ≤ 2 * j
  | 0 => by simp [doorsL]
  | j + 1 => by
    have := doors_len w j
    rw [doors_succ, List.length_append]
    split
    · simp; omega
    · simp; omega
section
variable {P : Program} {C : Ctx} {Q : Exit → Act → World → Prop} {E : Slots} {S S1 S1' R S2 : List Ent}
variable {d ty : Nat} {ps : String} {af : Array Edge} {g0 : Option (Nat × Bool)} {f : Nat}
/-- a call of a function value that turns what it is handed, to something of some shape -/
theorem ES_callFX [hf : IsFn P f] {X : Type} {x : Operand} {xs : List Operand} {vs us cs : List Value} {ats : Array TypeId} (z : X → Value) (S1' : X → List Ent) {S2 : X → List Ent} (hv : evo E x = some (.func (.func f) us.toArray cs.toArray)) (hx : evs E xs = some vs)
    (hS : Pull S S1 R) (hA : ∀ x, AppL (S1' x) R (S2 x))
    (hc : ∀ w, Mem C w (S1 ++ R) → Calls P f (us ++ vs ++ cs).toArray w fun e w' => ∃ x, e = .returned (z x) ∧ Mem ⟨0, blks S1, w⟩ w' (S1' x)) (hd : Nat.ble (d + 1) C.n = true) :
    ES P C E S ⟨some d, .call ⟨.value x, xs.toArray, ats⟩, ty, ps, af, g0⟩ (fun E' S' => ∃ x, E' = (d, z x) :: E ∧ S' = S2 x) :=
  (ES_enter (fun u T => ∃ x, u = z x ∧ T = S2 x) (fun a w ha => run_callV hv hx ha) (fun w hw => (hc w (hw.pull hS)).mono fun e w' ⟨x, he, hb⟩ => ⟨z x, _, he, (hw.pull hS).frame hb, x, rfl, (hA x).eq⟩) hd).weak
    (by rintro _ _ ⟨_, ⟨x, rfl, rfl⟩, rfl⟩; exact ⟨x, rfl, rfl⟩)
end
/-- where the gate's own things lie -/
structure GP where
  o : Nat
  m : Nat
  s : Nat
  D : Nat
def gateL (a : GP) (B : Option Addr) (c : Nat) (out : List Gt) (D : List (Int × Int)) (most : Int) : List Ent :=
  [entBlk a.o 23 #[.slice B out.length c], entBlk a.m 65 #[.map (some a.D)], entBlk a.s 3 #[.int .i64 most], entMap intV a.D D, entOwn Gt.enc 2 32 B c out]
set_option maxRecDepth 100000 in
set_option maxHeartbeats 4000000 in
theorem gate_any (a : GP) (B : Option Addr) (c : Nat) (out : List Gt) (D : List (Int × Int)) (most z : Int) (b : Bool) (n0 : Nat) (w : World) (hl : out.length ≤ 1000) (hm : Mem ⟨n0, blks (gateL a B c out D most), w⟩ w (gateL a B c out D most)) :
    Calls Try.prog 76 #[.int .i64 z, .bool b, .pointer (some ⟨a.o, 0, none⟩), .pointer (some ⟨a.m, 0, none⟩), .pointer (some ⟨a.s, 0, none⟩)] w fun e w' =>
      ∃ x : Option Addr × Nat, e = .returned (.tuple #[]) ∧ Mem ⟨0, blks (gateL a B c out D most), w⟩ w' (gateL a x.1 x.2 (out ++ [⟨z, b⟩]) (if b = true then putM D z 1 else delM D z) (max most (if b = true then putM D z 1 else delM D z).length)) := by
  generalize blks (gateL a B c out D most) = F at hm ⊢
  refine calls_T F Try.func76 rfl Try.ntmps76 (by simp) (hm.anyN _) ?_
  rw [gateL]
  cases b
  all_goals
    repeat' (first | ((first | with_reducible (first | apply TL_q | apply TD_q0 | apply TD_q1 | apply TD_q2 | apply TD_q3) | ((with_reducible (first | apply TD_q0y | apply TD_q1y)); exact rfl; exact rfl; (with_reducible exact rfl))); (first | ((with_reducible apply QS_eqlStrT); exact rfl; exact rfl; decide) | ((with_reducible apply QS_eqlStrF); exact rfl; exact rfl; decide) | exact QS.auto); exact rfl) | ((with_reducible (first | apply TD_e2z | apply TD_e3z | apply TL_e | apply TD_e2 | apply TD_e3)); (first | ((with_reducible apply ES_delete); exact rfl; exact rfl; (first | ((repeat (first | with_reducible exact Upd.here _ _ _ | with_reducible apply Upd.there)); done) | (repeat (first | exact Upd.here _ _ _ | apply Upd.there)))) | exact ES.auto); (first | exact rfl | exact ⟨rfl, rfl, rfl⟩); (first | (rintro _ _ ⟨rfl, rfl⟩) | (rintro _ _ ⟨g, rfl, rfl⟩) | (rintro _ _ ⟨A', c', rfl, rfl⟩)); (try refine ⟨SUB, ?_⟩)) | (refine GG ?_) | (refine GE ?_; (first | (rintro _ _ ⟨rfl, rfl⟩) | (rintro _ _ ⟨g, rfl, rfl⟩) | (rintro _ _ ⟨A', c', rfl, rfl⟩)); (try refine ⟨SUB, ?_⟩)) | ((refine GO2 ?_ ?_) <;> intro h <;> (try (repeat (first | with_reducible (replace h := of_decide_eq_true h) | with_reducible (replace h := of_decide_eq_false h) | with_reducible (replace h := bnt h) | with_reducible (replace h := bnf h) | with_reducible (replace h := Int.not_lt.mp h) | with_reducible (replace h := Int.not_le.mp h) | with_reducible (replace h := band_dec h) | with_reducible (replace h := band_decF h) | with_reducible (replace h := bor_dec h) | with_reducible (replace h := bor_decF h)))) <;> (try (exfalso; first | contradiction | omega))) | (refine GOF ?_ ?_) | ((with_reducible (first | apply TD_e2z | apply TD_e3z | apply TL_e | apply TD_e2 | apply TD_e3)); ((with_reducible apply ES_append1 (enc := Gt.enc) (xx := (⟨z, _⟩ : Gt))); exact rfl; exact rfl; (repeat (first | with_reducible exact List.mem_cons_self | with_reducible apply List.mem_cons_of_mem)); exact rfl; exact fun _ => rfl; exact fun _ => rfl; (intro A' c'; first | ((repeat (first | with_reducible exact Upd.here _ _ _ | with_reducible apply Upd.there)); done) | (repeat (first | exact Upd.here _ _ _ | apply Upd.there))); (omega); decide; exact rfl); (first | exact rfl | exact ⟨rfl, rfl, rfl⟩); (rintro _ _ ⟨A', c', rfl, rfl⟩); (try refine ⟨SUB, ?_⟩)) | fail)
    (refine At_retN Try.results76 rfl (fun w' hw => ?_))
    exact ⟨(A', c'), rfl, (hw.sub (List.sublist_cons_self _ _)).anyN 0⟩
section
variable (algo : Int) (n : Nat) (w0 : World)
/-- the plan, as a list of its own -/
def PlanPost (L : List Wd) (w : World) (e : Ending) (w' : World) : Prop := ∃ A c, e = .returned (.slice A L.length c) ∧ Own Wd.enc 2 143 w' w.heap.size (.slice A L.length c) L ∧ Below w.heap.size w w'
set_option maxRecDepth 100000 in
set_option maxHeartbeats 4000000 in
theorem plan_any (hn : n ≤ 4) (q : Nat) (hq : q < n) (ha : 1 ≤ algo ∧ algo ≤ 4) (w : World) : Calls Try.prog 77 #[.int .i64 algo, .int .i64 (n : Nat), .int .i64 (q : Nat)] w (PlanPost (planL algo n q) w) := by
  have hc : algo = 1 ∨ algo = 2 ∨ algo = 3 ∨ algo = 4 := by omega
  unfold PlanPost
  refine calls_T (S := []) [] Try.func77 rfl Try.ntmps77 (by simp) (Mem.nil _) ?_
  rcases hc with rfl | rfl | rfl | rfl
  · repeat' (first | ((first | with_reducible (first | apply TL_q | apply TD_q0 | apply TD_q1 | apply TD_q2 | apply TD_q3) | ((with_reducible (first | apply TD_q0y | apply TD_q1y)); exact rfl; exact rfl; (with_reducible exact rfl))); (first | ((with_reducible apply QS_eqlStrT); exact rfl; exact rfl; decide) | ((with_reducible apply QS_eqlStrF); exact rfl; exact rfl; decide) | exact QS.auto); exact rfl) | ((with_reducible (first | apply TD_e2z | apply TD_e3z | apply TL_e | apply TD_e2 | apply TD_e3)); (first | ((with_reducible apply ES_delete); exact rfl; exact rfl; (first | ((repeat (first | with_reducible exact Upd.here _ _ _ | with_reducible apply Upd.there)); done) | (repeat (first | exact Upd.here _ _ _ | apply Upd.there)))) | exact ES.auto); (first | exact rfl | exact ⟨rfl, rfl, rfl⟩); (first | (rintro _ _ ⟨rfl, rfl⟩) | (rintro _ _ ⟨g, rfl, rfl⟩) | (rintro _ _ ⟨A', c', rfl, rfl⟩)); (try refine ⟨SUB, ?_⟩)) | (refine GG ?_) | (refine GE ?_; (first | (rintro _ _ ⟨rfl, rfl⟩) | (rintro _ _ ⟨g, rfl, rfl⟩) | (rintro _ _ ⟨A', c', rfl, rfl⟩)); (try refine ⟨SUB, ?_⟩)) | ((refine GO2 ?_ ?_) <;> intro h <;> (try (repeat (first | with_reducible (replace h := of_decide_eq_true h) | with_reducible (replace h := of_decide_eq_false h) | with_reducible (replace h := bnt h) | with_reducible (replace h := bnf h) | with_reducible (replace h := Int.not_lt.mp h) | with_reducible (replace h := Int.not_le.mp h) | with_reducible (replace h := band_dec h) | with_reducible (replace h := band_decF h) | with_reducible (replace h := bor_dec h) | with_reducible (replace h := bor_decF h)))) <;> (try (exfalso; first | contradiction | omega))) | (refine GOF ?_ ?_) | fail)
    (refine At_ret Try.results77 rfl (fun w' hw => ?_))
    have h9 := Mem.asOwn (enc := Wd.enc) (M := 2) ([⟨.set, 0⟩, ⟨.give, 1 - (q : Int)⟩, ⟨.peterson, 1 - (q : Int)⟩, ⟨.out, 0⟩, ⟨.unset, 0⟩] : List Wd) (Upd.here _ _ _) rfl (fun _ => rfl) (by show 5 ≤ maxLen; decide) hw
    exact ⟨_, _, rfl, h9.ownOut rfl (by first | ((repeat (first | with_reducible exact List.mem_cons_self | with_reducible apply List.mem_cons_of_mem)); done) | (repeat (first | exact List.Mem.head _ | apply List.Mem.tail))), hw.below0 rfl⟩
  · have hlen : ∀ j, (([⟨.set, 0⟩, ⟨.number, 0⟩, ⟨.unset, 0⟩] : List Wd) ++ doorsL q j).length ≤ 3 + 2 * j := fun j => by
      have := doors_len q j
      rw [List.length_append]; simp; omega
    repeat' (first | ((first | with_reducible (first | apply TL_q | apply TD_q0 | apply TD_q1 | apply TD_q2 | apply TD_q3) | ((with_reducible (first | apply TD_q0y | apply TD_q1y)); exact rfl; exact rfl; (with_reducible exact rfl))); (first | ((with_reducible apply QS_eqlStrT); exact rfl; exact rfl; decide) | ((with_reducible apply QS_eqlStrF); exact rfl; exact rfl; decide) | exact QS.auto); exact rfl) | ((with_reducible (first | apply TD_e2z | apply TD_e3z | apply TL_e | apply TD_e2 | apply TD_e3)); (first | ((with_reducible apply ES_delete); exact rfl; exact rfl; (first | ((repeat (first | with_reducible exact Upd.here _ _ _ | with_reducible apply Upd.there)); done) | (repeat (first | exact Upd.here _ _ _ | apply Upd.there)))) | exact ES.auto); (first | exact rfl | exact ⟨rfl, rfl, rfl⟩); (first | (rintro _ _ ⟨rfl, rfl⟩) | (rintro _ _ ⟨g, rfl, rfl⟩) | (rintro _ _ ⟨A', c', rfl, rfl⟩)); (try refine ⟨SUB, ?_⟩)) | (refine GG ?_) | (refine GE ?_; (first | (rintro _ _ ⟨rfl, rfl⟩) | (rintro _ _ ⟨g, rfl, rfl⟩) | (rintro _ _ ⟨A', c', rfl, rfl⟩)); (try refine ⟨SUB, ?_⟩)) | ((refine GO2 ?_ ?_) <;> intro h <;> (try (repeat (first | with_reducible (replace h := of_decide_eq_true h) | with_reducible (replace h := of_decide_eq_false h) | with_reducible (replace h := bnt h) | with_reducible (replace h := bnf h) | with_reducible (replace h := Int.not_lt.mp h) | with_reducible (replace h := Int.not_le.mp h) | with_reducible (replace h := band_dec h) | with_reducible (replace h := band_decF h) | with_reducible (replace h := bor_dec h) | with_reducible (replace h := bor_decF h)))) <;> (try (exfalso; first | contradiction | omega))) | (refine GOF ?_ ?_) | fail)
    obtain ⟨gl, rfl⟩ : ∃ x, x = g := ⟨_, rfl⟩
    refine T_mem (fun w hw => Mem.asOwn (enc := Wd.enc) (M := 2) ([⟨.set, 0⟩, ⟨.number, 0⟩, ⟨.unset, 0⟩] : List Wd) (Upd.here _ _ _) rfl (fun _ => rfl) (by show 3 ≤ maxLen; decide) hw) ?_
    refine T_loop (X := Nat × Option Addr × Nat) (fun x => [(29, .int .i64 (x.1 : Nat)), (28, .int .i64 (n : Nat)), (7, .slice x.2.1 (([⟨.set, 0⟩, ⟨.number, 0⟩, ⟨.unset, 0⟩] : List Wd) ++ doorsL q x.1).length x.2.2), (2, .int .i64 (q : Nat))])
      (fun x => [entOwn Wd.enc 2 143 x.2.1 x.2.2 (([⟨.set, 0⟩, ⟨.number, 0⟩, ⟨.unset, 0⟩] : List Wd) ++ doorsL q x.1)]) (fun x => x.1 ≤ n) (fun x => n - x.1) (0, some ⟨gl, 0, none⟩, 3) (by (try dsimp only); omega) (by (repeat (first | exact SubE.nil _ | refine SubE.cons rfl ?_))) (fun w hw => hw) ?_
    rintro ⟨j, A, c⟩ hj
    dsimp only at hj ⊢
    have hl := hlen j
    by_cases hjl : j < n
    · have hs := doors_succ q j
      generalize hL : ([⟨.set, 0⟩, ⟨.number, 0⟩, ⟨.unset, 0⟩] : List Wd) ++ doorsL q j = L at *
      repeat' (first | ((first | with_reducible (first | apply TL_q | apply TD_q0 | apply TD_q1 | apply TD_q2 | apply TD_q3) | ((with_reducible (first | apply TD_q0y | apply TD_q1y)); exact rfl; exact rfl; (with_reducible exact rfl))); (first | ((with_reducible apply QS_eqlStrT); exact rfl; exact rfl; decide) | ((with_reducible apply QS_eqlStrF); exact rfl; exact rfl; decide) | exact QS.auto); exact rfl) | ((with_reducible (first | apply TD_e2z | apply TD_e3z | apply TL_e | apply TD_e2 | apply TD_e3)); (first | ((with_reducible apply ES_delete); exact rfl; exact rfl; (first | ((repeat (first | with_reducible exact Upd.here _ _ _ | with_reducible apply Upd.there)); done) | (repeat (first | exact Upd.here _ _ _ | apply Upd.there)))) | exact ES.auto); (first | exact rfl | exact ⟨rfl, rfl, rfl⟩); (first | (rintro _ _ ⟨rfl, rfl⟩) | (rintro _ _ ⟨g, rfl, rfl⟩) | (rintro _ _ ⟨A', c', rfl, rfl⟩)); (try refine ⟨SUB, ?_⟩)) | (refine GG ?_) | (refine GE ?_; (first | (rintro _ _ ⟨rfl, rfl⟩) | (rintro _ _ ⟨g, rfl, rfl⟩) | (rintro _ _ ⟨A', c', rfl, rfl⟩)); (try refine ⟨SUB, ?_⟩)) | ((refine GO2 ?_ ?_) <;> intro h <;> (try (repeat (first | with_reducible (replace h := of_decide_eq_true h) | with_reducible (replace h := of_decide_eq_false h) | with_reducible (replace h := bnt h) | with_reducible (replace h := bnf h) | with_reducible (replace h := Int.not_lt.mp h) | with_reducible (replace h := Int.not_le.mp h) | with_reducible (replace h := band_dec h) | with_reducible (replace h := band_decF h) | with_reducible (replace h := bor_dec h) | with_reducible (replace h := bor_decF h)))) <;> (try (exfalso; first | contradiction | omega))) | (refine GOF ?_ ?_) | ((with_reducible (first | apply TD_e2z | apply TD_e3z | apply TL_e | apply TD_e2 | apply TD_e3)); ((with_reducible apply ES_append (enc := Wd.enc) (xs := ([⟨.door, (j : Nat)⟩, ⟨.first, (j : Nat)⟩] : List Wd)) (ls := L)); exact rfl; exact rfl; exact Lies.blk (cs := #[.string ⟨#[100, 111, 111, 114]⟩, .int .i64 (j : Nat), .string ⟨#[102, 105, 114, 115, 116]⟩, .int .i64 (j : Nat)]) (by first | ((repeat (first | with_reducible exact List.mem_cons_self | with_reducible apply List.mem_cons_of_mem)); done) | (repeat (first | exact List.Mem.head _ | apply List.Mem.tail))); exact fun _ => rfl; exact fun _ => rfl; (intro A' c'; first | ((repeat (first | with_reducible exact Upd.here _ _ _ | with_reducible apply Upd.there)); done) | (repeat (first | exact Upd.here _ _ _ | apply Upd.there))); (simp; omega); decide; exact rfl); (first | exact rfl | exact ⟨rfl, rfl, rfl⟩); (rintro _ _ ⟨A', c', rfl, rfl⟩); (try refine ⟨SUB, ?_⟩)) | fail)
      · apply At_rounds (j + 1, A', c')
        case hE => dsimp only; rw [hs, if_neg (by omega), ← List.append_assoc, hL]; (repeat (first | exact SubE.nil _ | refine SubE.cons rfl ?_))
        case hS => dsimp only; rw [hs, if_neg (by omega), ← List.append_assoc, hL]; exact fun w hw => hw.sub (List.sublist_cons_self _ _)
        case hμ => (try dsimp only); omega
        case hp => (try dsimp only); omega
      · apply At_rounds (j + 1, A, c)
        case hE => dsimp only; rw [hs, if_pos (by omega), List.append_nil, hL]; (repeat (first | exact SubE.nil _ | refine SubE.cons rfl ?_))
        case hS => dsimp only; rw [hs, if_pos (by omega), List.append_nil, hL]; exact fun w hw => hw
        case hμ => (try dsimp only); omega
        case hp => (try dsimp only); omega
    · obtain rfl : j = n := by omega
      have hpl : planL 2 j q = (([⟨.set, 0⟩, ⟨.number, 0⟩, ⟨.unset, 0⟩] : List Wd) ++ doorsL q j) ++ [⟨.inn, 0⟩, ⟨.out, 0⟩, ⟨.none, 0⟩] := rfl
      rw [hpl]
      generalize hL : ([⟨.set, 0⟩, ⟨.number, 0⟩, ⟨.unset, 0⟩] : List Wd) ++ doorsL q j = L at *
      repeat' (first | ((first | with_reducible (first | apply TL_q | apply TD_q0 | apply TD_q1 | apply TD_q2 | apply TD_q3) | ((with_reducible (first | apply TD_q0y | apply TD_q1y)); exact rfl; exact rfl; (with_reducible exact rfl))); (first | ((with_reducible apply QS_eqlStrT); exact rfl; exact rfl; decide) | ((with_reducible apply QS_eqlStrF); exact rfl; exact rfl; decide) | exact QS.auto); exact rfl) | ((with_reducible (first | apply TD_e2z | apply TD_e3z | apply TL_e | apply TD_e2 | apply TD_e3)); (first | ((with_reducible apply ES_delete); exact rfl; exact rfl; (first | ((repeat (first | with_reducible exact Upd.here _ _ _ | with_reducible apply Upd.there)); done) | (repeat (first | exact Upd.here _ _ _ | apply Upd.there)))) | exact ES.auto); (first | exact rfl | exact ⟨rfl, rfl, rfl⟩); (first | (rintro _ _ ⟨rfl, rfl⟩) | (rintro _ _ ⟨g, rfl, rfl⟩) | (rintro _ _ ⟨A', c', rfl, rfl⟩)); (try refine ⟨SUB, ?_⟩)) | (refine GG ?_) | (refine GE ?_; (first | (rintro _ _ ⟨rfl, rfl⟩) | (rintro _ _ ⟨g, rfl, rfl⟩) | (rintro _ _ ⟨A', c', rfl, rfl⟩)); (try refine ⟨SUB, ?_⟩)) | ((refine GO2 ?_ ?_) <;> intro h <;> (try (repeat (first | with_reducible (replace h := of_decide_eq_true h) | with_reducible (replace h := of_decide_eq_false h) | with_reducible (replace h := bnt h) | with_reducible (replace h := bnf h) | with_reducible (replace h := Int.not_lt.mp h) | with_reducible (replace h := Int.not_le.mp h) | with_reducible (replace h := band_dec h) | with_reducible (replace h := band_decF h) | with_reducible (replace h := bor_dec h) | with_reducible (replace h := bor_decF h)))) <;> (try (exfalso; first | contradiction | omega))) | (refine GOF ?_ ?_) | ((with_reducible (first | apply TD_e2z | apply TD_e3z | apply TL_e | apply TD_e2 | apply TD_e3)); ((with_reducible apply ES_append (enc := Wd.enc) (xs := ([⟨.inn, 0⟩, ⟨.out, 0⟩, ⟨.none, 0⟩] : List Wd)) (ls := L)); exact rfl; exact rfl; exact Lies.blk (cs := #[.string ⟨#[105, 110]⟩, .int .i64 0, .string ⟨#[111, 117, 116]⟩, .int .i64 0, .string ⟨#[110, 111, 110, 101]⟩, .int .i64 0]) (by first | ((repeat (first | with_reducible exact List.mem_cons_self | with_reducible apply List.mem_cons_of_mem)); done) | (repeat (first | exact List.Mem.head _ | apply List.Mem.tail))); exact fun _ => rfl; exact fun _ => rfl; (intro A' c'; first | ((repeat (first | with_reducible exact Upd.here _ _ _ | with_reducible apply Upd.there)); done) | (repeat (first | exact Upd.here _ _ _ | apply Upd.there))); (simp; omega); decide; exact rfl); (first | exact rfl | exact ⟨rfl, rfl, rfl⟩); (rintro _ _ ⟨A', c', rfl, rfl⟩); (try refine ⟨SUB, ?_⟩)) | fail)
      (refine At_ret Try.results77 rfl (fun w' hw => ?_))
      exact ⟨_, _, rfl, hw.ownOut rfl (by first | ((repeat (first | with_reducible exact List.mem_cons_self | with_reducible apply List.mem_cons_of_mem)); done) | (repeat (first | exact List.Mem.head _ | apply List.Mem.tail))), hw.below0 rfl⟩
  · repeat' (first | ((first | with_reducible (first | apply TL_q | apply TD_q0 | apply TD_q1 | apply TD_q2 | apply TD_q3) | ((with_reducible (first | apply TD_q0y | apply TD_q1y)); exact rfl; exact rfl; (with_reducible exact rfl))); (first | ((with_reducible apply QS_eqlStrT); exact rfl; exact rfl; decide) | ((with_reducible apply QS_eqlStrF); exact rfl; exact rfl; decide) | exact QS.auto); exact rfl) | ((with_reducible (first | apply TD_e2z | apply TD_e3z | apply TL_e | apply TD_e2 | apply TD_e3)); (first | ((with_reducible apply ES_delete); exact rfl; exact rfl; (first | ((repeat (first | with_reducible exact Upd.here _ _ _ | with_reducible apply Upd.there)); done) | (repeat (first | exact Upd.here _ _ _ | apply Upd.there)))) | exact ES.auto); (first | exact rfl | exact ⟨rfl, rfl, rfl⟩); (first | (rintro _ _ ⟨rfl, rfl⟩) | (rintro _ _ ⟨g, rfl, rfl⟩) | (rintro _ _ ⟨A', c', rfl, rfl⟩)); (try refine ⟨SUB, ?_⟩)) | (refine GG ?_) | (refine GE ?_; (first | (rintro _ _ ⟨rfl, rfl⟩) | (rintro _ _ ⟨g, rfl, rfl⟩) | (rintro _ _ ⟨A', c', rfl, rfl⟩)); (try refine ⟨SUB, ?_⟩)) | ((refine GO2 ?_ ?_) <;> intro h <;> (try (repeat (first | with_reducible (replace h := of_decide_eq_true h) | with_reducible (replace h := of_decide_eq_false h) | with_reducible (replace h := bnt h) | with_reducible (replace h := bnf h) | with_reducible (replace h := Int.not_lt.mp h) | with_reducible (replace h := Int.not_le.mp h) | with_reducible (replace h := band_dec h) | with_reducible (replace h := band_decF h) | with_reducible (replace h := bor_dec h) | with_reducible (replace h := bor_decF h)))) <;> (try (exfalso; first | contradiction | omega))) | (refine GOF ?_ ?_) | fail)
    (refine At_ret Try.results77 rfl (fun w' hw => ?_))
    have h9 := Mem.asOwn (enc := Wd.enc) (M := 2) ([⟨.alone, 0⟩, ⟨.set, 0⟩, ⟨.inn, 0⟩, ⟨.out, 0⟩, ⟨.unset, 0⟩] : List Wd) (Upd.here _ _ _) rfl (fun _ => rfl) (by show 5 ≤ maxLen; decide) hw
    exact ⟨_, _, rfl, h9.ownOut rfl (by first | ((repeat (first | with_reducible exact List.mem_cons_self | with_reducible apply List.mem_cons_of_mem)); done) | (repeat (first | exact List.Mem.head _ | apply List.Mem.tail))), hw.below0 rfl⟩
  · repeat' (first | ((first | with_reducible (first | apply TL_q | apply TD_q0 | apply TD_q1 | apply TD_q2 | apply TD_q3) | ((with_reducible (first | apply TD_q0y | apply TD_q1y)); exact rfl; exact rfl; (with_reducible exact rfl))); (first | ((with_reducible apply QS_eqlStrT); exact rfl; exact rfl; decide) | ((with_reducible apply QS_eqlStrF); exact rfl; exact rfl; decide) | exact QS.auto); exact rfl) | ((with_reducible (first | apply TD_e2z | apply TD_e3z | apply TL_e | apply TD_e2 | apply TD_e3)); (first | ((with_reducible apply ES_delete); exact rfl; exact rfl; (first | ((repeat (first | with_reducible exact Upd.here _ _ _ | with_reducible apply Upd.there)); done) | (repeat (first | exact Upd.here _ _ _ | apply Upd.there)))) | exact ES.auto); (first | exact rfl | exact ⟨rfl, rfl, rfl⟩); (first | (rintro _ _ ⟨rfl, rfl⟩) | (rintro _ _ ⟨g, rfl, rfl⟩) | (rintro _ _ ⟨A', c', rfl, rfl⟩)); (try refine ⟨SUB, ?_⟩)) | (refine GG ?_) | (refine GE ?_; (first | (rintro _ _ ⟨rfl, rfl⟩) | (rintro _ _ ⟨g, rfl, rfl⟩) | (rintro _ _ ⟨A', c', rfl, rfl⟩)); (try refine ⟨SUB, ?_⟩)) | ((refine GO2 ?_ ?_) <;> intro h <;> (try (repeat (first | with_reducible (replace h := of_decide_eq_true h) | with_reducible (replace h := of_decide_eq_false h) | with_reducible (replace h := bnt h) | with_reducible (replace h := bnf h) | with_reducible (replace h := Int.not_lt.mp h) | with_reducible (replace h := Int.not_le.mp h) | with_reducible (replace h := band_dec h) | with_reducible (replace h := band_decF h) | with_reducible (replace h := bor_dec h) | with_reducible (replace h := bor_decF h)))) <;> (try (exfalso; first | contradiction | omega))) | (refine GOF ?_ ?_) | fail)
    (refine At_ret Try.results77 rfl (fun w' hw => ?_))
    have h9 := Mem.asOwn (enc := Wd.enc) (M := 2) ([⟨.swap, 0⟩, ⟨.inn, 0⟩, ⟨.out, 0⟩, ⟨.give, 0⟩] : List Wd) (Upd.here _ _ _) rfl (fun _ => rfl) (by show 4 ≤ maxLen; decide) hw
    exact ⟨_, _, rfl, h9.ownOut rfl (by first | ((repeat (first | with_reducible exact List.mem_cons_self | with_reducible apply List.mem_cons_of_mem)); done) | (repeat (first | exact List.Mem.head _ | apply List.Mem.tail))), hw.below0 rfl⟩
end
end Go.Proofs.Ytiimjppceobkfaa
