/- The law LocalSays: whatever is handed in, the law returns true. No condition. -/
import Derived.Test.YtiimjppceobkfaaG29
set_option linter.unusedSimpArgs false
set_option linter.unusedVariables false
set_option linter.unusedSectionVars false
set_option linter.unnecessarySimpa false
namespace Go.Proofs.Ytiimjppceobkfaa
open Go.RowKit

def allK (ts : List Int) (cs : List Cl) (k : Nat) : Bool := (List.range k).all fun t : Nat => (ownO ts cs (t : Int)).isSome
theorem allK_succ (ts : List Int) (cs : List Cl) (k : Nat) : allK ts cs (k + 1) = (allK ts cs k && (ownO ts cs (k : Int)).isSome) := by simp [allK, List.range_succ]
theorem oMap_some {ts : List Int} {cs : List Cl} {t : Nat} (h : (ownO ts cs (t : Int)).isSome = true) : oMap ts cs (t : Int) = some (rowO ts cs t) := by
  unfold oMap rowO
  obtain ⟨r, hr⟩ := Option.isSome_iff_exists.1 h
  rw [hr]; rfl
theorem oMap_none {ts : List Int} {cs : List Cl} {t : Nat} (h : (ownO ts cs (t : Int)).isSome = false) : oMap ts cs (t : Int) = none := by
  unfold oMap
  rw [Option.isSome_eq_false_iff, Option.isNone_iff_eq_none] at h
  rw [h]; rfl
section
variable (A0 B0 : Option Addr) (c0 d0 : Nat) (ts : List Int) (l : List Ev) (w : World) (hts : ts.length ≤ 9223372036854775807) (hl : l.length ≤ 9223372036854775807) (hT : RdInt w A0 ts) (hA : RdEv w B0 l)
include hts hl hT hA
set_option maxRecDepth 100000 in
set_option maxHeartbeats 4000000 in
theorem localSays_any : Calls Try.prog 12 #[.slice A0 ts.length c0, .slice B0 l.length d0] w fun e w' => e = .returned (.bool true) ∧ Below w.heap.size w w' := by
  have hpa := fun w h1 h2 => parts_any A0 B0 c0 d0 ts l w hts hl h1 h2
  have hor := fun w h1 h2 => orders_any A0 B0 c0 d0 ts l w hts hl h1 h2
  have hlc := fun w h1 h2 => locals_any A0 B0 c0 d0 ts l w hts hl h1 h2
  have hlo := local_ok (ts := ts) (l := l)
  have hof := fun (t : Nat) a b => own_facts (ts := ts) (l := l) (t := t) a b
  have hE : locE ts l = if (localS ts l).2 ≠ 0 then (localS ts l).2 else if allO ts (localS ts l).1 = true then 0 else 4 := rfl
  have hR : locR ts l = if locE ts l = 0 then rowsK ts (localS ts l).1 ts.length else [] := rfl
  generalize locE ts l = fe at *
  generalize locR ts l = W at *
  generalize localS ts l = F at *
  obtain ⟨cs, er⟩ := F
  dsimp only at hpa hlc hlo hE hR
  refine calls_T (S := []) [] Try.func12 rfl Try.ntmps12 (by simp) (Mem.nil _) ?_
  by_cases h0 : er = 0
  · subst h0
    obtain ⟨k0, k1, k2, k3⟩ := hlo rfl
    rw [← k1] at k2 k3 hof
    have hof := fun t ht => hof t k0 (k3 t ht)
    have ht4 : ts.length ≤ 4 := by
      have := (callsR_inv k0).1
      unfold typesOk at this
      rw [Bool.and_eq_true, decide_eq_true_eq] at this
      exact this.1.2
    rw [if_pos rfl] at hpa
    rw [if_neg (by simp)] at hE
    clear hlo k1 k0
    have hpl := partsK_len ts cs ts.length
    have hpg : ∀ k (h : k < (partsK ts cs ts.length).length), (partsK ts cs ts.length)[k] = (ownO ts cs (k : Int)).isSome := fun k h => by simp [partsK]
    generalize partsK ts cs ts.length = PL at *
    by_cases hall : allO ts cs = true
    · rw [if_pos hall] at hE
      subst hE
      rw [if_pos rfl] at hR
      have hWl : W.length = ts.length := by rw [hR]; exact rowsK_len ts cs _
      have hWg : ∀ k (h : k < W.length), W[k] = rowO ts cs k := fun k h => by subst hR; simp [rowsK]
      have hsm : ∀ k, k < ts.length → (ownO ts cs (k : Int)).isSome = true := fun k h => by
        unfold allO at hall
        exact List.all_eq_true.1 hall k (List.mem_range.2 h)
      clear hR
      repeat' (first | ((first | with_reducible (first | apply TL_q | apply TD_q0 | apply TD_q1 | apply TD_q2 | apply TD_q3) | ((with_reducible (first | apply TD_q0y | apply TD_q1y)); exact rfl; exact rfl; (with_reducible exact rfl))); (first | exact QS.auto | ((with_reducible apply QS_neqNil); exact rfl; exact rfl) | ((with_reducible apply QS_eqlB); exact rfl; exact rfl) | ((with_reducible apply QS_neqB); exact rfl; exact rfl)); exact rfl) | (refine GO ?_) | (refine GOE ?_; (first | (rintro _ _ ⟨rfl, rfl⟩) | (rintro _ _ ⟨g, rfl, rfl⟩) | (rintro _ _ ⟨A', c', rfl, rfl⟩))) | ((refine GO2 ?_ ?_) <;> intro h <;> (try (repeat (first | with_reducible (replace h := of_decide_eq_true h) | with_reducible (replace h := of_decide_eq_false h) | with_reducible (replace h := bnt h) | with_reducible (replace h := bnf h) | with_reducible (replace h := Int.not_lt.mp h) | with_reducible (replace h := Int.not_le.mp h) | with_reducible (replace h := band_dec h) | with_reducible (replace h := band_decF h) | with_reducible (replace h := bor_dec h) | with_reducible (replace h := bor_decF h)))) <;> (try (exfalso; first | contradiction | omega))) | ((with_reducible (first | apply TD_e2z | apply TD_e3z | apply TL_e | apply TD_e2 | apply TD_e3)); ((with_reducible apply ES_callOwn (f := 56)); exact rfl; (intro w hw; exact hpa w (hw.rd rfl hT) (hw.rd rfl hA)); exact rfl); (first | exact rfl | exact ⟨rfl, rfl, rfl⟩); (rintro _ _ ⟨A1, c1, rfl, rfl⟩); (try refine ⟨SUB, ?_⟩)) | ((with_reducible (first | apply TD_e2z | apply TD_e3z | apply TL_e | apply TD_e2 | apply TD_e3)); ((with_reducible apply ES_callRows (f := 57) (enc := Stp.enc) (M := 2) (e := 72) (e2 := 59) (rows := W) (r := fun A c hs => .tuple #[.slice A hs.length c, .int .i64 0])); exact rfl; (intro w hw; exact hor w (hw.rd rfl hT) (hw.rd rfl hA)); exact rfl); (first | exact rfl | exact ⟨rfl, rfl, rfl⟩); (rintro _ _ ⟨AO, cO, hs, hHd, rfl, rfl⟩); (try refine ⟨SUB, ?_⟩)) | ((with_reducible (first | apply TD_e2z | apply TD_e3z | apply TL_e | apply TD_e2 | apply TD_e3)); ((with_reducible apply ES_callOwn (f := 31)); exact rfl; (intro w hw; exact hlc w (hw.rd rfl hT) (hw.rd rfl hA)); exact rfl); (first | exact rfl | exact ⟨rfl, rfl, rfl⟩); (rintro _ _ ⟨A3, c3, rfl, rfl⟩); (try refine ⟨SUB, ?_⟩)) | fail)
      obtain ⟨hh1, hh2⟩ := hHd
      refine T_loop (X := Nat) (fun k => [(63, .int .i64 (k : Nat)), (62, .int .i64 ts.length), (11, .bool true), (5, .slice A1 PL.length c1), (7, .slice AO hs.length cO), (8, .int .i64 0), (9, .slice A3 cs.length c3), (0, .slice A0 ts.length c0)])
        (fun _ => [entOwn boolEnc 1 4 A1 c1 PL, entOwn hdEnc 1 59 AO cO hs, entInner Stp.enc 2 72 hs W, entOwn Cl.enc 7 76 A3 c3 cs]) (fun k => k ≤ ts.length) (fun k => ts.length - k) 0 (by omega) (by (repeat (first | exact SubE.nil _ | refine SubE.cons rfl ?_))) (fun w' hw => hw.sel (by (repeat (first | exact Sel.nil _ | (apply Sel.cons; (repeat (first | with_reducible exact Pick.here _ _ | with_reducible apply Pick.there))))))) ?_
      intro k hk
      by_cases hkl : k < ts.length
      · have hown := fun A c w' h1 h2 => ownOrder_any A0 A c0 c ts cs (k : Int) w' hts h1 h2 k2 (hof k hkl)
        have hrl := (ownO_path (hof k hkl) (r := ((ownO ts cs (k : Int)).getD [])) (by
          obtain ⟨r, hr⟩ := Option.isSome_iff_exists.1 (hsm k hkl)
          rw [hr]; rfl)).1
        have hof9 := (hof k hkl).few
        have hrow : (rowO ts cs k).length ≤ 9 := by unfold rowO; rw [List.length_map]; omega
        rw [oMap_some (hsm k hkl)] at hown
        have hpk := hpg k (by omega)
        rw [hsm k hkl] at hpk
        have hwk := hWg k (by omega)
        have hnk := hh2 k (by omega) (by omega)
        rw [hwk] at hnk
        generalize rowO ts cs k = R at *
        have heq : ∀ A B c d w', RdE Stp.enc 2 w' A R → RdE Stp.enc 2 w' B R → Calls Try.prog 35 #[.slice A (hs[k]'(by omega)).n c, .slice B R.length d] w' fun e w'' => e = .returned (.bool true) ∧ Below w'.heap.size w' w'' := fun A B c d w' h1 h2 => by
          have h := equalStp_any A B c d R R w' (by omega) (by omega) h1 h2
          rw [decide_eq_true rfl] at h
          rw [hnk]; exact h
        have hrd : ∀ (C : Ctx) (S : List Ent) (w' : World), Mem C w' S → entInner Stp.enc 2 72 hs W ∈ S → RdE Stp.enc 2 w' (hs[k]'(by omega)).a R := fun C S w' hw hm => by
          have h := (hw.innerRd (j := k) hm (fun _ => rfl) (by omega) (by omega)).2
          rw [hwk] at h; exact h
        refine T_own (enc := boolEnc) (ls := PL) (by first | ((repeat (first | with_reducible exact List.mem_cons_self | with_reducible apply List.mem_cons_of_mem)); done) | (repeat (first | exact List.Mem.head _ | apply List.Mem.tail))) (by omega) ?_
        rintro gP rfl
        refine T_own (enc := hdEnc) (ls := hs) (by first | ((repeat (first | with_reducible exact List.mem_cons_self | with_reducible apply List.mem_cons_of_mem)); done) | (repeat (first | exact List.Mem.head _ | apply List.Mem.tail))) (by omega) ?_
        rintro gO rfl
        repeat' (first | ((first | with_reducible (first | apply TL_q | apply TD_q0 | apply TD_q1 | apply TD_q2 | apply TD_q3) | ((with_reducible (first | apply TD_q0y | apply TD_q1y)); exact rfl; exact rfl; (with_reducible exact rfl))); (first | exact QS.auto | ((with_reducible apply QS_neqNil); exact rfl; exact rfl) | ((with_reducible apply QS_eqlB); exact rfl; exact rfl) | ((with_reducible apply QS_neqB); exact rfl; exact rfl)); exact rfl) | (refine GO ?_) | (refine GOE ?_; (first | (rintro _ _ ⟨rfl, rfl⟩) | (rintro _ _ ⟨g, rfl, rfl⟩) | (rintro _ _ ⟨A', c', rfl, rfl⟩))) | ((refine GO2 ?_ ?_) <;> intro h <;> (try (repeat (first | with_reducible (replace h := of_decide_eq_true h) | with_reducible (replace h := of_decide_eq_false h) | with_reducible (replace h := bnt h) | with_reducible (replace h := bnf h) | with_reducible (replace h := Int.not_lt.mp h) | with_reducible (replace h := Int.not_le.mp h) | with_reducible (replace h := band_dec h) | with_reducible (replace h := band_decF h) | with_reducible (replace h := bor_dec h) | with_reducible (replace h := bor_decF h)))) <;> (try (exfalso; first | contradiction | omega))) | ((with_reducible (first | apply TD_e2z | apply TD_e3z | apply TL_e | apply TD_e2 | apply TD_e3)); ((with_reducible apply ES_callNew (f := 58) (X := Addr × Nat) (outV (some R)) (outS (some R))); exact rfl; (intro x; dsimp only [outS]; repeat (first | exact AppL.nil _ | apply AppL.cons)); (intro w hw; exact hown _ _ w (hw.rd rfl hT) (hw.ownRd (et := 76) (c := c3) (by first | ((repeat (first | with_reducible exact List.mem_cons_self | with_reducible apply List.mem_cons_of_mem)); done) | (repeat (first | exact List.Mem.head _ | apply List.Mem.tail))) (fun _ => rfl))); exact rfl); (first | exact rfl | exact ⟨rfl, rfl, rfl⟩); (rintro _ _ ⟨⟨a9, c9⟩, rfl, rfl⟩); (try refine ⟨SUB, ?_⟩)) | ((with_reducible (first | apply TD_e2z | apply TD_e3z | apply TL_e | apply TD_e2 | apply TD_e3)); ((with_reducible apply ES_callV (f := 35)); exact rfl; (intro w hw; exact heq _ _ _ _ w (hrd _ _ w hw (by first | ((repeat (first | with_reducible exact List.mem_cons_self | with_reducible apply List.mem_cons_of_mem)); done) | (repeat (first | exact List.Mem.head _ | apply List.Mem.tail)))) (hw.ownRd (by first | ((repeat (first | with_reducible exact List.mem_cons_self | with_reducible apply List.mem_cons_of_mem)); done) | (repeat (first | exact List.Mem.head _ | apply List.Mem.tail))) (fun _ => rfl))); exact rfl); (first | exact rfl | exact ⟨rfl, rfl, rfl⟩); (rintro _ _ ⟨rfl, rfl⟩); (try refine ⟨SUB, ?_⟩)) | fail)
        all_goals
          apply At_rounds (k + 1)
          case hE =>
            have q : (!(some (a9, c9).fst).isNone) = true := rfl
            (try dsimp only)
            first | rw [q] | skip
            (repeat (first | exact SubE.nil _ | refine SubE.cons rfl ?_))
          case hS => exact fun w' hw => hw.sel (by (repeat (first | exact Sel.nil _ | (apply Sel.cons; (repeat (first | with_reducible exact Pick.here _ _ | with_reducible apply Pick.there))))))
          case hμ => (try dsimp only); omega
          case hp => (try dsimp only); omega
      · obtain rfl : k = ts.length := by omega
        repeat' (first | ((first | with_reducible (first | apply TL_q | apply TD_q0 | apply TD_q1 | apply TD_q2 | apply TD_q3) | ((with_reducible (first | apply TD_q0y | apply TD_q1y)); exact rfl; exact rfl; (with_reducible exact rfl))); (first | exact QS.auto | ((with_reducible apply QS_neqNil); exact rfl; exact rfl) | ((with_reducible apply QS_eqlB); exact rfl; exact rfl) | ((with_reducible apply QS_neqB); exact rfl; exact rfl)); exact rfl) | (refine GO ?_) | (refine GOE ?_; (first | (rintro _ _ ⟨rfl, rfl⟩) | (rintro _ _ ⟨g, rfl, rfl⟩) | (rintro _ _ ⟨A', c', rfl, rfl⟩))) | ((refine GO2 ?_ ?_) <;> intro h <;> (try (repeat (first | with_reducible (replace h := of_decide_eq_true h) | with_reducible (replace h := of_decide_eq_false h) | with_reducible (replace h := bnt h) | with_reducible (replace h := bnf h) | with_reducible (replace h := Int.not_lt.mp h) | with_reducible (replace h := Int.not_le.mp h) | with_reducible (replace h := band_dec h) | with_reducible (replace h := band_decF h) | with_reducible (replace h := bor_dec h) | with_reducible (replace h := bor_decF h)))) <;> (try (exfalso; first | contradiction | omega))) | fail)
        (refine At_ret Try.results12 rfl (fun w' hw => ?_))
        exact ⟨by simp [resVal], hw.below0 rfl⟩
    · rw [if_neg hall] at hE
      subst hE
      rw [if_neg (by decide)] at hR
      subst hR
      have hkm := fun k => allK_succ ts cs k
      have hke : allK ts cs ts.length = false := by
        have : allK ts cs ts.length = allO ts cs := rfl
        rw [this]
        exact Bool.eq_false_iff.2 hall
      repeat' (first | ((first | with_reducible (first | apply TL_q | apply TD_q0 | apply TD_q1 | apply TD_q2 | apply TD_q3) | ((with_reducible (first | apply TD_q0y | apply TD_q1y)); exact rfl; exact rfl; (with_reducible exact rfl))); (first | exact QS.auto | ((with_reducible apply QS_neqNil); exact rfl; exact rfl) | ((with_reducible apply QS_eqlB); exact rfl; exact rfl) | ((with_reducible apply QS_neqB); exact rfl; exact rfl)); exact rfl) | (refine GO ?_) | (refine GOE ?_; (first | (rintro _ _ ⟨rfl, rfl⟩) | (rintro _ _ ⟨g, rfl, rfl⟩) | (rintro _ _ ⟨A', c', rfl, rfl⟩))) | ((refine GO2 ?_ ?_) <;> intro h <;> (try (repeat (first | with_reducible (replace h := of_decide_eq_true h) | with_reducible (replace h := of_decide_eq_false h) | with_reducible (replace h := bnt h) | with_reducible (replace h := bnf h) | with_reducible (replace h := Int.not_lt.mp h) | with_reducible (replace h := Int.not_le.mp h) | with_reducible (replace h := band_dec h) | with_reducible (replace h := band_decF h) | with_reducible (replace h := bor_dec h) | with_reducible (replace h := bor_decF h)))) <;> (try (exfalso; first | contradiction | omega))) | ((with_reducible (first | apply TD_e2z | apply TD_e3z | apply TL_e | apply TD_e2 | apply TD_e3)); ((with_reducible apply ES_callOwn (f := 56)); exact rfl; (intro w hw; exact hpa w (hw.rd rfl hT) (hw.rd rfl hA)); exact rfl); (first | exact rfl | exact ⟨rfl, rfl, rfl⟩); (rintro _ _ ⟨A1, c1, rfl, rfl⟩); (try refine ⟨SUB, ?_⟩)) | ((with_reducible (first | apply TD_e2z | apply TD_e3z | apply TL_e | apply TD_e2 | apply TD_e3)); ((with_reducible apply ES_callRows (f := 57) (enc := Stp.enc) (M := 2) (e := 72) (e2 := 59) (rows := []) (r := fun A c hs => .tuple #[.slice A hs.length c, .int .i64 4])); exact rfl; (intro w hw; exact hor w (hw.rd rfl hT) (hw.rd rfl hA)); exact rfl); (first | exact rfl | exact ⟨rfl, rfl, rfl⟩); (rintro _ _ ⟨AO, cO, hs, hHd, rfl, rfl⟩); (try refine ⟨SUB, ?_⟩)) | ((with_reducible (first | apply TD_e2z | apply TD_e3z | apply TL_e | apply TD_e2 | apply TD_e3)); ((with_reducible apply ES_callOwn (f := 31)); exact rfl; (intro w hw; exact hlc w (hw.rd rfl hT) (hw.rd rfl hA)); exact rfl); (first | exact rfl | exact ⟨rfl, rfl, rfl⟩); (rintro _ _ ⟨A3, c3, rfl, rfl⟩); (try refine ⟨SUB, ?_⟩)) | fail)
      obtain ⟨hh1, hh2⟩ := hHd
      have hh0 : hs.length = 0 := hh1
      refine T_loop (X := Nat) (fun k => [(63, .int .i64 (k : Nat)), (62, .int .i64 ts.length), (11, .bool (allK ts cs k)), (5, .slice A1 PL.length c1), (7, .slice AO hs.length cO), (8, .int .i64 4), (9, .slice A3 cs.length c3), (0, .slice A0 ts.length c0)])
        (fun _ => [entOwn boolEnc 1 4 A1 c1 PL, entOwn Cl.enc 7 76 A3 c3 cs]) (fun k => k ≤ ts.length) (fun k => ts.length - k) 0 (by omega) (by (repeat (first | exact SubE.nil _ | refine SubE.cons rfl ?_))) (fun w' hw => hw.sel (by (repeat (first | exact Sel.nil _ | (apply Sel.cons; (repeat (first | with_reducible exact Pick.here _ _ | with_reducible apply Pick.there))))))) ?_
      intro k hk
      by_cases hkl : k < ts.length
      · have hown := fun A c w' h1 h2 => ownOrder_any A0 A c0 c ts cs (k : Int) w' hts h1 h2 k2 (hof k hkl)
        have hpk := hpg k (by omega)
        have hkk := hkm k
        cases hs1 : (ownO ts cs (k : Int)).isSome with
        | false =>
          rw [oMap_none hs1] at hown
          rw [hs1] at hpk hkk
          generalize allK ts cs k = b at *
          cases b
          all_goals
            refine T_own (enc := boolEnc) (ls := PL) (by first | ((repeat (first | with_reducible exact List.mem_cons_self | with_reducible apply List.mem_cons_of_mem)); done) | (repeat (first | exact List.Mem.head _ | apply List.Mem.tail))) (by omega) ?_
            rintro gP rfl
            repeat' (first | ((first | with_reducible (first | apply TL_q | apply TD_q0 | apply TD_q1 | apply TD_q2 | apply TD_q3) | ((with_reducible (first | apply TD_q0y | apply TD_q1y)); exact rfl; exact rfl; (with_reducible exact rfl))); (first | exact QS.auto | ((with_reducible apply QS_neqNil); exact rfl; exact rfl) | ((with_reducible apply QS_eqlB); exact rfl; exact rfl) | ((with_reducible apply QS_neqB); exact rfl; exact rfl)); exact rfl) | (refine GO ?_) | (refine GOE ?_; (first | (rintro _ _ ⟨rfl, rfl⟩) | (rintro _ _ ⟨g, rfl, rfl⟩) | (rintro _ _ ⟨A', c', rfl, rfl⟩))) | ((refine GO2 ?_ ?_) <;> intro h <;> (try (repeat (first | with_reducible (replace h := of_decide_eq_true h) | with_reducible (replace h := of_decide_eq_false h) | with_reducible (replace h := bnt h) | with_reducible (replace h := bnf h) | with_reducible (replace h := Int.not_lt.mp h) | with_reducible (replace h := Int.not_le.mp h) | with_reducible (replace h := band_dec h) | with_reducible (replace h := band_decF h) | with_reducible (replace h := bor_dec h) | with_reducible (replace h := bor_decF h)))) <;> (try (exfalso; first | contradiction | omega))) | ((with_reducible (first | apply TD_e2z | apply TD_e3z | apply TL_e | apply TD_e2 | apply TD_e3)); ((with_reducible apply ES_callNew (f := 58) (X := Addr × Nat) (outV none) (outS none)); exact rfl; (intro x; dsimp only [outS]; repeat (first | exact AppL.nil _ | apply AppL.cons)); (intro w hw; exact hown _ _ w (hw.rd rfl hT) (hw.ownRd (et := 76) (c := c3) (by first | ((repeat (first | with_reducible exact List.mem_cons_self | with_reducible apply List.mem_cons_of_mem)); done) | (repeat (first | exact List.Mem.head _ | apply List.Mem.tail))) (fun _ => rfl))); exact rfl); (first | exact rfl | exact ⟨rfl, rfl, rfl⟩); (rintro _ _ ⟨⟨a9, c9⟩, rfl, rfl⟩); (try refine ⟨SUB, ?_⟩)) | fail)
          all_goals
            apply At_rounds (k + 1)
            case hE =>
              have q : (!((none : Option Addr)).isNone) = false := rfl
              (try dsimp only)
              have hkk' : allK ts cs (k + 1) = _ := hkk
              simp only [Bool.and_true, Bool.and_false] at hkk'
              rw [hkk']
              first | rw [q] | skip
              (repeat (first | exact SubE.nil _ | refine SubE.cons rfl ?_))
            case hS => exact fun w' hw => hw.sel (by (repeat (first | exact Sel.nil _ | (apply Sel.cons; (repeat (first | with_reducible exact Pick.here _ _ | with_reducible apply Pick.there))))))
            case hμ => (try dsimp only); omega
            case hp => (try dsimp only); omega
        | true =>
          rw [oMap_some hs1] at hown
          rw [hs1] at hpk hkk
          generalize rowO ts cs k = R at *
          generalize allK ts cs k = b at *
          cases b
          all_goals
            refine T_own (enc := boolEnc) (ls := PL) (by first | ((repeat (first | with_reducible exact List.mem_cons_self | with_reducible apply List.mem_cons_of_mem)); done) | (repeat (first | exact List.Mem.head _ | apply List.Mem.tail))) (by omega) ?_
            rintro gP rfl
            repeat' (first | ((first | with_reducible (first | apply TL_q | apply TD_q0 | apply TD_q1 | apply TD_q2 | apply TD_q3) | ((with_reducible (first | apply TD_q0y | apply TD_q1y)); exact rfl; exact rfl; (with_reducible exact rfl))); (first | exact QS.auto | ((with_reducible apply QS_neqNil); exact rfl; exact rfl) | ((with_reducible apply QS_eqlB); exact rfl; exact rfl) | ((with_reducible apply QS_neqB); exact rfl; exact rfl)); exact rfl) | (refine GO ?_) | (refine GOE ?_; (first | (rintro _ _ ⟨rfl, rfl⟩) | (rintro _ _ ⟨g, rfl, rfl⟩) | (rintro _ _ ⟨A', c', rfl, rfl⟩))) | ((refine GO2 ?_ ?_) <;> intro h <;> (try (repeat (first | with_reducible (replace h := of_decide_eq_true h) | with_reducible (replace h := of_decide_eq_false h) | with_reducible (replace h := bnt h) | with_reducible (replace h := bnf h) | with_reducible (replace h := Int.not_lt.mp h) | with_reducible (replace h := Int.not_le.mp h) | with_reducible (replace h := band_dec h) | with_reducible (replace h := band_decF h) | with_reducible (replace h := bor_dec h) | with_reducible (replace h := bor_decF h)))) <;> (try (exfalso; first | contradiction | omega))) | ((with_reducible (first | apply TD_e2z | apply TD_e3z | apply TL_e | apply TD_e2 | apply TD_e3)); ((with_reducible apply ES_callNew (f := 58) (X := Addr × Nat) (outV (some R)) (outS (some R))); exact rfl; (intro x; dsimp only [outS]; repeat (first | exact AppL.nil _ | apply AppL.cons)); (intro w hw; exact hown _ _ w (hw.rd rfl hT) (hw.ownRd (et := 76) (c := c3) (by first | ((repeat (first | with_reducible exact List.mem_cons_self | with_reducible apply List.mem_cons_of_mem)); done) | (repeat (first | exact List.Mem.head _ | apply List.Mem.tail))) (fun _ => rfl))); exact rfl); (first | exact rfl | exact ⟨rfl, rfl, rfl⟩); (rintro _ _ ⟨⟨a9, c9⟩, rfl, rfl⟩); (try refine ⟨SUB, ?_⟩)) | fail)
          all_goals
            apply At_rounds (k + 1)
            case hE =>
              have q : (!(some (a9, c9).fst).isNone) = true := rfl
              (try dsimp only)
              have hkk' : allK ts cs (k + 1) = _ := hkk
              simp only [Bool.and_true, Bool.and_false] at hkk'
              rw [hkk']
              first | rw [q] | skip
              (repeat (first | exact SubE.nil _ | refine SubE.cons rfl ?_))
            case hS => exact fun w' hw => hw.sel (by (repeat (first | exact Sel.nil _ | (apply Sel.cons; (repeat (first | with_reducible exact Pick.here _ _ | with_reducible apply Pick.there))))))
            case hμ => (try dsimp only); omega
            case hp => (try dsimp only); omega
      · obtain rfl : k = ts.length := by omega
        rw [hke]
        repeat' (first | ((first | with_reducible (first | apply TL_q | apply TD_q0 | apply TD_q1 | apply TD_q2 | apply TD_q3) | ((with_reducible (first | apply TD_q0y | apply TD_q1y)); exact rfl; exact rfl; (with_reducible exact rfl))); (first | exact QS.auto | ((with_reducible apply QS_neqNil); exact rfl; exact rfl) | ((with_reducible apply QS_eqlB); exact rfl; exact rfl) | ((with_reducible apply QS_neqB); exact rfl; exact rfl)); exact rfl) | (refine GO ?_) | (refine GOE ?_; (first | (rintro _ _ ⟨rfl, rfl⟩) | (rintro _ _ ⟨g, rfl, rfl⟩) | (rintro _ _ ⟨A', c', rfl, rfl⟩))) | ((refine GO2 ?_ ?_) <;> intro h <;> (try (repeat (first | with_reducible (replace h := of_decide_eq_true h) | with_reducible (replace h := of_decide_eq_false h) | with_reducible (replace h := bnt h) | with_reducible (replace h := bnf h) | with_reducible (replace h := Int.not_lt.mp h) | with_reducible (replace h := Int.not_le.mp h) | with_reducible (replace h := band_dec h) | with_reducible (replace h := band_decF h) | with_reducible (replace h := bor_dec h) | with_reducible (replace h := bor_decF h)))) <;> (try (exfalso; first | contradiction | omega))) | fail)
        all_goals
          first
            | (exfalso; omega)
            | ((refine At_ret Try.results12 rfl (fun w' hw => ?_)); exact ⟨by simp [resVal, hh0], hw.below0 rfl⟩)
  · rw [if_pos h0] at hE
    subst hE
    rw [if_neg h0] at hR hpa
    subst hR
    repeat' (first | ((first | with_reducible (first | apply TL_q | apply TD_q0 | apply TD_q1 | apply TD_q2 | apply TD_q3) | ((with_reducible (first | apply TD_q0y | apply TD_q1y)); exact rfl; exact rfl; (with_reducible exact rfl))); (first | exact QS.auto | ((with_reducible apply QS_neqNil); exact rfl; exact rfl) | ((with_reducible apply QS_eqlB); exact rfl; exact rfl) | ((with_reducible apply QS_neqB); exact rfl; exact rfl)); exact rfl) | (refine GO ?_) | (refine GOE ?_; (first | (rintro _ _ ⟨rfl, rfl⟩) | (rintro _ _ ⟨g, rfl, rfl⟩) | (rintro _ _ ⟨A', c', rfl, rfl⟩))) | ((refine GO2 ?_ ?_) <;> intro h <;> (try (repeat (first | with_reducible (replace h := of_decide_eq_true h) | with_reducible (replace h := of_decide_eq_false h) | with_reducible (replace h := bnt h) | with_reducible (replace h := bnf h) | with_reducible (replace h := Int.not_lt.mp h) | with_reducible (replace h := Int.not_le.mp h) | with_reducible (replace h := band_dec h) | with_reducible (replace h := band_decF h) | with_reducible (replace h := bor_dec h) | with_reducible (replace h := bor_decF h)))) <;> (try (exfalso; first | contradiction | omega))) | ((with_reducible (first | apply TD_e2z | apply TD_e3z | apply TL_e | apply TD_e2 | apply TD_e3)); ((with_reducible apply ES_callOwn (f := 56)); exact rfl; (intro w hw; exact hpa w (hw.rd rfl hT) (hw.rd rfl hA)); exact rfl); (first | exact rfl | exact ⟨rfl, rfl, rfl⟩); (rintro _ _ ⟨A1, c1, rfl, rfl⟩); (try refine ⟨SUB, ?_⟩)) | ((with_reducible (first | apply TD_e2z | apply TD_e3z | apply TL_e | apply TD_e2 | apply TD_e3)); ((with_reducible apply ES_callRows (f := 57) (enc := Stp.enc) (M := 2) (e := 72) (e2 := 59) (rows := []) (r := fun A c hs => .tuple #[.slice A hs.length c, .int .i64 fe])); exact rfl; (intro w hw; exact hor w (hw.rd rfl hT) (hw.rd rfl hA)); exact rfl); (first | exact rfl | exact ⟨rfl, rfl, rfl⟩); (rintro _ _ ⟨AO, cO, hs, hHd, rfl, rfl⟩); (try refine ⟨SUB, ?_⟩)) | ((with_reducible (first | apply TD_e2z | apply TD_e3z | apply TL_e | apply TD_e2 | apply TD_e3)); ((with_reducible apply ES_callOwn (f := 31)); exact rfl; (intro w hw; exact hlc w (hw.rd rfl hT) (hw.rd rfl hA)); exact rfl); (first | exact rfl | exact ⟨rfl, rfl, rfl⟩); (rintro _ _ ⟨A3, c3, rfl, rfl⟩); (try refine ⟨SUB, ?_⟩)) | fail)
    all_goals
      have hh0 : hs.length = 0 := hHd.1
      first
        | (exfalso; simp_all; done)
        | ((refine At_ret Try.results12 rfl (fun w' hw => ?_)); exact ⟨by simp [resVal, hh0], hw.below0 rfl⟩)

end

open Go.ChangeShapes Go.WideShapes Go.ChangeAt Go.Deep in
set_option maxRecDepth 100000 in
theorem localSays_contract (H : Type) (enc : TypeId × Value → H) (W : World) (base : Nat) (args : Array Value) (ds gs : List (DataW H)) (before : List MemPlace)
    (hval : ∀ (j : Nat) t v, Try.f12.params[j]? = some t → args[j]? = some v → Value.okWide Try.prog W .any base t v)
    (hW : DataW.Whole enc Try.prog Try.f12.params.toList Rows.localSaysSpec.vars false W args.toList ds gs before) :
    Calls Try.prog 12 args W fun e W' => ∃ v, e = .returned v ∧ Rows.localSaysSpec.post enc Try.prog Try.f12 false true false false W args v W' := by
  have hW' := hW
  obtain ⟨p, q, hA, -, -, -, -⟩ := hW
  rw [Try.params12] at hA hval
  obtain ⟨v0, vs0, d0, ds0, p0, q0, hargs0, rfl, rfl, h0, r0⟩ := trodAll_cons hA
  obtain ⟨v1, vs1, d1, ds1, p1, q1, hargs1, rfl, rfl, h1, r1⟩ := trodAll_cons r0
  obtain ⟨rfl, rfl, rfl⟩ := trodAll_nil r1
  obtain rfl : args = #[v0, v1] := by cases args; simp_all
  obtain ⟨A, n, c, rfl⟩ := okWide_slice Try.underlying22 (hval 0 _ _ rfl rfl)
  obtain ⟨B, m, d, rfl⟩ := okWide_slice Try.underlying35 (hval 1 _ _ rfl rfl)
  obtain ⟨fuel, hf⟩ := h0
  obtain ⟨fuel1, hf1⟩ := h1
  obtain ⟨A', len, cap, Z, hcs, hlen, hlc, hZ⟩ := open_int_list Try.underlying22 Try.underlying3 (by kernel_rfl) hf
  have hcs' : A = A' ∧ n = len ∧ c = cap := by simpa [Value.cells] using hcs
  obtain ⟨rfl, rfl, rfl⟩ := hcs'
  obtain ⟨B', len1, cap1, Z1, hcs1, hlen1, hlc1, hZ1⟩ := open_int_rows Try.underlying35 Try.underlying45 (by kernel_rfl) (by kernel_rfl) Try.underlying3 (by kernel_rfl) hf1
  have hcs1' : B = B' ∧ m = len1 ∧ d = cap1 := by simpa [Value.cells] using hcs1
  obtain ⟨rfl, rfl, rfl⟩ := hcs1'
  have hl : ((List.range n).map fun i => Z i 0).length = n := by simp
  have hl1 : ((List.range m).map fun i => (⟨Z1 i 0, Z1 i 1, Z1 i 2, Z1 i 3⟩ : Ev)).length = m := by simp
  have hR : RdInt W A ((List.range n).map fun i => Z i 0) := rdE_of_list hZ
  have hR1 : RdEv W B ((List.range m).map fun i => (⟨Z1 i 0, Z1 i 1, Z1 i 2, Z1 i 3⟩ : Ev)) :=
    rdE_of_rows (fun z => (⟨z 0, z 1, z 2, z 3⟩ : Ev)) Ev.enc (by decide) (fun z j v hv => by
      match j, hv with
      | 0, hv => exact ⟨by decide, by simpa [Ev.enc] using hv.symm⟩
      | 1, hv => exact ⟨by decide, by simpa [Ev.enc] using hv.symm⟩
      | 2, hv => exact ⟨by decide, by simpa [Ev.enc] using hv.symm⟩
      | 3, hv => exact ⟨by decide, by simpa [Ev.enc] using hv.symm⟩
      | j + 4, hv => simp [Ev.enc] at hv) hZ1
  unfold maxLen at hlen hlen1
  have hcall : Calls Try.prog 12 #[.slice A n c, .slice B m d] W fun e W' => e = .returned (.bool true) ∧ Below W.heap.size W W' := by
    generalize ((List.range n).map fun i => Z i 0) = ts at *
    generalize ((List.range m).map fun i => (⟨Z1 i 0, Z1 i 1, Z1 i 2, Z1 i 3⟩ : Ev)) = l at *
    subst hl hl1
    exact localSays_any A B c d ts l W (by omega) (by omega) hR hR1
  refine hcall.mono fun e W' ⟨he, hb⟩ => ⟨_, he, ?_⟩
  exact law_post laidOut (by kernel_rfl) rfl rfl Try.underlying4 hW' (fun _ => by subst_vars; rfl) hb

open Go.ChangeShapes Go.WideShapes Go.ChangeAt Go.Deep in
set_option maxRecDepth 100000 in
theorem localSays_lifted (os : Os) (started : os.Started) (H : Type) (enc : TypeId × Value → H) :
    ReturnsInHanded {} Try.checked os 12 .any (Rows.localSaysSpec.pre6 enc Try.prog Try.f12 Rows.localSaysRow.domain false) (Rows.localSaysSpec.post enc Try.prog Try.f12 false true false false) := by
  refine returnsInHanded_of_change (C := Try.checked) own started (by kernel_rfl) Try.func12
    (ChangeSpec.witness6 (enc := enc) (C := Try.checked) false ⟨#[], #[.slice none 0 0, .slice none 0 0], []⟩ 8 (by kernel_rfl) (by kernel_rfl) (by kernel_rfl) (by kernel_rfl)) ?_
  intro W base args ds gs before hval hW _ _
  exact localSays_contract H enc W base args ds gs before hval hW
theorem localSays_holds : Rows.LocalSaysSaid :=
  OpenClaim.holds_of_wide 12 Try.f12 rfl rfl rfl rfl rfl rfl rfl ⟨rfl, rfl, rfl, rfl, rfl⟩ rfl rfl rfl rfl rfl (by kernel_rfl) Try.func12 (by kernel_rfl)
    (of_decide_eq_true (by kernel_rfl)) (by unfold Func.isWrapper; first | (rw [if_pos (by decide +kernel)]; kernel_rfl) | (rw [if_neg (by decide +kernel)]; exact ⟨rfl, rfl⟩))
    (fun os started H enc _ => localSays_lifted os started H enc)
#print axioms localSays_holds
end Go.Proofs.Ytiimjppceobkfaa
