/- The law SerialLocks: whatever list of deeds is handed in, the law returns true. No condition. -/
import Derived.Test.YtnbgcgpkpakicaaLocksPlain
import Derived.Test.YtnbgcgpkpakicaaLaw
namespace Go.Proofs.Ytnbgcgpkpakicaa
open Go.RowKit

set_option maxHeartbeats 1000000 in
theorem locks_bad (A : Option Addr) (c : Nat) (l : List Deed) (w : World) (hl : l.length ≤ 9223372036854775807) (hA : RdDeed w A l) (h0 : ¬ (chkD l).2 = 0) :
    Calls Try.prog 18 #[.slice A l.length c] w fun e w' => e = .returned (.tuple #[.bool false, .bool false, .int .i64 (chkD l).2]) ∧ Below w.heap.size w w' := by
  have hne : ((chkD l).2 != 0) = true := by simp [h0]
  clear h0
  go_enter Try.func18, Try.ntmps18
  go_wp2_with (go_at_call 48; refine (serialCheck_any _ _ _ _ (by omega) hA).mono ?_; rintro e w1 ⟨rfl, hb1⟩)
  go_ret3
  exact ⟨rfl, hb1⟩

set_option maxRecDepth 20000 in
set_option maxHeartbeats 1000000 in
theorem serialLocks_bad (A : Option Addr) (c : Nat) (l : List Deed) (w : World) (hl : l.length ≤ 9223372036854775807) (hA : RdDeed w A l) (h0 : ¬ (chkD l).2 = 0) :
    Calls Try.prog 5 #[.slice A l.length c] w fun e w' => e = .returned (.bool true) ∧ Below w.heap.size w w' := by
  have H0 := Lib.hid h0
  have hne : ((chkD l).2 != 0) = true := by simp [h0]
  clear h0
  go_enter Try.func5, Try.ntmps5
  go_wp2_with (first
    | (go_at_call 18; refine (locks_bad _ _ _ _ (by omega) hA H0.out).mono ?_; rintro e w1 ⟨rfl, hb1⟩)
    | (go_at_call 19; refine (deedsRight_any _ _ _ _ (by omega) (hA.below hb1)).mono ?_; rintro e w2 ⟨rfl, hb2⟩))
  go_ret
  exact ⟨rfl, bel_trans hb1 hb2⟩

set_option maxRecDepth 20000 in
set_option maxHeartbeats 4000000 in
theorem serialLocks_ok (A : Option Addr) (c : Nat) (l : List Deed) (w : World) (hl : l.length ≤ 9223372036854775807) (hlc : l.length ≤ c) (hA : RdDeed w A l) (h0 : (chkD l).2 = 0) :
    Calls Try.prog 5 #[.slice A l.length c] w fun e w' => e = .returned (.bool true) ∧ Below w.heap.size w w' := by
  have H0 := Lib.hid h0
  have Hs := Lib.hid (locks_says l h0)
  have hne : ((chkD l).2 != 0) = false := by simp [h0]
  clear h0
  go_enter Try.func5, Try.ntmps5
  go_wp2_with (first
    | (go_at_call 18; refine (locks_ok _ _ _ _ (by omega) hA H0.out).mono ?_; rintro e w1 ⟨rfl, hb1⟩)
    | (go_at_call 19; refine (deedsRight_any _ _ _ _ (by omega) (hA.below hb1)).mono ?_; rintro e w2 ⟨rfl, hb2⟩))
  have hB2 := bel_trans hb1 hb2
  rw [Hs.out.1, Hs.out.2]
  clear hb1 hb2
  go_loopw [8, 39] (fun t i wr => ∃ k : Nat, k ≤ l.length ∧ i = .int .i64 k ∧ t = .bool ((List.range k).all (twoAt l)) ∧ Below w.heap.size w wr) (fun _ i _ => l.length - (intOf i).toNat)
  case atStart => exact ⟨0, by omega, rfl, rfl, hB2⟩
  case round =>
    obtain ⟨k, hk, rfl, rfl, hbel⟩ := hrel
    by_cases hlt : k < l.length
    · obtain ⟨b, o, rfl, -, hbs, c0, c1, c2⟩ := hA.at_ hbel k hlt
      have Ht := Lib.hid ((all_range_succ (twoAt l) k).trans (by rw [twoAt_eq hlt]))
      generalize (List.range k).all (twoAt l) = t at *
      have hkc : k ≤ c := by omega
      go_wp2_with (fail)
      obtain ⟨wo, rfl⟩ : ∃ wo : World, wo = wr := ⟨_, rfl⟩
      go_loopw [8, 48] (fun m i wr => ∃ q : Nat, q ≤ k ∧ i = .int .i64 q ∧ m = .bool (t && (l.take q).all (twoIn l[k])) ∧ Below w.heap.size w wr ∧ Blk wr wo.heap.size 48 #[.int .i64 l[k].who, .int .i64 l[k].kind, .int .i64 l[k].item]) (fun _ i _ => k - (intOf i).toNat)
      case atStart => exact ⟨0, by omega, rfl, by simp, by (repeat (first | assumption | exact Below.refl _ _ | refine bel_alloc ?_ _ | refine Below.drew ?_ | refine below_drewN' ?_ _ | (refine bel_set ?_ (by first | (simp; done) | (simp; omega)) _) | (refine bel_row ?_ (by first | (simp; done) | (simp; omega)) _))), Blk.new _ _ _⟩
      case round =>
        obtain ⟨q, hq, rfl, rfl, hbel2, hbx2⟩ := hrel
        have x0 := hbx2.cell 0
        have x1 := hbx2.cell 1
        have x2 := hbx2.cell 2
        have x5 := hbx2.lt
        simp only [List.getElem?_toArray, List.getElem?_cons_succ, List.getElem?_cons_zero] at x0 x1 x2
        by_cases hlt2 : q < k
        · obtain ⟨b', o', e', hb0', hbs', d0, d1, d2⟩ := hA.at_ hbel2 q (by omega)
          obtain ⟨rfl, rfl⟩ : b = b' ∧ o = o' := by simpa using e'
          have Hq := Lib.hid (show (t && (l.take (q + 1)).all (twoIn l[k])) = (t && (l.take q).all (twoIn l[k]) && twoIn l[k] l[q]) by rw [all_take_succ (by omega), Bool.and_assoc])
          generalize (t && (l.take q).all (twoIn l[k])) = m at *
          clear e' Ht
          cases m
          · go_wp2_with (fail)
            go_roundw
            case rel => exact ⟨q + 1, by omega, by go_num, by rw [Hq.out]; simp, by (repeat (first | assumption | exact Below.refl _ _ | refine bel_alloc ?_ _ | refine Below.drew ?_ | refine below_drewN' ?_ _ | (refine bel_set ?_ (by first | (simp; done) | (simp; omega)) _) | (refine bel_row ?_ (by first | (simp; done) | (simp; omega)) _))), hbx2.alloc _⟩
            case measure => simp [intOf]; omega
          · go_wp2_with (go_at_call 16; refine (between_any _ _ _ _).mono ?_; rintro e w' ⟨rfl, rfl⟩)
            all_goals
              go_roundw
              case rel => exact ⟨q + 1, by omega, by go_num, by rw [Hq.out]; simp_all [twoIn], by (repeat (first | assumption | exact Below.refl _ _ | refine bel_alloc ?_ _ | refine Below.drew ?_ | refine below_drewN' ?_ _ | (refine bel_set ?_ (by first | (simp; done) | (simp; omega)) _) | (refine bel_row ?_ (by first | (simp; done) | (simp; omega)) _))), hbx2.alloc _⟩
              case measure => simp [intOf]; omega
        · obtain rfl : q = k := by omega
          go_wp2_with (fail)
          go_roundw
          case rel => exact ⟨q + 1, by omega, by go_num, by rw [Ht.out], by (repeat (first | assumption | exact Below.refl _ _ | refine bel_alloc ?_ _ | refine Below.drew ?_ | refine below_drewN' ?_ _ | (refine bel_set ?_ (by first | (simp; done) | (simp; omega)) _) | (refine bel_row ?_ (by first | (simp; done) | (simp; omega)) _)))⟩
          case measure => simp [intOf]; omega
    · obtain rfl : k = l.length := by omega
      have Ht := Lib.hid (show (List.range l.length).all (twoAt l) = two l from rfl)
      rw [Ht.out]
      generalize two l = t at *
      have hc := legal_any A c l wr (by omega) hlc (hA.below hbel)
      generalize legal l = g at *
      have Hc := Lib.hid hc; clear hc
      have htt : (t == t) = true := by simp
      have hgg : (g == g) = true := by simp
      go_wp2_with (go_at_call 20; refine Hc.out.mono ?_; rintro e w3 ⟨rfl, hb3⟩)
      go_ret
      exact ⟨rfl, bel_trans hbel hb3⟩

open Go.ChangeShapes Go.WideShapes Go.ChangeAt Go.Deep in
set_option maxRecDepth 100000 in
theorem serialLocks_contract (H : Type) (enc : TypeId × Value → H) (W : World) (base : Nat) (args : Array Value) (ds gs : List (DataW H)) (before : List MemPlace)
    (hval : ∀ (j : Nat) t v, Try.f5.params[j]? = some t → args[j]? = some v → Value.okWide Try.prog W .any base t v)
    (hW : DataW.Whole enc Try.prog Try.f5.params.toList Rows.serialLocksSpec.vars false W args.toList ds gs before) :
    Calls Try.prog 5 args W fun e W' => ∃ v, e = .returned v ∧ Rows.serialLocksSpec.post enc Try.prog Try.f5 false true false false W args v W' := by
  have hW' := hW
  obtain ⟨p, q, hA, -, -, -, -⟩ := hW
  rw [Try.params5] at hA hval
  obtain ⟨v0, vs0, d0, ds0, p0, q0, hargs, rfl, rfl, h0, r0⟩ := trodAll_cons hA
  obtain ⟨rfl, rfl, rfl⟩ := trodAll_nil r0
  obtain rfl : args = #[v0] := by cases args; simp_all
  obtain ⟨A, n, c, rfl⟩ := okWide_slice Try.underlying42 (hval 0 _ _ rfl rfl)
  obtain ⟨fuel, hf⟩ := h0
  obtain ⟨A', len, cap, Z, hcs, hlen, hlc, hZ⟩ := open_int_rows Try.underlying42 Try.underlying48 (by kernel_rfl) (by kernel_rfl) Try.underlying3 (by kernel_rfl) hf
  have hcs' : A = A' ∧ n = len ∧ c = cap := by simpa [Value.cells] using hcs
  obtain ⟨rfl, rfl, rfl⟩ := hcs'
  have hl : ((List.range n).map fun i => (⟨Z i 0, Z i 1, Z i 2⟩ : Deed)).length = n := by simp
  have hR : RdDeed W A ((List.range n).map fun i => (⟨Z i 0, Z i 1, Z i 2⟩ : Deed)) :=
    rdE_of_rows (fun z => (⟨z 0, z 1, z 2⟩ : Deed)) Deed.enc (by decide) (fun z j v hv => by
      match j, hv with
      | 0, hv => exact ⟨by decide, by simpa [Deed.enc] using hv.symm⟩
      | 1, hv => exact ⟨by decide, by simpa [Deed.enc] using hv.symm⟩
      | 2, hv => exact ⟨by decide, by simpa [Deed.enc] using hv.symm⟩
      | j + 3, hv => simp [Deed.enc] at hv) hZ
  unfold maxLen at hlen
  have hcall : Calls Try.prog 5 #[.slice A n c] W fun e w' => e = .returned (.bool true) ∧ Below W.heap.size W w' := by
    generalize ((List.range n).map fun i => (⟨Z i 0, Z i 1, Z i 2⟩ : Deed)) = l at *
    subst hl
    by_cases h0 : (chkD l).2 = 0
    · exact serialLocks_ok A c l W (by omega) hlc hR h0
    · exact serialLocks_bad A c l W (by omega) hR h0
  refine hcall.mono fun e W' ⟨he, hb⟩ => ⟨_, he, ?_⟩
  exact law_post laidOut (by kernel_rfl) rfl rfl Try.underlying4 hW' (fun _ => by subst_vars; rfl) hb

open Go.ChangeShapes Go.WideShapes Go.ChangeAt Go.Deep in
set_option maxRecDepth 100000 in
theorem serialLocks_lifted (os : Os) (started : os.Started) (H : Type) (enc : TypeId × Value → H) :
    ReturnsInHanded {} Try.checked os 5 .any (Rows.serialLocksSpec.pre6 enc Try.prog Try.f5 Rows.serialLocksRow.domain false) (Rows.serialLocksSpec.post enc Try.prog Try.f5 false true false false) := by
  refine returnsInHanded_of_change (C := Try.checked) own started (by kernel_rfl) Try.func5
    (ChangeSpec.witness6 (enc := enc) (C := Try.checked) false ⟨#[], #[.slice none 0 0], []⟩ 8 (by kernel_rfl) (by kernel_rfl) (by kernel_rfl) (by kernel_rfl)) ?_
  intro W base args ds gs before hval hW _ _
  exact serialLocks_contract H enc W base args ds gs before hval hW
theorem serialLocks_holds : Rows.SerialLocksSaid :=
  OpenClaim.holds_of_wide 5 Try.f5 rfl rfl rfl rfl rfl rfl rfl ⟨rfl, rfl, rfl, rfl, rfl⟩ rfl rfl rfl rfl rfl (by kernel_rfl) Try.func5 (by kernel_rfl)
    (of_decide_eq_true (by kernel_rfl)) (by unfold Func.isWrapper; first | (rw [if_pos (by decide +kernel)]; kernel_rfl) | (rw [if_neg (by decide +kernel)]; exact ⟨rfl, rfl⟩))
    (fun os started H enc _ => serialLocks_lifted os started H enc)
#print axioms serialLocks_holds
end Go.Proofs.Ytnbgcgpkpakicaa
