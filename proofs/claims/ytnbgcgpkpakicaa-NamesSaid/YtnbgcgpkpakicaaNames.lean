/- The law Names: the numbers of errors, kinds, types and limits are those of the document. No condition. -/
import Derived.Test.YtnbgcgpkpakicaaEqual
import Derived.Test.YtnbgcgpkpakicaaLaw
namespace Go.Proofs.Ytnbgcgpkpakicaa
open Go.RowKit

def few : List Int := [1, 2, 3, 4, 5, 1, 2, 3, 4, 1, 2, 3, 4, 0, 1, 2, 0, 1, 2, 3, 4, 1, 2, 3, 4, 1, 2, 3]
def limits : List Int := [12, 1000000, 8, 4, 200, 1000, 50, 9, 300, 5, 12, 1000, 200, 60, 7]

set_option maxRecDepth 20000 in
set_option maxHeartbeats 4000000 in
theorem names_any (w : World) : Calls Try.prog 3 #[] w fun e w' => e = .returned (.bool true) ∧ Below w.heap.size w w' := by
  go_enter Try.func3, Try.ntmps3
  go_wp2_with (fail)
  go_loopw [11] (fun i wr => ∃ k : Nat, k ≤ 8 ∧ i = .int .i64 k ∧ Below w.heap.size w wr ∧ Blk wr w.heap.size 22 (ints (fun i => i) 8)) (fun i _ => 8 - (intOf i).toNat)
  case atStart => exact ⟨0, by omega, rfl, by (repeat (first | assumption | exact Below.refl _ _ | refine bel_alloc ?_ _ | refine Below.drew ?_ | refine below_drewN' ?_ _ | (refine bel_set ?_ (by first | (simp; done) | (simp; omega)) _) | (refine bel_row ?_ (by first | (simp; done) | (simp; omega)) _))), Blk.new _ _ _⟩
  case round =>
    obtain ⟨k, hk, rfl, hbel, hblk⟩ := hrel
    by_cases hlt : k < 8
    · have c0 := (hblk.cell k).trans (ints_at _ 8 k hlt)
      have a5 := hblk.lt
      go_wp2_with (fail)
      go_roundw
      case rel => exact ⟨k + 1, by omega, by go_num, hbel, hblk⟩
      case measure => simp [intOf]; omega
    · obtain rfl : k = 8 := by omega
      go_wp2_with (fail)
      obtain ⟨w1, rfl⟩ : ∃ w1 : World, w1 = wr := ⟨_, rfl⟩
      go_loopw [22] (fun i wr => ∃ k : Nat, k ≤ 11 ∧ i = .int .i64 k ∧ Below w.heap.size w wr ∧ Blk wr w1.heap.size 3 (ints (fun i => i) 11)) (fun i _ => 11 - (intOf i).toNat)
      case atStart => exact ⟨0, by omega, rfl, by (repeat (first | assumption | exact Below.refl _ _ | refine bel_alloc ?_ _ | refine Below.drew ?_ | refine below_drewN' ?_ _ | (refine bel_set ?_ (by first | (simp; done) | (simp; omega)) _) | (refine bel_row ?_ (by first | (simp; done) | (simp; omega)) _))), Blk.new _ _ _⟩
      case round =>
        obtain ⟨k, hk, rfl, hbel2, hblk2⟩ := hrel
        by_cases hlt : k < 11
        · have c0 := (hblk2.cell k).trans (ints_at _ 11 k hlt)
          have a5 := hblk2.lt
          go_wp2_with (fail)
          go_roundw
          case rel => exact ⟨k + 1, by omega, by go_num, hbel2, hblk2⟩
          case measure => simp [intOf]; omega
        · obtain rfl : k = 11 := by omega
          go_wp2_with (fail)
          obtain ⟨w2, rfl⟩ : ∃ w2 : World, w2 = wr := ⟨_, rfl⟩
          go_loopw [33] (fun i wr => ∃ k : Nat, k ≤ 9 ∧ i = .int .i64 k ∧ Below w.heap.size w wr ∧ Blk wr w2.heap.size 3 (ints (fun i => i) 9)) (fun i _ => 9 - (intOf i).toNat)
          case atStart => exact ⟨0, by omega, rfl, by (repeat (first | assumption | exact Below.refl _ _ | refine bel_alloc ?_ _ | refine Below.drew ?_ | refine below_drewN' ?_ _ | (refine bel_set ?_ (by first | (simp; done) | (simp; omega)) _) | (refine bel_row ?_ (by first | (simp; done) | (simp; omega)) _))), Blk.new _ _ _⟩
          case round =>
            obtain ⟨k, hk, rfl, hbel3, hblk3⟩ := hrel
            by_cases hlt : k < 9
            · have c0 := (hblk3.cell k).trans (ints_at _ 9 k hlt)
              have a5 := hblk3.lt
              go_wp2_with (fail)
              go_roundw
              case rel => exact ⟨k + 1, by omega, by go_num, hbel3, hblk3⟩
              case measure => simp [intOf]; omega
            · obtain rfl : k = 9 := by omega
              clear hbel hbel2 hblk hblk2 hblk3
              go_wp2_with (fail)
              have B0 := Blk.new wr 3 (few.map (Value.int .i64)).toArray
              have B1 := Blk.new (wr.alloc (.cells (few.map (Value.int .i64)).toArray 3)) 3 (limits.map (Value.int .i64)).toArray
              have B2 := Blk.new ((wr.alloc (.cells (few.map (Value.int .i64)).toArray 3)).alloc (.cells (limits.map (Value.int .i64)).toArray 3)) 3 (few.map (Value.int .i64)).toArray
              have R2 := RdInt.of_list B2
              simp only [World.size_alloc] at R2
              have E1 := equal_any (some ⟨wr.heap.size, 0, none⟩) (some ⟨wr.heap.size + 1 + 1, 0, none⟩) 28 28 few few _ (by decide) (by decide) (RdInt.of_list ((B0.alloc (.cells (limits.map (Value.int .i64)).toArray 3)).alloc (.cells (few.map (Value.int .i64)).toArray 3))) R2
              refine E1.mono ?_
              rintro e w4 ⟨rfl, hb4⟩
              have L4 := (B1.alloc (.cells (few.map (Value.int .i64)).toArray 3)).carry hb4
              have hb := bel_trans (bel_alloc (bel_alloc (bel_alloc hbel3 _) _) _) hb4
              clear E1 B0 B1 B2 R2 hb4
              simp only [World.size_alloc] at L4
              have dd : decide (few = few) = true := by simp
              go_wp2_with (fail)
              have B5 := Blk.new w4 3 (limits.map (Value.int .i64)).toArray
              have E5 := equal_any (some ⟨wr.heap.size + 1, 0, none⟩) (some ⟨w4.heap.size, 0, none⟩) 15 15 limits limits _ (by decide) (by decide) (RdInt.of_list (L4.alloc (.cells (limits.map (Value.int .i64)).toArray 3))) (RdInt.of_list B5)
              refine E5.mono ?_
              rintro e w6 ⟨rfl, hb6⟩
              have hB := bel_trans (bel_alloc hb _) hb6
              clear E5 B5 L4 hb6 hb dd
              have dd : decide (limits = limits) = true := by simp
              go_wp2_with (fail)
              go_ret
              exact ⟨rfl, hB⟩

open Go.ChangeShapes Go.WideShapes Go.ChangeAt Go.Deep in
set_option maxRecDepth 100000 in
theorem names_contract (H : Type) (enc : TypeId × Value → H) (W : World) (base : Nat) (args : Array Value) (ds gs : List (DataW H)) (before : List MemPlace)
    (hval : ∀ (j : Nat) t v, Try.f3.params[j]? = some t → args[j]? = some v → Value.okWide Try.prog W .any base t v)
    (hW : DataW.Whole enc Try.prog Try.f3.params.toList Rows.namesSpec.vars false W args.toList ds gs before) :
    Calls Try.prog 3 args W fun e W' => ∃ v, e = .returned v ∧ Rows.namesSpec.post enc Try.prog Try.f3 false true false false W args v W' := by
  have hW' := hW
  obtain ⟨p, q, hA, -, -, -, -⟩ := hW
  rw [Try.params3] at hA hval
  obtain ⟨hargs, rfl, rfl⟩ := trodAll_nil hA
  obtain rfl : args = #[] := by cases args; simp_all
  have hcall := names_any W
  refine hcall.mono fun e W' ⟨he, hb⟩ => ⟨_, he, ?_⟩
  exact law_post laidOut (by kernel_rfl) rfl rfl Try.underlying4 hW' (fun _ => by subst_vars; rfl) hb

open Go.ChangeShapes Go.WideShapes Go.ChangeAt Go.Deep in
set_option maxRecDepth 100000 in
theorem names_lifted (os : Os) (started : os.Started) (H : Type) (enc : TypeId × Value → H) :
    ReturnsInHanded {} Try.checked os 3 .any (Rows.namesSpec.pre6 enc Try.prog Try.f3 Rows.namesRow.domain false) (Rows.namesSpec.post enc Try.prog Try.f3 false true false false) := by
  refine returnsInHanded_of_change (C := Try.checked) own started (by kernel_rfl) Try.func3
    (ChangeSpec.witness6 (enc := enc) (C := Try.checked) false ⟨#[], #[], []⟩ 8 (by kernel_rfl) (by kernel_rfl) (by kernel_rfl) (by kernel_rfl)) ?_
  intro W base args ds gs before hval hW _ _
  exact names_contract H enc W base args ds gs before hval hW
theorem names_holds : Rows.NamesSaid :=
  OpenClaim.holds_of_wide 3 Try.f3 rfl rfl rfl rfl rfl rfl rfl ⟨rfl, rfl, rfl, rfl, rfl⟩ rfl rfl rfl rfl rfl (by kernel_rfl) Try.func3 (by kernel_rfl)
    (of_decide_eq_true (by kernel_rfl)) (by unfold Func.isWrapper; first | (rw [if_pos (by decide +kernel)]; kernel_rfl) | (rw [if_neg (by decide +kernel)]; exact ⟨rfl, rfl⟩))
    (fun os started H enc _ => names_lifted os started H enc)
#print axioms names_holds
end Go.Proofs.Ytnbgcgpkpakicaa
