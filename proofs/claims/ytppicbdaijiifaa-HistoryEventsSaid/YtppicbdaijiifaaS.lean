/- Slices of slices, from the front. No condition. -/
import Derived.Test.YtppicbdaijiifaaE
set_option linter.unusedSimpArgs false
set_option linter.unusedVariables false
set_option linter.unusedSectionVars false
set_option linter.unnecessarySimpa false
namespace Go.Proofs.Ytppicbdaijiifaa
open Go.RowKit
section
variable {P : Program} {C : Ctx} {E : Slots} {S : List Ent} {t e m g p n c ty : Nat} {x y : Operand} {v : Value}
theorem QS_sliceHigh [hs : SliceOf P t e m] {k : IntKind} {j : Nat} (hx : evo E x = some (.slice (some ⟨g, p, none⟩) n c)) (hy : evo E y = some (.int k (j : Nat))) (hj : j ≤ c) :
    QS P C E S (.slice t x none (some y) none) ty (.slice (some ⟨g, p, none⟩) j c) :=
  QS.of (fun a w ha _ => by
    have he : P.elem t = e := by simp [Program.elem, hs.und]
    have hu : P.underlying t = some (.slice (P.elem t)) := by rw [he]; exact hs.und
    have hr := run_slice_h (P := P) (w := w) t (some ⟨g, p, none⟩) n c hu k (j : Int) (by omega) (by omega)
    rw [he, hs.size w] at hr
    simp only [Result.andThen_ok, Int.toNat_natCast] at hr
    have hv : sliced (some ⟨g, p, none⟩) 0 j c m = .slice (some ⟨g, p, none⟩) j c := by
      unfold sliced
      split <;> simp [add_mk]
    rw [hv] at hr
    simp [execOp, ha.evo hx, ha.evo hy, run_sliceAt_slice (P := P) (w := w) t _ _ _ _ hu, hr])
end
end Go.Proofs.Ytppicbdaijiifaa
