/- Vectors: eight numbers. -/
import Derived.Test.YtnbgcgpkpakicaaClk5
namespace Go.Proofs.Ytnbgcgpkpakicaa
open Go.RowKit

def vecCells (f : Nat → Int) : Array Value := ((List.range 8).map fun i => Value.int .i64 (f i)).toArray
def updI (f : Nat → Int) (i : Nat) (z : Int) : Nat → Int := fun j => if j = i then z else f j
theorem vec_size (f : Nat → Int) : (vecCells f).size = 8 := by simp [vecCells]
theorem vec_nth (f : Nat → Int) (i : Nat) (h : i < 8) : nthV (vecCells f).toList i = some (.int .i64 (f i)) := by
  rw [← nthV_eq]; simp [vecCells, h]
theorem vec_set (f : Nat → Int) (i : Nat) (z : Int) (h : i < 8) : (vecCells f).setIfInBounds i (.int .i64 z) = vecCells (updI f i z) := by
  apply Array.ext_getElem?
  intro j
  rw [Array.getElem?_setIfInBounds]
  simp only [vecCells, List.getElem?_toArray, List.getElem?_map, List.size_toArray, List.length_map, List.length_range, updI]
  by_cases e : i = j
  · subst e; rw [if_pos rfl, if_pos h]; simp [h]
  · rw [if_neg e]
    by_cases hj : j < 8
    · simp [hj]; intro e'; exact absurd e'.symm e
    · simp [hj]
theorem vec_zero : vecCells (fun _ => 0) = #[.int .i64 0, .int .i64 0, .int .i64 0, .int .i64 0, .int .i64 0, .int .i64 0, .int .i64 0, .int .i64 0] := rfl
theorem vec_ones (f : Nat → Int) : (vecCells f).toList.all (·.oneCell') = true := by simp [vecCells, Value.oneCell']
/-- where a letter was sent from: ahead of k -/
theorem sent_at {l : List Mk} : ∀ k, k ≤ l.length → ∀ n i, lookM (sentM l k) n = some i → 0 ≤ i ∧ i < k ∧ (l.getD i.toNat default).kind = 1 ∧ (l.getD i.toNat default).letter = n
  | 0, _, n, i, h => by cases h
  | k + 1, hk, n, i, h => by
    have ih := sent_at (l := l) k (by omega) n i
    rw [sentM] at h
    split at h
    · rename_i h1
      rw [lookM_put] at h
      split at h
      · rename_i e
        cases h
        refine ⟨by omega, by omega, ?_, ?_⟩
        · simpa using h1
        · rw [e]; simp
      · obtain ⟨q1, q2, q3, q4⟩ := ih h
        exact ⟨q1, by omega, q3, q4⟩
    · obtain ⟨q1, q2, q3, q4⟩ := ih h
      exact ⟨q1, by omega, q3, q4⟩
end Go.Proofs.Ytnbgcgpkpakicaa
