/- clocks.Times: what it computes. -/
import Derived.Test.YtnbgcgpkpakicaaClk6
namespace Go.Proofs.Ytnbgcgpkpakicaa
open Go.RowKit

/-- where the letter of a mark was sent from -/
def srcN (l : List Mk) (x : Mk) : Nat := ((lookM (sentM l l.length) x.letter).getD 0).toNat
def timeN (l : List Mk) (out : List Int) (last : Nat → Int) (x : Mk) : Int := if x.kind = 2 then max (last x.who.toNat) (out.getD (srcN l x) 0) else last x.who.toNat
def timeSt (l : List Mk) : Nat → List Int × (Nat → Int)
  | 0 => (List.replicate l.length 0, fun _ => 0)
  | k + 1 => ((timeSt l k).1.set k (timeN l (timeSt l k).1 (timeSt l k).2 (l.getD k default) + 1), updI (timeSt l k).2 (l.getD k default).who.toNat (timeN l (timeSt l k).1 (timeSt l k).2 (l.getD k default) + 1))
structure TimeI (l : List Mk) (k : Nat) : Prop where
  len : (timeSt l k).1.length = l.length
  out : ∀ j, 0 ≤ (timeSt l k).1.getD j 0 ∧ (timeSt l k).1.getD j 0 ≤ k
  last : ∀ i, 0 ≤ (timeSt l k).2 i ∧ (timeSt l k).2 i ≤ k
theorem time_inv (l : List Mk) : ∀ k, k ≤ l.length → TimeI l k
  | 0, _ => ⟨by simp [timeSt], fun j => by
      have : (List.replicate l.length (0 : Int)).getD j 0 = 0 := by
        simp only [List.getD_eq_getElem?_getD, List.getElem?_replicate]; split <;> rfl
      simp only [timeSt, this]; omega, fun i => by simp [timeSt]⟩
  | k + 1, hk => by
    have I := time_inv l k (by omega)
    have hn : 0 ≤ timeN l (timeSt l k).1 (timeSt l k).2 (l.getD k default) ∧ timeN l (timeSt l k).1 (timeSt l k).2 (l.getD k default) ≤ k := by
      have h1 := I.last (l.getD k default).who.toNat
      have h2 := I.out (srcN l (l.getD k default))
      unfold timeN
      split
      · omega
      · omega
    refine ⟨by simp [timeSt, I.len], fun j => ?_, fun i => ?_⟩
    · have h1 := I.out j
      simp only [timeSt]
      generalize timeN l (timeSt l k).1 (timeSt l k).2 (l.getD k default) = t at hn ⊢
      rw [List.getD_eq_getElem?_getD, List.getElem?_set]
      rw [List.getD_eq_getElem?_getD] at h1
      split
      · split
        · simp only [Option.getD_some]; omega
        · simp only [Option.getD_none]; omega
      · omega
    · have h1 := I.last i
      simp only [timeSt, updI]
      split <;> omega
end Go.Proofs.Ytnbgcgpkpakicaa
