/- Objects: Stepped, whole; Played and Play. No condition. -/
import Derived.Test.YtkhdihieepfcpaaObjA
import Derived.Test.YtkhdihieepfcpaaObj7
namespace Go.Proofs.Ytkhdihieepfcpaa
open Go.RowKit

theorem stepped_any (A : Option Addr) (c : Nat) (s : List Int) (typ kind a : Int) (w : World) (hA : RdInt w A s) (hAn : A = none → c = 0) (hc : s.length ≤ c) (hck : chkS typ s = 0) (hf : fitB typ kind) :
    Calls Try.prog 55 #[.slice A s.length c, .int .i64 kind, .int .i64 a] w (StepdPost w A s (stepP typ s kind a)) := by
  obtain ⟨_, hl, hv⟩ := chkS_ok hck
  have hse := step_eq (a := a) hv hf
  rcases hf with ⟨rfl, rfl | rfl⟩ | ⟨rfl, rfl | rfl⟩ | ⟨rfl, rfl | rfl⟩ | ⟨rfl, hk⟩ | ⟨rfl, rfl⟩
  · exact stepd_1 A c s a w
  · have h1 : oneB s = true := hv
    simp only [oneB, Bool.and_eq_true, decide_eq_true_eq] at h1
    exact stepd_2 A c s a w hA hAn hc (by omega)
  · have e : stepP 2 s 3 a = putR s a := by simp [stepP, putR]
    rw [e]; exact stepd_put A c s a w hA hAn hl 3 (.inl rfl)
  · have e : stepP 2 s 4 a = if s.length = 0 then (s, -1, 0) else (s.drop 1, s.getD 0 0, 0) := by simp [stepP]
    rw [e]; exact stepd_4 A c s a w hA hAn hc hl
  · have e : stepP 3 s 5 a = putR s a := by simp [stepP, putR]
    rw [e]; exact stepd_put A c s a w hA hAn hl 5 (.inr rfl)
  · have e : stepP 3 s 6 a = if s.length = 0 then (s, -1, 0) else (s.take (s.length - 1), s.getD (s.length - 1) 0, 0) := by simp [stepP]
    rw [e]; exact stepd_6 A c s a w hA hAn hc hl
  · rw [← hse]
    have e : stepR s kind a = if kind = 7 ∧ s.contains a = false ∧ s.length = 50 then ([], 0, 2) else ((setR s kind a).1, (setR s kind a).2, 0) := by
      unfold stepR
      have h3 : kind ≠ 3 := by omega
      have h5 : kind ≠ 5 := by omega
      have h10 : kind ≠ 10 := by omega
      have h1 : kind ≠ 1 := by omega
      have h2 : kind ≠ 2 := by omega
      have h4 : kind ≠ 4 := by omega
      have h6 : kind ≠ 6 := by omega
      simp only [h3, h5, h10, h1, h2, h4, h6, false_or, false_and, or_false, if_false, and_assoc]
    rw [e]
    exact stepd_set A c s a kind w hA hl hk
  · have h1 : oneB s = true := hv
    simp only [oneB, Bool.and_eq_true, decide_eq_true_eq] at h1
    obtain ⟨x, rfl⟩ := List.length_eq_one_iff.1 h1.1
    have h2 : 0 ≤ x ∧ x ≤ 1000 := h1.2
    have e : stepP 5 [x] 10 a = if x = 1000 then ([], 0, 2) else ([x + 1], x, 0) := by simp [stepP]
    rw [e]
    exact stepd_10 A c [x] a w hA x rfl h2
/-! lists of what is done -/
structure Dn where
  kind : Int
  arg : Int
  res : Int
  deriving Inhabited
def Dn.enc (d : Dn) : List Value := [.int .i64 d.kind, .int .i64 d.arg, .int .i64 d.res]
abbrev RdDo (w : World) (A : Option Addr) (l : List Dn) : Prop := RdE Dn.enc 3 w A l
/-- what is right goes on -/
def goesO (typ : Int) (s : List Int) (d : Dn) : Bool := decide ((stepO typ s d.kind d.arg).2.2 = 0 ∧ (stepO typ s d.kind d.arg).2.1 = d.res)
def playN (typ : Int) : List Int → List Dn → Nat
  | _, [] => 0
  | s, d :: l => if goesO typ s d = true then playN typ (stepO typ s d.kind d.arg).1 l + 1 else 0
def stAt (typ : Int) (s : List Int) : List Dn → List Int
  | [] => s
  | d :: l => stAt typ (stepO typ s d.kind d.arg).1 l
end Go.Proofs.Ytkhdihieepfcpaa
