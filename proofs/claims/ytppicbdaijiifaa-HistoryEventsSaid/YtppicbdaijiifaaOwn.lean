/- Slices that the call itself made: a list of items, each of M cells. -/
import Derived.Test.YtppicbdaijiifaaRead
import Derived.Deep.AppendLies
import Derived.Laws.OwnMore
set_option linter.unusedSimpArgs false
set_option linter.unusedVariables false
set_option linter.unusedSectionVars false
set_option linter.unnecessarySimpa false
namespace Go.Proofs.Ytppicbdaijiifaa
open Go.RowKit

theorem flat_len {α : Type} {enc : α → List Value} {M : Nat} (hM : ∀ x, (enc x).length = M) (l : List α) : (l.flatMap enc).length = l.length * M := by
  induction l with
  | nil => simp
  | cons a l ih => rw [List.flatMap_cons, List.length_append, ih, hM, List.length_cons, Nat.add_mul]; omega
theorem flat_at {α : Type} {enc : α → List Value} {M : Nat} (hM : ∀ x, (enc x).length = M) : ∀ (l : List α) (k : Nat) (hk : k < l.length) (j : Nat), j < M → (l.flatMap enc)[k * M + j]? = (enc l[k])[j]?
  | [], k, hk, j, hj => by simp at hk
  | a :: l, 0, hk, j, hj => by
    rw [List.flatMap_cons, List.getElem?_append_left (by rw [hM]; omega)]
    simp
  | a :: l, k + 1, hk, j, hj => by
    rw [List.flatMap_cons, List.getElem?_append_right (by rw [hM, Nat.add_mul]; omega), hM, show (k + 1) * M + j - M = k * M + j by rw [Nat.add_mul]; omega,
      flat_at hM l k (by simpa using hk) j hj]
    simp
theorem flat_set {α : Type} {enc : α → List Value} {M : Nat} (hM : ∀ x, (enc x).length = M) (l : List α) (k : Nat) (hk : k < l.length) (j : Nat) (hj : j < M) (u : Value) (y : α) (hy : enc y = (enc l[k]).set j u) :
    (l.flatMap enc).set (k * M + j) u = (l.set k y).flatMap enc := by
  induction l generalizing k with
  | nil => simp at hk
  | cons a l ih =>
    cases k with
    | zero =>
      simp only [List.flatMap_cons, List.set_cons_zero, Nat.zero_mul, Nat.zero_add]
      rw [List.set_append_left _ _ (by rw [hM]; exact hj)]
      simp only [List.getElem_cons_zero] at hy
      rw [hy]
    | succ k =>
      simp only [List.flatMap_cons, List.set_cons_succ]
      rw [List.set_append_right _ _ (by rw [hM, Nat.add_mul]; omega), hM, show (k + 1) * M + j - M = k * M + j by rw [Nat.add_mul]; omega, ih k (by simpa using hk) (by simpa using hy)]

/-- the value is a slice of the call's own (blocks from B on), that holds the list -/
def Own {α : Type} (enc : α → List Value) (M : Nat) (e : TypeId) (w : World) (B : Nat) (v : Value) (l : List α) : Prop := w.ownsRow B e M v l.length (l.flatMap enc)
section
variable {α : Type} {enc : α → List Value} {M : Nat} {e : TypeId} {w w' : World} {B : Nat} {v : Value} {l : List α}
theorem Own.nil (w : World) (B : Nat) : Own enc M e w B (.slice none 0 0) [] := World.ownsRow_nil _ _ _ _
theorem Own.at_ (h : Own enc M e w B v l) (hM : ∀ x, (enc x).length = M) (k : Nat) (hk : k < l.length) :
    ∃ g c, v = .slice (some ⟨g, 0, none⟩) l.length c ∧ B ≤ g ∧ g < w.heap.size ∧ (∀ j u, (enc l[k])[j]? = some u → w.cell? ⟨g, k * M + j, none⟩ = some u) ∧ ∀ j, w.frozen? ⟨g, j, none⟩ = false := by
  obtain ⟨g, c, rfl, hb, hg⟩ := World.ownsRow.form h (by omega)
  refine ⟨g, c, rfl, hb, hg, fun j u hu => ?_, fun j => World.ownsRow.frozenAt h j⟩
  have hj : j < M := by rw [← hM l[k]]; exact (List.getElem?_eq_some_iff.1 hu).1
  have := World.ownsRow.cellAt h (k * M + j) (by
    have : k * M + M ≤ l.length * M := by rw [← Nat.succ_mul]; exact Nat.mul_le_mul_right _ hk
    omega)
  rw [this, flat_at hM l k hk j hj, hu]
theorem Own.rd (h : Own enc M e w B v l) (hM : ∀ x, (enc x).length = M) : ∃ A c, v = .slice A l.length c ∧ RdE enc M w A l := by
  rcases Nat.eq_zero_or_pos l.length with h0 | h0
  · obtain rfl : l = [] := List.length_eq_zero_iff.1 h0
    obtain ⟨a, c, hv⟩ : ∃ a c, v = .slice a 0 c := by
      rcases h.2 with ⟨hv, _⟩ | ⟨g, cap, cur, hv, _⟩
      · exact ⟨_, _, hv⟩
      · exact ⟨_, _, hv⟩
    exact ⟨a, c, hv, RdE.nil _⟩
  · obtain ⟨g, c, hv, _⟩ := h.at_ hM 0 h0
    refine ⟨some ⟨g, 0, none⟩, c, hv, fun k x hx => ?_⟩
    obtain ⟨hk, rfl⟩ := List.getElem?_eq_some_iff.1 hx
    obtain ⟨g', c', hv', _, hg, hc, _⟩ := h.at_ hM k hk
    rw [hv] at hv'
    simp only [Value.slice.injEq, Option.some.injEq, Addr.mk.injEq, and_true, true_and] at hv'
    obtain ⟨rfl, rfl⟩ := hv'
    exact ⟨g, 0, rfl, hg, fun j u hu => by rw [Nat.zero_add]; exact hc j u hu⟩
theorem Own.carry (h : Own enc M e w B v l) (hb : Below w.heap.size w w') : Own enc M e w' B v l := by
  refine ⟨h.1, ?_⟩
  rcases h.2 with hn | ⟨g, cap, cur, hv, hbb, hg, rest⟩
  · exact .inl hn
  · exact .inr ⟨g, cap, cur, hv, hbb, (hb.block g (Array.getElem?_eq_some_iff.1 hg).1).trans hg, rest⟩
theorem Own.alloc (h : Own enc M e w B v l) (o : Obj) : Own enc M e (w.alloc o) B v l := World.ownsRow.alloc h o
theorem Own.drewN (h : Own enc M e w B v l) (n : Nat) : Own enc M e (w.drewN n) B v l := h
theorem Own.set_ (h : Own enc M e w B v l) (hM : ∀ x, (enc x).length = M) (k : Nat) (hk : k < l.length) (j : Nat) (hj : j < M) (u : Value) (y : α) (hy : enc y = (enc l[k]).set j u) {g c : Nat} (hv : v = .slice (some ⟨g, 0, none⟩) l.length c) :
    Own enc M e (w.setCell ⟨g, k * M + j, none⟩ u) B v (l.set k y) := by
  subst hv
  have := World.ownsRow.stored h (k * M + j) u
  unfold Own
  rw [List.length_set, ← flat_set hM l k hk j hj u y hy]
  exact this.1
theorem Own.far (h : Own enc M e w B v l) {p : Addr} (hp : v.ownBlock ≠ some p.block) (u : Value) : Own enc M e (w.setCell p u) B v l := by
  refine ⟨h.1, ?_⟩
  rcases h.2 with hn | ⟨g, cap, cur, hv, hbb, hg, rest⟩
  · exact .inl hn
  · refine .inr ⟨g, cap, cur, hv, hbb, (Below.heap_setCell w p u g ?_).trans hg, rest⟩
    subst hv
    simpa [Value.ownBlock] using hp
/-- a block of another element type is not the row's -/
theorem Own.ne (h : Own enc M e w B v l) {r : Nat} {t : TypeId} {cs : Array Value} (hb : Blk w r t cs) (ht : t ≠ e) : v.ownBlock ≠ some r := by
  rcases h.2 with ⟨rfl, _⟩ | ⟨g, cap, cur, rfl, hbb, hg, rest⟩
  · simp [Value.ownBlock]
  · simp only [Value.ownBlock, ne_eq, Option.some.injEq]
    rintro rfl
    unfold Blk at hb
    rw [hb] at hg
    simp only [Option.some.injEq, Obj.cells.injEq] at hg
    exact ht hg.2.1
/-- behind an append of one item -/
theorem Own.push {n : Nat} {xs : List Value} {x : α} (h : w'.ownsRow B e M v (n + 1) (xs ++ enc x)) (hn : n = l.length) (hx : xs = l.flatMap enc) : Own enc M e w' B v (l ++ [x]) := by
  subst hn hx
  unfold Own
  simpa using h
end
end Go.Proofs.Ytppicbdaijiifaa
