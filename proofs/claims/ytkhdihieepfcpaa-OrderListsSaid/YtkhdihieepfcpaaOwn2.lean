/- What is handed in, appended; the list of one's own that is not nil; parts of lists. No condition. -/
import Derived.Test.YtkhdihieepfcpaaE
namespace Go.Proofs.Ytkhdihieepfcpaa
open Go.RowKit

theorem flat_div {α : Type} {enc : α → List Value} {M : Nat} (hM : ∀ x, (enc x).length = M) (h0 : 0 < M) : ∀ (l : List α) (j : Nat), (l.flatMap enc)[j]? = (l[j / M]?).bind fun x => (enc x)[j % M]?
  | [], j => by simp
  | x :: l, j => by
    rw [List.flatMap_cons]
    rcases Nat.lt_or_ge j M with h | h
    · rw [List.getElem?_append_left (by rw [hM]; exact h), Nat.div_eq_of_lt h, Nat.mod_eq_of_lt h]
      simp
    · rw [List.getElem?_append_right (by rw [hM]; exact h), hM, flat_div hM h0 l (j - M), Nat.div_eq_sub_div h0 h, ← Nat.mod_eq_sub_mod h]
      simp
theorem Lies.rd {C : Ctx} {S : List Ent} {α : Type} {enc : α → List Value} {M : Nat} {l : List α} {A : Option Addr} {c : Nat} (hR : RdE enc M C.w0 A l) (hF : C.F = []) (hM : ∀ x, (enc x).length = M) (h0 : 0 < M) (hA : A = none → c = 0) : Lies C S (.slice A l.length c) l.length (l.flatMap enc) := by
  cases A with
  | none =>
    have hl : l = [] := by
      cases l with
      | nil => rfl
      | cons x l => obtain ⟨b, o, h, _⟩ := hR.open (by simp); cases h
    subst hl
    exact .inl ⟨rfl, rfl, by rw [hA rfl]; rfl⟩
  | some ad =>
    refine .inr ⟨ad, c, rfl, fun w hw j u hu => ?_⟩
    rw [flat_div hM h0, Option.bind_eq_some_iff] at hu
    obtain ⟨x, hx, hu⟩ := hu
    obtain ⟨b, o, he, hb, hc⟩ := hR (j / M) x hx
    cases he
    have := hc (j % M) u hu
    rw [add_mk]
    refine hw.old hb (by simp [hF]) ?_
    rw [← this]
    congr 2
    have := Nat.div_add_mod j M
    rw [Nat.mul_comm] at this
    omega
theorem any_take_succ {p : Nat → Bool} {l : List Nat} {k : Nat} (hk : k < l.length) : (l.take (k + 1)).any p = ((l.take k).any p || p l[k]) := by
  rw [List.take_succ_eq_append_getElem hk, List.any_append]; simp
theorem contains_take_succ {l : List Nat} {k : Nat} (hk : k < l.length) (i : Nat) : (l.take (k + 1)).contains i = ((l.take k).contains i || decide (l[k] = i)) := by
  rw [List.take_succ_eq_append_getElem hk, List.contains_eq_mem, List.contains_eq_mem, ← Bool.decide_or]
  exact decide_eq_decide.2 (by rw [List.mem_append, List.mem_singleton]; exact ⟨fun h => h.imp id Eq.symm, fun h => h.imp id Eq.symm⟩)
theorem Mem.ownSome {C : Ctx} {S : List Ent} {α : Type} {enc : α → List Value} {M e c : Nat} {A : Option Addr} {ls : List α} {w : World} (hw : Mem C w S) (hm : entOwn enc M e A c ls ∈ S) (hl : 0 < ls.length) : A ≠ Option.none := by
  have ho : Own enc M e w 0 (.slice A ls.length c) ls := (hw.holds _ hm).1
  rcases ho.2 with ⟨_, h0⟩ | ⟨g, cap, cur, hv, _⟩
  · omega
  · simp only [Value.slice.injEq] at hv
    rw [hv.1]; simp
/-- a cell that was there -/
theorem Lds.old {P : Program} {C : Ctx} {S : List Ent} {s b k : Nat} {v : Value} [OneCell P s] (hb : b < C.w0.heap.size) (hF : b ∉ C.F) (hc : C.w0.cell? ⟨b, k, none⟩ = some v) : Lds P C S s ⟨b, k, none⟩ v :=
  Lds.one fun w hw => hw.old hb hF hc
end Go.Proofs.Ytkhdihieepfcpaa
