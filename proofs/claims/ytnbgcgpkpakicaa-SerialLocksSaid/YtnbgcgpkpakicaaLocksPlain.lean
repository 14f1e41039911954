/- Locks and the document say the same, for every list of deeds that is in its form. -/
import Derived.Test.YtnbgcgpkpakicaaLocks
import Derived.Test.YtnbgcgpkpakicaaLegal
namespace Go.Proofs.Ytnbgcgpkpakicaa
open Go.RowKit

def freed (l : List Deed) (w : Int) : Bool := l.any fun x => x.who == w && x.kind == 4
def twoIn (d : Deed) (x : Deed) : Bool := !(x.who == d.who && x.kind == 4 && (decide (2 ≤ d.kind) && decide (d.kind ≤ 3)))
def twoAt (l : List Deed) (k : Nat) : Bool := match l[k]? with
  | some d => (l.take k).all (twoIn d)
  | none => true
def two (l : List Deed) : Bool := (List.range l.length).all (twoAt l)
theorem twoAt_eq {l : List Deed} {k : Nat} (hk : k < l.length) : twoAt l k = ((l.take k).all (twoIn l[k])) := by simp [twoAt, hk]
theorem twoAt_val {l : List Deed} {k : Nat} (hk : k < l.length) : twoAt l k = (if l[k].kind = 2 ∨ l[k].kind = 3 then !freed (l.take k) l[k].who else true) := by
  rw [twoAt_eq hk]
  generalize l[k] = d
  generalize l.take k = p
  by_cases h : d.kind = 2 ∨ d.kind = 3
  · have h2 : (decide (2 ≤ d.kind) && decide (d.kind ≤ 3)) = true := by simp; omega
    rw [if_pos h, freed]
    rw [List.not_any_eq_all_not]
    congr 1
    funext x
    simp [twoIn, h2]
  · have h2 : (decide (2 ≤ d.kind) && decide (d.kind ≤ 3)) = false := by simp; omega
    rw [if_neg h, List.all_eq_true]
    intro x _
    simp [twoIn, h2]

theorem all_range_succ (p : Nat → Bool) (k : Nat) : (List.range (k + 1)).all p = ((List.range k).all p && p k) := by
  rw [List.range_succ, List.all_append]; simp

theorem heldF_succ {l : List Deed} {k : Nat} (hk : k < l.length) (w i : Int) : heldF (l.take (k + 1)) w i = heldStep w i (heldF (l.take k) w i) l[k] := foldl_take_succ _ _ l k hk
theorem freed_succ {l : List Deed} {k : Nat} (hk : k < l.length) (w : Int) : freed (l.take (k + 1)) w = (freed (l.take k) w || (l[k].who == w && l[k].kind == 4)) := by
  unfold freed
  rw [List.take_succ_eq_append_getElem hk, List.any_append]; simp

theorem tells_step {f : Nat → Int} {p q : List Deed} {wn it : Nat} {kd : Int} (h : Tells f p) (hq : ∀ w i : Int, heldF q w i = heldStep w i (heldF p w i) ⟨wn, kd, it⟩) (hw : wn < 6) (hi : it < 6) (h0 : 0 ≤ kd) (h4 : kd ≤ 4)
    (hok : okV (heldF p wn it) (mostTo p wn it 6) kd = true) :
    Tells (lstep ⟨f, fun _ => false, true, true⟩ ⟨wn, kd, it⟩).f q := by
  intro w i hw' hi'
  rw [hq]
  have hr := held_range p wn it
  have hc := h wn it hw hi
  have ho := h w i hw' hi'
  have hk : kd = 0 ∨ kd = 1 ∨ kd = 2 ∨ kd = 3 ∨ kd = 4 := by omega
  by_cases he : w = wn ∧ i = it
  · obtain ⟨rfl, rfl⟩ := he
    simp only [heldStep, and_self, if_true]
    generalize heldF p w i = a at *
    generalize mostTo p w i 6 = b at *
    have ha : a = 0 ∨ a = 1 ∨ a = 2 := by omega
    rcases hk with rfl | rfl | rfl | rfl | rfl
    · rw [lstep_01 _ _ _ _ _ _ _ (by omega)]; simpa using hc
    · rw [lstep_01 _ _ _ _ _ _ _ (by omega)]; simpa using hc
    · rw [lstep_23 _ _ _ _ _ _ _ (by omega)]
      rcases ha with rfl | rfl | rfl <;> simp_all [upz, code, okV]
    · rw [lstep_23 _ _ _ _ _ _ _ (by omega)]
      rcases ha with rfl | rfl | rfl <;> simp_all [upz, code, okV]
    · rw [lstep_4]
      simp [upz, code]
  · have hs : heldStep w i (heldF p w i) ⟨wn, kd, it⟩ = heldF p w i := by
      simp only [heldStep]
      rw [if_neg (by omega)]
    have hn : ¬ w * 6 + i = wn * 6 + it := by omega
    rw [hs]
    rcases hk with rfl | rfl | rfl | rfl | rfl
    · rw [lstep_01 _ _ _ _ _ _ _ (by omega)]; exact ho
    · rw [lstep_01 _ _ _ _ _ _ _ (by omega)]; exact ho
    · rw [lstep_23 _ _ _ _ _ _ _ (by omega)]; simp [upz, hn, ho]
    · rw [lstep_23 _ _ _ _ _ _ _ (by omega)]; simp [upz, hn, ho]
    · rw [lstep_4]; simp [upz, hn, ho]

theorem locks_inv (l : List Deed) (hf : ∀ k (hk : k < l.length), 0 ≤ l[k].who ∧ l[k].who ≤ 5 ∧ 0 ≤ l[k].kind ∧ l[k].kind ≤ 4 ∧ 0 ≤ l[k].item ∧ l[k].item ≤ 5) :
    ∀ k, k ≤ l.length → (lfold (l.take k)).res = (List.range k).all (okAt l) ∧ ((lfold (l.take k)).res = true → Tells (lfold (l.take k)).f (l.take k)) ∧
      (∀ w : Nat, w < 6 → (lfold (l.take k)).rel w = freed (l.take k) w) ∧ (lfold (l.take k)).pha = (List.range k).all (twoAt l)
  | 0, _ => by simp [lfold, Tells, heldF, code, freed]
  | k + 1, hk => by
    have hlt : k < l.length := by omega
    obtain ⟨i1, i2, i3, i4⟩ := locks_inv l hf k (by omega)
    have hs : lfold (l.take (k + 1)) = lstep (lfold (l.take k)) l[k] := foldl_take_succ lstep _ l k hlt
    have h := hf k hlt
    obtain ⟨wn, it, kd, hd, hwn, hit⟩ : ∃ wn it : Nat, ∃ kd : Int, l[k] = ⟨wn, kd, it⟩ ∧ wn < 6 ∧ it < 6 := by
      refine ⟨l[k].who.toNat, l[k].item.toNat, l[k].kind, ?_, by omega, by omega⟩
      rw [Int.toNat_of_nonneg (by omega), Int.toNat_of_nonneg (by omega)]
    have hheld := fun w i => heldF_succ hlt w i
    have hfreed := fun w => freed_succ hlt w
    have hok := okAt_eq hlt
    have htw := twoAt_val hlt
    rw [hd] at hs h hheld hfreed hok htw
    simp only at h hok htw
    rw [all_range_succ, all_range_succ, hs, hok, htw, ← i1, ← i4]
    generalize hp : lfold (l.take k) = s at *
    obtain ⟨f, rel, res, pha⟩ := s
    simp only at i2 i3 ⊢
    have hk' : kd = 0 ∨ kd = 1 ∨ kd = 2 ∨ kd = 3 ∨ kd = 4 := by omega
    have hres : (lstep ⟨f, rel, res, pha⟩ ⟨wn, kd, it⟩).res = (res && canF f wn it kd) := by
      simp only [lstep, Int.toNat_natCast]; split <;> (try split) <;> rfl
    have hff : (lstep ⟨f, rel, res, pha⟩ ⟨wn, kd, it⟩).f = (lstep ⟨f, fun _ => false, true, true⟩ ⟨wn, kd, it⟩).f := by
      simp only [lstep]; split <;> (try split) <;> rfl
    have e1 : (res && canF f wn it kd) = (res && okV (heldF (l.take k) wn it) (mostTo (l.take k) wn it 6) kd) := by
      cases res
      · rfl
      · rw [can_ok (i2 rfl) wn it kd hwn hit (by omega) (by omega)]
    refine ⟨by rw [hres, e1], fun hr => ?_, fun w hw => ?_, ?_⟩
    · rw [hres, e1] at hr
      simp only [Bool.and_eq_true] at hr
      rw [hff]
      exact tells_step (i2 hr.1) hheld hwn hit (by omega) (by omega) hr.2
    · rw [hfreed, ← i3 w hw]
      rcases hk' with rfl | rfl | rfl | rfl | rfl
      · rw [lstep_01 _ _ _ _ _ _ _ (by omega)]; simp
      · rw [lstep_01 _ _ _ _ _ _ _ (by omega)]; simp
      · rw [lstep_23 _ _ _ _ _ _ _ (by omega)]; simp
      · rw [lstep_23 _ _ _ _ _ _ _ (by omega)]; simp
      · rw [lstep_4]
        by_cases e : w = wn
        · subst e; simp [upz]
        · have : ((wn : Int) == (w : Int)) = false := by simp; omega
          simp [upz, e, this]
    · rcases hk' with rfl | rfl | rfl | rfl | rfl
      · rw [lstep_01 _ _ _ _ _ _ _ (by omega)]; simp
      · rw [lstep_01 _ _ _ _ _ _ _ (by omega)]; simp
      · rw [lstep_23 _ _ _ _ _ _ _ (by omega)]; simp [i3 wn hwn]
      · rw [lstep_23 _ _ _ _ _ _ _ (by omega)]; simp [i3 wn hwn]
      · rw [lstep_4]; simp

theorem locks_says (l : List Deed) (h : (chkD l).2 = 0) : (lfold l).res = legal l ∧ (lfold l).pha = two l := by
  obtain ⟨h1, _, _, h4⟩ := locks_inv l (chkD_fine h).2 l.length (Nat.le_refl _)
  rw [List.take_length] at h1 h4
  exact ⟨h1, h4⟩
end Go.Proofs.Ytnbgcgpkpakicaa
