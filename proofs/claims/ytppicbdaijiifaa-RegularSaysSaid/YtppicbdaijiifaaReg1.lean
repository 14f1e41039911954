/- Reads of a register with one row of writes: how the program judges them, and the document (plain). No condition. -/
import Derived.Test.YtppicbdaijiifaaCau1
import Derived.Test.YtppicbdaijiifaaM
namespace Go.Proofs.Ytppicbdaijiifaa
open Go.RowKit

def preB (a b : Cl) : Bool := !decide (a.to = -1) && decide (a.to < b.from_)
def isW (x : Cl) : Bool := decide (x.kind = 1)
def wrs (cs : List Cl) : List Cl := cs.filter isW
/-- one row of writes, each of another value -/
def OnceW (cs : List Cl) : Prop := cs.Pairwise fun a b => a.kind = 1 → b.kind = 1 → a.arg ≠ b.arg
def RowsW (cs : List Cl) : Prop := cs.Pairwise fun a b => a.kind = 1 → b.kind = 1 → preB a b = true
def GoodW (cs : List Cl) : Prop := OnceW cs ∧ RowsW cs
theorem goodW_iff (cs : List Cl) : GoodW cs ↔ (wrs cs).Pairwise fun a b => a.arg ≠ b.arg ∧ preB a b = true := by
  unfold GoodW OnceW RowsW wrs
  rw [List.pairwise_filter, ← List.pairwise_and_iff]
  simp only [isW, decide_eq_true_eq]
  constructor
  · exact fun h => h.imp fun h h1 h2 => ⟨h.1 h1 h2, h.2 h1 h2⟩
  · exact fun h => h.imp fun h => ⟨fun h1 h2 => (h h1 h2).1, fun h1 h2 => (h h1 h2).2⟩
/-! the program's judgement of a read: fold over the writes -/
def wrK (W : List Cl) (x : Cl) : Nat → Int
  | 0 => if x.res = 0 then 0 else -1
  | k + 1 => if (W.getD k default).arg = x.res then (k : Int) + 1 else wrK W x k
def lastK (W : List Cl) (x : Cl) : Nat → Int
  | 0 => 0
  | k + 1 => if preB (W.getD k default) x = true then (k : Int) + 1 else lastK W x k
def ovB (w x : Cl) : Bool := !preB w x && !preB x w
def ovK (W : List Cl) (x : Cl) : Nat → List (Int × Bool)
  | 0 => []
  | k + 1 => if ovB (W.getD k default) x = true then putM (ovK W x k) ((k : Int) + 1) true else ovK W x k
theorem ovK_look (W : List Cl) (x : Cl) : ∀ k z, (lookM (ovK W x k) z).getD false = true ↔ ∃ q, q < k ∧ z = (q : Int) + 1 ∧ ovB (W.getD q default) x = true
  | 0, z => by simp [ovK, lookM]
  | k + 1, z => by
    have ih := ovK_look W x k z
    rw [ovK]
    by_cases h : ovB (W.getD k default) x = true
    · rw [if_pos h, lookM_put]
      by_cases e : z = (k : Int) + 1
      · rw [if_pos e]
        simp only [Option.getD_some, true_iff]
        exact ⟨k, by omega, e, h⟩
      · rw [if_neg e, ih]
        constructor
        · rintro ⟨q, h1, h2, h3⟩; exact ⟨q, by omega, h2, h3⟩
        · rintro ⟨q, h1, h2, h3⟩; exact ⟨q, by omega, h2, h3⟩
    · rw [if_neg h, ih]
      constructor
      · rintro ⟨q, h1, h2, h3⟩; exact ⟨q, by omega, h2, h3⟩
      · rintro ⟨q, h1, h2, h3⟩
        by_cases e : q = k
        · subst e; exact absurd h3 h
        · exact ⟨q, by omega, h2, h3⟩
theorem putM_len {α : Type} (k : Int) (v : α) : ∀ D : List (Int × α), 0 < (putM D k v).length
  | [] => by simp [putM]
  | p :: D => by unfold putM; split <;> simp
theorem ovK_pos (W : List Cl) (x : Cl) : ∀ k, 0 < (ovK W x k).length ↔ ∃ q, q < k ∧ ovB (W.getD q default) x = true
  | 0 => by simp [ovK]
  | k + 1 => by
    have ih := ovK_pos W x k
    rw [ovK]
    by_cases h : ovB (W.getD k default) x = true
    · rw [if_pos h]
      exact ⟨fun _ => ⟨k, by omega, h⟩, fun _ => putM_len _ _ _⟩
    · rw [if_neg h, ih]
      constructor
      · rintro ⟨q, h1, h3⟩; exact ⟨q, by omega, h3⟩
      · rintro ⟨q, h1, h3⟩
        by_cases e : q = k
        · subst e; exact absurd h3 h
        · exact ⟨q, by omega, h3⟩
theorem wrK_neg (W : List Cl) (x : Cl) (hx : x.res ≠ 0) : ∀ k, (∀ q, q < k → (W.getD q default).arg ≠ x.res) → wrK W x k = -1
  | 0, _ => by rw [wrK, if_neg hx]
  | k + 1, h => by rw [wrK, if_neg (h k (by omega)), wrK_neg W x hx k fun q hq => h q (by omega)]
theorem wrK_zero (W : List Cl) (x : Cl) (hx : x.res = 0) : ∀ k, (∀ q, q < k → (W.getD q default).arg ≠ x.res) → wrK W x k = 0
  | 0, _ => by rw [wrK, if_pos hx]
  | k + 1, h => by rw [wrK, if_neg (h k (by omega)), wrK_zero W x hx k fun q hq => h q (by omega)]
theorem wrK_at (W : List Cl) (x : Cl) {q : Nat} (hq : (W.getD q default).arg = x.res) : ∀ k, q < k → (∀ p, p < k → (W.getD p default).arg = x.res → p = q) → wrK W x k = (q : Int) + 1
  | 0, h, _ => by omega
  | k + 1, h, hu => by
    rw [wrK]
    by_cases e : (W.getD k default).arg = x.res
    · rw [if_pos e, hu k (by omega) e]
    · rw [if_neg e]
      have hk : q ≠ k := fun h => by subst h; exact e hq
      exact wrK_at W x hq k (by omega) fun p hp h => hu p (by omega) h
theorem lastK_le (W : List Cl) (x : Cl) : ∀ k, 0 ≤ lastK W x k ∧ lastK W x k ≤ k
  | 0 => by simp [lastK]
  | k + 1 => by have := lastK_le W x k; rw [lastK]; split <;> omega
def regK (W : List Cl) (x : Cl) : Bool := decide (0 ≤ wrK W x W.length) && (decide (wrK W x W.length = lastK W x W.length) || (lookM (ovK W x W.length) (wrK W x W.length)).getD false)
def safeK (W : List Cl) (x : Cl) : Bool := regK W x || decide (0 < (ovK W x W.length).length)
/-! the document's -/
def lvStep (r : Cl) (s : Int × Bool × Bool) (x : Cl) : Int × Bool × Bool :=
  if x.kind = 1 then
    if preB x r = true then (x.arg, s.2.1, s.2.2)
    else if x.from_ < r.to then (s.1, true, s.2.2 || decide (x.arg = r.res)) else s
  else s
def lvTo (cs : List Cl) (r : Cl) (k : Nat) : Int × Bool × Bool := (cs.take k).foldl (lvStep r) (0, false, false)
def levR (cs : List Cl) (r : Cl) : Int := if (lvTo cs r cs.length).2.2 = true ∨ r.res = (lvTo cs r cs.length).1 then 2 else if (lvTo cs r cs.length).2.1 = true then 1 else 0
def nthGo (v : Int) : List Cl → Int → Option Int
  | [], _ => none
  | x :: r, n => if x.kind = 1 then if x.arg = v then some (n + 1) else nthGo v r (n + 1) else nthGo v r n
def nthR (cs : List Cl) (v : Int) : Int := (nthGo v cs 0).getD (if v = 0 then 0 else -1)
/-- over the writes alone -/
theorem lv_filter (r : Cl) : ∀ (cs : List Cl) (s : Int × Bool × Bool), cs.foldl (lvStep r) s = (cs.filter isW).foldl (lvStep r) s
  | [], _ => rfl
  | x :: cs, s => by
    rw [List.foldl_cons, lv_filter r cs, List.filter_cons]
    by_cases h : x.kind = 1
    · rw [show isW x = true by simp [isW, h], if_pos rfl, List.foldl_cons]
    · rw [show isW x = false by simp [isW, h], if_neg (by decide)]
      rw [show lvStep r s x = s by unfold lvStep; rw [if_neg h]]
theorem nth_filter (v : Int) : ∀ (cs : List Cl) (n : Int), nthGo v cs n = nthGo v (cs.filter isW) n
  | [], _ => rfl
  | x :: cs, n => by
    rw [List.filter_cons]
    by_cases h : x.kind = 1
    · rw [show isW x = true by simp [isW, h], if_pos rfl, nthGo, nthGo, if_pos h, if_pos h, nth_filter v cs]
    · rw [show isW x = false by simp [isW, h], if_neg (by decide), nthGo, if_neg h, nth_filter v cs]
def lvW (W : List Cl) (r : Cl) (k : Nat) : Int × Bool × Bool := (W.take k).foldl (lvStep r) (0, false, false)
theorem lvW_succ {W : List Cl} {r : Cl} {k : Nat} (hk : k < W.length) : lvW W r (k + 1) = lvStep r (lvW W r k) W[k] := by
  unfold lvW
  rw [List.take_add_one, List.getElem?_eq_getElem hk, List.foldl_append]; rfl
theorem getD_W {W : List Cl} {k : Nat} (hk : k < W.length) : W.getD k default = W[k] := by rw [List.getD_eq_getElem?_getD, List.getElem?_eq_getElem hk]; rfl
/-- what the document's fold holds, told by the program's -/
theorem lv_inv {W : List Cl} {r : Cl} (hk1 : ∀ q (h : q < W.length), W[q].kind = 1) (hto : r.to ≠ -1) (hft : ∀ q (h : q < W.length), W[q].from_ ≠ r.to) : ∀ k, k ≤ W.length →
    (lvW W r k).1 = (if lastK W r k = 0 then 0 else (W.getD (lastK W r k - 1).toNat default).arg) ∧
    ((lvW W r k).2.1 = true ↔ ∃ q, q < k ∧ ovB (W.getD q default) r = true) ∧
    ((lvW W r k).2.2 = true ↔ ∃ q, q < k ∧ ovB (W.getD q default) r = true ∧ (W.getD q default).arg = r.res)
  | 0, _ => by simp [lvW, lastK]
  | k + 1, h => by
    obtain ⟨i1, i2, i3⟩ := lv_inv hk1 hto hft k (by omega)
    have hlt : k < W.length := by omega
    have hg := getD_W hlt
    rw [lvW_succ hlt, lastK, hg]
    unfold lvStep
    rw [if_pos (hk1 k hlt)]
    by_cases hp : preB W[k] r = true
    · rw [if_pos hp, if_pos hp]
      have ho : ovB W[k] r = false := by simp [ovB, hp]
      refine ⟨?_, ?_, ?_⟩
      · rw [if_neg (by omega)]
        rw [show ((k : Int) + 1 - 1).toNat = k by omega, hg]
      · rw [i2]
        constructor
        · rintro ⟨q, h1, h2⟩; exact ⟨q, by omega, h2⟩
        · rintro ⟨q, h1, h2⟩
          by_cases e : q = k
          · subst e; rw [hg, ho] at h2; cases h2
          · exact ⟨q, by omega, h2⟩
      · rw [i3]
        constructor
        · rintro ⟨q, h1, h2⟩; exact ⟨q, by omega, h2⟩
        · rintro ⟨q, h1, h2⟩
          by_cases e : q = k
          · subst e; rw [hg, ho] at h2; cases h2.1
          · exact ⟨q, by omega, h2⟩
    · rw [if_neg hp, if_neg hp]
      have hpb : preB W[k] r = false := by simpa using hp
      have hov : ovB W[k] r = decide (W[k].from_ < r.to) := by
        have hr : preB r W[k] = decide (r.to < W[k].from_) := by
          unfold preB
          rw [decide_eq_false hto]; rfl
        unfold ovB
        rw [hpb, hr, Bool.eq_iff_iff]
        have := hft k hlt
        simp only [Bool.not_false, Bool.true_and, Bool.not_eq_true', decide_eq_false_iff_not, decide_eq_true_eq]
        omega
      by_cases hf : W[k].from_ < r.to
      · rw [if_pos hf]
        have ho : ovB W[k] r = true := by rw [hov, decide_eq_true hf]
        refine ⟨i1, ?_, ?_⟩
        · exact ⟨fun _ => ⟨k, by omega, by rw [hg]; exact ho⟩, fun _ => rfl⟩
        · rw [Bool.or_eq_true, i3, decide_eq_true_eq]
          constructor
          · rintro (⟨q, h1, h2⟩ | h1)
            · exact ⟨q, by omega, h2⟩
            · exact ⟨k, by omega, by rw [hg]; exact ⟨ho, h1⟩⟩
          · rintro ⟨q, h1, h2⟩
            by_cases e : q = k
            · subst e; rw [hg] at h2; exact .inr h2.2
            · exact .inl ⟨q, by omega, h2⟩
      · rw [if_neg hf]
        have ho : ovB W[k] r = false := by rw [hov, decide_eq_false hf]
        refine ⟨i1, ?_, ?_⟩
        · rw [i2]
          constructor
          · rintro ⟨q, h1, h2⟩; exact ⟨q, by omega, h2⟩
          · rintro ⟨q, h1, h2⟩
            by_cases e : q = k
            · subst e; rw [hg, ho] at h2; cases h2
            · exact ⟨q, by omega, h2⟩
        · rw [i3]
          constructor
          · rintro ⟨q, h1, h2⟩; exact ⟨q, by omega, h2⟩
          · rintro ⟨q, h1, h2⟩
            by_cases e : q = k
            · subst e; rw [hg, ho] at h2; cases h2.1
            · exact ⟨q, by omega, h2⟩
theorem nth_go (v : Int) : ∀ (W : List Cl), (∀ x ∈ W, x.kind = 1) → ∀ n : Int, (∃ q, ∃ h : q < W.length, W[q].arg = v ∧ (∀ p (hp : p < q), W[p].arg ≠ v) ∧ nthGo v W n = some (n + q + 1)) ∨ ((∀ q (h : q < W.length), W[q].arg ≠ v) ∧ nthGo v W n = none)
  | [], _, n => .inr ⟨fun q h => by simp at h, rfl⟩
  | x :: W, hk, n => by
    rw [nthGo, if_pos (hk x (by simp))]
    by_cases e : x.arg = v
    · rw [if_pos e]
      exact .inl ⟨0, by simp, e, fun p hp => by omega, by simp⟩
    · rw [if_neg e]
      rcases nth_go v W (fun y hy => hk y (by simp [hy])) (n + 1) with ⟨q, h, h1, h2, h3⟩ | ⟨h1, h2⟩
      · refine .inl ⟨q + 1, by simp; omega, h1, fun p hp => ?_, by rw [h3]; congr 1; omega⟩
        match p, hp with
        | 0, _ => exact e
        | p + 1, hp => exact h2 p (by omega)
      · refine .inr ⟨fun q h => ?_, h2⟩
        match q, h with
        | 0, _ => exact e
        | q + 1, h => exact h1 q (by simpa using h)
/-- what is so of the writes -/
structure RowW (W : List Cl) : Prop where
  kind : ∀ q (h : q < W.length), W[q].kind = 1
  arg : ∀ q (h : q < W.length), 1 ≤ W[q].arg
  one : ∀ p q (hp : p < W.length) (hq : q < W.length), W[p].arg = W[q].arg → p = q
section
variable {cs : List Cl} {x : Cl} (hW : RowW (wrs cs))
include hW
theorem wr_same : wrK (wrs cs) x (wrs cs).length = nthR cs x.res := by
  have hn : nthR cs x.res = (nthGo x.res (wrs cs) 0).getD (if x.res = 0 then 0 else -1) := by unfold nthR; rw [nth_filter]; rfl
  rw [hn]
  rcases nth_go x.res (wrs cs) (fun y hy => by obtain ⟨q, hq, rfl⟩ := List.getElem_of_mem hy; exact hW.kind q hq) 0 with ⟨q, h, h1, h2, h3⟩ | ⟨h1, h2⟩
  · rw [h3, wrK_at (wrs cs) x (q := q) (by rw [getD_W h]; exact h1) _ h (fun p hp e => by rw [getD_W hp] at e; exact hW.one p q hp h (e.trans h1.symm))]
    simp
  · rw [h2]
    have h1' : ∀ q, q < (wrs cs).length → ((wrs cs).getD q default).arg ≠ x.res := fun q h => by rw [getD_W h]; exact h1 q h
    by_cases e : x.res = 0
    · rw [wrK_zero _ _ e _ h1']; simp [e]
    · rw [wrK_neg _ _ e _ h1']; simp [e]
variable (hto : x.to ≠ -1) (hft : ∀ q (h : q < (wrs cs).length), (wrs cs)[q].from_ ≠ x.to)
include hto hft
omit hW hto hft in
theorem lv_cs : lvTo cs x cs.length = lvW (wrs cs) x (wrs cs).length := by
  unfold lvTo lvW
  rw [List.take_length, List.take_length, lv_filter]; rfl
theorem reg_same : regK (wrs cs) x = decide (levR cs x = 2) := by
  obtain ⟨i1, i2, i3⟩ := lv_inv hW.kind hto hft (wrs cs).length (Nat.le_refl _)
  have hl := lastK_le (wrs cs) x (wrs cs).length
  have hlev : levR cs x = 2 ↔ (lvW (wrs cs) x (wrs cs).length).2.2 = true ∨ x.res = (lvW (wrs cs) x (wrs cs).length).1 := by
    unfold levR
    rw [lv_cs]
    split
    · rename_i h; exact ⟨fun _ => h, fun _ => rfl⟩
    · rename_i h
      refine ⟨fun e => ?_, fun e => absurd e h⟩
      split at e <;> cases e
  rw [Bool.eq_iff_iff, decide_eq_true_eq, hlev, i3, i1]
  unfold regK
  rw [Bool.and_eq_true, Bool.or_eq_true, decide_eq_true_eq, decide_eq_true_eq, ovK_look]
  obtain ⟨L, hL⟩ : ∃ L, lastK (wrs cs) x (wrs cs).length = L := ⟨_, rfl⟩
  rw [hL] at hl ⊢
  by_cases hm : ∃ q, ∃ h : q < (wrs cs).length, (wrs cs)[q].arg = x.res
  · obtain ⟨q, hq, hqa⟩ := hm
    have hres : 1 ≤ x.res := by rw [← hqa]; exact hW.arg q hq
    have huq : ∀ p, p < (wrs cs).length → ((wrs cs).getD p default).arg = x.res → p = q := fun p hp e => by rw [getD_W hp] at e; exact hW.one p q hp hq (e.trans hqa.symm)
    rw [wrK_at (wrs cs) x (q := q) (by rw [getD_W hq]; exact hqa) _ hq huq]
    constructor
    · rintro ⟨_, h | ⟨p, h1, h2, h3⟩⟩
      · right
        rw [if_neg (by omega), ← h, show ((q : Int) + 1 - 1).toNat = q by omega, getD_W hq]; exact hqa.symm
      · left
        obtain rfl : p = q := by omega
        exact ⟨p, hq, h3, by rw [getD_W hq]; exact hqa⟩
    · rintro (⟨p, h1, h2, h3⟩ | h)
      · exact ⟨by omega, .inr ⟨q, hq, rfl, by rw [← huq p h1 h3]; exact h2⟩⟩
      · refine ⟨by omega, .inl ?_⟩
        by_cases e : L = 0
        · rw [if_pos e] at h; omega
        · rw [if_neg e] at h
          have := huq (L - 1).toNat (by omega) h.symm
          omega
  · have hno : ∀ q, q < (wrs cs).length → ((wrs cs).getD q default).arg ≠ x.res := fun q h => by rw [getD_W h]; exact fun e => hm ⟨q, h, e⟩
    by_cases hr : x.res = 0
    · rw [wrK_zero _ _ hr _ hno]
      constructor
      · rintro ⟨_, h | ⟨p, h1, h2, h3⟩⟩
        · right; rw [← h, if_pos rfl]; exact hr
        · omega
      · rintro (⟨p, h1, h2, h3⟩ | h)
        · exact absurd h3 (hno p h1)
        · refine ⟨by omega, .inl ?_⟩
          by_cases e : L = 0
          · exact e.symm
          · rw [if_neg e] at h
            exact absurd h.symm (hno (L - 1).toNat (by omega))
    · rw [wrK_neg _ _ hr _ hno]
      constructor
      · rintro ⟨h, _⟩; omega
      · rintro (⟨p, h1, h2, h3⟩ | h)
        · exact absurd h3 (hno p h1)
        · by_cases e : L = 0
          · rw [if_pos e] at h; exact absurd h hr
          · rw [if_neg e] at h
            exact absurd h.symm (hno (L - 1).toNat (by omega))
theorem safe_same : safeK (wrs cs) x = decide (1 ≤ levR cs x) := by
  obtain ⟨i1, i2, i3⟩ := lv_inv hW.kind hto hft (wrs cs).length (Nat.le_refl _)
  unfold safeK
  rw [reg_same hW hto hft, Bool.eq_iff_iff, Bool.or_eq_true, decide_eq_true_eq, decide_eq_true_eq, decide_eq_true_eq, ovK_pos, ← i2]
  unfold levR
  rw [lv_cs]
  split
  · simp
  · split
    · rename_i h; simp [h]
    · rename_i h; simp [h]
end
/-! what is so of a reading's calls -/
structure FT (i : Int) (cs : List Cl) : Prop where
  place : ∀ a ∈ cs, 0 ≤ a.from_ ∧ a.from_ < i ∧ a.to < i
  apart : ∀ a ∈ cs, ∀ b ∈ cs, a.from_ ≠ b.to
theorem evR_form (ts : List Int) (cs : List Cl) (i : Int) (x : Ev) : (evR ts cs i x).2 = cs ∨ (∃ m, ∃ h : m < cs.length, (evR ts cs i x).2 = cs.set m { cs[m] with res := x.value, to := i }) ∨ (evR ts cs i x).2 = cs ++ [⟨x.who, x.thing, x.kind, x.value, 0, i, -1⟩] := by
  unfold evR
  split
  · exact .inl rfl
  · split
    · split
      · exact .inl rfl
      · split
        · rename_i hz _
          have hlt := openTo_lt cs x.who cs.length
          have hml : (openTo cs x.who cs.length).toNat < cs.length := by omega
          refine .inr (.inl ⟨(openTo cs x.who cs.length).toNat, hml, ?_⟩)
          have hd : cs.getD (openTo cs x.who cs.length).toNat default = cs[(openTo cs x.who cs.length).toNat] := by simp [hml]
          rw [hd]
        · exact .inl rfl
    · split
      · exact .inl rfl
      · split
        · exact .inl rfl
        · exact .inr (.inr rfl)
theorem ft_step {ts : List Int} {i : Int} {cs : List Cl} (x : Ev) (hi : 0 ≤ i) (h : FT i cs) : FT (i + 1) (evR ts cs i x).2 := by
  rcases evR_form ts cs i x with e | ⟨m, hm, e⟩ | e <;> rw [e]
  · exact ⟨fun a ha => by have := h.place a ha; omega, h.apart⟩
  · have hmm := List.getElem_mem hm
    have hp := h.place _ hmm
    constructor
    · intro a ha
      rcases List.mem_or_eq_of_mem_set ha with ha | rfl
      · have := h.place a ha; omega
      · dsimp only; omega
    · intro a ha b hb
      rcases List.mem_or_eq_of_mem_set ha with ha | rfl <;> rcases List.mem_or_eq_of_mem_set hb with hb | rfl
      · exact h.apart a ha b hb
      · have := h.place a ha; dsimp only; omega
      · exact h.apart _ hmm b hb
      · dsimp only; omega
  · constructor
    · intro a ha
      rcases List.mem_append.1 ha with ha | ha
      · have := h.place a ha; omega
      · obtain rfl : a = _ := by simpa using ha
        dsimp only; omega
    · intro a ha b hb
      rcases List.mem_append.1 ha with ha | ha <;> rcases List.mem_append.1 hb with hb | hb
      · exact h.apart a ha b hb
      · obtain rfl : b = _ := by simpa using hb
        have := h.place a ha; dsimp only; omega
      · obtain rfl : a = _ := by simpa using ha
        have := h.place b hb; dsimp only; omega
      · obtain rfl : a = _ := by simpa using ha
        obtain rfl : b = _ := by simpa using hb
        dsimp only; omega
theorem ft_st (ts : List Int) (l : List Ev) : ∀ k : Nat, FT (k : Int) (stR ts l k)
  | 0 => ⟨fun a h => by simp [stR] at h, fun a h => by simp [stR] at h⟩
  | k + 1 => by
    have := ft_step (ts := ts) (i := k) (l.getD k default) (by omega) (ft_st ts l k)
    rw [stR]
    exact this
/-- what is so of the calls that are judged -/
structure RegC (cs : List Cl) : Prop where
  len : cs.length ≤ 200
  arg : ∀ a ∈ cs, a.kind = 1 → 1 ≤ a.arg
  apart : ∀ a ∈ cs, ∀ b ∈ cs, a.from_ ≠ b.to
theorem regC_of {ts : List Int} {l : List Ev} (h : (callsR ts l).2.2 = 0) : RegC (callsR ts l).1 := by
  obtain ⟨_, h2, _, h4⟩ := callsR_inv h
  have hl := callsR_len ts l
  refine ⟨hl, ?_, ?_⟩
  · intro a ha hk
    rw [h4] at ha
    obtain ⟨q, hq, rfl⟩ := List.getElem_of_mem ha
    have := ((clsOk_st ts l l.length).each q hq).arg
    rw [hk] at this
    simp [argB] at this
    exact this.1
  · rw [h4]; exact (ft_st ts l l.length).apart
theorem rowW_of {cs : List Cl} (hR : RegC cs) (hG : GoodW cs) : RowW (wrs cs) := by
  have hp := (goodW_iff cs).1 hG
  rw [List.pairwise_iff_getElem] at hp
  have hm : ∀ q (h : q < (wrs cs).length), (wrs cs)[q] ∈ cs ∧ (wrs cs)[q].kind = 1 := fun q h => by
    have := List.mem_filter.1 (List.getElem_mem h)
    exact ⟨this.1, by simpa [isW] using this.2⟩
  refine ⟨fun q h => (hm q h).2, fun q h => hR.arg _ (hm q h).1 (hm q h).2, fun p q hp' hq' e => ?_⟩
  rcases Nat.lt_trichotomy p q with h | h | h
  · exact absurd e (hp p q hp' hq' h).1
  · exact h
  · exact absurd e.symm (hp q p hq' hp' h).1
/-! the reads that are judged -/
structure Jd where
  n : Nat
  write : Int
  regular : Bool
  safe : Bool
instance : Inhabited Jd := ⟨⟨0, 0, false, false⟩⟩
def Jd.enc (j : Jd) : List Value := [.int .i64 (j.n : Nat), .int .i64 j.write, .bool j.regular, .bool j.safe]
def isRd (x : Cl) : Bool := decide (x.kind = 2) && !decide (x.to = -1)
def jOf (W : List Cl) (cs : List Cl) (n : Nat) : Jd := ⟨n, wrK W (cs.getD n default) W.length, regK W (cs.getD n default), safeK W (cs.getD n default)⟩
def readsK (W cs : List Cl) (k : Nat) : List Jd := ((List.range k).filter fun n => isRd (cs.getD n default)).map (jOf W cs)
theorem readsK_yes {W cs : List Cl} {k : Nat} (h : isRd (cs.getD k default) = true) : readsK W cs k ++ [jOf W cs k] = readsK W cs (k + 1) := by
  unfold readsK; rw [List.range_succ, List.filter_append, List.map_append, List.filter_cons, if_pos h]; rfl
theorem readsK_no {W cs : List Cl} {k : Nat} (h : isRd (cs.getD k default) = false) : readsK W cs k = readsK W cs (k + 1) := by
  unfold readsK; rw [List.range_succ, List.filter_append, List.map_append, List.filter_cons, if_neg (by rw [h]; decide)]; simp
theorem readsK_len (W cs : List Cl) (k : Nat) : (readsK W cs k).length ≤ k := by
  unfold readsK
  rw [List.length_map]
  have := List.length_filter_le (fun n => isRd (cs.getD n default)) (List.range k)
  rw [List.length_range] at this; exact this
theorem readsK_lt {W cs : List Cl} {k : Nat} {j : Jd} (h : j ∈ readsK W cs k) : j.n < k := by
  unfold readsK at h
  obtain ⟨n, hn, rfl⟩ := List.mem_map.1 h
  have := (List.mem_filter.1 hn).1
  simpa [jOf] using this
end Go.Proofs.Ytppicbdaijiifaa
