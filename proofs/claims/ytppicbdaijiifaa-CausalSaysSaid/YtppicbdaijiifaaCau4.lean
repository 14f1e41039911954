/- Views (plain): two ways to look for an order, one answer. No condition. -/
import Derived.Test.YtppicbdaijiifaaCau3
namespace Go.Proofs.Ytppicbdaijiifaa
open Go.RowKit

/-- what is there behind a list of calls -/
def lastV (cs : List Cl) (l : List Nat) (t : Int) : Int := l.foldl (fun v i => if (clAt cs i).kind = 1 ∧ (clAt cs i).thing = t then (clAt cs i).arg else v) 0
theorem lastV_snoc (cs : List Cl) (l : List Nat) (i : Nat) (t : Int) : lastV cs (l ++ [i]) t = if (clAt cs i).kind = 1 ∧ (clAt cs i).thing = t then (clAt cs i).arg else lastV cs l t := by
  unfold lastV; rw [List.foldl_append]; rfl
def needB (cs : List Cl) (who : Int) (i : Nat) : Bool := decide ((clAt cs i).kind = 1) || decide ((clAt cs i).who = who)
/-- who may come next -/
def candB (cs : List Cl) (who : Int) (l : List Nat) (k : Nat) : Bool := needB cs who k && !l.contains k
def valB (cs : List Cl) (l : List Nat) (k : Nat) : Bool := decide ((clAt cs k).kind = 1) || decide (lastV cs l (clAt cs k).thing = (clAt cs k).res)
/-- the program's test: none of those that are placed is behind it -/
def okF (cs : List Cl) (f : Nat → Nat) (l : List Nat) (k : Nat) : Bool := ((List.range cs.length).all fun j => !(l.contains j && (f k).testBit j)) && valB cs l k
/-- the document's: all that are ahead of it are placed -/
def okD (cs : List Cl) (f : Nat → Nat) (who : Int) (l : List Nat) (k : Nat) : Bool := ((List.range cs.length).all fun i => !((f i).testBit k && candB cs who l i)) && valB cs l k
def anyB (n : Nat) (p : Nat → Bool) : Bool := (List.range n).any p
theorem anyB_true {n : Nat} {p : Nat → Bool} : anyB n p = true ↔ ∃ k, k < n ∧ p k = true := by
  unfold anyB; rw [List.any_eq_true]
  exact ⟨fun ⟨k, h1, h2⟩ => ⟨k, by simpa using h1, h2⟩, fun ⟨k, h1, h2⟩ => ⟨k, by simpa using h1, h2⟩⟩
theorem anyB_false {n : Nat} {p : Nat → Bool} : anyB n p = false ↔ ∀ k, k < n → p k = false := by
  rw [Bool.eq_false_iff, ne_eq, anyB_true]
  exact ⟨fun h k hk => by
    rw [Bool.eq_false_iff]; intro e; exact h ⟨k, hk, e⟩, fun h ⟨k, hk, e⟩ => by rw [h k hk] at e; cases e⟩
/-- the search -/
def runB (n : Nat) (cand ok : List Nat → Nat → Bool) : Nat → List Nat → Bool
  | 0, l => !anyB n (cand l)
  | f + 1, l => !anyB n (cand l) || anyB n fun k => cand l k && (ok l k && runB n cand ok f (l ++ [k]))
inductive Run (n : Nat) (cand ok : List Nat → Nat → Bool) : List Nat → Prop
  | done {l : List Nat} (h : ∀ k, k < n → cand l k = false) : Run n cand ok l
  | step {l : List Nat} (k : Nat) (hk : k < n) (hc : cand l k = true) (ho : ok l k = true) (h : Run n cand ok (l ++ [k])) : Run n cand ok l
/-- how many are left -/
def leftN (n : Nat) (p : Nat → Bool) : Nat := (List.range n).countP p
theorem leftN_drop {n : Nat} {p q : Nat → Bool} {k : Nat} (hk : k < n) (hp : p k = true) (hq : q k = false) (h : ∀ j, q j = true → p j = true) : leftN n q < leftN n p := by
  unfold leftN
  induction n with
  | zero => omega
  | succ n ih =>
    rw [List.range_succ, List.countP_append, List.countP_append]
    have mono : (List.range n).countP q ≤ (List.range n).countP p := List.countP_mono_left fun x _ hx => h x hx
    by_cases e : k = n
    · subst e
      have h1 : List.countP q [k] = 0 := by simp [hq]
      have h2 : List.countP p [k] = 1 := by simp [hp]
      omega
    · have := ih (by omega)
      have h3 : List.countP q [n] ≤ List.countP p [n] := List.countP_mono_left fun x _ hx => h x hx
      omega
theorem run_iff {n : Nat} {cand ok : List Nat → Nat → Bool} (hc : ∀ l k j, cand (l ++ [k]) j = (cand l j && !decide (j = k))) : ∀ f l, leftN n (cand l) ≤ f → (runB n cand ok f l = true ↔ Run n cand ok l)
  | 0, l, h => by
    have h0 : ∀ k, k < n → cand l k = false := by
      intro k hk
      rw [Bool.eq_false_iff]; intro e
      have : 0 < leftN n (cand l) := List.countP_pos_iff.2 ⟨k, by simpa using hk, e⟩
      omega
    have : runB n cand ok 0 l = true := by unfold runB; rw [anyB_false.2 h0]; rfl
    rw [this]
    exact ⟨fun _ => .done h0, fun _ => rfl⟩
  | f + 1, l, h => by
    have ih : ∀ k, k < n → cand l k = true → (runB n cand ok f (l ++ [k]) = true ↔ Run n cand ok (l ++ [k])) := fun k hk hck =>
      run_iff hc f (l ++ [k]) (by
        have := leftN_drop (p := cand l) (q := cand (l ++ [k])) hk hck (by rw [hc]; simp) (fun j hj => by rw [hc, Bool.and_eq_true] at hj; exact hj.1)
        omega)
    rw [runB, Bool.or_eq_true]
    constructor
    · rintro (h1 | h1)
      · exact .done (anyB_false.1 (by simpa using h1))
      · obtain ⟨k, hk, hb⟩ := anyB_true.1 h1
        simp only [Bool.and_eq_true] at hb
        exact .step k hk hb.1 hb.2.1 ((ih k hk hb.1).1 hb.2.2)
    · intro hr
      cases hr with
      | done h0 => exact .inl (by rw [anyB_false.2 h0]; rfl)
      | step k hk h1 h2 h3 => exact .inr (anyB_true.2 ⟨k, hk, by rw [h1, h2, (ih k hk h1).2 h3]; rfl⟩)
theorem candB_snoc (cs : List Cl) (who : Int) (l : List Nat) (k j : Nat) : candB cs who (l ++ [k]) j = (candB cs who l j && !decide (j = k)) := by
  unfold candB
  have : (l ++ [k]).contains j = (l.contains j || decide (j = k)) := by
    rw [Bool.eq_iff_iff]; simp
  rw [this]
  cases needB cs who j <;> cases l.contains j <;> simp
section
variable {cs : List Cl} {f : Nat → Nat} {who : Int}
theorem okF_true {l : List Nat} {k : Nat} : okF cs f l k = true ↔ (∀ j, j < cs.length → l.contains j = true → (f k).testBit j = false) ∧ valB cs l k = true := by
  unfold okF
  rw [Bool.and_eq_true, List.all_eq_true]
  refine and_congr_left fun _ => ⟨fun h j hj hl => ?_, fun h j hj => ?_⟩
  · have := h j (by simpa using hj)
    rw [hl] at this; simpa using this
  · cases hl : l.contains j
    · rfl
    · rw [h j (by simpa using hj) hl]; rfl
theorem okD_true {l : List Nat} {k : Nat} : okD cs f who l k = true ↔ (∀ i, i < cs.length → candB cs who l i = true → (f i).testBit k = false) ∧ valB cs l k = true := by
  unfold okD
  rw [Bool.and_eq_true, List.all_eq_true]
  refine and_congr_left fun _ => ⟨fun h j hj hl => ?_, fun h j hj => ?_⟩
  · have := h j (by simpa using hj)
    rw [hl] at this; simpa using this
  · cases hl : candB cs who l j
    · simp
    · rw [h j (by simpa using hj) hl]; rfl
abbrev RunF (cs : List Cl) (f : Nat → Nat) (who : Int) := Run cs.length (candB cs who) (okF cs f)
abbrev RunD (cs : List Cl) (f : Nat → Nat) (who : Int) := Run cs.length (candB cs who) (okD cs f who)
theorem runF_ahead {l : List Nat} (h : RunF cs f who l) : ∀ j, j < cs.length → candB cs who l j = true → ∀ i, i < cs.length → l.contains i = true → (f j).testBit i = false := by
  induction h with
  | done h0 => intro j hj hc; rw [h0 j hj] at hc; cases hc
  | @step l k hk hc ho h ih =>
    intro j hj hcj i hi hl
    by_cases e : j = k
    · subst e; exact (okF_true.1 ho).1 i hi hl
    · exact ih j hj (by rw [candB_snoc, hcj, decide_eq_false e]; rfl) i hi (by simp at hl ⊢; exact .inl hl)
theorem runF_D {l : List Nat} (hirr : ∀ k, k < cs.length → (f k).testBit k = false) (h : RunF cs f who l) : RunD cs f who l := by
  induction h with
  | done h0 => exact .done h0
  | @step l k hk hc ho h ih =>
    refine .step k hk hc (okD_true.2 ⟨fun j hj hcj => ?_, (okF_true.1 ho).2⟩) ih
    by_cases e : j = k
    · subst e; exact hirr j hj
    · exact runF_ahead h j hj (by rw [candB_snoc, hcj, decide_eq_false e]; rfl) k hk (by simp)
theorem runD_F {l : List Nat} (h : RunD cs f who l) (hI : ∀ j, j < cs.length → candB cs who l j = true → ∀ i, i < cs.length → l.contains i = true → (f j).testBit i = false) : RunF cs f who l := by
  induction h with
  | done h0 => exact .done h0
  | @step l k hk hc ho h ih =>
    refine .step k hk hc (okF_true.2 ⟨fun i hi hl => hI k hk hc i hi hl, (okD_true.1 ho).2⟩) (ih fun j hj hcj i hi hl => ?_)
    rw [candB_snoc, Bool.and_eq_true] at hcj
    by_cases e : i = k
    · subst e; exact (okD_true.1 ho).1 j hj hcj.1
    · exact hI j hj hcj.1 i hi (by simp [e] at hl ⊢; exact hl)
def findR (cs : List Cl) (f : Nat → Nat) (who : Int) : Nat → List Nat → Bool := runB cs.length (candB cs who) (okF cs f)
def viewR (cs : List Cl) (f : Nat → Nat) (who : Int) : Nat → List Nat → Bool := runB cs.length (candB cs who) (okD cs f who)
theorem find_view (hirr : ∀ k, k < cs.length → (f k).testBit k = false) : findR cs f who cs.length [] = viewR cs f who cs.length [] := by
  have hle : leftN cs.length (candB cs who []) ≤ cs.length := by
    have := List.countP_le_length (p := candB cs who []) (l := List.range cs.length)
    simpa [leftN] using this
  rw [Bool.eq_iff_iff]
  unfold findR viewR
  rw [run_iff (candB_snoc cs who) _ _ hle, run_iff (candB_snoc cs who) _ _ hle]
  exact ⟨runF_D hirr, fun h => runD_F h fun j _ _ i _ hl => by simp at hl⟩
end
/-- all have one -/
def allF (cs : List Cl) (f : Nat → Nat) : Bool := (List.range 8).all fun who => findR cs f (who : Nat) cs.length []
def allD (cs : List Cl) (f : Nat → Nat) : Bool := (List.range 8).all fun who => viewR cs f (who : Nat) cs.length []
theorem all_same {cs : List Cl} {f : Nat → Nat} (hirr : ∀ k, k < cs.length → (f k).testBit k = false) : allF cs f = allD cs f := by
  unfold allF allD
  congr 1
  funext who
  exact find_view hirr
end Go.Proofs.Ytppicbdaijiifaa
