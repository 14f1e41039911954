/- Schedules: what is seen, and the lists of all (plain). No condition. -/
import Derived.Test.YtppicbdaijiifaaSerD
import Derived.Test.YtppicbdaijiifaaRelN
namespace Go.Proofs.Ytppicbdaijiifaa
open Go.RowKit

instance : Inhabited Deed := ⟨⟨0, 0, 0⟩⟩
def dAt (l : List Deed) (i : Nat) : Deed := l.getD i default
theorem dAt_eq {l : List Deed} {i : Nat} (h : i < l.length) : dAt l i = l[i] := by unfold dAt; rw [List.getD_eq_getElem?_getD, List.getElem?_eq_getElem h]; rfl
/-! lists of all, each behind the other -/
def nxM (p : List Int) : Nat → Nat
  | 0 => 0
  | m + 1 => if p.getD m 0 > p.getD (m + 1) 0 then nxM p m else m + 1
def nxK (p : List Int) (v : Int) : Nat → Nat
  | 0 => 0
  | k + 1 => if p.getD (k + 1) 0 < v then nxK p v k else k + 1
def revFrom (p : List Int) (i : Nat) : List Int := p.take i ++ (p.drop i).reverse
def nextL (p : List Int) : Option (List Int) :=
  match nxM p 5 with
  | 0 => none
  | i + 1 => some (revFrom ((p.set i (p.getD (nxK p (p.getD i 0) 5) 0)).set (nxK p (p.getD i 0) 5) (p.getD i 0)) (i + 1))
def freeW (who : List Int) : List Int := [0, 1, 2, 3, 4, 5].filter fun w => !who.contains w
def ext : Nat → List Int → List (List Int)
  | 0, who => [who]
  | f + 1, who => (freeW who).flatMap fun w => ext f (who ++ [w])
def chainOk : List (List Int) → Bool
  | [] => true
  | [a] => nextL a == none
  | a :: b :: r => nextL a == some b && chainOk (b :: r)
set_option maxRecDepth 100000 in
theorem chain6 : chainOk (ext 6 []) = true := by decide +kernel
set_option maxRecDepth 100000 in
theorem first6 : (ext 6 []).head? = some [0, 1, 2, 3, 4, 5] := by decide +kernel
set_option maxRecDepth 100000 in
theorem perm6 : ((ext 6 []).all fun p => p.length == 6 && ([0, 1, 2, 3, 4, 5] : List Int).all p.contains && p.all [0, 1, 2, 3, 4, 5].contains && decide (p.Nodup)) = true := by decide +kernel
theorem chain_at : ∀ {L : List (List Int)}, chainOk L = true → ∀ j (h : j < L.length), (∀ h1 : j + 1 < L.length, nextL L[j] = some L[j + 1]) ∧ (j + 1 = L.length → nextL L[j] = none)
  | [], _, j, h => by simp at h
  | [a], hc, j, h => by
    obtain rfl : j = 0 := by simpa using h
    simp only [chainOk, beq_iff_eq] at hc
    exact ⟨fun h1 => by simp at h1, fun _ => hc⟩
  | a :: b :: r, hc, j, h => by
    simp only [chainOk, Bool.and_eq_true, beq_iff_eq] at hc
    match j, h with
    | 0, _ => exact ⟨fun _ => hc.1, fun h1 => by simp at h1⟩
    | j + 1, h =>
      obtain ⟨h1, h2⟩ := chain_at hc.2 j (by simpa using h)
      exact ⟨fun h3 => h1 (by simpa using h3), fun h3 => h2 (by simpa using h3)⟩
structure Perm6 (p : List Int) : Prop where
  len : p.length = 6
  all : ∀ w : Int, 0 ≤ w → w ≤ 5 → w ∈ p
  in_ : ∀ w ∈ p, 0 ≤ w ∧ w ≤ 5
  nodup : p.Nodup
theorem perm6_of {p : List Int} (h : p ∈ ext 6 []) : Perm6 p := by
  have := List.all_eq_true.1 perm6 p h
  simp only [Bool.and_eq_true, beq_iff_eq, List.all_eq_true, decide_eq_true_eq] at this
  obtain ⟨⟨⟨h1, h2⟩, h3⟩, h4⟩ := this
  refine ⟨h1, fun w a b => ?_, fun w hw => ?_, h4⟩
  · have hw : w ∈ ([0, 1, 2, 3, 4, 5] : List Int) := by
      have : w = 0 ∨ w = 1 ∨ w = 2 ∨ w = 3 ∨ w = 4 ∨ w = 5 := by omega
      rcases this with e | e | e | e | e | e <;> subst e <;> simp
    simpa using h2 w hw
  · have := h3 w hw
    simp at this
    omega
/-! what is seen -/
def isWr (d : Deed) (item : Int) : Bool := decide (d.kind = 1) && decide (d.item = item)
def lastF (l : List Deed) (item : Int) (w : Int) (i : Nat) : Int := if isWr (dAt l i) item = true then i else w
def lastOf (l : List Deed) (sq : List Nat) (item : Int) : Int := sq.foldl (lastF l item) (-1)
def seenGo (l : List Deed) (k : Nat) : List Nat → Int → Int
  | [], w => w
  | i :: r, w => if i = k then w else seenGo l k r (lastF l (dAt l k).item w i)
def seenBy (l : List Deed) (sq : List Nat) (k : Nat) : Int := seenGo l k sq (-1)
theorem seenGo_no (l : List Deed) (k : Nat) : ∀ (sq : List Nat) (w : Int), k ∉ sq → seenGo l k sq w = sq.foldl (lastF l (dAt l k).item) w
  | [], _, _ => rfl
  | i :: r, w, h => by
    simp only [List.mem_cons, not_or] at h
    rw [seenGo, if_neg (fun e => h.1 e.symm), List.foldl_cons, seenGo_no l k r _ h.2]
theorem seenGo_in (l : List Deed) (k : Nat) : ∀ (sq tl : List Nat) (w : Int), k ∈ sq → seenGo l k (sq ++ tl) w = seenGo l k sq w
  | [], _, _, h => by simp at h
  | i :: r, tl, w, h => by
    rw [List.cons_append, seenGo, seenGo]
    by_cases e : i = k
    · rw [if_pos e, if_pos e]
    · rw [if_neg e, if_neg e]
      refine seenGo_in l k r tl _ ?_
      rcases List.mem_cons.1 h with h | h
      · exact absurd h.symm e
      · exact h
theorem seenGo_at (l : List Deed) (k : Nat) : ∀ (sq tl : List Nat) (w : Int), k ∉ sq → seenGo l k (sq ++ k :: tl) w = sq.foldl (lastF l (dAt l k).item) w
  | [], _, w, _ => by simp [seenGo]
  | i :: r, tl, w, h => by
    simp only [List.mem_cons, not_or] at h
    rw [List.cons_append, seenGo, if_neg (fun e => h.1 e.symm), List.foldl_cons, seenGo_at l k r tl _ h.2]
def srcStep (l : List Deed) (out : List Int) (i : Nat) : List Int :=
  if (dAt l i).kind = 0 then out.set i (out.getD (l.length + (dAt l i).item.toNat) 0)
  else if (dAt l i).kind = 1 then out.set (l.length + (dAt l i).item.toNat) i else out
def srcL (l : List Deed) (sq : List Nat) : List Int := sq.foldl (srcStep l) (List.replicate (l.length + 6) (-1))
theorem srcStep_len (l : List Deed) (out : List Int) (i : Nat) : (srcStep l out i).length = out.length := by
  unfold srcStep; split
  · simp
  · split <;> simp
theorem srcL_snoc (l : List Deed) (sq : List Nat) (i : Nat) : srcL l (sq ++ [i]) = srcStep l (srcL l sq) i := by unfold srcL; rw [List.foldl_append]; rfl
theorem srcL_len (l : List Deed) : ∀ sq : List Nat, (srcL l sq).length = l.length + 6 := by
  intro sq
  suffices h : ∀ r : List Nat, (srcL l r.reverse).length = l.length + 6 by have := h sq.reverse; rwa [List.reverse_reverse] at this
  intro r
  induction r with
  | nil => simp [srcL]
  | cons i r ih => rw [List.reverse_cons, srcL_snoc, srcStep_len, ih]
theorem getD_setI (l : List Int) (i j : Nat) (x d : Int) (hi : i < l.length) : (l.set i x).getD j d = if j = i then x else l.getD j d := by
  rw [List.getD_eq_getElem?_getD, List.getElem?_set, List.getD_eq_getElem?_getD]
  by_cases e : i = j
  · subst e; simp [hi]
  · rw [if_neg e, if_neg fun h => e h.symm]
structure ItemsOk (l : List Deed) : Prop where
  item : ∀ i, i < l.length → 0 ≤ (dAt l i).item ∧ (dAt l i).item ≤ 5
theorem src_at {l : List Deed} (hI : ItemsOk l) : ∀ {sq : List Nat}, sq.Nodup → (∀ i ∈ sq, i < l.length) →
    (∀ k, k < l.length → (srcL l sq).getD k 0 = if (dAt l k).kind = 0 ∧ k ∈ sq then seenBy l sq k else -1) ∧ (∀ it : Nat, it < 6 → (srcL l sq).getD (l.length + it) 0 = lastOf l sq it) := by
  intro sq
  suffices h : ∀ r : List Nat, r.reverse.Nodup → (∀ i ∈ r.reverse, i < l.length) →
      (∀ k, k < l.length → (srcL l r.reverse).getD k 0 = if (dAt l k).kind = 0 ∧ k ∈ r.reverse then seenBy l r.reverse k else -1) ∧ (∀ it : Nat, it < 6 → (srcL l r.reverse).getD (l.length + it) 0 = lastOf l r.reverse it) by
    have := h sq.reverse; rwa [List.reverse_reverse] at this
  intro r
  induction r with
  | nil =>
    intro _ _
    refine ⟨fun k hk => ?_, fun it hit => ?_⟩
    · rw [if_neg (by simp)]
      simp [srcL, List.getD_eq_getElem?_getD, List.getElem?_replicate, show k < l.length + 6 by omega]
    · simp [srcL, lastOf, List.getD_eq_getElem?_getD, List.getElem?_replicate, show l.length + it < l.length + 6 by omega]
  | cons i r ih =>
    intro hnd hin
    rw [List.reverse_cons] at hnd hin ⊢
    rw [List.nodup_append] at hnd
    obtain ⟨n1, _, n3⟩ := hnd
    have hi : i < l.length := hin i (by simp)
    have hni : i ∉ r.reverse := fun h => n3 i h i (by simp) rfl
    obtain ⟨ih1, ih2⟩ := ih n1 fun j hj => hin j (by simp at hj ⊢; exact .inl hj)
    have hlen := srcL_len l r.reverse
    have hit := hI.item i hi
    obtain ⟨t, ht⟩ : ∃ t : Nat, (dAt l i).item = t := ⟨(dAt l i).item.toNat, by omega⟩
    have ht6 : t < 6 := by omega
    have hseen : ∀ k ∈ r.reverse, seenBy l (r.reverse ++ [i]) k = seenBy l r.reverse k := fun k hk => seenGo_in l k _ _ _ hk
    have hself : seenBy l (r.reverse ++ [i]) i = lastOf l r.reverse (dAt l i).item := seenGo_at l i _ _ _ hni
    have hlast : ∀ item, lastOf l (r.reverse ++ [i]) item = lastF l item (lastOf l r.reverse item) i := fun item => by unfold lastOf; rw [List.foldl_append]; rfl
    have hold : ∀ k, k < l.length → k ≠ i → (if (dAt l k).kind = 0 ∧ k ∈ r.reverse ++ [i] then seenBy l (r.reverse ++ [i]) k else -1) = (if (dAt l k).kind = 0 ∧ k ∈ r.reverse then seenBy l r.reverse k else -1) := fun k _ hk => by
      by_cases h : (dAt l k).kind = 0 ∧ k ∈ r.reverse
      · rw [if_pos h, if_pos ⟨h.1, List.mem_append_left _ h.2⟩, hseen k h.2]
      · rw [if_neg h, if_neg fun h' => h ⟨h'.1, by
          rcases List.mem_append.1 h'.2 with h2 | h2
          · exact h2
          · exact absurd (by simpa using h2) hk⟩]
    rw [srcL_snoc]
    unfold srcStep
    rw [ht, Int.toNat_natCast]
    by_cases k0 : (dAt l i).kind = 0
    · rw [if_pos k0]
      refine ⟨fun k hk => ?_, fun it hit' => ?_⟩
      · rw [getD_setI _ _ _ _ _ (by omega)]
        by_cases e : k = i
        · subst e
          rw [if_pos rfl, if_pos ⟨k0, by simp⟩, hself, ih2 t ht6, ht]
        · rw [if_neg e, ih1 k hk, hold k hk e]
      · rw [getD_setI _ _ _ _ _ (by omega), if_neg (by omega), ih2 it hit', hlast]
        unfold lastF isWr
        rw [k0]; simp
    · rw [if_neg k0]
      have hi' : (if (dAt l i).kind = 0 ∧ i ∈ r.reverse ++ [i] then seenBy l (r.reverse ++ [i]) i else -1) = (if (dAt l i).kind = 0 ∧ i ∈ r.reverse then seenBy l r.reverse i else -1) := by
        rw [if_neg fun h => k0 h.1, if_neg fun h => k0 h.1]
      by_cases k1 : (dAt l i).kind = 1
      · rw [if_pos k1]
        refine ⟨fun k hk => ?_, fun it hit' => ?_⟩
        · rw [getD_setI _ _ _ _ _ (by omega), if_neg (by omega), ih1 k hk]
          by_cases e : k = i
          · subst e; exact hi'.symm
          · exact (hold k hk e).symm
        · rw [getD_setI _ _ _ _ _ (by omega), hlast]
          unfold lastF isWr
          rw [k1, ht]
          by_cases e : it = t
          · subst e; simp
          · rw [if_neg (by omega), ih2 it hit', if_neg]
            simp only [decide_true, Bool.true_and, decide_eq_true_eq]
            omega
      · rw [if_neg k1]
        refine ⟨fun k hk => ?_, fun it hit' => ?_⟩
        · rw [ih1 k hk]
          by_cases e : k = i
          · subst e; exact hi'.symm
          · exact (hold k hk e).symm
        · rw [ih2 it hit', hlast]
          unfold lastF isWr
          rw [decide_eq_false k1]; simp
/-- the document's question -/
def alikeB (l : List Deed) (at_ : List Nat) : Bool :=
  ((List.range l.length).all fun k => !(decide ((dAt l k).kind = 0) && decide (seenBy l (List.range l.length) k ≠ seenBy l at_ k))) && (List.range 6).all fun it => decide (lastOf l (List.range l.length) (it : Nat) = lastOf l at_ (it : Nat))
theorem src_alike {l : List Deed} (hI : ItemsOk l) {at_ : List Nat} (hn : at_.Nodup) (hin : ∀ i ∈ at_, i < l.length) (hall : ∀ i, i < l.length → i ∈ at_) : srcL l at_ = srcL l (List.range l.length) ↔ alikeB l at_ = true := by
  obtain ⟨a1, a2⟩ := src_at hI hn hin
  obtain ⟨b1, b2⟩ := src_at hI (List.nodup_range (n := l.length)) (fun i hi => by simpa using hi)
  have hext : srcL l at_ = srcL l (List.range l.length) ↔ (∀ k, k < l.length → (srcL l at_).getD k 0 = (srcL l (List.range l.length)).getD k 0) ∧ ∀ it, it < 6 → (srcL l at_).getD (l.length + it) 0 = (srcL l (List.range l.length)).getD (l.length + it) 0 := by
    constructor
    · intro h; rw [h]; exact ⟨fun _ _ => rfl, fun _ _ => rfl⟩
    · rintro ⟨h1, h2⟩
      apply List.ext_getElem (by rw [srcL_len, srcL_len])
      intro k k1 k2
      rw [srcL_len] at k1
      have e : ∀ (L : List Int) (h : k < L.length), L.getD k 0 = L[k] := fun L h => by simp [h]
      rw [← e, ← e]
      by_cases hk : k < l.length
      · exact h1 k hk
      · have := h2 (k - l.length) (by omega)
        rwa [show l.length + (k - l.length) = k by omega] at this
  rw [hext]
  unfold alikeB
  rw [Bool.and_eq_true, List.all_eq_true, List.all_eq_true]
  constructor
  · rintro ⟨h1, h2⟩
    refine ⟨fun k hk => ?_, fun it hit => ?_⟩
    · have hk' : k < l.length := by simpa using hk
      have := h1 k hk'
      rw [a1 k hk', b1 k hk'] at this
      by_cases h0 : (dAt l k).kind = 0
      · rw [if_pos ⟨h0, hall k hk'⟩, if_pos ⟨h0, hk⟩] at this
        simp [this]
      · simp [h0]
    · have hit' : it < 6 := by simpa using hit
      have := h2 it hit'
      rw [a2 it hit', b2 it hit'] at this
      simp [this]
  · rintro ⟨h1, h2⟩
    refine ⟨fun k hk => ?_, fun it hit => ?_⟩
    · rw [a1 k hk, b1 k hk]
      by_cases h0 : (dAt l k).kind = 0
      · rw [if_pos ⟨h0, hall k hk⟩, if_pos ⟨h0, by simpa using hk⟩]
        have := h1 k (by simpa using hk)
        simp [h0] at this
        exact this.symm
      · rw [if_neg fun h => h0 h.1, if_neg fun h => h0 h.1]
    · rw [a2 it hit, b2 it hit]
      have := h2 it (by simpa using hit)
      simp at this
      exact this.symm
/-! one behind the other -/
def ofWho (l : List Deed) (w : Int) (k : Nat) : List Nat := (List.range k).filter fun i => decide ((dAt l i).who = w)
def seqL (l : List Deed) (who : List Int) : List Nat := who.flatMap fun w => ofWho l w l.length
theorem seq_mem {l : List Deed} {who : List Int} {i : Nat} : i ∈ seqL l who ↔ i < l.length ∧ (dAt l i).who ∈ who := by
  unfold seqL ofWho
  simp only [List.mem_flatMap, List.mem_filter, List.mem_range, decide_eq_true_eq]
  constructor
  · rintro ⟨w, hw, h1, rfl⟩; exact ⟨h1, hw⟩
  · rintro ⟨h1, h2⟩; exact ⟨_, h2, h1, rfl⟩
theorem seq_nodup (l : List Deed) : ∀ {who : List Int}, who.Nodup → (seqL l who).Nodup
  | [], _ => by simp [seqL]
  | w :: who, h => by
    rw [List.nodup_cons] at h
    have ih := seq_nodup l h.2
    unfold seqL at ih ⊢
    rw [List.flatMap_cons, List.nodup_append]
    refine ⟨List.nodup_range.filter _, ih, fun a ha b hb e => ?_⟩
    subst e
    have h1 : (dAt l a).who = w := by
      have := (List.mem_filter.1 ha).2
      simpa using this
    have h2 := (seq_mem (l := l) (who := who)).1 hb
    rw [h1] at h2
    exact h.1 h2.2
end Go.Proofs.Ytppicbdaijiifaa
