/- Lemmas for the walks (Sv1, Sv2, Sv3, Sv4, Sv5, Sv6). No condition. -/
import Derived.Test.YtaonijdhmgcbjaaG06
set_option linter.unusedSimpArgs false
set_option linter.unusedVariables false
set_option linter.unusedSectionVars false
set_option linter.unnecessarySimpa false
namespace Go.Proofs.Ytaonijdhmgcbjaa
open Go.RowKit

structure Tg where
  s : Int
  w : Int
  v : Int
  deriving DecidableEq, Inhabited
structure Si where
  s : Int
  w : Int
  v : Int
  down : Bool
  deriving Inhabited
def Si.tg (x : Si) : Tg := ⟨x.s, x.w, x.v⟩
def t0 : Tg := ⟨0, 0, 0⟩
def lessT (a b : Tg) : Bool := decide (a.s < b.s) || (decide (a.s = b.s) && decide (a.w < b.w))
theorem less_iff {a b : Tg} : lessT a b = true ↔ a.s < b.s ∨ (a.s = b.s ∧ a.w < b.w) := by unfold lessT; simp
theorem less_no {a b : Tg} : lessT a b = false ↔ b.s < a.s ∨ (b.s = a.s ∧ b.w ≤ a.w) := by
  rw [Bool.eq_false_iff, Ne, less_iff]; omega
structure Ml where
  trip : Nat
  site : Nat
  st : Nat
  got : Tg
  deriving Inhabited
structure Trp where
  who : Nat
  put : Bool
  tag : Tg
  rnd : Nat
  deriving Inhabited
structure Pv where
  next : Nat
  trip : Nat
  rd : Nat
  deriving Inhabited
structure Sv where
  at_ : List Si
  ml : List Ml
  tr : List Trp
  pe : List Pv
  evs : List Ev
def Sv.si (s : Sv) (j : Nat) : Si := s.at_.getD j default
def Sv.le (s : Sv) (i : Nat) : Ml := s.ml.getD i default
def Sv.tp (s : Sv) (t : Nat) : Trp := s.tr.getD t default
def Sv.p (s : Sv) (w : Nat) : Pv := s.pe.getD w default
def newMl (n T : Nat) : List Ml := (List.range n).map fun j => ⟨T, j, 0, t0⟩
def aboutV (n : Nat) (s : Sv) (w : Nat) (put : Bool) (tag : Tg) : Sv :=
  { s with tr := s.tr ++ [⟨w, put, tag, (s.p w).rd + 1⟩], pe := s.pe.set w ⟨(s.p w).next, s.tr.length + 1, (s.p w).rd + 1⟩, ml := s.ml ++ newMl n s.tr.length }
def backF (ml : List Ml) (T : Nat) : Nat → Nat × Tg
  | 0 => (0, t0)
  | k + 1 => if (ml.getD k default).trip = T ∧ (ml.getD k default).st = 2 then ((backF ml T k).1 + 1, if lessT (backF ml T k).2 (ml.getD k default).got = true then (ml.getD k default).got else (backF ml T k).2) else backF ml T k
def callV (n : Nat) (ps : List (List Ak)) (s : Sv) (w : Nat) : Sv :=
  if (s.p w).trip = 0 ∧ (s.p w).next < (ps.getD w []).length then
    aboutV n { s with evs := s.evs ++ [⟨(w : Nat), 0, ((ps.getD w []).getD (s.p w).next default).kind, ((ps.getD w []).getD (s.p w).next default).arg⟩] } w false t0
  else s
def handV (s : Sv) (i : Nat) : Sv :=
  if (s.le i).st = 0 ∧ (s.si (s.le i).site).down = false then
    { s with ml := s.ml.set i { s.le i with st := 1, got := (s.si (s.le i).site).tg },
             at_ := if (s.tp (s.le i).trip).put = true ∧ lessT (s.si (s.le i).site).tg (s.tp (s.le i).trip).tag = true then s.at_.set (s.le i).site ⟨(s.tp (s.le i).trip).tag.s, (s.tp (s.le i).trip).tag.w, (s.tp (s.le i).trip).tag.v, (s.si (s.le i).site).down⟩ else s.at_ }
  else s
def nextV (n : Nat) (fast : Bool) (ps : List (List Ak)) (s : Sv) (w T : Nat) (most : Tg) : Sv :=
  let x := (ps.getD w []).getD (s.p w).next default
  if (s.tp T).put = false ∧ x.kind = 1 then aboutV n s w true ⟨most.s + 1, (w : Nat), x.arg⟩
  else if (s.tp T).put = false ∧ fast = false then aboutV n s w true most
  else { s with evs := s.evs ++ [⟨(w : Nat), 0, 0, if x.kind = 1 then 0 else if (s.tp T).put = true then (s.tp T).tag.v else most.v⟩], pe := s.pe.set w ⟨(s.p w).next + 1, 0, (s.p w).rd + 1⟩ }
def markV (s : Sv) (i : Nat) : Sv := { s with ml := s.ml.set i { s.le i with st := 2 } }
def backV (n : Nat) (fast : Bool) (ps : List (List Ak)) (s : Sv) (i : Nat) : Sv :=
  if (s.le i).st ≠ 1 then s
  else
    let s1 := markV s i
    let T := (s.le i).trip
    let w := (s.tp T).who
    if (s.p w).trip ≠ T + 1 then s1
    else if (backF s1.ml T s1.ml.length).1 ≤ n / 2 then s1
    else nextV n fast ps s1 w T (backF s1.ml T s1.ml.length).2
structure Ac where
  kind : Int
  a : Int
  deriving Inhabited
def Ac.enc (x : Ac) : List Value := [.int .i64 x.kind, .int .i64 x.a]
def actV (n : Nat) (fast : Bool) (ps : List (List Ak)) (s : Sv) (x : Ac) : Sv :=
  if x.kind = 1 then callV n ps s x.a.toNat
  else if x.kind = 4 then { s with at_ := s.at_.set x.a.toNat { s.si x.a.toNat with down := true } }
  else if x.a < 0 ∨ (s.ml.length : Int) ≤ x.a then s
  else if x.kind = 2 then handV s x.a.toNat
  else backV n fast ps s x.a.toNat
def sv0 (n m : Nat) : Sv := ⟨List.replicate n ⟨0, 0, 0, false⟩, [], [], List.replicate m ⟨0, 0, 0⟩, []⟩
def runV (n : Nat) (fast : Bool) (ps : List (List Ak)) (l : List Ac) : Nat → Sv
  | 0 => sv0 n ps.length
  | k + 1 => actV n fast ps (runV n fast ps l k) (l.getD k default)

/-! counting sites -/
def cntP (p : Nat → Bool) : Nat → Nat
  | 0 => 0
  | k + 1 => cntP p k + (if p k = true then 1 else 0)
theorem cntP_le (p : Nat → Bool) : ∀ k, cntP p k ≤ k
  | 0 => Nat.le_refl _
  | k + 1 => by have := cntP_le p k; rw [cntP]; split <;> omega
theorem cntP_mono {p q : Nat → Bool} : ∀ {k : Nat}, (∀ j, j < k → p j = true → q j = true) → cntP p k ≤ cntP q k
  | 0, _ => Nat.le_refl _
  | k + 1, h => by
    have h1 := cntP_mono (p := p) (q := q) (k := k) fun j hj => h j (by omega)
    have h2 := h k (by omega)
    rw [cntP, cntP]
    by_cases e : p k = true
    · rw [if_pos e, if_pos (h2 e)]; omega
    · rw [if_neg e]; omega
theorem cntP_two {p q : Nat → Bool} : ∀ {k : Nat}, k < cntP p k + cntP q k → ∃ j, j < k ∧ p j = true ∧ q j = true
  | 0, h => by simp [cntP] at h
  | k + 1, h => by
    by_cases h2 : k < cntP p k + cntP q k
    · obtain ⟨j, h3, h4⟩ := cntP_two h2
      exact ⟨j, by omega, h4⟩
    · rw [cntP, cntP] at h
      refine ⟨k, by omega, ?_⟩
      by_cases e1 : p k = true
      · by_cases e2 : q k = true
        · exact ⟨e1, e2⟩
        · rw [if_neg e2] at h
          split at h <;> omega
      · rw [if_neg e1] at h
        split at h <;> omega
end Go.Proofs.Ytaonijdhmgcbjaa

namespace Go.Proofs.Ytaonijdhmgcbjaa
open Go.RowKit

def circ (s : Sv) (t : Tg) : Prop := t = t0 ∨ ∃ T, T < s.tr.length ∧ (s.tp T).tag = t
/-- a site that has at least a tag, and whose letter of the query under way has too -/
def goodS (n : Nat) (s : Sv) (t : Tg) (w j : Nat) : Bool :=
  !lessT (s.si j).tg t && (if (s.p w).trip ≠ 0 ∧ (s.tp ((s.p w).trip - 1)).put = false then (decide ((s.le (((s.p w).trip - 1) * n + j)).st = 0) || !lessT (s.le (((s.p w).trip - 1) * n + j)).got t) else true)
def Settled (n : Nat) (s : Sv) (t : Tg) (w : Nat) : Prop := n < 2 * cntP (goodS n s t w) n
def Under (s : Sv) (t : Tg) (w : Nat) : Prop := (s.p w).trip ≠ 0 ∧ (s.tp ((s.p w).trip - 1)).put = true ∧ (s.tp ((s.p w).trip - 1)).tag = t
structure SvOk (n : Nat) (ps : List (List Ak)) (K : Nat) (s : Sv) : Prop where
  at_ : s.at_.length = n
  lm : s.ml.length = s.tr.length * n
  ml : ∀ i, i < s.ml.length → (s.le i).trip = i / n ∧ (s.le i).site = i % n ∧ (s.le i).st ≤ 2
  lt : s.tr.length ≤ K
  le : s.evs.length ≤ K
  pe : s.pe.length = ps.length
  pr : ∀ w, w < ps.length → (s.p w).next ≤ (ps.getD w []).length ∧ ((s.p w).trip ≠ 0 → (s.p w).next < (ps.getD w []).length ∧ (s.p w).trip ≤ s.tr.length ∧ (s.tp ((s.p w).trip - 1)).who = w ∧ (s.tp ((s.p w).trip - 1)).rnd = (s.p w).rd)
  rd : ∀ w, w < ps.length → (s.p w).rd ≤ K
  tw : ∀ T, T < s.tr.length → (s.tp T).who < ps.length ∧ (s.tp T).rnd ≤ (s.p (s.tp T).who).rd ∧ ((s.tp T).rnd = (s.p (s.tp T).who).rd → (s.p (s.tp T).who).trip = T + 1)
  cr : ∀ t, circ s t → 0 ≤ t.s ∧ t.s ≤ K ∧ 0 ≤ t.w ∧ t.w ≤ 8
  cu : ∀ t u, circ s t → circ s u → t.s = u.s → t.w = u.w → t = u
  ca : ∀ j, j < n → circ s (s.si j).tg
  cg : ∀ i, i < s.ml.length → circ s (s.le i).got
  own : ∀ t, circ s t → 1 ≤ t.s → t.w < ps.length ∧ (Under s t t.w.toNat ∨ Settled n s t t.w.toNat)
  put : ∀ i, i < s.ml.length → 1 ≤ (s.le i).st → (s.tp (s.le i).trip).put = true → lessT (s.si (s.le i).site).tg (s.tp (s.le i).trip).tag = false

theorem less_trans_no {a b c : Tg} (h1 : lessT a b = true) (h2 : lessT a c = false) : lessT b c = false := by
  rw [less_iff] at h1
  rw [less_no] at h2 ⊢
  omega
theorem less_self (a : Tg) : lessT a a = false := by rw [less_no]; omega
theorem getD_set_eq {α : Type} {l : List α} {i : Nat} {x d : α} (h : i < l.length) : (l.set i x).getD i d = x := by simp [h]
theorem getD_set_ne {α : Type} {l : List α} {i j : Nat} {x d : α} (h : i ≠ j) : (l.set i x).getD j d = l.getD j d := by
  simp [List.getD_eq_getElem?_getD, List.getElem?_set_ne h]
/-- where the letter of a trip to a site lies -/
theorem place {n T j : Nat} (hj : j < n) : (T * n + j) / n = T ∧ (T * n + j) % n = j := by
  constructor
  · rw [Nat.mul_comm, Nat.mul_add_div (by omega), Nat.div_eq_of_lt hj]; omega
  · rw [Nat.mul_comm, Nat.mul_add_mod, Nat.mod_eq_of_lt hj]
theorem place_lt {n T j R : Nat} (hj : j < n) (hT : T < R) : T * n + j < R * n := by
  have : (T + 1) * n ≤ R * n := Nat.mul_le_mul_right n hT
  rw [Nat.succ_mul] at this
  omega
section
variable {n K : Nat} {ps : List (List Ak)} {s : Sv}
theorem SvOk.mono (h : SvOk n ps K s) : SvOk n ps (K + 1) s :=
  ⟨h.at_, h.lm, h.ml, by have := h.lt; omega, by have := h.le; omega, h.pe, h.pr, fun w hw => by have := h.rd w hw; omega, h.tw, fun t ht => by have := h.cr t ht; omega, h.cu, h.ca, h.cg, h.own, h.put⟩
/-- somebody goes down -/
theorem down_ok (h : SvOk n ps K s) {j : Nat} (hj : j < n) : SvOk n ps K { s with at_ := s.at_.set j { s.si j with down := true } } := by
  have hjl : j < s.at_.length := by rw [h.at_]; exact hj
  have hsi : ∀ i, (Sv.si { s with at_ := s.at_.set j { s.si j with down := true } } i).tg = (s.si i).tg := fun i => by
    unfold Sv.si
    by_cases e : j = i
    · subst e; rw [getD_set_eq hjl]; rfl
    · rw [getD_set_ne e]
  have hg : ∀ t w i, goodS n { s with at_ := s.at_.set j { s.si j with down := true } } t w i = goodS n s t w i := fun t w i => by
    unfold goodS; rw [hsi]; rfl
  refine ⟨by simp [h.at_], h.lm, h.ml, h.lt, h.le, h.pe, h.pr, h.rd, h.tw, h.cr, h.cu, fun i hi => by rw [hsi]; exact h.ca i hi, h.cg, fun t ht h1 => ?_, fun i hi h1 h2 => by rw [hsi]; exact h.put i hi h1 h2⟩
  obtain ⟨h2, h3⟩ := h.own t ht h1
  refine ⟨h2, h3.elim .inl fun h4 => .inr ?_⟩
  unfold Settled at h4 ⊢
  rw [show goodS n { s with at_ := s.at_.set j { s.si j with down := true } } t t.w.toNat = goodS n s t t.w.toNat from funext (hg t _)]
  exact h4
/-- a letter is back -/
theorem mark_ok (h : SvOk n ps K s) {i : Nat} (hi : i < s.ml.length) (hst : (s.le i).st = 1) : SvOk n ps K (markV s i) := by
  have hle : ∀ k, (Sv.le (markV s i) k).trip = (s.le k).trip ∧ (Sv.le (markV s i) k).site = (s.le k).site ∧ (Sv.le (markV s i) k).got = (s.le k).got ∧ ((Sv.le (markV s i) k).st = (s.le k).st ∨ (k = i ∧ (Sv.le (markV s i) k).st = 2)) := fun k => by
    unfold Sv.le markV
    by_cases e : i = k
    · subst e
      dsimp only
      rw [getD_set_eq hi]
      exact ⟨rfl, rfl, rfl, .inr ⟨rfl, rfl⟩⟩
    · dsimp only
      rw [getD_set_ne e]
      exact ⟨rfl, rfl, rfl, .inl rfl⟩
  have hll : (markV s i).ml.length = s.ml.length := by simp [markV]
  have hg : ∀ t w k, goodS n (markV s i) t w k = goodS n s t w k := fun t w k => by
    unfold goodS
    rw [(hle _).2.2.1, show Sv.p (markV s i) w = s.p w from rfl, show ∀ T, Sv.tp (markV s i) T = s.tp T from fun _ => rfl, show ∀ j, Sv.si (markV s i) j = s.si j from fun _ => rfl]
    have h4 := (hle (((s.p w).trip - 1) * n + k)).2.2.2
    have e : decide ((Sv.le (markV s i) (((s.p w).trip - 1) * n + k)).st = 0) = decide ((s.le (((s.p w).trip - 1) * n + k)).st = 0) := by
      rcases h4 with h4 | ⟨h5, h4⟩
      · rw [h4]
      · rw [h4, h5, hst]; rfl
    rw [e]
  refine ⟨h.at_, by rw [hll]; exact h.lm, fun k hk => ?_, h.lt, h.le, h.pe, h.pr, h.rd, h.tw, h.cr, h.cu, h.ca, fun k hk => ?_, fun t ht h1 => ?_, fun k hk h1 h2 => ?_⟩
  · rw [hll] at hk
    have h2 := h.ml k hk
    have h3 := hle k
    rw [h3.1, h3.2.1]
    exact ⟨h2.1, h2.2.1, by rcases h3.2.2.2 with h4 | ⟨_, h4⟩ <;> omega⟩
  · rw [hll] at hk
    rw [(hle k).2.2.1]; exact h.cg k hk
  · obtain ⟨h2, h3⟩ := h.own t ht h1
    refine ⟨h2, h3.elim .inl fun h4 => .inr ?_⟩
    unfold Settled at h4 ⊢
    rw [show goodS n (markV s i) t t.w.toNat = goodS n s t t.w.toNat from funext (hg t _)]
    exact h4
  · rw [hll] at hk
    have h3 := hle k
    rw [h3.1] at h2 ⊢
    rw [h3.2.1]
    refine h.put k hk ?_ h2
    rcases h3.2.2.2 with h4 | ⟨h5, h4⟩
    · rwa [h4] at h1
    · rw [h5, hst]; omega
end
end Go.Proofs.Ytaonijdhmgcbjaa

namespace Go.Proofs.Ytaonijdhmgcbjaa
open Go.RowKit

theorem cntP_congr {p q : Nat → Bool} : ∀ {k : Nat}, (∀ j, j < k → p j = q j) → cntP p k = cntP q k
  | 0, _ => rfl
  | k + 1, h => by rw [cntP, cntP, cntP_congr fun j hj => h j (by omega), h k (by omega)]
theorem good_iff {n : Nat} {s : Sv} {t : Tg} {w j : Nat} : goodS n s t w j = true ↔ lessT (s.si j).tg t = false ∧ ((s.p w).trip ≠ 0 → (s.tp ((s.p w).trip - 1)).put = false → (s.le (((s.p w).trip - 1) * n + j)).st = 0 ∨ lessT (s.le (((s.p w).trip - 1) * n + j)).got t = false) := by
  unfold goodS
  by_cases hc : (s.p w).trip ≠ 0 ∧ (s.tp ((s.p w).trip - 1)).put = false
  · rw [if_pos hc]
    simp only [Bool.and_eq_true, Bool.not_eq_true', Bool.or_eq_true, decide_eq_true_eq]
    exact ⟨fun ⟨a, b⟩ => ⟨a, fun _ _ => b⟩, fun ⟨a, b⟩ => ⟨a, b hc.1 hc.2⟩⟩
  · rw [if_neg hc]
    simp only [Bool.and_eq_true, Bool.not_eq_true', and_true]
    exact ⟨fun a => ⟨a, fun h1 h2 => absurd ⟨h1, h2⟩ hc⟩, fun a => a.1⟩
section
variable {n K : Nat} {ps : List (List Ak)} {s : Sv}
theorem Settled.mono {s' : Sv} {t : Tg} {w : Nat} (h : Settled n s t w) (hm : ∀ j, j < n → goodS n s t w j = true → goodS n s' t w j = true) : Settled n s' t w := by
  unfold Settled at h ⊢
  have := cntP_mono hm
  omega
theorem hand_ok (h : SvOk n ps K s) {i : Nat} (hi : i < s.ml.length) : SvOk n ps K (handV s i) := by
  unfold handV
  split
  case isFalse => exact h
  rename_i hc
  obtain ⟨hst, hdn⟩ := hc
  have hn0 : 0 < n := by
    rcases Nat.eq_zero_or_pos n with e | e
    · have := h.lm; rw [e, Nat.mul_zero] at this; omega
    · exact e
  obtain ⟨m1, m2, m3⟩ := h.ml i hi
  have hj : (s.le i).site < n := by rw [m2]; exact Nat.mod_lt _ hn0
  have hjl : (s.le i).site < s.at_.length := by rw [h.at_]; exact hj
  have hT : (s.le i).trip < s.tr.length := by
    rw [m1]
    have := h.lm
    exact Nat.div_lt_of_lt_mul (by rw [Nat.mul_comm]; omega)
  obtain ⟨s', hs'⟩ : ∃ s', s' = ({ s with ml := s.ml.set i { s.le i with st := 1, got := (s.si (s.le i).site).tg }, at_ := if (s.tp (s.le i).trip).put = true ∧ lessT (s.si (s.le i).site).tg (s.tp (s.le i).trip).tag = true then s.at_.set (s.le i).site ⟨(s.tp (s.le i).trip).tag.s, (s.tp (s.le i).trip).tag.w, (s.tp (s.le i).trip).tag.v, (s.si (s.le i).site).down⟩ else s.at_ } : Sv) := ⟨_, rfl⟩
  rw [← hs']
  have htr : s'.tr = s.tr := by rw [hs']
  have hpe : s'.pe = s.pe := by rw [hs']
  have hev : s'.evs = s.evs := by rw [hs']
  have hml : s'.ml = s.ml.set i { s.le i with st := 1, got := (s.si (s.le i).site).tg } := by rw [hs']
  have hat : s'.at_ = if (s.tp (s.le i).trip).put = true ∧ lessT (s.si (s.le i).site).tg (s.tp (s.le i).trip).tag = true then s.at_.set (s.le i).site ⟨(s.tp (s.le i).trip).tag.s, (s.tp (s.le i).trip).tag.w, (s.tp (s.le i).trip).tag.v, (s.si (s.le i).site).down⟩ else s.at_ := by rw [hs']
  clear hs'
  have hal : s'.at_.length = s.at_.length := by rw [hat]; split <;> simp
  have hp : ∀ w, s'.p w = s.p w := fun w => by unfold Sv.p; rw [hpe]
  have htp : ∀ T, s'.tp T = s.tp T := fun T => by unfold Sv.tp; rw [htr]
  have hll : s'.ml.length = s.ml.length := by rw [hml]; simp
  have hci : ∀ t, circ s' t ↔ circ s t := fun t => by unfold circ; rw [htr]; simp only [htp]
  have hsi : ∀ k, (s'.si k).tg = (s.si k).tg ∨ (k = (s.le i).site ∧ (s'.si k).tg = (s.tp (s.le i).trip).tag ∧ lessT (s.si k).tg (s.tp (s.le i).trip).tag = true) := fun k => by
    unfold Sv.si
    rw [hat]
    split
    · rename_i hcc
      by_cases e : (s.le i).site = k
      · subst e
        rw [getD_set_eq hjl]
        exact .inr ⟨rfl, rfl, hcc.2⟩
      · rw [getD_set_ne e]; exact .inl rfl
    · exact .inl rfl
  have hin : (s.tp (s.le i).trip).put = true → lessT (s'.si (s.le i).site).tg (s.tp (s.le i).trip).tag = false := fun hput => by
    by_cases hl : lessT (s.si (s.le i).site).tg (s.tp (s.le i).trip).tag = true
    · have : (s'.si (s.le i).site).tg = (s.tp (s.le i).trip).tag := by
        unfold Sv.si
        rw [hat, if_pos ⟨hput, hl⟩, getD_set_eq hjl]; rfl
      rw [this]; exact less_self _
    · have : (s'.si (s.le i).site).tg = (s.si (s.le i).site).tg := by
        unfold Sv.si
        rw [hat, if_neg (fun e => hl e.2)]
      rw [this]; exact Bool.eq_false_iff.2 hl
  have hmo : ∀ k t, lessT (s.si k).tg t = false → lessT (s'.si k).tg t = false := fun k t hk => by
    rcases hsi k with e | ⟨_, e, e2⟩
    · rw [e]; exact hk
    · rw [e]; exact less_trans_no e2 hk
  have hle : ∀ k, (k ≠ i ∧ s'.le k = s.le k) ∨ (k = i ∧ s'.le k = { s.le i with st := 1, got := (s.si (s.le i).site).tg }) := fun k => by
    unfold Sv.le
    rw [hml]
    by_cases e : i = k
    · subst e; exact .inr ⟨rfl, getD_set_eq hi⟩
    · exact .inl ⟨fun e2 => e e2.symm, getD_set_ne e⟩
  have hgm : ∀ t w j, j < n → goodS n s t w j = true → goodS n s' t w j = true := fun t w j hjn hgd => by
    rw [good_iff] at hgd ⊢
    rw [hp, htp]
    refine ⟨hmo j t hgd.1, fun a1 a2 => ?_⟩
    rcases hle (((s.p w).trip - 1) * n + j) with ⟨_, e⟩ | ⟨e1, e⟩
    · rw [e]; exact hgd.2 a1 a2
    · rw [e]
      refine .inr ?_
      dsimp only
      have : (s.le i).site = j := by rw [m2, ← e1]; exact (place hjn).2
      rw [this]; exact hgd.1
  refine ⟨by rw [hal]; exact h.at_, by rw [hll, htr]; exact h.lm, fun k hk => ?_, by rw [htr]; exact h.lt, by rw [hev]; exact h.le, by rw [hpe]; exact h.pe, fun w hw => ?_, fun w hw => by rw [hp]; exact h.rd w hw, fun T hT => ?_, fun t ht => h.cr t ((hci t).1 ht), fun t u ht hu => h.cu t u ((hci t).1 ht) ((hci u).1 hu), fun k hk => ?_, fun k hk => ?_, fun t ht h1 => ?_, fun k hk a1 a2 => ?_⟩
  · rw [hll] at hk
    rcases hle k with ⟨_, e⟩ | ⟨e1, e⟩
    · rw [e]; exact h.ml k hk
    · rw [e, e1]; exact ⟨m1, m2, by dsimp only; omega⟩
  · rw [hp, htr, htp]; exact h.pr w hw
  · rw [htr] at hT
    rw [htp, hp]; exact h.tw T hT
  · rw [hci]
    rcases hsi k with e | ⟨_, e, _⟩
    · rw [e]; exact h.ca k hk
    · rw [e]; exact .inr ⟨_, hT, rfl⟩
  · rw [hll] at hk
    rw [hci]
    rcases hle k with ⟨_, e⟩ | ⟨e1, e⟩
    · rw [e]; exact h.cg k hk
    · rw [e]; exact h.ca _ hj
  · obtain ⟨h2, h3⟩ := h.own t ((hci t).1 ht) h1
    refine ⟨h2, h3.elim (fun h4 => .inl ?_) fun h4 => .inr (h4.mono (hgm t _))⟩
    unfold Under at h4 ⊢
    rw [hp, htp]; exact h4
  · rw [hll] at hk
    rcases hle k with ⟨_, e⟩ | ⟨e1, e⟩
    · rw [e] at a1 a2 ⊢
      rw [htp] at a2 ⊢
      exact hmo _ _ (h.put k hk a1 a2)
    · rw [e] at a2 ⊢
      dsimp only at a2 ⊢
      rw [htp] at a2 ⊢
      exact hin a2
end
end Go.Proofs.Ytaonijdhmgcbjaa

namespace Go.Proofs.Ytaonijdhmgcbjaa
open Go.RowKit

theorem less_no_trans {a b c : Tg} (h1 : lessT a b = false) (h2 : lessT b c = false) : lessT a c = false := by
  rw [less_no] at h1 h2 ⊢; omega
theorem backF_mx (ml : List Ml) (T : Nat) : ∀ k, ((backF ml T k).2 = t0 ∨ ∃ q, q < k ∧ (ml.getD q default).trip = T ∧ (ml.getD q default).st = 2 ∧ (ml.getD q default).got = (backF ml T k).2) ∧ ∀ q, q < k → (ml.getD q default).trip = T → (ml.getD q default).st = 2 → lessT (backF ml T k).2 (ml.getD q default).got = false
  | 0 => ⟨.inl rfl, fun q hq => by omega⟩
  | k + 1 => by
    obtain ⟨h1, h2⟩ := backF_mx ml T k
    rw [backF]
    by_cases hc : (ml.getD k default).trip = T ∧ (ml.getD k default).st = 2
    · rw [if_pos hc]
      dsimp only
      by_cases hl : lessT (backF ml T k).2 (ml.getD k default).got = true
      · rw [if_pos hl]
        refine ⟨.inr ⟨k, by omega, hc.1, hc.2, rfl⟩, fun q hq a1 a2 => ?_⟩
        rcases Nat.lt_succ_iff_lt_or_eq.1 hq with e | rfl
        · exact less_trans_no hl (h2 q e a1 a2)
        · exact less_self _
      · rw [if_neg hl]
        refine ⟨h1.elim .inl fun ⟨q, a, b⟩ => .inr ⟨q, by omega, b⟩, fun q hq a1 a2 => ?_⟩
        rcases Nat.lt_succ_iff_lt_or_eq.1 hq with e | rfl
        · exact h2 q e a1 a2
        · exact Bool.eq_false_iff.2 hl
    · rw [if_neg hc]
      refine ⟨h1.elim .inl fun ⟨q, a, b⟩ => .inr ⟨q, by omega, b⟩, fun q hq a1 a2 => ?_⟩
      rcases Nat.lt_succ_iff_lt_or_eq.1 hq with e | rfl
      · exact h2 q e a1 a2
      · exact absurd ⟨a1, a2⟩ hc
/-- how many of the letters of a trip are back -/
theorem backF_cnt {ml : List Ml} {T n R : Nat} (hT : T < R) (hl : ml.length = R * n) (hm : ∀ i, i < ml.length → (ml.getD i default).trip = i / n) : (backF ml T ml.length).1 = cntP (fun j => decide ((ml.getD (T * n + j) default).st = 2)) n := by
  have h0 : ∀ k, k ≤ T * n → k ≤ ml.length → (backF ml T k).1 = 0 := by
    intro k
    induction k with
    | zero => intro _ _; rfl
    | succ k ih =>
      intro h1 h2
      rw [backF, if_neg, ih (by omega) (by omega)]
      rintro ⟨e, _⟩
      rw [hm k (by omega)] at e
      have : k / n < T := by
        rw [Nat.div_lt_iff_lt_mul]
        · omega
        · rcases Nat.eq_zero_or_pos n with hz | hz
          · rw [hz] at h1; omega
          · exact hz
      omega
  have hle : (T + 1) * n ≤ ml.length := by rw [hl]; exact Nat.mul_le_mul_right n hT
  rw [Nat.succ_mul] at hle
  have h1 : ∀ j, j ≤ n → (backF ml T (T * n + j)).1 = cntP (fun j => decide ((ml.getD (T * n + j) default).st = 2)) j := by
    intro j
    induction j with
    | zero => intro _; rw [Nat.add_zero, h0 _ (Nat.le_refl _) (by omega)]; rfl
    | succ j ih =>
      intro hj
      rw [← Nat.add_assoc, backF, cntP]
      have ht : (ml.getD (T * n + j) default).trip = T := by rw [hm _ (by omega)]; exact (place (by omega)).1
      by_cases e : (ml.getD (T * n + j) default).st = 2
      · rw [if_pos ⟨ht, e⟩, if_pos (decide_eq_true e)]
        dsimp only
        rw [ih (by omega)]
      · rw [if_neg (fun c => e c.2), if_neg (by rw [decide_eq_true_eq]; exact e), ih (by omega)]; rfl
  have h2 : ∀ d, T * n + n + d ≤ ml.length → (backF ml T (T * n + n + d)).1 = (backF ml T (T * n + n)).1 := by
    intro d
    induction d with
    | zero => intro _; rfl
    | succ d ih =>
      intro hd
      rw [← Nat.add_assoc, backF, if_neg, ih (by omega)]
      rintro ⟨e, _⟩
      rw [hm _ (by omega)] at e
      have hn : 0 < n := by
        rcases Nat.eq_zero_or_pos n with hz | hz
        · rw [hz, Nat.mul_zero] at hl; omega
        · exact hz
      have : T + 1 ≤ (T * n + n + d) / n := by
        rw [Nat.le_div_iff_mul_le hn, Nat.succ_mul]; omega
      omega
  have h3 := h2 (ml.length - (T * n + n)) (by omega)
  rw [show T * n + n + (ml.length - (T * n + n)) = ml.length by omega] at h3
  rw [h3, h1 n (Nat.le_refl _)]
section
variable {n K : Nat} {ps : List (List Ak)} {s : Sv}
theorem SvOk.le_trip (h : SvOk n ps K s) {T : Nat} (hT : T < s.tr.length) : (backF s.ml T s.ml.length).1 = cntP (fun j => decide ((s.le (T * n + j)).st = 2)) n :=
  backF_cnt hT h.lm fun i hi => (h.ml i hi).1
/-- quorums meet -/
theorem most_ge (h : SvOk n ps K s) {w : Nat} (hw : (s.p w).trip ≠ 0) (hq : (s.tp ((s.p w).trip - 1)).put = false) (hT : (s.p w).trip - 1 < s.tr.length) (hc : n < 2 * (backF s.ml ((s.p w).trip - 1) s.ml.length).1) {t : Tg} (ht : Settled n s t w) : lessT (backF s.ml ((s.p w).trip - 1) s.ml.length).2 t = false := by
  rw [h.le_trip hT] at hc
  unfold Settled at ht
  obtain ⟨j, hj, h1, h2⟩ := cntP_two (p := goodS n s t w) (q := fun j => decide ((s.le (((s.p w).trip - 1) * n + j)).st = 2)) (k := n) (by omega)
  rw [decide_eq_true_eq] at h2
  rw [good_iff] at h1
  have h3 := h1.2 hw hq
  have hlt : ((s.p w).trip - 1) * n + j < s.ml.length := by rw [h.lm]; exact place_lt hj hT
  have h4 := (backF_mx s.ml ((s.p w).trip - 1) s.ml.length).2 (((s.p w).trip - 1) * n + j) hlt (by
    have := (h.ml _ hlt).1
    unfold Sv.le at this
    rw [this]; exact (place hj).1) h2
  rcases h3 with h3 | h3
  · rw [h2] at h3; omega
  · exact less_no_trans h4 h3
theorem most_circ (h : SvOk n ps K s) (T : Nat) : circ s (backF s.ml T s.ml.length).2 := by
  rcases (backF_mx s.ml T s.ml.length).1 with e | ⟨q, hq, _, _, e⟩
  · rw [e]; exact .inl rfl
  · rw [← e]; exact h.cg q hq
/-- an answer -/
theorem respond_ok (h : SvOk n ps K s) {w : Nat} (hw : w < ps.length) (htr : (s.p w).trip ≠ 0) (hc : n < 2 * (backF s.ml ((s.p w).trip - 1) s.ml.length).1) (e : Ev) : SvOk n ps (K + 1) { s with evs := s.evs ++ [e], pe := s.pe.set w ⟨(s.p w).next + 1, 0, (s.p w).rd + 1⟩ } := by
  have hwl : w < s.pe.length := by rw [h.pe]; exact hw
  obtain ⟨p1, p2⟩ := h.pr w hw
  obtain ⟨p3, p4, p5, p6⟩ := p2 htr
  have hp : ∀ v, (v = w ∧ Sv.p { s with evs := s.evs ++ [e], pe := s.pe.set w ⟨(s.p w).next + 1, 0, (s.p w).rd + 1⟩ } v = ⟨(s.p w).next + 1, 0, (s.p w).rd + 1⟩) ∨ (v ≠ w ∧ Sv.p { s with evs := s.evs ++ [e], pe := s.pe.set w ⟨(s.p w).next + 1, 0, (s.p w).rd + 1⟩ } v = s.p v) := fun v => by
    unfold Sv.p
    by_cases e : w = v
    · subst e; exact .inl ⟨rfl, getD_set_eq hwl⟩
    · exact .inr ⟨fun e2 => e e2.symm, getD_set_ne e⟩
  obtain ⟨s', hs'⟩ : ∃ s', s' = ({ s with evs := s.evs ++ [e], pe := s.pe.set w ⟨(s.p w).next + 1, 0, (s.p w).rd + 1⟩ } : Sv) := ⟨_, rfl⟩
  rw [← hs'] at hp ⊢
  have e1 : s'.tr = s.tr := by rw [hs']
  have e2 : s'.ml = s.ml := by rw [hs']
  have e3 : s'.at_ = s.at_ := by rw [hs']
  have e4 : s'.evs.length = s.evs.length + 1 := by rw [hs']; simp
  have e5 : s'.pe.length = s.pe.length := by rw [hs']; simp
  clear hs'
  have htp : ∀ T, s'.tp T = s.tp T := fun T => by unfold Sv.tp; rw [e1]
  have hle : ∀ T, s'.le T = s.le T := fun T => by unfold Sv.le; rw [e2]
  have hsi : ∀ T, s'.si T = s.si T := fun T => by unfold Sv.si; rw [e3]
  have hci : ∀ t, circ s' t ↔ circ s t := fun t => by unfold circ; rw [e1]; simp only [htp]
  have hlt := h.lt
  have hev := h.le
  refine ⟨by rw [e3]; exact h.at_, by rw [e2, e1]; exact h.lm, fun k hk => by rw [hle]; rw [e2] at hk; exact h.ml k hk, by rw [e1]; omega, by omega, by rw [e5]; exact h.pe, fun v hv => ?_, fun v hv => ?_, fun T hT => ?_, fun t ht => by have := h.cr t ((hci t).1 ht); omega, fun t u ht hu => h.cu t u ((hci t).1 ht) ((hci u).1 hu), fun k hk => by rw [hci, hsi]; exact h.ca k hk, fun k hk => by rw [e2] at hk; rw [hci, hle]; exact h.cg k hk, fun t ht h1 => ?_, fun k hk a1 a2 => by rw [e2] at hk; rw [hle] at a1 a2 ⊢; rw [htp] at a2 ⊢; rw [hsi]; exact h.put k hk a1 a2⟩
  · rcases hp v with ⟨rfl, e⟩ | ⟨_, e⟩
    · rw [e]; exact ⟨by dsimp only; omega, fun hh => absurd rfl hh⟩
    · rw [e, e1, htp]; exact h.pr v hv
  · have := h.rd v hv
    rcases hp v with ⟨rfl, e⟩ | ⟨_, e⟩
    · rw [e]; dsimp only; omega
    · rw [e]; omega
  · rw [e1] at hT
    obtain ⟨t1, t2, t3⟩ := h.tw T hT
    rw [htp]
    refine ⟨t1, ?_⟩
    rcases hp (s.tp T).who with ⟨e6, e⟩ | ⟨_, e⟩
    · rw [e]
      dsimp only
      rw [e6] at t2
      exact ⟨by omega, fun e7 => by omega⟩
    · rw [e]; exact ⟨t2, t3⟩
  · obtain ⟨h2, h3⟩ := h.own t ((hci t).1 ht) h1
    refine ⟨h2, ?_⟩
    by_cases e6 : t.w.toNat = w
    · right
      rw [e6] at h3 ⊢
      have hpw : (s'.p w).trip = 0 := by
        rcases hp w with ⟨_, e⟩ | ⟨e, _⟩
        · rw [e]
        · exact absurd rfl e
      have hgd : ∀ j, goodS n s' t w j = !lessT (s.si j).tg t := fun j => by
        unfold goodS
        rw [if_neg (fun c => c.1 hpw), hsi]; simp
      unfold Settled
      rw [cntP_congr (q := fun j => !lessT (s.si j).tg t) fun j _ => hgd j]
      rcases h3 with ⟨_, u2, u3⟩ | h3
      · have hT : (s.p w).trip - 1 < s.tr.length := by omega
        rw [h.le_trip hT] at hc
        have := cntP_mono (p := fun j => decide ((s.le (((s.p w).trip - 1) * n + j)).st = 2)) (q := fun j => !lessT (s.si j).tg t) (k := n) fun j hj hd => by
          rw [decide_eq_true_eq] at hd
          have hl : ((s.p w).trip - 1) * n + j < s.ml.length := by rw [h.lm]; exact place_lt hj hT
          have hm := h.ml _ hl
          have ht2 : (s.le (((s.p w).trip - 1) * n + j)).trip = (s.p w).trip - 1 := by rw [hm.1]; exact (place hj).1
          have hs2 : (s.le (((s.p w).trip - 1) * n + j)).site = j := by rw [hm.2.1]; exact (place hj).2
          have := h.put _ hl (by omega) (by rw [ht2]; exact u2)
          rw [ht2, hs2, u3] at this
          simp [this]
        omega
      · unfold Settled at h3
        have := cntP_mono (p := goodS n s t w) (q := fun j => !lessT (s.si j).tg t) (k := n) fun j hj hd => by
          rw [good_iff] at hd
          simp [hd.1]
        omega
    · have hpw : s'.p t.w.toNat = s.p t.w.toNat := by
        rcases hp t.w.toNat with ⟨e, _⟩ | ⟨_, e⟩
        · exact absurd e e6
        · exact e
      refine h3.elim (fun h4 => .inl ?_) fun h4 => .inr (h4.mono fun j hj hd => ?_)
      · unfold Under at h4 ⊢
        rw [hpw, htp]; exact h4
      · rw [good_iff] at hd ⊢
        rw [hpw, htp, hsi, hle]; exact hd
end
end Go.Proofs.Ytaonijdhmgcbjaa

namespace Go.Proofs.Ytaonijdhmgcbjaa
open Go.RowKit

theorem getD_app {α : Type} {a b : List α} {i : Nat} {d : α} (hi : i < a.length) : (a ++ b).getD i d = a.getD i d := by
  rw [List.getD_eq_getElem?_getD, List.getD_eq_getElem?_getD, List.getElem?_append_left hi]
theorem getD_app2 {α : Type} {a b : List α} {i : Nat} {d : α} (hi : a.length ≤ i) : (a ++ b).getD i d = b.getD (i - a.length) d := by
  rw [List.getD_eq_getElem?_getD, List.getD_eq_getElem?_getD, List.getElem?_append_right hi]
theorem newMl_at {n T j : Nat} (hj : j < n) : (newMl n T).getD j default = ⟨T, j, 0, t0⟩ := by
  unfold newMl
  rw [List.getD_eq_getElem?_getD, List.getElem?_map, List.getElem?_range hj]; rfl
theorem newMl_len (n T : Nat) : (newMl n T).length = n := by simp [newMl]
section
variable {n K : Nat} {ps : List (List Ak)} {s : Sv}
/-- a new trip -/
theorem about_ok (h : SvOk n ps K s) (hps : ps.length ≤ 8) {w : Nat} (hw : w < ps.length) (hnx : (s.p w).next < (ps.getD w []).length) {put : Bool} {tag : Tg} {E : List Ev} (hE : E.length ≤ K + 1) (hq : (s.p w).trip ≠ 0 → (s.tp ((s.p w).trip - 1)).put = false) (hnew : circ s tag ∨ (put = true ∧ tag.w = (w : Int) ∧ 0 ≤ tag.s ∧ tag.s ≤ (K : Int) + 1 ∧ ∀ t, circ s t → t.w = tag.w → t.s < tag.s)) : SvOk n ps (K + 1) (aboutV n { s with evs := E } w put tag) := by
  have hwl : w < s.pe.length := by rw [h.pe]; exact hw
  obtain ⟨s', hs'⟩ : ∃ s', s' = aboutV n { s with evs := E } w put tag := ⟨_, rfl⟩
  rw [← hs']
  have e1 : s'.tr = s.tr ++ [⟨w, put, tag, (s.p w).rd + 1⟩] := by rw [hs']; rfl
  have e2 : s'.ml = s.ml ++ newMl n s.tr.length := by rw [hs']; rfl
  have e3 : s'.at_ = s.at_ := by rw [hs']; rfl
  have e4 : s'.evs = E := by rw [hs']; rfl
  have e5 : s'.pe = s.pe.set w ⟨(s.p w).next, s.tr.length + 1, (s.p w).rd + 1⟩ := by rw [hs']; rfl
  clear hs'
  have htp : ∀ T, T < s.tr.length → s'.tp T = s.tp T := fun T hT => by unfold Sv.tp; rw [e1, getD_app hT]
  have htn : s'.tp s.tr.length = ⟨w, put, tag, (s.p w).rd + 1⟩ := by unfold Sv.tp; rw [e1, getD_app2 (Nat.le_refl _), Nat.sub_self]; rfl
  have hle : ∀ i, i < s.ml.length → s'.le i = s.le i := fun i hi => by unfold Sv.le; rw [e2, getD_app hi]
  have hln : ∀ j, j < n → s'.le (s.ml.length + j) = ⟨s.tr.length, j, 0, t0⟩ := fun j hj => by unfold Sv.le; rw [e2, getD_app2 (by omega), Nat.add_sub_cancel_left, newMl_at hj]
  have hsi : ∀ T, s'.si T = s.si T := fun T => by unfold Sv.si; rw [e3]
  have hpw : s'.p w = ⟨(s.p w).next, s.tr.length + 1, (s.p w).rd + 1⟩ := by show s'.pe.getD w default = _; rw [e5, getD_set_eq hwl]
  have hpo : ∀ v, v ≠ w → s'.p v = s.p v := fun v hv => by unfold Sv.p; rw [e5, getD_set_ne (fun e => hv e.symm)]
  have htl : s'.tr.length = s.tr.length + 1 := by rw [e1]; simp
  have hll : s'.ml.length = s.ml.length + n := by rw [e2, List.length_append, newMl_len]
  have hlT : ∀ i, i < s.ml.length → (s.le i).trip < s.tr.length := fun i hi => by
    rw [(h.ml i hi).1]
    have := h.lm
    exact Nat.div_lt_of_lt_mul (by rw [Nat.mul_comm]; omega)
  have hci : ∀ t, circ s' t → circ s t ∨ t = tag := fun t ht => by
    rcases ht with ht | ⟨T, hT, ht⟩
    · exact .inl (.inl ht)
    · rw [htl] at hT
      rcases Nat.lt_succ_iff_lt_or_eq.1 hT with e | rfl
      · rw [htp T e] at ht; exact .inl (.inr ⟨T, e, ht⟩)
      · rw [htn] at ht; exact .inr ht.symm
  have hci2 : ∀ t, circ s t → circ s' t := fun t ht => by
    rcases ht with ht | ⟨T, hT, ht⟩
    · exact .inl ht
    · exact .inr ⟨T, by omega, by rw [htp T hT]; exact ht⟩
  have hlt := h.lt
  have hset : ∀ t v, v < ps.length → Settled n s t v → Settled n s' t v := fun t v hv hst => hst.mono fun j hj hd => by
    rw [good_iff] at hd ⊢
    rw [hsi]
    refine ⟨hd.1, fun a1 a2 => ?_⟩
    by_cases e : v = w
    · subst e
      rw [hpw] at a1 a2 ⊢
      dsimp only at a1 a2 ⊢
      rw [Nat.add_sub_cancel] at a2 ⊢
      rw [← h.lm, hln j hj]
      exact .inl rfl
    · rw [hpo v e] at a1 a2 ⊢
      obtain ⟨p1, p2, _⟩ := (h.pr v hv).2 a1
      rw [htp _ (by omega)] at a2
      rw [hle _ (by rw [h.lm]; exact place_lt hj (by omega))]
      exact hd.2 a1 a2
  have hown : ∀ t, circ s t → 1 ≤ t.s → t.w < ps.length ∧ (Under s' t t.w.toNat ∨ Settled n s' t t.w.toNat) := fun t ht h1 => by
    obtain ⟨h2, h3⟩ := h.own t ht h1
    have h0 := (h.cr t ht).2.2.1
    have hv : t.w.toNat < ps.length := by omega
    refine ⟨h2, ?_⟩
    rcases h3 with h3 | h3
    · left
      unfold Under at h3 ⊢
      have hne : t.w.toNat ≠ w := fun e => by
        rw [e] at h3
        have := hq h3.1
        rw [h3.2.1] at this
        exact absurd this (by decide)
      rw [hpo _ hne, htp _ (by have := ((h.pr _ hv).2 h3.1).2.1; have := h3.1; omega)]
      exact h3
    · exact .inr (hset t _ hv h3)
  refine ⟨by rw [e3]; exact h.at_, by rw [hll, htl, h.lm, Nat.succ_mul], fun k hk => ?_, by omega, by rw [e4]; omega, by rw [e5]; simp [h.pe], fun v hv => ?_, fun v hv => ?_, fun T hT => ?_, fun t ht => ?_, fun t u ht hu a1 a2 => ?_, fun j hj => by rw [hsi]; exact hci2 _ (h.ca j hj), fun k hk => ?_, fun t ht h1 => ?_, fun k hk a1 a2 => ?_⟩
  · rw [hll] at hk
    by_cases e : k < s.ml.length
    · rw [hle k e]; exact h.ml k e
    · obtain ⟨j, rfl⟩ : ∃ j, k = s.ml.length + j := ⟨k - s.ml.length, by omega⟩
      rw [hln j (by omega), h.lm, (place (n := n) (by omega)).1, (place (n := n) (by omega)).2]
      exact ⟨rfl, rfl, Nat.zero_le _⟩
  · by_cases e : v = w
    · subst e
      rw [hpw, htl]
      dsimp only
      rw [Nat.add_sub_cancel, htn]
      exact ⟨by omega, fun _ => ⟨hnx, Nat.le_refl _, rfl, rfl⟩⟩
    · rw [hpo v e, htl]
      obtain ⟨p1, p2⟩ := h.pr v hv
      refine ⟨p1, fun a1 => ?_⟩
      obtain ⟨p3, p4, p5⟩ := p2 a1
      rw [htp _ (by omega)]
      exact ⟨p3, by omega, p5⟩
  · have := h.rd v hv
    by_cases e : v = w
    · subst e; rw [hpw]; dsimp only; omega
    · rw [hpo v e]; omega
  · rw [htl] at hT
    rcases Nat.lt_succ_iff_lt_or_eq.1 hT with e | rfl
    · rw [htp T e]
      obtain ⟨t1, t2, t3⟩ := h.tw T e
      by_cases e6 : (s.tp T).who = w
      · rw [e6] at t2 ⊢
        rw [hpw]
        dsimp only
        exact ⟨hw, by omega, fun e7 => by omega⟩
      · rw [hpo _ e6]; exact ⟨t1, t2, t3⟩
    · rw [htn]
      dsimp only
      rw [hpw]
      exact ⟨hw, Nat.le_refl _, fun _ => rfl⟩
  · rcases hci t ht with e | rfl
    · have := h.cr t e; omega
    · rcases hnew with e | ⟨_, e, f, g, _⟩
      · have := h.cr _ e; omega
      · omega
  · rcases hci t ht with f | rfl
    · rcases hci u hu with g | rfl
      · exact h.cu t u f g a1 a2
      · rcases hnew with g | ⟨_, _, _, _, g⟩
        · exact h.cu t u f g a1 a2
        · have := g t f a2; omega
    · rcases hci u hu with g | rfl
      · rcases hnew with f | ⟨_, _, _, _, f⟩
        · exact h.cu t u f g a1 a2
        · have := f u g a2.symm; omega
      · rfl
  · rw [hll] at hk
    by_cases e : k < s.ml.length
    · rw [hle k e]; exact hci2 _ (h.cg k e)
    · obtain ⟨j, rfl⟩ : ∃ j, k = s.ml.length + j := ⟨k - s.ml.length, by omega⟩
      rw [hln j (by omega)]
      exact .inl rfl
  · rcases hci t ht with e | rfl
    · exact hown t e h1
    · rcases hnew with e | ⟨f, e, _, _, _⟩
      · exact hown t e h1
      · rw [e]
        refine ⟨by omega, .inl ?_⟩
        unfold Under
        rw [Int.toNat_natCast, hpw]
        dsimp only
        rw [Nat.add_sub_cancel, htn]
        exact ⟨by omega, f, rfl⟩
  · rw [hll] at hk
    by_cases e : k < s.ml.length
    · rw [hle k e] at a1 a2 ⊢
      rw [htp _ (hlT k e)] at a2 ⊢
      rw [hsi]
      exact h.put k e a1 a2
    · obtain ⟨j, rfl⟩ : ∃ j, k = s.ml.length + j := ⟨k - s.ml.length, by omega⟩
      rw [hln j (by omega)] at a1
      have : 1 ≤ (0 : Nat) := a1
      omega
/-- the program goes on behind a trip -/
theorem next_ok (h : SvOk n ps K s) (hps : ps.length ≤ 8) {fast : Bool} {w : Nat} (hw : w < ps.length) (htr : (s.p w).trip ≠ 0) (hc : n < 2 * (backF s.ml ((s.p w).trip - 1) s.ml.length).1) : SvOk n ps (K + 1) (nextV n fast ps s w ((s.p w).trip - 1) (backF s.ml ((s.p w).trip - 1) s.ml.length).2) := by
  obtain ⟨p3, p4, p5, p6⟩ := (h.pr w hw).2 htr
  have hmc := most_circ h ((s.p w).trip - 1)
  have hle := h.le
  have hab : ∀ {tag : Tg}, (s.tp ((s.p w).trip - 1)).put = false → (circ s tag ∨ (true = true ∧ tag.w = (w : Int) ∧ 0 ≤ tag.s ∧ tag.s ≤ (K : Int) + 1 ∧ ∀ t, circ s t → t.w = tag.w → t.s < tag.s)) → SvOk n ps (K + 1) (aboutV n s w true tag) := fun {tag} hp hn =>
    about_ok (E := s.evs) h hps hw p3 (by omega) (fun _ => hp) hn
  unfold nextV
  dsimp only
  split
  · rename_i hx
    have hcr := h.cr _ hmc
    refine hab hx.1 (.inr ⟨rfl, rfl, by dsimp only; omega, by dsimp only; omega, fun t ht e => ?_⟩)
    dsimp only at e ⊢
    by_cases h1 : 1 ≤ t.s
    · obtain ⟨h2, h3⟩ := h.own t ht h1
      rw [e, Int.toNat_natCast] at h3
      rcases h3 with ⟨_, u2, _⟩ | h3
      · rw [hx.1] at u2; exact absurd u2 (by decide)
      · have := most_ge h htr hx.1 (by omega) hc h3
        rw [less_no] at this
        omega
    · omega
  split
  · rename_i hx
    exact hab hx.1 (.inl hmc)
  · exact respond_ok h hw htr hc _
theorem call_ok (h : SvOk n ps K s) (hps : ps.length ≤ 8) {w : Nat} (hw : w < ps.length) : SvOk n ps (K + 1) (callV n ps s w) := by
  unfold callV
  split
  · rename_i hx
    have := h.le
    exact about_ok h hps hw hx.2 (by simp; omega) (fun e => absurd hx.1 e) (.inl (.inl rfl))
  · exact h.mono
theorem back_ok (h : SvOk n ps K s) (hps : ps.length ≤ 8) {fast : Bool} {i : Nat} (hi : i < s.ml.length) : SvOk n ps (K + 1) (backV n fast ps s i) := by
  unfold backV
  split
  · exact h.mono
  rename_i hst
  have hm := mark_ok h hi (by simpa using hst)
  dsimp only
  split
  · exact hm.mono
  rename_i htr
  split
  · exact hm.mono
  rename_i hc
  have hT : (s.le i).trip < s.tr.length := by
    rw [(h.ml i hi).1]
    have := h.lm
    exact Nat.div_lt_of_lt_mul (by rw [Nat.mul_comm]; omega)
  have hw := (h.tw _ hT).1
  have e : (s.p (s.tp (s.le i).trip).who).trip = (s.le i).trip + 1 := by simpa using htr
  have := next_ok (fast := fast) hm hps hw (by rw [show Sv.p (markV s i) (s.tp (s.le i).trip).who = s.p (s.tp (s.le i).trip).who from rfl, e]; omega) (by rw [show Sv.p (markV s i) (s.tp (s.le i).trip).who = s.p (s.tp (s.le i).trip).who from rfl, e, Nat.add_sub_cancel]; omega)
  rw [show Sv.p (markV s i) (s.tp (s.le i).trip).who = s.p (s.tp (s.le i).trip).who from rfl, e, Nat.add_sub_cancel] at this
  exact this
theorem act_ok (h : SvOk n ps K s) (hps : ps.length ≤ 8) {fast : Bool} {x : Ac} (h1 : x.kind = 1 → x.a.toNat < ps.length) (h4 : x.kind = 4 → x.a.toNat < n) : SvOk n ps (K + 1) (actV n fast ps s x) := by
  unfold actV
  split
  · rename_i e; exact call_ok h hps (h1 e)
  split
  · rename_i e; exact (down_ok h (h4 e)).mono
  split
  · exact h.mono
  rename_i e
  split
  · exact (hand_ok h (by omega)).mono
  · exact back_ok h hps (by omega)
theorem sv0_ok (hps : ps.length ≤ 8) : SvOk n ps 0 (sv0 n ps.length) := by
  have hp : ∀ w, w < ps.length → Sv.p (sv0 n ps.length) w = ⟨0, 0, 0⟩ := fun w hw => by
    show (List.replicate ps.length (⟨0, 0, 0⟩ : Pv)).getD w default = _
    simp [hw]
  have hc : ∀ t, circ (sv0 n ps.length) t → t = t0 := fun t ht => ht.elim id fun ⟨T, hT, _⟩ => absurd hT (by simp [sv0])
  refine ⟨by simp [sv0], by simp [sv0], fun i hi => absurd hi (by simp [sv0]), by simp [sv0], by simp [sv0], by simp [sv0], fun w hw => by rw [hp w hw]; exact ⟨Nat.zero_le _, fun e => absurd rfl e⟩, fun w hw => by rw [hp w hw]; exact Nat.le_refl _, fun T hT => absurd hT (by simp [sv0]), fun t ht => by rw [hc t ht]; decide, fun t u ht hu _ _ => by rw [hc t ht, hc u hu], fun j hj => .inl ?_, fun i hi => absurd hi (by simp [sv0]), fun t ht h1 => ?_, fun i hi => absurd hi (by simp [sv0])⟩
  · show (Si.tg ((List.replicate n (⟨0, 0, 0, false⟩ : Si)).getD j default)) = _
    simp [hj, Si.tg, t0]
  · rw [hc t ht] at h1; exact absurd h1 (by decide)
end
/-- acts that may be -/
def actR (n m : Nat) (x : Ac) : Prop := 1 ≤ x.kind ∧ x.kind ≤ 4 ∧ (x.kind = 1 → 0 ≤ x.a ∧ x.a < m) ∧ (x.kind = 4 → 0 ≤ x.a ∧ x.a < n)
theorem runV_ok {n : Nat} {fast : Bool} {ps : List (List Ak)} (hps : ps.length ≤ 8) {l : List Ac} (hl : ∀ k, k < l.length → actR n ps.length (l.getD k default)) : ∀ k, k ≤ l.length → SvOk n ps k (runV n fast ps l k)
  | 0, _ => sv0_ok hps
  | k + 1, hk => by
    have := hl k (by omega)
    exact act_ok (runV_ok hps hl k (by omega)) hps (fun e => by have := this.2.2.1 e; omega) (fun e => by have := this.2.2.2 e; omega)
end Go.Proofs.Ytaonijdhmgcbjaa

namespace Go.Proofs.Ytaonijdhmgcbjaa
open Go.RowKit

structure Lc where
  who : Nat
  rnd : Nat
  site : Nat
  put : Bool
  tg : Tg
  del : Bool
  rec_ : Bool
  deriving Inhabited
structure Pc where
  next : Nat
  pend : Bool
  rd : Nat
  put : Bool
  rep : Nat
  best : Tg
  deriving Inhabited
structure Cv where
  at_ : List Si
  ml : List Lc
  pe : List Pc
  evs : List Ev
def Cv.si (s : Cv) (j : Nat) : Si := s.at_.getD j default
def Cv.le (s : Cv) (i : Nat) : Lc := s.ml.getD i default
def Cv.p (s : Cv) (w : Nat) : Pc := s.pe.getD w default
def tn1 : Tg := ⟨-1, -1, 0⟩
def newLc (n w r : Nat) (put : Bool) (tag : Tg) : List Lc := (List.range n).map fun j => ⟨w, r, j, put, tag, false, false⟩
def startC (n : Nat) (s : Cv) (w : Nat) (put : Bool) (tag : Tg) : Cv :=
  { s with pe := s.pe.set w { s.p w with rd := (s.p w).rd + 1, put := put, rep := 0, best := if put = true then tag else tn1 },
           ml := s.ml ++ newLc n w ((s.p w).rd + 1) put tag }
def callC (n : Nat) (ps : List (List Ak)) (s : Cv) (w : Nat) : Cv :=
  if (s.p w).pend = true ∨ (ps.getD w []).length ≤ (s.p w).next then s
  else startC n { s with pe := s.pe.set w { s.p w with pend := true }, evs := s.evs ++ [⟨(w : Nat), 0, ((ps.getD w []).getD (s.p w).next default).kind, ((ps.getD w []).getD (s.p w).next default).arg⟩] } w false t0
def handC (s : Cv) (i : Nat) : Cv :=
  if (s.le i).del = true ∨ (s.si (s.le i).site).down = true then s
  else if (s.le i).put = false then { s with ml := s.ml.set i { s.le i with del := true, tg := (s.si (s.le i).site).tg } }
  else if lessT (s.si (s.le i).site).tg (s.le i).tg = true then { s with ml := s.ml.set i { s.le i with del := true }, at_ := s.at_.set (s.le i).site ⟨(s.le i).tg.s, (s.le i).tg.w, (s.le i).tg.v, (s.si (s.le i).site).down⟩ }
  else { s with ml := s.ml.set i { s.le i with del := true } }
def respC (s : Cv) (w : Nat) (v : Int) : Cv :=
  { s with evs := s.evs ++ [⟨(w : Nat), 0, 0, v⟩], pe := s.pe.set w { s.p w with next := (s.p w).next + 1, pend := false, rd := (s.p w).rd + 1 } }
def nextC (n : Nat) (fast : Bool) (ps : List (List Ak)) (s : Cv) (w : Nat) : Cv :=
  let x := (ps.getD w []).getD (s.p w).next default
  if (s.p w).put = true ∧ x.kind = 1 then respC s w 0
  else if (s.p w).put = true ∨ (x.kind ≠ 1 ∧ fast = true) then respC s w (s.p w).best.v
  else if x.kind = 1 then startC n s w true ⟨(s.p w).best.s + 1, (w : Nat), x.arg⟩
  else startC n s w true (s.p w).best
def gotC (s : Cv) (i : Nat) : Cv :=
  { s with ml := s.ml.set i { s.le i with rec_ := true }, pe := s.pe.set (s.le i).who { s.p (s.le i).who with rep := (s.p (s.le i).who).rep + 1, best := if (s.le i).put = false ∧ lessT (s.p (s.le i).who).best (s.le i).tg = true then (s.le i).tg else (s.p (s.le i).who).best } }
def backC (n : Nat) (fast : Bool) (ps : List (List Ak)) (s : Cv) (i : Nat) : Cv :=
  if (s.le i).del = false ∨ (s.le i).rec_ = true then s
  else if (s.p (s.le i).who).pend = false ∨ (s.le i).rnd ≠ (s.p (s.le i).who).rd then { s with ml := s.ml.set i { s.le i with rec_ := true } }
  else if n < 2 * ((s.p (s.le i).who).rep + 1) then nextC n fast ps (gotC s i) (s.le i).who
  else gotC s i
def actC (n : Nat) (fast : Bool) (ps : List (List Ak)) (s : Cv) (x : Ac) : Cv :=
  if x.kind = 1 then callC n ps s x.a.toNat
  else if x.kind = 4 then { s with at_ := s.at_.set x.a.toNat { s.si x.a.toNat with down := true } }
  else if x.a < 0 ∨ (s.ml.length : Int) ≤ x.a then s
  else if x.kind = 2 then handC s x.a.toNat
  else backC n fast ps s x.a.toNat
def cv0 (n m : Nat) : Cv := ⟨List.replicate n ⟨0, 0, 0, false⟩, [], List.replicate m ⟨0, false, 0, false, 0, t0⟩, []⟩
def runC (n : Nat) (fast : Bool) (ps : List (List Ak)) (l : List Ac) : Nat → Cv
  | 0 => cv0 n ps.length
  | k + 1 => actC n fast ps (runC n fast ps l k) (l.getD k default)

/-! what is so of both -/
def lcOf (s : Sv) (m : Ml) : Lc := ⟨(s.tp m.trip).who, (s.tp m.trip).rnd, m.site, (s.tp m.trip).put, if (s.tp m.trip).put = true then (s.tp m.trip).tag else m.got, decide (m.st ≠ 0), decide (m.st = 2)⟩
structure PcOk (s : Sv) (w : Nat) (p : Pc) : Prop where
  next : p.next = (s.p w).next
  pend : p.pend = decide ((s.p w).trip ≠ 0)
  rd : p.rd = (s.p w).rd
  put : (s.p w).trip ≠ 0 → p.put = (s.tp ((s.p w).trip - 1)).put
  rep : (s.p w).trip ≠ 0 → p.rep = (backF s.ml ((s.p w).trip - 1) s.ml.length).1
  tag : (s.p w).trip ≠ 0 → (s.tp ((s.p w).trip - 1)).put = true → p.best = (s.tp ((s.p w).trip - 1)).tag
  best : (s.p w).trip ≠ 0 → (s.tp ((s.p w).trip - 1)).put = false → p.best = if p.rep = 0 then tn1 else (backF s.ml ((s.p w).trip - 1) s.ml.length).2
structure CvOk (n : Nat) (ps : List (List Ak)) (s : Sv) (c : Cv) : Prop where
  at_ : c.at_ = s.at_
  evs : c.evs = s.evs
  ml : c.ml.length = s.ml.length
  le : ∀ i, i < s.ml.length → c.le i = lcOf s (s.le i)
  pel : c.pe.length = ps.length
  pe : ∀ w, w < ps.length → PcOk s w (c.p w)

theorem backF_congr {ml ml' : List Ml} {T : Nat} : ∀ {k : Nat}, (∀ q, q < k → ((ml.getD q default).trip = T ∧ (ml.getD q default).st = 2 ↔ (ml'.getD q default).trip = T ∧ (ml'.getD q default).st = 2) ∧ ((ml.getD q default).trip = T ∧ (ml.getD q default).st = 2 → (ml.getD q default).got = (ml'.getD q default).got)) → backF ml' T k = backF ml T k
  | 0, _ => rfl
  | k + 1, h => by
    have ih := backF_congr (k := k) fun q hq => h q (by omega)
    obtain ⟨h1, h2⟩ := h k (by omega)
    rw [backF, backF, ih]
    by_cases hc : (ml.getD k default).trip = T ∧ (ml.getD k default).st = 2
    · rw [if_pos hc, if_pos (h1.1 hc), h2 hc]
    · rw [if_neg hc, if_neg (fun e => hc (h1.2 e))]
theorem backF_skip {ml : List Ml} {T k : Nat} : ∀ {d : Nat}, (∀ q, k ≤ q → q < k + d → ¬ ((ml.getD q default).trip = T ∧ (ml.getD q default).st = 2)) → backF ml T (k + d) = backF ml T k
  | 0, _ => rfl
  | d + 1, h => by
    rw [← Nat.add_assoc, backF, if_neg (h (k + d) (by omega) (by omega))]
    exact backF_skip fun q a b => h q a (by omega)
theorem backF_mark {ml : List Ml} {T i : Nat} {m2 : Ml} (hi : i < ml.length) (h1 : m2.trip = T) (h2 : m2.st = 2) (h3 : (ml.getD i default).st ≠ 2) : ∀ {k : Nat}, (backF (ml.set i m2) T k).1 = (backF ml T k).1 + if i < k then 1 else 0
  | 0 => by simp [backF]
  | k + 1 => by
    have ih := backF_mark hi h1 h2 h3 (k := k)
    rw [backF, backF]
    by_cases e : i = k
    · subst e
      rw [getD_set_eq hi, if_pos ⟨h1, h2⟩, if_neg (c := (ml.getD i default).trip = T ∧ (ml.getD i default).st = 2) (fun c => h3 c.2), if_pos (c := i < i + 1) (by omega)]
      dsimp only
      rw [ih, if_neg (by omega)]
    · rw [getD_set_ne e]
      by_cases hc : (ml.getD k default).trip = T ∧ (ml.getD k default).st = 2
      · rw [if_pos hc, if_pos hc]
        dsimp only
        rw [ih]
        by_cases hl : i < k
        · rw [if_pos hl, if_pos (by omega)]
        · rw [if_neg hl, if_neg (by omega)]
      · rw [if_neg hc, if_neg hc, ih]
        by_cases hl : i < k
        · rw [if_pos hl, if_pos (by omega)]
        · rw [if_neg hl, if_neg (by omega)]
section
variable {n K : Nat} {ps : List (List Ak)} {s : Sv} {c : Cv}
theorem SvOk.tripLt (h : SvOk n ps K s) {i : Nat} (hi : i < s.ml.length) : (s.le i).trip < s.tr.length := by
  rw [(h.ml i hi).1]
  have := h.lm
  exact Nat.div_lt_of_lt_mul (by rw [Nat.mul_comm]; omega)
theorem SvOk.siteLt (h : SvOk n ps K s) {i : Nat} (hi : i < s.ml.length) : (s.le i).site < n := by
  rw [(h.ml i hi).2.1]
  refine Nat.mod_lt _ ?_
  rcases Nat.eq_zero_or_pos n with e | e
  · have := h.lm; rw [e, Nat.mul_zero] at this; omega
  · exact e
/-- what is so of a process stays so where its trips and what is back of them stay -/
theorem PcOk.keep {s' : Sv} {w : Nat} {p : Pc} (h : PcOk s w p) (h1 : s'.p w = s.p w) (h2 : (s.p w).trip ≠ 0 → s'.tp ((s.p w).trip - 1) = s.tp ((s.p w).trip - 1)) (h3 : (s.p w).trip ≠ 0 → backF s'.ml ((s.p w).trip - 1) s'.ml.length = backF s.ml ((s.p w).trip - 1) s.ml.length) : PcOk s' w p := by
  refine ⟨by rw [h1]; exact h.next, by rw [h1]; exact h.pend, by rw [h1]; exact h.rd, fun e => ?_, fun e => ?_, fun e a => ?_, fun e a => ?_⟩
  · rw [h1] at e ⊢; rw [h2 e]; exact h.put e
  · rw [h1] at e ⊢; rw [h3 e]; exact h.rep e
  · rw [h1] at e a ⊢; rw [h2 e] at a ⊢; exact h.tag e a
  · rw [h1] at e a ⊢; rw [h2 e] at a; rw [h3 e]; exact h.best e a
/-- a new trip -/
theorem start_sim (hs : SvOk n ps K s) (h : CvOk n ps s c) {w : Nat} (hw : w < ps.length) {put : Bool} {tag : Tg} (ht : put = false → tag = t0) {E : List Ev} {c1 : Cv} (g1 : c1.at_ = c.at_) (g2 : c1.ml = c.ml) (g3 : c1.pe = c.pe ∨ ∃ b, c1.pe = c.pe.set w { c.p w with pend := b }) (g4 : (c1.p w).pend = true) (g5 : c1.evs = E) : CvOk n ps (aboutV n { s with evs := E } w put tag) (startC n c1 w put tag) := by
  have hwl : w < s.pe.length := by rw [hs.pe]; exact hw
  have hcl : w < c.pe.length := by rw [h.pel]; exact hw
  have hcl1 : c1.pe.length = c.pe.length := by rcases g3 with g3 | ⟨b, g3⟩ <;> rw [g3]; simp
  have hc1w : (c1.p w).rd = (c.p w).rd ∧ (c1.p w).next = (c.p w).next := by
    unfold Cv.p
    rcases g3 with g3 | ⟨b, g3⟩ <;> rw [g3]
    · exact ⟨rfl, rfl⟩
    · rw [getD_set_eq hcl]; exact ⟨rfl, rfl⟩
  have hc1o : ∀ v, v ≠ w → c1.p v = c.p v := fun v hv => by
    unfold Cv.p
    rcases g3 with g3 | ⟨b, g3⟩ <;> rw [g3]
    rw [getD_set_ne (fun e => hv e.symm)]
  obtain ⟨s', hs'⟩ : ∃ s', s' = aboutV n { s with evs := E } w put tag := ⟨_, rfl⟩
  obtain ⟨c', hc'⟩ : ∃ c', c' = startC n c1 w put tag := ⟨_, rfl⟩
  rw [← hs', ← hc']
  have e1 : s'.tr = s.tr ++ [⟨w, put, tag, (s.p w).rd + 1⟩] := by rw [hs']; rfl
  have e2 : s'.ml = s.ml ++ newMl n s.tr.length := by rw [hs']; rfl
  have e3 : s'.at_ = s.at_ := by rw [hs']; rfl
  have e4 : s'.evs = E := by rw [hs']; rfl
  have e5 : s'.pe = s.pe.set w ⟨(s.p w).next, s.tr.length + 1, (s.p w).rd + 1⟩ := by rw [hs']; rfl
  have k1 : c'.at_ = c.at_ := by rw [hc', ← g1]; rfl
  have k2 : c'.ml = c.ml ++ newLc n w ((s.p w).rd + 1) put tag := by rw [hc', ← g2, ← (h.pe w hw).rd, ← hc1w.1]; rfl
  have k3 : c'.pe = c1.pe.set w { c1.p w with rd := (c1.p w).rd + 1, put := put, rep := 0, best := if put = true then tag else tn1 } := by rw [hc']; rfl
  have k4 : c'.evs = E := by rw [hc', ← g5]; rfl
  clear hs' hc'
  have htp : ∀ T, T < s.tr.length → s'.tp T = s.tp T := fun T hT => by unfold Sv.tp; rw [e1, getD_app hT]
  have htn : s'.tp s.tr.length = ⟨w, put, tag, (s.p w).rd + 1⟩ := by unfold Sv.tp; rw [e1, getD_app2 (Nat.le_refl _), Nat.sub_self]; rfl
  have hle : ∀ i, i < s.ml.length → s'.le i = s.le i := fun i hi => by unfold Sv.le; rw [e2, getD_app hi]
  have hln : ∀ j, j < n → s'.le (s.ml.length + j) = ⟨s.tr.length, j, 0, t0⟩ := fun j hj => by unfold Sv.le; rw [e2, getD_app2 (by omega), Nat.add_sub_cancel_left, newMl_at hj]
  have hll : s'.ml.length = s.ml.length + n := by rw [e2, List.length_append, newMl_len]
  have hpw : s'.p w = ⟨(s.p w).next, s.tr.length + 1, (s.p w).rd + 1⟩ := by show s'.pe.getD w default = _; rw [e5, getD_set_eq hwl]
  have hpo : ∀ v, v ≠ w → s'.p v = s.p v := fun v hv => by unfold Sv.p; rw [e5, getD_set_ne (fun e => hv e.symm)]
  have hqw : c'.p w = { c1.p w with rd := (c1.p w).rd + 1, put := put, rep := 0, best := if put = true then tag else tn1 } := by
    unfold Cv.p; rw [k3, getD_set_eq (by omega)]; rfl
  have hqo : ∀ v, v ≠ w → c'.p v = c.p v := fun v hv => by
    rw [← hc1o v hv]
    unfold Cv.p; rw [k3, getD_set_ne (fun e => hv e.symm)]
  have hbo : ∀ T, T < s.tr.length → backF s'.ml T s'.ml.length = backF s.ml T s.ml.length := fun T hT => by
    rw [hll, backF_skip]
    · refine backF_congr fun q hq => ?_
      have := hle q hq
      unfold Sv.le at this
      rw [this]
      exact ⟨Iff.rfl, fun _ => rfl⟩
    · intro q a b e
      obtain ⟨j, rfl⟩ : ∃ j, q = s.ml.length + j := ⟨q - s.ml.length, by omega⟩
      have := hln j (by omega)
      unfold Sv.le at this
      rw [this] at e
      have : (0 : Nat) = 2 := e.2
      omega
  have hbn : backF s'.ml s.tr.length s'.ml.length = (0, t0) := by
    rw [← Nat.zero_add s'.ml.length, backF_skip]
    · rfl
    · intro q _ b e
      by_cases hq : q < s.ml.length
      · have h2 := hle q hq
        have h3 := hs.tripLt hq
        unfold Sv.le at h2 h3
        rw [h2] at e
        omega
      · obtain ⟨j, rfl⟩ : ∃ j, q = s.ml.length + j := ⟨q - s.ml.length, by omega⟩
        have := hln j (by omega)
        unfold Sv.le at this
        rw [this] at e
        have : (0 : Nat) = 2 := e.2
        omega
  refine ⟨by rw [k1, e3]; exact h.at_, by rw [k4, e4], by rw [k2, hll, List.length_append, h.ml]; simp [newLc], fun i hi => ?_, by rw [k3]; simp [hcl1, h.pel], fun v hv => ?_⟩
  · by_cases e : i < s.ml.length
    · have : c'.le i = c.le i := by unfold Cv.le; rw [k2, getD_app (by rw [h.ml]; exact e)]
      rw [this, h.le i e, hle i e]
      unfold lcOf
      rw [htp _ (hs.tripLt e)]
    · obtain ⟨j, rfl⟩ : ∃ j, i = s.ml.length + j := ⟨i - s.ml.length, by omega⟩
      rw [hll] at hi
      have hj : j < n := by omega
      have : c'.le (s.ml.length + j) = ⟨w, (s.p w).rd + 1, j, put, tag, false, false⟩ := by
        unfold Cv.le
        rw [k2, getD_app2 (by rw [h.ml]; omega), h.ml, Nat.add_sub_cancel_left]
        unfold newLc
        rw [List.getD_eq_getElem?_getD, List.getElem?_map, List.getElem?_range hj]; rfl
      rw [this, hln j hj]
      unfold lcOf
      dsimp only
      rw [htn]
      dsimp only
      cases put
      · rw [ht rfl]; rfl
      · rfl
  · by_cases e : v = w
    · subst e
      have hp := h.pe v hv
      rw [hqw]
      refine ⟨?_, ?_, ?_, fun _ => ?_, fun _ => ?_, fun _ a => ?_, fun _ a => ?_⟩
      · rw [hpw]; dsimp only; rw [hc1w.2, hp.next]
      · rw [hpw]; dsimp only; rw [g4]; simp
      · rw [hpw]; dsimp only; rw [hc1w.1, hp.rd]
      · rw [hpw]; dsimp only; rw [Nat.add_sub_cancel, htn]
      · rw [hpw]; dsimp only; rw [Nat.add_sub_cancel, hbn]
      · rw [hpw] at a ⊢; dsimp only at a ⊢; rw [Nat.add_sub_cancel, htn] at a ⊢
        dsimp only at a ⊢
        rw [if_pos a]
      · rw [hpw] at a ⊢; dsimp only at a ⊢; rw [Nat.add_sub_cancel, htn] at a
        dsimp only at a
        rw [a]; rfl
    · rw [hqo v e]
      refine (h.pe v hv).keep (hpo v e) (fun a => ?_) fun a => ?_
      · obtain ⟨_, p1, _⟩ := (hs.pr v hv).2 a
        exact htp _ (by omega)
      · obtain ⟨_, p1, _⟩ := (hs.pr v hv).2 a
        exact hbo _ (by omega)
end
end Go.Proofs.Ytaonijdhmgcbjaa
