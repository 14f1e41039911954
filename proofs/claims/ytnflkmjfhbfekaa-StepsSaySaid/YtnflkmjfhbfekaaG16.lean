/- Lemmas for the walks (Th1, Th2, Th3). No condition. -/
import Derived.Test.YtnflkmjfhbfekaaG13
import Derived.Test.YtnflkmjfhbfekaaG14
import Derived.Test.YtnflkmjfhbfekaaG15
import Derived.Test.YtnflkmjfhbfekaaG08
import Derived.Test.YtnflkmjfhbfekaaG11
set_option linter.unusedSimpArgs false
set_option linter.unusedVariables false
set_option linter.unusedSectionVars false
set_option linter.unnecessarySimpa false
namespace Go.Proofs.Ytnflkmjfhbfekaa
open Go.RowKit

/-- what somebody asks -/
structure Ak where
  thing : Int
  kind : Int
  arg : Int
  deriving Inhabited
def Ak.enc (a : Ak) : List Value := [.int .i64 a.thing, .int .i64 a.kind, .int .i64 a.arg]
/-- how much is asked, as the machine adds -/
def sumW (ps : List (List Ak)) : Nat → Int
  | 0 => 0
  | k + 1 => IntKind.i64.wrap (sumW ps k + ((ps.getD k []).length : Int))
theorem sumW_succ {ps : List (List Ak)} {k : Nat} (hk : k < ps.length) : sumW ps (k + 1) = IntKind.i64.wrap (sumW ps k + (ps[k].length : Int)) := by
  rw [sumW, show ps.getD k [] = ps[k] by simp [hk]]
def askB (ts : List Int) (a : Ak) : Bool := (decide (0 ≤ a.thing) && decide (a.thing < ts.length)) && ((kindsL (ts.getD a.thing.toNat 0)).contains a.kind && argB a.kind a.arg)
def rowB (ts : List Int) (l : List Ak) : Bool := l.all (askB ts)
def pplR (ts : List Int) (ps : List (List Ak)) : Int :=
  if typesE ts ≠ 0 ∨ 8 < ps.length then 1 else if 90 < sumW ps ps.length then 2 else if ps.all (rowB ts) = true then 0 else 3
def trnR (n most : Int) (tu : List Int) : Int := if most < tu.length then 2 else if (tu.all fun t => decide (0 ≤ t) && decide (t < n)) = true then 0 else 1
theorem typesE_nil (ts : List Int) : (callsR ts []).2.2 = typesE ts := by
  unfold callsR
  by_cases h : typesE ts ≠ 0
  · rw [if_pos h]
  · rw [if_neg h, if_neg (by simp), if_neg (by simp)]
    exact (Classical.not_not.1 h).symm
theorem all_at {α : Type} {p : α → Bool} {l : List α} (h : ∀ i (hi : i < l.length), p l[i] = true) : l.all p = true := by
  rw [List.all_eq_true]
  intro x hx
  obtain ⟨i, hi, e⟩ := List.mem_iff_getElem.1 hx
  rw [← e]; exact h i hi
theorem all_no {α : Type} {p : α → Bool} {l : List α} {i : Nat} (hi : i < l.length) (h : p l[i] = false) : l.all p = false := by
  rw [Bool.eq_false_iff]
  intro e
  rw [List.all_eq_true] at e
  rw [e _ (List.getElem_mem hi)] at h
  cases h
theorem pplR_ok {ts : List Int} {ps : List (List Ak)} (h : pplR ts ps = 0) : typesOk ts = true ∧ ps.length ≤ 8 ∧ ∀ i (hi : i < ps.length) j (hj : j < ps[i].length), askB ts ps[i][j] = true := by
  unfold pplR at h
  split at h
  · cases h
  rename_i h1
  split at h
  · cases h
  split at h
  · rename_i h3
    refine ⟨?_, by omega, fun i hi j hj => ?_⟩
    · have h1 : typesE ts = 0 := by
        by_cases e : typesE ts = 0
        · exact e
        · exact absurd (.inl e) h1
      unfold typesE at h1
      split at h1
      · assumption
      · cases h1
    · rw [List.all_eq_true] at h3
      have h4 := h3 _ (List.getElem_mem hi)
      unfold rowB at h4
      rw [List.all_eq_true] at h4
      exact h4 _ (List.getElem_mem hj)
  · cases h
theorem trnR_ok {n most : Int} {tu : List Int} (h : trnR n most tu = 0) : (tu.length : Int) ≤ most ∧ ∀ i (hi : i < tu.length), 0 ≤ tu[i] ∧ tu[i] < n := by
  unfold trnR at h
  split at h
  · cases h
  split at h
  · rename_i h2
    rw [List.all_eq_true] at h2
    exact ⟨by omega, fun i hi => by simpa using h2 _ (List.getElem_mem hi)⟩
  · cases h
theorem askB_ok {ts : List Int} {a : Ak} (h : askB ts a = true) : 0 ≤ a.thing ∧ a.thing < ts.length ∧ (kindsL (ts.getD a.thing.toNat 0)).contains a.kind = true ∧ argB a.kind a.arg = true := by
  unfold askB at h
  simp only [Bool.and_eq_true, decide_eq_true_eq] at h
  exact ⟨h.1.1, h.1.2, h.2.1, h.2.2⟩
theorem typ_at {ts : List Int} (h : typesOk ts = true) {i : Nat} (hi : i < ts.length) : typB ts[i] = true := by
  unfold typesOk at h
  rw [Bool.and_eq_true] at h
  have h2 := h.2
  rw [Bool.not_eq_true', List.any_eq_false] at h2
  have := h2 _ (List.getElem_mem hi)
  unfold badT at this
  unfold typB
  simp at this ⊢
  omega

/-! at once -/
structure Pe where
  k : Nat
  ph : Nat
  call : Int
  res : Int
  deriving Inhabited
structure Th where
  pe : List Pe
  dn : List (List Dn)
  evs : List Ev
  sts : List Stp
  calls : Nat
/-- the state of a thing -/
def stD (ts : List Int) (dn : List (List Dn)) (t : Nat) : List Int := stAt (ts.getD t 0) (begL (ts.getD t 0)) (dn.getD t [])
def stepT (ts : List Int) (ps : List (List Ak)) (s : Th) (w : Nat) : Th :=
  let p := s.pe.getD w default
  if (ps.getD w []).length ≤ p.k ∨ p.ph = 3 then s
  else
    let a := (ps.getD w []).getD p.k default
    if p.ph = 0 then { s with evs := s.evs ++ [⟨(w : Nat), a.thing, a.kind, a.arg⟩], pe := s.pe.set w { p with ph := 1, call := (s.calls : Nat) }, calls := s.calls + 1 }
    else if p.ph = 1 then
      let R := stepO (ts.getD a.thing.toNat 0) (stD ts s.dn a.thing.toNat) a.kind a.arg
      if R.2.2 ≠ 0 then { s with pe := s.pe.set w { p with ph := 3 } }
      else { s with dn := s.dn.set a.thing.toNat (s.dn.getD a.thing.toNat [] ++ [⟨a.kind, a.arg, 0⟩]), pe := s.pe.set w { p with ph := 2, res := R.2.1 }, sts := s.sts ++ [⟨p.call, R.2.1⟩] }
    else { s with evs := s.evs ++ [⟨(w : Nat), a.thing, 0, p.res⟩], pe := s.pe.set w { p with k := p.k + 1, ph := 0 } }
def th0 (n m : Nat) : Th := ⟨List.replicate n ⟨0, 0, 0, 0⟩, List.replicate m [], [], [], 0⟩
def runT (ts : List Int) (ps : List (List Ak)) (tu : List Int) : Nat → Th
  | 0 => th0 ps.length ts.length
  | k + 1 => stepT ts ps (runT ts ps tu k) (tu.getD k 0).toNat
/-- what was done may be done -/
def DnOk (typ : Int) (s : List Int) : List Dn → Prop
  | [] => chkS typ s = 0
  | d :: l => chkS typ s = 0 ∧ (stepO typ s d.kind d.arg).2.2 = 0 ∧ DnOk typ (stepO typ s d.kind d.arg).1 l
theorem DnOk.chk {typ : Int} : ∀ {l : List Dn} {s : List Int}, DnOk typ s l → chkS typ (stAt typ s l) = 0
  | [], _, h => h
  | _ :: l, _, h => DnOk.chk (l := l) h.2.2
theorem DnOk.snoc {typ : Int} {d : Dn} : ∀ {l : List Dn} {s : List Int}, DnOk typ s l → (stepO typ (stAt typ s l) d.kind d.arg).2.2 = 0 → chkS typ (stepO typ (stAt typ s l) d.kind d.arg).1 = 0 → DnOk typ s (l ++ [d])
  | [], _, h, h1, h2 => ⟨h, h1, h2⟩
  | _ :: l, _, h, h1, h2 => ⟨h.1, h.2.1, DnOk.snoc (l := l) h.2.2 h1 h2⟩
theorem stAt_snoc {typ : Int} {d : Dn} : ∀ (l : List Dn) (s : List Int), stAt typ s (l ++ [d]) = (stepO typ (stAt typ s l) d.kind d.arg).1
  | [], _ => rfl
  | _ :: l, s => stAt_snoc (d := d) l _
theorem DnOk.at {typ : Int} : ∀ {l : List Dn} {s : List Int}, DnOk typ s l → ∀ k (hk : k < l.length), chkS typ (stAt typ s (l.take k)) = 0 ∧ (stepO typ (stAt typ s (l.take k)) l[k].kind l[k].arg).2.2 = 0 ∧ stAt typ s (l.take (k + 1)) = (stepO typ (stAt typ s (l.take k)) l[k].kind l[k].arg).1
  | [], _, _, k, hk => by simp at hk
  | d :: l, s, h, 0, _ => ⟨h.1, h.2.1, by simp [stAt]⟩
  | d :: l, s, h, k + 1, hk => by
    have := DnOk.at (l := l) h.2.2 k (by simpa using hk)
    simpa [stAt] using this
/-- all that is so behind each turn -/
structure ThOk (ts : List Int) (ps : List (List Ak)) (s : Th) : Prop where
  pe : s.pe.length = ps.length
  dn : s.dn.length = ts.length
  le : ∀ w (h : w < s.pe.length), s.pe[w].k ≤ (ps.getD w []).length ∧ (s.pe[w].ph ≠ 0 → s.pe[w].k < (ps.getD w []).length) ∧ s.pe[w].ph ≤ 3
  ok : ∀ t (h : t < s.dn.length), DnOk (ts.getD t 0) (begL (ts.getD t 0)) s.dn[t]
theorem th0_ok {ts : List Int} {ps : List (List Ak)} (ht : typesOk ts = true) : ThOk ts ps (th0 ps.length ts.length) := by
  refine ⟨by simp [th0], by simp [th0], fun w h => ?_, fun t h => ?_⟩
  · simp [th0]
  · have h' : t < ts.length := by simpa [th0] using h
    have := begL_ok (typ_at ht h')
    simp only [th0, List.getElem_replicate]
    rw [show ts.getD t 0 = ts[t] by simp [h']]
    exact this
theorem stepT_ok {ts : List Int} {ps : List (List Ak)} {s : Th} {w : Nat} (hps : ∀ i (hi : i < ps.length) j (hj : j < ps[i].length), askB ts ps[i][j] = true) (hw : w < ps.length) (h : ThOk ts ps s) : ThOk ts ps (stepT ts ps s w) := by
  have hw' : w < s.pe.length := by rw [h.pe]; exact hw
  have hp : s.pe.getD w default = s.pe[w] := by simp [hw']
  have hr : ps.getD w [] = ps[w] := by simp [hw]
  unfold stepT
  rw [hp, hr]
  have hl := h.le w hw'
  rw [hr] at hl
  dsimp only
  split
  · exact h
  rename_i h1
  have hk : s.pe[w].k < ps[w].length := by omega
  have ha : ps[w].getD s.pe[w].k default = ps[w][s.pe[w].k] := by simp [hk]
  rw [ha]
  have hab := askB_ok (hps w hw _ hk)
  generalize ps[w][s.pe[w].k] = a at *
  have hset : ∀ (q : Pe), q.k ≤ ps[w].length → (q.ph ≠ 0 → q.k < ps[w].length) → q.ph ≤ 3 → ∀ v (hv : v < (s.pe.set w q).length), (s.pe.set w q)[v].k ≤ (ps.getD v []).length ∧ ((s.pe.set w q)[v].ph ≠ 0 → (s.pe.set w q)[v].k < (ps.getD v []).length) ∧ (s.pe.set w q)[v].ph ≤ 3 := by
    intro q q1 q2 q3 v hv
    rw [List.getElem_set]
    split
    · rename_i e; subst e; rw [hr]; exact ⟨q1, q2, q3⟩
    · exact h.le v (by simpa using hv)
  split
  · exact ⟨by simp [h.pe], h.dn, hset _ (by dsimp only; omega) (fun _ => hk) (by dsimp only; omega), h.ok⟩
  split
  · split
    · exact ⟨by simp [h.pe], h.dn, hset _ (by dsimp only; omega) (fun _ => hk) (by dsimp only; omega), h.ok⟩
    · rename_i hR
      refine ⟨by simp [h.pe], by simp [h.dn], hset _ (by dsimp only; omega) (fun _ => hk) (by dsimp only; omega), fun t ht => ?_⟩
      have ht' : t < s.dn.length := by simpa using ht
      have hR : (stepO (ts.getD a.thing.toNat 0) (stD ts s.dn a.thing.toNat) a.kind a.arg).2.2 = 0 := Classical.not_not.1 hR
      simp only [List.getElem_set]
      split
      · rename_i e; subst e
        have hd : s.dn.getD a.thing.toNat [] = s.dn[a.thing.toNat] := by simp [ht']
        unfold stD at hR
        rw [hd] at hR ⊢
        obtain ⟨c1, c2, c3, c4⟩ := stepO_ok hR
        exact (h.ok _ ht').snoc hR (by rw [c4] at hR ⊢; exact step_valid c1 c2 c3 hR)
      · exact h.ok t ht'
  · exact ⟨by simp [h.pe], h.dn, hset _ (by dsimp only; omega) (fun e => absurd rfl e) (by dsimp only; omega), h.ok⟩
theorem runT_ok {ts : List Int} {ps : List (List Ak)} {tu : List Int} (ht : typesOk ts = true) (hps : ∀ i (hi : i < ps.length) j (hj : j < ps[i].length), askB ts ps[i][j] = true) (htu : ∀ i (hi : i < tu.length), 0 ≤ tu[i] ∧ tu[i] < ps.length) : ∀ k, k ≤ tu.length → ThOk ts ps (runT ts ps tu k)
  | 0, _ => th0_ok ht
  | k + 1, hk => by
    have h := htu k hk
    refine stepT_ok hps ?_ (runT_ok ht hps htu k (by omega))
    rw [show tu.getD k 0 = tu[k] by simp [show k < tu.length from hk]]
    omega
theorem stepT_len (ts : List Int) (ps : List (List Ak)) (s : Th) (w : Nat) : (stepT ts ps s w).evs.length ≤ s.evs.length + 1 ∧ (stepT ts ps s w).sts.length ≤ s.sts.length + 1 ∧ (stepT ts ps s w).calls ≤ s.calls + 1 := by
  unfold stepT
  dsimp only
  (repeat' split) <;> simp
theorem runT_len (ts : List Int) (ps : List (List Ak)) (tu : List Int) : ∀ k, (runT ts ps tu k).evs.length ≤ k ∧ (runT ts ps tu k).sts.length ≤ k ∧ (runT ts ps tu k).calls ≤ k
  | 0 => by simp [runT, th0]
  | k + 1 => by
    have h := runT_len ts ps tu k
    have h2 := stepT_len ts ps (runT ts ps tu k) (tu.getD k 0).toNat
    rw [runT]
    omega
end Go.Proofs.Ytnflkmjfhbfekaa

namespace Go.Proofs.Ytnflkmjfhbfekaa
open Go.RowKit

theorem pplR_1 {ts : List Int} {ps : List (List Ak)} (h : typesE ts ≠ 0 ∨ 8 < ps.length) : pplR ts ps = 1 := by unfold pplR; rw [if_pos h]
theorem pplR_2 {ts : List Int} {ps : List (List Ak)} (h : ¬ (typesE ts ≠ 0 ∨ 8 < ps.length)) (h2 : 90 < sumW ps ps.length) : pplR ts ps = 2 := by unfold pplR; rw [if_neg h, if_pos h2]
theorem pplR_3 {ts : List Int} {ps : List (List Ak)} (h : ¬ (typesE ts ≠ 0 ∨ 8 < ps.length)) (h2 : ¬ 90 < sumW ps ps.length) {i : Nat} (hi : i < ps.length) {j : Nat} (hj : j < ps[i].length) (hb : askB ts ps[i][j] = false) : pplR ts ps = 3 := by
  unfold pplR
  rw [if_neg h, if_neg h2, if_neg]
  rw [all_no hi (by unfold rowB; exact all_no hj hb)]; decide
theorem pplR_0 {ts : List Int} {ps : List (List Ak)} (h : ¬ (typesE ts ≠ 0 ∨ 8 < ps.length)) (h2 : ¬ 90 < sumW ps ps.length) (hb : ∀ i (hi : i < ps.length), rowB ts ps[i] = true) : pplR ts ps = 0 := by
  unfold pplR
  rw [if_neg h, if_neg h2, if_pos (all_at hb)]
theorem trnR_1 {n most : Int} {tu : List Int} (h : ¬ most < tu.length) {i : Nat} (hi : i < tu.length) (hb : tu[i] < 0 ∨ n ≤ tu[i]) : trnR n most tu = 1 := by
  unfold trnR
  rw [if_neg h, if_neg]
  rw [all_no hi (by simp; omega)]; decide
theorem trnR_0 {n most : Int} {tu : List Int} (h : ¬ most < tu.length) (hb : ∀ i (hi : i < tu.length), 0 ≤ tu[i] ∧ tu[i] < n) : trnR n most tu = 0 := by
  unfold trnR
  rw [if_neg h, if_pos (all_at fun i hi => by simpa using hb i hi)]
section
variable (n most : Int) (A : Option Addr) (c : Nat) (tu : List Int) (w : World) (hl : tu.length ≤ 9223372036854775807) (hA : RdInt w A tu)
include hl hA
set_option maxRecDepth 100000 in
set_option maxHeartbeats 4000000 in
theorem thTurns_any : Calls Try.prog 34 #[.int .i64 n, .int .i64 most, .slice A tu.length c] w fun e w' => e = .returned (.int .i64 (trnR n most tu)) ∧ Below w.heap.size w w' := by
  by_cases h : most < tu.length
  · rw [show trnR n most tu = 2 by unfold trnR; rw [if_pos h]]
    refine calls_T (S := []) [] Try.func34 rfl Try.ntmps34 (by simp) (Mem.nil _) ?_
    repeat' (first | (refine GO ?_) | (refine GOE ?_; (first | (rintro _ _ ⟨rfl, rfl⟩) | (rintro _ _ ⟨g, rfl, rfl⟩) | (rintro _ _ ⟨A', c', rfl, rfl⟩))) | ((refine GO2 ?_ ?_) <;> intro h <;> (try (repeat (first | with_reducible (replace h := of_decide_eq_true h) | with_reducible (replace h := of_decide_eq_false h) | with_reducible (replace h := bnt h) | with_reducible (replace h := bnf h) | with_reducible (replace h := Int.not_lt.mp h) | with_reducible (replace h := Int.not_le.mp h) | with_reducible (replace h := band_dec h) | with_reducible (replace h := band_decF h) | with_reducible (replace h := bor_dec h) | with_reducible (replace h := bor_decF h)))) <;> (try (exfalso; first | contradiction | omega))) | fail)
    (refine At_ret Try.results34 rfl (fun w' hw => ?_))
    exact ⟨rfl, hw.below0 rfl⟩
  · have hbad := fun i (hi : i < tu.length) hb => trnR_1 (n := n) h hi hb
    have hok := trnR_0 (n := n) h
    generalize trnR n most tu = R at *
    refine calls_T (S := []) [] Try.func34 rfl Try.ntmps34 (by simp) (Mem.nil _) ?_
    repeat' (first | (refine GO ?_) | (refine GOE ?_; (first | (rintro _ _ ⟨rfl, rfl⟩) | (rintro _ _ ⟨g, rfl, rfl⟩) | (rintro _ _ ⟨A', c', rfl, rfl⟩))) | ((refine GO2 ?_ ?_) <;> intro h <;> (try (repeat (first | with_reducible (replace h := of_decide_eq_true h) | with_reducible (replace h := of_decide_eq_false h) | with_reducible (replace h := bnt h) | with_reducible (replace h := bnf h) | with_reducible (replace h := Int.not_lt.mp h) | with_reducible (replace h := Int.not_le.mp h) | with_reducible (replace h := band_dec h) | with_reducible (replace h := band_decF h) | with_reducible (replace h := bor_dec h) | with_reducible (replace h := bor_decF h)))) <;> (try (exfalso; first | contradiction | omega))) | fail)
    refine T_loop (X := Nat) (fun k => [(15, .int .i64 (k : Nat)), (14, .int .i64 tu.length), (13, .slice A tu.length c), (0, .int .i64 n)]) (fun _ => []) (fun k => k ≤ tu.length ∧ ∀ i (hi : i < tu.length), i < k → 0 ≤ tu[i] ∧ tu[i] < n) (fun k => tu.length - k) 0 ⟨by omega, fun i _ hi => by omega⟩ (by (repeat (first | exact SubE.nil _ | refine SubE.cons rfl ?_))) (by exact SUBS) ?_
    rintro k ⟨hk, hno⟩
    by_cases hkl : k < tu.length
    · obtain ⟨bC, oC, rfl, _⟩ := RdE.open hA (by omega)
      have hb := hbad k hkl
      repeat' (first | (refine GO ?_) | (refine GOE ?_; (first | (rintro _ _ ⟨rfl, rfl⟩) | (rintro _ _ ⟨g, rfl, rfl⟩) | (rintro _ _ ⟨A', c', rfl, rfl⟩))) | ((refine GO2 ?_ ?_) <;> intro h <;> (try (repeat (first | with_reducible (replace h := of_decide_eq_true h) | with_reducible (replace h := of_decide_eq_false h) | with_reducible (replace h := bnt h) | with_reducible (replace h := bnf h) | with_reducible (replace h := Int.not_lt.mp h) | with_reducible (replace h := Int.not_le.mp h) | with_reducible (replace h := band_dec h) | with_reducible (replace h := band_decF h) | with_reducible (replace h := bor_dec h) | with_reducible (replace h := bor_decF h)))) <;> (try (exfalso; first | contradiction | omega))) | fail)
      all_goals first
        | ((refine At_ret Try.results34 rfl (fun w' hw => ?_)); obtain rfl := hb (by omega); exact ⟨rfl, hw.below0 rfl⟩)
        | exact At_rounds (k + 1) ⟨hkl, fun i hi h2 => (Nat.lt_succ_iff_lt_or_eq.1 h2).elim (fun e => hno i hi e) (fun e => by subst e; constructor <;> omega)⟩ (by omega) (by (repeat (first | exact SubE.nil _ | refine SubE.cons rfl ?_))) (by exact SUBS)
    · obtain rfl : k = tu.length := by omega
      obtain rfl := hok fun i hi => hno i hi hi
      repeat' (first | (refine GO ?_) | (refine GOE ?_; (first | (rintro _ _ ⟨rfl, rfl⟩) | (rintro _ _ ⟨g, rfl, rfl⟩) | (rintro _ _ ⟨A', c', rfl, rfl⟩))) | ((refine GO2 ?_ ?_) <;> intro h <;> (try (repeat (first | with_reducible (replace h := of_decide_eq_true h) | with_reducible (replace h := of_decide_eq_false h) | with_reducible (replace h := bnt h) | with_reducible (replace h := bnf h) | with_reducible (replace h := Int.not_lt.mp h) | with_reducible (replace h := Int.not_le.mp h) | with_reducible (replace h := band_dec h) | with_reducible (replace h := band_decF h) | with_reducible (replace h := bor_dec h) | with_reducible (replace h := bor_decF h)))) <;> (try (exfalso; first | contradiction | omega))) | fail)
      (refine At_ret Try.results34 rfl (fun w' hw => ?_))
      exact ⟨rfl, hw.below0 rfl⟩
set_option maxRecDepth 100000 in
set_option maxHeartbeats 4000000 in
theorem turnsRight_any (hn : -9223372036854775807 ≤ n ∧ n ≤ 9223372036854775807) : Calls Try.prog 10 #[.int .i64 n, .slice A tu.length c] w fun e w' => e = .returned (.int .i64 (trnR n 300 tu)) ∧ Below w.heap.size w w' := by
  by_cases h : (300 : Int) < tu.length
  · rw [show trnR n 300 tu = 2 by unfold trnR; rw [if_pos h]]
    refine calls_T (S := []) [] Try.func10 rfl Try.ntmps10 (by simp) (Mem.nil _) ?_
    repeat' (first | (refine GO ?_) | (refine GOE ?_; (first | (rintro _ _ ⟨rfl, rfl⟩) | (rintro _ _ ⟨g, rfl, rfl⟩) | (rintro _ _ ⟨A', c', rfl, rfl⟩))) | ((refine GO2 ?_ ?_) <;> intro h <;> (try (repeat (first | with_reducible (replace h := of_decide_eq_true h) | with_reducible (replace h := of_decide_eq_false h) | with_reducible (replace h := bnt h) | with_reducible (replace h := bnf h) | with_reducible (replace h := Int.not_lt.mp h) | with_reducible (replace h := Int.not_le.mp h) | with_reducible (replace h := band_dec h) | with_reducible (replace h := band_decF h) | with_reducible (replace h := bor_dec h) | with_reducible (replace h := bor_decF h)))) <;> (try (exfalso; first | contradiction | omega))) | fail)
    all_goals first
      | (exfalso; omega)
      | ((refine At_ret Try.results10 rfl (fun w' hw => ?_)); exact ⟨rfl, hw.below0 rfl⟩)
  · have hbad := fun i (hi : i < tu.length) hb => trnR_1 (n := n) h hi hb
    have hok := trnR_0 (n := n) h
    generalize trnR n 300 tu = R at *
    refine calls_T (S := []) [] Try.func10 rfl Try.ntmps10 (by simp) (Mem.nil _) ?_
    repeat' (first | (refine GO ?_) | (refine GOE ?_; (first | (rintro _ _ ⟨rfl, rfl⟩) | (rintro _ _ ⟨g, rfl, rfl⟩) | (rintro _ _ ⟨A', c', rfl, rfl⟩))) | ((refine GO2 ?_ ?_) <;> intro h <;> (try (repeat (first | with_reducible (replace h := of_decide_eq_true h) | with_reducible (replace h := of_decide_eq_false h) | with_reducible (replace h := bnt h) | with_reducible (replace h := bnf h) | with_reducible (replace h := Int.not_lt.mp h) | with_reducible (replace h := Int.not_le.mp h) | with_reducible (replace h := band_dec h) | with_reducible (replace h := band_decF h) | with_reducible (replace h := bor_dec h) | with_reducible (replace h := bor_decF h)))) <;> (try (exfalso; first | contradiction | omega))) | fail)
    all_goals first | (exfalso; omega) | skip
    refine T_loop (X := Nat) (fun k => [(12, .int .i64 (k : Nat)), (11, .int .i64 tu.length), (10, .slice A tu.length c), (0, .int .i64 n)]) (fun _ => []) (fun k => k ≤ tu.length ∧ ∀ i (hi : i < tu.length), i < k → 0 ≤ tu[i] ∧ tu[i] < n) (fun k => tu.length - k) 0 ⟨by omega, fun i _ hi => by omega⟩ (by (repeat (first | exact SubE.nil _ | refine SubE.cons rfl ?_))) (by exact SUBS) ?_
    rintro k ⟨hk, hno⟩
    by_cases hkl : k < tu.length
    · obtain ⟨bC, oC, rfl, _⟩ := RdE.open hA (by omega)
      have hb := hbad k hkl
      repeat' (first | (refine GO ?_) | (refine GOE ?_; (first | (rintro _ _ ⟨rfl, rfl⟩) | (rintro _ _ ⟨g, rfl, rfl⟩) | (rintro _ _ ⟨A', c', rfl, rfl⟩))) | ((refine GO2 ?_ ?_) <;> intro h <;> (try (repeat (first | with_reducible (replace h := of_decide_eq_true h) | with_reducible (replace h := of_decide_eq_false h) | with_reducible (replace h := bnt h) | with_reducible (replace h := bnf h) | with_reducible (replace h := Int.not_lt.mp h) | with_reducible (replace h := Int.not_le.mp h) | with_reducible (replace h := band_dec h) | with_reducible (replace h := band_decF h) | with_reducible (replace h := bor_dec h) | with_reducible (replace h := bor_decF h)))) <;> (try (exfalso; first | contradiction | omega))) | ((with_reducible (first | apply TD_e2z | apply TD_e3z | apply TL_e | apply TD_e2 | apply TD_e3)); ((with_reducible apply ES_callV (f := 27)); exact rfl; (intro w hw; exact between_C _ _ _ w); exact rfl); (first | exact rfl | exact ⟨rfl, rfl, rfl⟩); (rintro _ _ ⟨rfl, rfl⟩); (try refine ⟨SUB, ?_⟩)) | fail)
      all_goals first
        | ((refine At_ret Try.results10 rfl (fun w' hw => ?_)); obtain rfl := hb (by omega); exact ⟨rfl, hw.below0 rfl⟩)
        | exact At_rounds (k + 1) ⟨hkl, fun i hi h2 => (Nat.lt_succ_iff_lt_or_eq.1 h2).elim (fun e => hno i hi e) (fun e => by subst e; constructor <;> omega)⟩ (by omega) (by (repeat (first | exact SubE.nil _ | refine SubE.cons rfl ?_))) (by exact SUBS)
    · obtain rfl : k = tu.length := by omega
      obtain rfl := hok fun i hi => hno i hi hi
      repeat' (first | (refine GO ?_) | (refine GOE ?_; (first | (rintro _ _ ⟨rfl, rfl⟩) | (rintro _ _ ⟨g, rfl, rfl⟩) | (rintro _ _ ⟨A', c', rfl, rfl⟩))) | ((refine GO2 ?_ ?_) <;> intro h <;> (try (repeat (first | with_reducible (replace h := of_decide_eq_true h) | with_reducible (replace h := of_decide_eq_false h) | with_reducible (replace h := bnt h) | with_reducible (replace h := bnf h) | with_reducible (replace h := Int.not_lt.mp h) | with_reducible (replace h := Int.not_le.mp h) | with_reducible (replace h := band_dec h) | with_reducible (replace h := band_decF h) | with_reducible (replace h := bor_dec h) | with_reducible (replace h := bor_decF h)))) <;> (try (exfalso; first | contradiction | omega))) | fail)
      (refine At_ret Try.results10 rfl (fun w' hw => ?_))
      exact ⟨rfl, hw.below0 rfl⟩
end
section
variable (A0 D0 : Option Addr) (c0 e0 : Nat) (ts : List Int) (hs : List Hd) (ps : List (List Ak)) (w : World) (hts : ts.length ≤ 9223372036854775807) (hpl : ps.length ≤ 9223372036854775807) (hT : RdInt w A0 ts) (hD : RdRows Ak.enc 3 w D0 hs ps)
include hts hpl hT hD
set_option maxRecDepth 100000 in
set_option maxHeartbeats 8000000 in
theorem thCheck_any : Calls Try.prog 33 #[.slice A0 ts.length c0, .slice D0 hs.length e0] w fun e w' => e = .returned (.int .i64 (pplR ts ps)) ∧ Below w.heap.size w w' := by
  have hty := fun w h => types_any A0 c0 ts w hts h
  obtain ⟨hD1, hD2, hD3⟩ := hD
  have r1 := pplR_1 (ts := ts) (ps := ps)
  have r2 := pplR_2 (ts := ts) (ps := ps)
  have r3 := fun h h2 i hi j hj hb => pplR_3 (ts := ts) (ps := ps) h h2 (i := i) hi (j := j) hj hb
  have r0 := pplR_0 (ts := ts) (ps := ps)
  generalize pplR ts ps = R at *
  generalize typesE ts = z at *
  refine calls_T (S := []) [] Try.func33 rfl Try.ntmps33 (by simp) (Mem.nil _) ?_
  by_cases h1 : z ≠ 0 ∨ 8 < ps.length
  · obtain rfl := r1 h1
    repeat' (first | (refine GO ?_) | (refine GOE ?_; (first | (rintro _ _ ⟨rfl, rfl⟩) | (rintro _ _ ⟨g, rfl, rfl⟩) | (rintro _ _ ⟨A', c', rfl, rfl⟩))) | ((refine GO2 ?_ ?_) <;> intro h <;> (try (repeat (first | with_reducible (replace h := of_decide_eq_true h) | with_reducible (replace h := of_decide_eq_false h) | with_reducible (replace h := bnt h) | with_reducible (replace h := bnf h) | with_reducible (replace h := Int.not_lt.mp h) | with_reducible (replace h := Int.not_le.mp h) | with_reducible (replace h := band_dec h) | with_reducible (replace h := band_decF h) | with_reducible (replace h := bor_dec h) | with_reducible (replace h := bor_decF h)))) <;> (try (exfalso; first | contradiction | omega))) | ((with_reducible (first | apply TD_e2z | apply TD_e3z | apply TL_e | apply TD_e2 | apply TD_e3)); ((with_reducible apply ES_callV (f := 68)); exact rfl; (intro w hw; exact hty w (hw.rd rfl hT)); exact rfl); (first | exact rfl | exact ⟨rfl, rfl, rfl⟩); (rintro _ _ ⟨rfl, rfl⟩); (try refine ⟨SUB, ?_⟩)) | fail)
    all_goals first
      | (exfalso; omega)
      | ((refine At_ret Try.results33 rfl (fun w' hw => ?_)); exact ⟨rfl, hw.below0 rfl⟩)
  · have r2 := r2 h1
    have r3 := r3 h1
    have r0 := r0 h1
    clear r1
    repeat' (first | (refine GO ?_) | (refine GOE ?_; (first | (rintro _ _ ⟨rfl, rfl⟩) | (rintro _ _ ⟨g, rfl, rfl⟩) | (rintro _ _ ⟨A', c', rfl, rfl⟩))) | ((refine GO2 ?_ ?_) <;> intro h <;> (try (repeat (first | with_reducible (replace h := of_decide_eq_true h) | with_reducible (replace h := of_decide_eq_false h) | with_reducible (replace h := bnt h) | with_reducible (replace h := bnf h) | with_reducible (replace h := Int.not_lt.mp h) | with_reducible (replace h := Int.not_le.mp h) | with_reducible (replace h := band_dec h) | with_reducible (replace h := band_decF h) | with_reducible (replace h := bor_dec h) | with_reducible (replace h := bor_decF h)))) <;> (try (exfalso; first | contradiction | omega))) | ((with_reducible (first | apply TD_e2z | apply TD_e3z | apply TL_e | apply TD_e2 | apply TD_e3)); ((with_reducible apply ES_callV (f := 68)); exact rfl; (intro w hw; exact hty w (hw.rd rfl hT)); exact rfl); (first | exact rfl | exact ⟨rfl, rfl, rfl⟩); (rintro _ _ ⟨rfl, rfl⟩); (try refine ⟨SUB, ?_⟩)) | fail)
    all_goals first | (exfalso; omega) | skip
    refine T_loop (X := Nat) (fun k => [(22, .int .i64 (k : Nat)), (21, .int .i64 hs.length), (20, .slice D0 hs.length e0), (5, .int .i64 (sumW ps k)), (1, .slice D0 hs.length e0), (0, .slice A0 ts.length c0)]) (fun _ => []) (fun k => k ≤ ps.length) (fun k => ps.length - k) 0 (by omega) (by (repeat (first | exact SubE.nil _ | refine SubE.cons rfl ?_))) (by exact SUBS) ?_
    intro k hk
    by_cases hkl : k < ps.length
    · obtain ⟨hrn, hrc, hrl, hrd⟩ := hD3 k (by omega) hkl
      obtain ⟨bD, oD, rfl, _⟩ := RdE.open hD1 (by omega)
      have hsu := sumW_succ hkl
      rw [← hrn] at hsu
      generalize sumW ps k = Q at *
      repeat' (first | (refine GO ?_) | (refine GOE ?_; (first | (rintro _ _ ⟨rfl, rfl⟩) | (rintro _ _ ⟨g, rfl, rfl⟩) | (rintro _ _ ⟨A', c', rfl, rfl⟩))) | ((refine GO2 ?_ ?_) <;> intro h <;> (try (repeat (first | with_reducible (replace h := of_decide_eq_true h) | with_reducible (replace h := of_decide_eq_false h) | with_reducible (replace h := bnt h) | with_reducible (replace h := bnf h) | with_reducible (replace h := Int.not_lt.mp h) | with_reducible (replace h := Int.not_le.mp h) | with_reducible (replace h := band_dec h) | with_reducible (replace h := band_decF h) | with_reducible (replace h := bor_dec h) | with_reducible (replace h := bor_decF h)))) <;> (try (exfalso; first | contradiction | omega))) | fail)
      apply At_rounds (k + 1)
      case hE => (try dsimp only); rw [hsu]; (repeat (first | exact SubE.nil _ | refine SubE.cons rfl ?_))
      case hS => exact SUBS
      case hμ => (try dsimp only); omega
      case hp => (try dsimp only); omega
    · obtain rfl : k = ps.length := by omega
      generalize sumW ps ps.length = Q at *
      by_cases h2 : 90 < Q
      · obtain rfl := r2 h2
        repeat' (first | (refine GO ?_) | (refine GOE ?_; (first | (rintro _ _ ⟨rfl, rfl⟩) | (rintro _ _ ⟨g, rfl, rfl⟩) | (rintro _ _ ⟨A', c', rfl, rfl⟩))) | ((refine GO2 ?_ ?_) <;> intro h <;> (try (repeat (first | with_reducible (replace h := of_decide_eq_true h) | with_reducible (replace h := of_decide_eq_false h) | with_reducible (replace h := bnt h) | with_reducible (replace h := bnf h) | with_reducible (replace h := Int.not_lt.mp h) | with_reducible (replace h := Int.not_le.mp h) | with_reducible (replace h := band_dec h) | with_reducible (replace h := band_decF h) | with_reducible (replace h := bor_dec h) | with_reducible (replace h := bor_decF h)))) <;> (try (exfalso; first | contradiction | omega))) | fail)
        (refine At_ret Try.results33 rfl (fun w' hw => ?_))
        exact ⟨rfl, hw.below0 rfl⟩
      · have r3 := r3 h2
        have r0 := r0 h2
        repeat' (first | (refine GO ?_) | (refine GOE ?_; (first | (rintro _ _ ⟨rfl, rfl⟩) | (rintro _ _ ⟨g, rfl, rfl⟩) | (rintro _ _ ⟨A', c', rfl, rfl⟩))) | ((refine GO2 ?_ ?_) <;> intro h <;> (try (repeat (first | with_reducible (replace h := of_decide_eq_true h) | with_reducible (replace h := of_decide_eq_false h) | with_reducible (replace h := bnt h) | with_reducible (replace h := bnf h) | with_reducible (replace h := Int.not_lt.mp h) | with_reducible (replace h := Int.not_le.mp h) | with_reducible (replace h := band_dec h) | with_reducible (replace h := band_decF h) | with_reducible (replace h := bor_dec h) | with_reducible (replace h := bor_decF h)))) <;> (try (exfalso; first | contradiction | omega))) | fail)
        refine T_loop (X := Nat) (fun k => [(35, .int .i64 (k : Nat)), (34, .int .i64 hs.length), (33, .slice D0 hs.length e0), (0, .slice A0 ts.length c0)]) (fun _ => []) (fun k => k ≤ ps.length ∧ ∀ i (hi : i < ps.length), i < k → rowB ts ps[i] = true) (fun k => ps.length - k) 0 ⟨by omega, fun i _ hi => by omega⟩ (by (repeat (first | exact SubE.nil _ | refine SubE.cons rfl ?_))) (by exact SUBS) ?_
        rintro k ⟨hk, hno⟩
        by_cases hkl : k < ps.length
        · obtain ⟨hrn, hrc, hrl, hrd⟩ := hD3 k (by omega) hkl
          obtain ⟨bD, oD, rfl, _⟩ := RdE.open hD1 (by omega)
          have r3 := r3 k hkl
          have hnx : rowB ts ps[k] = true → ∀ i (hi : i < ps.length), i < k + 1 → rowB ts ps[i] = true := fun hb i hi h2 => (Nat.lt_succ_iff_lt_or_eq.1 h2).elim (fun e => hno i hi e) (fun e => by subst e; exact hb)
          generalize ps[k] = row at *
          repeat' (first | (refine GO ?_) | (refine GOE ?_; (first | (rintro _ _ ⟨rfl, rfl⟩) | (rintro _ _ ⟨g, rfl, rfl⟩) | (rintro _ _ ⟨A', c', rfl, rfl⟩))) | ((refine GO2 ?_ ?_) <;> intro h <;> (try (repeat (first | with_reducible (replace h := of_decide_eq_true h) | with_reducible (replace h := of_decide_eq_false h) | with_reducible (replace h := bnt h) | with_reducible (replace h := bnf h) | with_reducible (replace h := Int.not_lt.mp h) | with_reducible (replace h := Int.not_le.mp h) | with_reducible (replace h := band_dec h) | with_reducible (replace h := band_decF h) | with_reducible (replace h := bor_dec h) | with_reducible (replace h := bor_decF h)))) <;> (try (exfalso; first | contradiction | omega))) | fail)
          rw [hrn]
          obtain ⟨ra, hra⟩ : ∃ x, hs[k].a = x := ⟨_, rfl⟩
          obtain ⟨rc, hrc2⟩ : ∃ x, hs[k].c = x := ⟨_, rfl⟩
          rw [hra] at hrd
          rw [hra, hrc2]
          clear hra hrc2 hrn
          refine T_loop (X := Nat) (fun j => [(41, .int .i64 (j : Nat)), (40, .int .i64 row.length), (39, .slice ra row.length rc), (35, .int .i64 (k : Nat)), (34, .int .i64 hs.length), (33, .slice (some ⟨bD, oD, none⟩) hs.length e0), (0, .slice A0 ts.length c0)]) (fun _ => []) (fun j => j ≤ row.length ∧ ∀ i (hi : i < row.length), i < j → askB ts row[i] = true) (fun j => row.length - j) 0 ⟨by omega, fun i _ hi => by omega⟩ (by (repeat (first | exact SubE.nil _ | refine SubE.cons rfl ?_))) (by exact SUBS) ?_
          rintro j ⟨hj, hnj⟩
          by_cases hjl : j < row.length
          · obtain ⟨bR, oR, rfl, _⟩ := RdE.open hrd (by omega)
            have r3 := r3 j hjl
            have hnj2 : askB ts row[j] = true → ∀ i (hi : i < row.length), i < j + 1 → askB ts row[i] = true := fun hb i hi h2 => (Nat.lt_succ_iff_lt_or_eq.1 h2).elim (fun e => hnj i hi e) (fun e => by subst e; exact hb)
            by_cases hin : 0 ≤ row[j].thing ∧ row[j].thing < ts.length
            · have hq : askB ts row[j] = ((kindsL (ts[row[j].thing.toNat]'(by omega))).contains row[j].kind && argB row[j].kind row[j].arg) := by
                unfold askB
                rw [decide_eq_true hin.1, decide_eq_true hin.2, show ts.getD row[j].thing.toNat 0 = ts[row[j].thing.toNat]'(by omega) by simp [show row[j].thing.toNat < ts.length by omega]]
                rfl
              obtain ⟨bT, oT, rfl, _⟩ := RdE.open hT (by omega)
              generalize hK : (kindsL (ts[row[j].thing.toNat]'(by omega))).contains row[j].kind = K at *
              generalize hG : argB row[j].kind row[j].arg = G at *
              have hf : ∀ w, Calls Try.prog 69 #[.int .i64 (ts[row[j].thing.toNat]'(by omega)), .int .i64 row[j].kind] w fun e w' => e = .returned (.bool K) ∧ Below w.heap.size w w' := fun w => by rw [← hK]; exact fits_C _ _ w
              have hg : ∀ w, Calls Try.prog 70 #[.int .i64 row[j].kind, .int .i64 row[j].arg] w fun e w' => e = .returned (.bool G) ∧ Below w.heap.size w w' := fun w => by rw [← hG]; exact argument_C _ _ w
              clear hK hG
              repeat' (first | (refine GG ?_) | (refine GE ?_; (first | (rintro _ _ ⟨rfl, rfl⟩) | (rintro _ _ ⟨g, rfl, rfl⟩) | (rintro _ _ ⟨A', c', rfl, rfl⟩)); (try refine ⟨SUB, ?_⟩)) | ((refine GO2 ?_ ?_) <;> intro h <;> (try (repeat (first | with_reducible (replace h := of_decide_eq_true h) | with_reducible (replace h := of_decide_eq_false h) | with_reducible (replace h := bnt h) | with_reducible (replace h := bnf h) | with_reducible (replace h := Int.not_lt.mp h) | with_reducible (replace h := Int.not_le.mp h) | with_reducible (replace h := band_dec h) | with_reducible (replace h := band_decF h) | with_reducible (replace h := bor_dec h) | with_reducible (replace h := bor_decF h)))) <;> (try (exfalso; first | contradiction | omega))) | (refine GOF ?_ ?_) | ((with_reducible apply T_draw (id := 17) 1000 (OT.seq [(0, 0), (1, 1), (0, 2), (0, 3), (0, 4), (0, 6), (0, 7), (1, 5), (0, 8), (0, 9), (0, 10), (0, 11), (0, 12), (0, 16), (1, 13), (0, 14), (1, 15), (1, 17), (2, 18), (0, 19), (0, 20), (0, 21), (0, 22), (0, 24), (1, 23), (1, 25), (2, 26), (0, 27), (0, 28)] .nil)); kernel_rfl; exact rfl; kernel_rfl; (repeat (first | with_reducible exact Blind.body | with_reducible apply Blind.seq | with_reducible apply Blind.block))) | ((with_reducible (first | apply TD_e2z | apply TD_e3z | apply TL_e | apply TD_e2 | apply TD_e3)); ((with_reducible apply ES_callV (f := 69)); exact rfl; (intro w hw; exact hf w); exact rfl); (first | exact rfl | exact ⟨rfl, rfl, rfl⟩); (rintro _ _ ⟨rfl, rfl⟩); (try refine ⟨SUB, ?_⟩)) | ((with_reducible (first | apply TD_e2z | apply TD_e3z | apply TL_e | apply TD_e2 | apply TD_e3)); ((with_reducible apply ES_callV (f := 70)); exact rfl; (intro w hw; exact hg w); exact rfl); (first | exact rfl | exact ⟨rfl, rfl, rfl⟩); (rintro _ _ ⟨rfl, rfl⟩); (try refine ⟨SUB, ?_⟩)) | fail)
              all_goals first
                | (exfalso; omega)
                | ((refine At_ret Try.results33 rfl (fun w' hw => ?_)); obtain rfl := r3 (by rw [hq]; simp [*]); exact ⟨rfl, hw.below0 rfl⟩)
                | exact At_rounds (j + 1) ⟨hjl, hnj2 (by rw [hq]; simp [*])⟩ (by omega) (by (repeat (first | exact SubE.nil _ | refine SubE.cons rfl ?_))) (by exact SUBS)
            · have hq : askB ts row[j] = false := by
                rw [Bool.eq_false_iff]
                intro e
                exact hin ⟨(askB_ok e).1, (askB_ok e).2.1⟩
              obtain rfl := r3 hq
              repeat' (first | (refine GG ?_) | (refine GE ?_; (first | (rintro _ _ ⟨rfl, rfl⟩) | (rintro _ _ ⟨g, rfl, rfl⟩) | (rintro _ _ ⟨A', c', rfl, rfl⟩)); (try refine ⟨SUB, ?_⟩)) | ((refine GO2 ?_ ?_) <;> intro h <;> (try (repeat (first | with_reducible (replace h := of_decide_eq_true h) | with_reducible (replace h := of_decide_eq_false h) | with_reducible (replace h := bnt h) | with_reducible (replace h := bnf h) | with_reducible (replace h := Int.not_lt.mp h) | with_reducible (replace h := Int.not_le.mp h) | with_reducible (replace h := band_dec h) | with_reducible (replace h := band_decF h) | with_reducible (replace h := bor_dec h) | with_reducible (replace h := bor_decF h)))) <;> (try (exfalso; first | contradiction | omega))) | (refine GOF ?_ ?_) | ((with_reducible apply T_draw (id := 17) 1000 (OT.seq [(0, 0), (1, 1), (0, 2), (0, 3), (0, 4), (0, 6), (0, 7), (1, 5), (0, 8), (0, 9), (0, 10), (0, 11), (0, 12), (0, 16), (1, 13), (0, 14), (1, 15), (1, 17), (2, 18), (0, 19), (0, 20), (0, 21), (0, 22), (0, 24), (1, 23), (1, 25), (2, 26), (0, 27), (0, 28)] .nil)); kernel_rfl; exact rfl; kernel_rfl; (repeat (first | with_reducible exact Blind.body | with_reducible apply Blind.seq | with_reducible apply Blind.block))) | fail)
              all_goals first
                | (exfalso; omega)
                | ((refine At_ret Try.results33 rfl (fun w' hw => ?_)); exact ⟨rfl, hw.below0 rfl⟩)
          · obtain rfl : j = row.length := by omega
            repeat' (first | (refine GO ?_) | (refine GOE ?_; (first | (rintro _ _ ⟨rfl, rfl⟩) | (rintro _ _ ⟨g, rfl, rfl⟩) | (rintro _ _ ⟨A', c', rfl, rfl⟩))) | ((refine GO2 ?_ ?_) <;> intro h <;> (try (repeat (first | with_reducible (replace h := of_decide_eq_true h) | with_reducible (replace h := of_decide_eq_false h) | with_reducible (replace h := bnt h) | with_reducible (replace h := bnf h) | with_reducible (replace h := Int.not_lt.mp h) | with_reducible (replace h := Int.not_le.mp h) | with_reducible (replace h := band_dec h) | with_reducible (replace h := band_decF h) | with_reducible (replace h := bor_dec h) | with_reducible (replace h := bor_decF h)))) <;> (try (exfalso; first | contradiction | omega))) | fail)
            exact At_rounds (k + 1) ⟨hkl, hnx (all_at fun i hi => hnj i hi hi)⟩ (by omega) (by (repeat (first | exact SubE.nil _ | refine SubE.cons rfl ?_))) (by exact SUBS)
        · obtain rfl : k = ps.length := by omega
          obtain rfl := r0 fun i hi => hno i hi hi
          repeat' (first | (refine GO ?_) | (refine GOE ?_; (first | (rintro _ _ ⟨rfl, rfl⟩) | (rintro _ _ ⟨g, rfl, rfl⟩) | (rintro _ _ ⟨A', c', rfl, rfl⟩))) | ((refine GO2 ?_ ?_) <;> intro h <;> (try (repeat (first | with_reducible (replace h := of_decide_eq_true h) | with_reducible (replace h := of_decide_eq_false h) | with_reducible (replace h := bnt h) | with_reducible (replace h := bnf h) | with_reducible (replace h := Int.not_lt.mp h) | with_reducible (replace h := Int.not_le.mp h) | with_reducible (replace h := band_dec h) | with_reducible (replace h := band_decF h) | with_reducible (replace h := bor_dec h) | with_reducible (replace h := bor_decF h)))) <;> (try (exfalso; first | contradiction | omega))) | fail)
          (refine At_ret Try.results33 rfl (fun w' hw => ?_))
          exact ⟨rfl, hw.below0 rfl⟩
end
end Go.Proofs.Ytnflkmjfhbfekaa

namespace Go.Proofs.Ytnflkmjfhbfekaa
open Go.RowKit

section
variable (A0 D0 : Option Addr) (c0 e0 : Nat) (ts : List Int) (hs : List Hd) (ps : List (List Ak)) (w : World) (hts : ts.length ≤ 9223372036854775807) (hpl : ps.length ≤ 9223372036854775807) (hT : RdInt w A0 ts) (hD : RdRows Ak.enc 3 w D0 hs ps)
include hts hpl hT hD
set_option maxRecDepth 100000 in
set_option maxHeartbeats 8000000 in
theorem peopleRight_any : Calls Try.prog 9 #[.slice A0 ts.length c0, .slice D0 hs.length e0] w fun e w' => e = .returned (.int .i64 (pplR ts ps)) ∧ Below w.heap.size w w' := by
  have hty := fun w h => callsOf_any A0 none c0 0 ts [] w hts (by simp) h (fun i x h => by simp at h)
  have hcn := typesE_nil ts
  obtain ⟨hD1, hD2, hD3⟩ := hD
  have r1 := pplR_1 (ts := ts) (ps := ps)
  have r2 := pplR_2 (ts := ts) (ps := ps)
  have r3 := fun h h2 i hi j hj hb => pplR_3 (ts := ts) (ps := ps) h h2 (i := i) hi (j := j) hj hb
  have r0 := pplR_0 (ts := ts) (ps := ps)
  generalize pplR ts ps = R at *
  generalize callsR ts [] = CR at *
  obtain ⟨ccs, cy, ce⟩ := CR
  dsimp only at hty hcn
  generalize typesE ts = z at *
  subst hcn
  refine calls_T (S := []) [] Try.func9 rfl Try.ntmps9 (by simp) (Mem.nil _) ?_
  by_cases h1 : ce ≠ 0 ∨ 8 < ps.length
  · obtain rfl := r1 h1
    repeat' (first | (refine GO ?_) | (refine GOE ?_; (first | (rintro _ _ ⟨rfl, rfl⟩) | (rintro _ _ ⟨g, rfl, rfl⟩) | (rintro _ _ ⟨A', c', rfl, rfl⟩))) | ((refine GO2 ?_ ?_) <;> intro h <;> (try (repeat (first | with_reducible (replace h := of_decide_eq_true h) | with_reducible (replace h := of_decide_eq_false h) | with_reducible (replace h := bnt h) | with_reducible (replace h := bnf h) | with_reducible (replace h := Int.not_lt.mp h) | with_reducible (replace h := Int.not_le.mp h) | with_reducible (replace h := band_dec h) | with_reducible (replace h := band_decF h) | with_reducible (replace h := bor_dec h) | with_reducible (replace h := bor_decF h)))) <;> (try (exfalso; first | contradiction | omega))) | ((with_reducible (first | apply TD_e2z | apply TD_e3z | apply TL_e | apply TD_e2 | apply TD_e3)); ((with_reducible apply ES_callOwn (f := 26)); exact rfl; (intro w hw; exact hty w (hw.rd rfl hT)); exact rfl); (first | exact rfl | exact ⟨rfl, rfl, rfl⟩); (rintro _ _ ⟨A1, c1, rfl, rfl⟩); (try refine ⟨SUB, ?_⟩)) | fail)
    all_goals first
      | (exfalso; omega)
      | ((refine At_ret Try.results9 rfl (fun w' hw => ?_)); exact ⟨rfl, hw.below0 rfl⟩)
  · have r2 := r2 h1
    have r3 := r3 h1
    have r0 := r0 h1
    clear r1
    repeat' (first | (refine GO ?_) | (refine GOE ?_; (first | (rintro _ _ ⟨rfl, rfl⟩) | (rintro _ _ ⟨g, rfl, rfl⟩) | (rintro _ _ ⟨A', c', rfl, rfl⟩))) | ((refine GO2 ?_ ?_) <;> intro h <;> (try (repeat (first | with_reducible (replace h := of_decide_eq_true h) | with_reducible (replace h := of_decide_eq_false h) | with_reducible (replace h := bnt h) | with_reducible (replace h := bnf h) | with_reducible (replace h := Int.not_lt.mp h) | with_reducible (replace h := Int.not_le.mp h) | with_reducible (replace h := band_dec h) | with_reducible (replace h := band_decF h) | with_reducible (replace h := bor_dec h) | with_reducible (replace h := bor_decF h)))) <;> (try (exfalso; first | contradiction | omega))) | ((with_reducible (first | apply TD_e2z | apply TD_e3z | apply TL_e | apply TD_e2 | apply TD_e3)); ((with_reducible apply ES_callOwn (f := 26)); exact rfl; (intro w hw; exact hty w (hw.rd rfl hT)); exact rfl); (first | exact rfl | exact ⟨rfl, rfl, rfl⟩); (rintro _ _ ⟨A1, c1, rfl, rfl⟩); (try refine ⟨SUB, ?_⟩)) | fail)
    all_goals first | (exfalso; omega) | skip
    refine T_loop (X := Nat) (fun k => [(30, .int .i64 (k : Nat)), (29, .int .i64 hs.length), (28, .slice D0 hs.length e0), (8, .int .i64 (sumW ps k)), (1, .slice D0 hs.length e0), (0, .slice A0 ts.length c0)]) (fun _ => []) (fun k => k ≤ ps.length) (fun k => ps.length - k) 0 (by omega) (by (repeat (first | exact SubE.nil _ | refine SubE.cons rfl ?_))) (by exact SUBS) ?_
    intro k hk
    by_cases hkl : k < ps.length
    · obtain ⟨hrn, hrc, hrl, hrd⟩ := hD3 k (by omega) hkl
      obtain ⟨bD, oD, rfl, _⟩ := RdE.open hD1 (by omega)
      have hsu := sumW_succ hkl
      rw [← hrn] at hsu
      generalize sumW ps k = Q at *
      repeat' (first | (refine GO ?_) | (refine GOE ?_; (first | (rintro _ _ ⟨rfl, rfl⟩) | (rintro _ _ ⟨g, rfl, rfl⟩) | (rintro _ _ ⟨A', c', rfl, rfl⟩))) | ((refine GO2 ?_ ?_) <;> intro h <;> (try (repeat (first | with_reducible (replace h := of_decide_eq_true h) | with_reducible (replace h := of_decide_eq_false h) | with_reducible (replace h := bnt h) | with_reducible (replace h := bnf h) | with_reducible (replace h := Int.not_lt.mp h) | with_reducible (replace h := Int.not_le.mp h) | with_reducible (replace h := band_dec h) | with_reducible (replace h := band_decF h) | with_reducible (replace h := bor_dec h) | with_reducible (replace h := bor_decF h)))) <;> (try (exfalso; first | contradiction | omega))) | fail)
      apply At_rounds (k + 1)
      case hE => (try dsimp only); rw [hsu]; (repeat (first | exact SubE.nil _ | refine SubE.cons rfl ?_))
      case hS => exact SUBS
      case hμ => (try dsimp only); omega
      case hp => (try dsimp only); omega
    · obtain rfl : k = ps.length := by omega
      generalize sumW ps ps.length = Q at *
      by_cases h2 : 90 < Q
      · obtain rfl := r2 h2
        repeat' (first | (refine GO ?_) | (refine GOE ?_; (first | (rintro _ _ ⟨rfl, rfl⟩) | (rintro _ _ ⟨g, rfl, rfl⟩) | (rintro _ _ ⟨A', c', rfl, rfl⟩))) | ((refine GO2 ?_ ?_) <;> intro h <;> (try (repeat (first | with_reducible (replace h := of_decide_eq_true h) | with_reducible (replace h := of_decide_eq_false h) | with_reducible (replace h := bnt h) | with_reducible (replace h := bnf h) | with_reducible (replace h := Int.not_lt.mp h) | with_reducible (replace h := Int.not_le.mp h) | with_reducible (replace h := band_dec h) | with_reducible (replace h := band_decF h) | with_reducible (replace h := bor_dec h) | with_reducible (replace h := bor_decF h)))) <;> (try (exfalso; first | contradiction | omega))) | fail)
        (refine At_ret Try.results9 rfl (fun w' hw => ?_))
        exact ⟨rfl, hw.below0 rfl⟩
      · have r3 := r3 h2
        have r0 := r0 h2
        repeat' (first | (refine GO ?_) | (refine GOE ?_; (first | (rintro _ _ ⟨rfl, rfl⟩) | (rintro _ _ ⟨g, rfl, rfl⟩) | (rintro _ _ ⟨A', c', rfl, rfl⟩))) | ((refine GO2 ?_ ?_) <;> intro h <;> (try (repeat (first | with_reducible (replace h := of_decide_eq_true h) | with_reducible (replace h := of_decide_eq_false h) | with_reducible (replace h := bnt h) | with_reducible (replace h := bnf h) | with_reducible (replace h := Int.not_lt.mp h) | with_reducible (replace h := Int.not_le.mp h) | with_reducible (replace h := band_dec h) | with_reducible (replace h := band_decF h) | with_reducible (replace h := bor_dec h) | with_reducible (replace h := bor_decF h)))) <;> (try (exfalso; first | contradiction | omega))) | fail)
        refine T_loop (X := Nat) (fun k => [(43, .int .i64 (k : Nat)), (42, .int .i64 hs.length), (41, .slice D0 hs.length e0), (0, .slice A0 ts.length c0)]) (fun _ => []) (fun k => k ≤ ps.length ∧ ∀ i (hi : i < ps.length), i < k → rowB ts ps[i] = true) (fun k => ps.length - k) 0 ⟨by omega, fun i _ hi => by omega⟩ (by (repeat (first | exact SubE.nil _ | refine SubE.cons rfl ?_))) (by exact SUBS) ?_
        rintro k ⟨hk, hno⟩
        by_cases hkl : k < ps.length
        · obtain ⟨hrn, hrc, hrl, hrd⟩ := hD3 k (by omega) hkl
          obtain ⟨bD, oD, rfl, _⟩ := RdE.open hD1 (by omega)
          have r3 := r3 k hkl
          have hnx : rowB ts ps[k] = true → ∀ i (hi : i < ps.length), i < k + 1 → rowB ts ps[i] = true := fun hb i hi h2 => (Nat.lt_succ_iff_lt_or_eq.1 h2).elim (fun e => hno i hi e) (fun e => by subst e; exact hb)
          generalize ps[k] = row at *
          repeat' (first | (refine GO ?_) | (refine GOE ?_; (first | (rintro _ _ ⟨rfl, rfl⟩) | (rintro _ _ ⟨g, rfl, rfl⟩) | (rintro _ _ ⟨A', c', rfl, rfl⟩))) | ((refine GO2 ?_ ?_) <;> intro h <;> (try (repeat (first | with_reducible (replace h := of_decide_eq_true h) | with_reducible (replace h := of_decide_eq_false h) | with_reducible (replace h := bnt h) | with_reducible (replace h := bnf h) | with_reducible (replace h := Int.not_lt.mp h) | with_reducible (replace h := Int.not_le.mp h) | with_reducible (replace h := band_dec h) | with_reducible (replace h := band_decF h) | with_reducible (replace h := bor_dec h) | with_reducible (replace h := bor_decF h)))) <;> (try (exfalso; first | contradiction | omega))) | fail)
          rw [hrn]
          obtain ⟨ra, hra⟩ : ∃ x, hs[k].a = x := ⟨_, rfl⟩
          obtain ⟨rc, hrc2⟩ : ∃ x, hs[k].c = x := ⟨_, rfl⟩
          rw [hra] at hrd
          rw [hra, hrc2]
          clear hra hrc2 hrn
          refine T_loop (X := Nat) (fun j => [(49, .int .i64 (j : Nat)), (48, .int .i64 row.length), (47, .slice ra row.length rc), (43, .int .i64 (k : Nat)), (42, .int .i64 hs.length), (41, .slice (some ⟨bD, oD, none⟩) hs.length e0), (0, .slice A0 ts.length c0)]) (fun _ => []) (fun j => j ≤ row.length ∧ ∀ i (hi : i < row.length), i < j → askB ts row[i] = true) (fun j => row.length - j) 0 ⟨by omega, fun i _ hi => by omega⟩ (by (repeat (first | exact SubE.nil _ | refine SubE.cons rfl ?_))) (by exact SUBS) ?_
          rintro j ⟨hj, hnj⟩
          by_cases hjl : j < row.length
          · obtain ⟨bR, oR, rfl, _⟩ := RdE.open hrd (by omega)
            have r3 := r3 j hjl
            have hnj2 : askB ts row[j] = true → ∀ i (hi : i < row.length), i < j + 1 → askB ts row[i] = true := fun hb i hi h2 => (Nat.lt_succ_iff_lt_or_eq.1 h2).elim (fun e => hnj i hi e) (fun e => by subst e; exact hb)
            by_cases hin : 0 ≤ row[j].thing ∧ row[j].thing < ts.length
            · have hq : askB ts row[j] = ((kindsL (ts[row[j].thing.toNat]'(by omega))).contains row[j].kind && argB row[j].kind row[j].arg) := by
                unfold askB
                rw [decide_eq_true hin.1, decide_eq_true hin.2, show ts.getD row[j].thing.toNat 0 = ts[row[j].thing.toNat]'(by omega) by simp [show row[j].thing.toNat < ts.length by omega]]
                rfl
              obtain ⟨bT, oT, rfl, _⟩ := RdE.open hT (by omega)
              have hf := fun w => asked_any (ts[row[j].thing.toNat]'(by omega)) row[j].kind row[j].arg w
              generalize ((kindsL (ts[row[j].thing.toNat]'(by omega))).contains row[j].kind && argB row[j].kind row[j].arg) = K at *
              repeat' (first | (refine GG ?_) | (refine GE ?_; (first | (rintro _ _ ⟨rfl, rfl⟩) | (rintro _ _ ⟨g, rfl, rfl⟩) | (rintro _ _ ⟨A', c', rfl, rfl⟩)); (try refine ⟨SUB, ?_⟩)) | ((refine GO2 ?_ ?_) <;> intro h <;> (try (repeat (first | with_reducible (replace h := of_decide_eq_true h) | with_reducible (replace h := of_decide_eq_false h) | with_reducible (replace h := bnt h) | with_reducible (replace h := bnf h) | with_reducible (replace h := Int.not_lt.mp h) | with_reducible (replace h := Int.not_le.mp h) | with_reducible (replace h := band_dec h) | with_reducible (replace h := band_decF h) | with_reducible (replace h := bor_dec h) | with_reducible (replace h := bor_decF h)))) <;> (try (exfalso; first | contradiction | omega))) | (refine GOF ?_ ?_) | ((with_reducible apply T_draw (id := 18) 1000 (OT.seq [(0, 0), (0, 2), (0, 3), (0, 4), (1, 1), (2, 5), (0, 6), (0, 7), (0, 8), (0, 9), (0, 13), (0, 15), (1, 10), (0, 11), (1, 12), (1, 14), (1, 16), (2, 17), (0, 18), (0, 19)] .nil)); kernel_rfl; exact rfl; kernel_rfl; (repeat (first | with_reducible exact Blind.body | with_reducible apply Blind.seq | with_reducible apply Blind.block))) | ((with_reducible (first | apply TD_e2z | apply TD_e3z | apply TL_e | apply TD_e2 | apply TD_e3)); ((with_reducible apply ES_callV (f := 27)); exact rfl; (intro w hw; exact between_C _ _ _ w); exact rfl); (first | exact rfl | exact ⟨rfl, rfl, rfl⟩); (rintro _ _ ⟨rfl, rfl⟩); (try refine ⟨SUB, ?_⟩)) | ((with_reducible (first | apply TD_e2z | apply TD_e3z | apply TL_e | apply TD_e2 | apply TD_e3)); ((with_reducible apply ES_callV (f := 36)); exact rfl; (intro w hw; exact hf w); exact rfl); (first | exact rfl | exact ⟨rfl, rfl, rfl⟩); (rintro _ _ ⟨rfl, rfl⟩); (try refine ⟨SUB, ?_⟩)) | fail)
              all_goals first
                | (exfalso; omega)
                | ((refine At_ret Try.results9 rfl (fun w' hw => ?_)); obtain rfl := r3 (by rw [hq]; simp [*]); exact ⟨rfl, hw.below0 rfl⟩)
                | exact At_rounds (j + 1) ⟨hjl, hnj2 (by rw [hq]; simp [*])⟩ (by omega) (by (repeat (first | exact SubE.nil _ | refine SubE.cons rfl ?_))) (by exact SUBS)
            · have hq : askB ts row[j] = false := by
                rw [Bool.eq_false_iff]
                intro e
                exact hin ⟨(askB_ok e).1, (askB_ok e).2.1⟩
              obtain rfl := r3 hq
              repeat' (first | (refine GG ?_) | (refine GE ?_; (first | (rintro _ _ ⟨rfl, rfl⟩) | (rintro _ _ ⟨g, rfl, rfl⟩) | (rintro _ _ ⟨A', c', rfl, rfl⟩)); (try refine ⟨SUB, ?_⟩)) | ((refine GO2 ?_ ?_) <;> intro h <;> (try (repeat (first | with_reducible (replace h := of_decide_eq_true h) | with_reducible (replace h := of_decide_eq_false h) | with_reducible (replace h := bnt h) | with_reducible (replace h := bnf h) | with_reducible (replace h := Int.not_lt.mp h) | with_reducible (replace h := Int.not_le.mp h) | with_reducible (replace h := band_dec h) | with_reducible (replace h := band_decF h) | with_reducible (replace h := bor_dec h) | with_reducible (replace h := bor_decF h)))) <;> (try (exfalso; first | contradiction | omega))) | (refine GOF ?_ ?_) | ((with_reducible apply T_draw (id := 18) 1000 (OT.seq [(0, 0), (0, 2), (0, 3), (0, 4), (1, 1), (2, 5), (0, 6), (0, 7), (0, 8), (0, 9), (0, 13), (0, 15), (1, 10), (0, 11), (1, 12), (1, 14), (1, 16), (2, 17), (0, 18), (0, 19)] .nil)); kernel_rfl; exact rfl; kernel_rfl; (repeat (first | with_reducible exact Blind.body | with_reducible apply Blind.seq | with_reducible apply Blind.block))) | ((with_reducible (first | apply TD_e2z | apply TD_e3z | apply TL_e | apply TD_e2 | apply TD_e3)); ((with_reducible apply ES_callV (f := 27)); exact rfl; (intro w hw; exact between_C _ _ _ w); exact rfl); (first | exact rfl | exact ⟨rfl, rfl, rfl⟩); (rintro _ _ ⟨rfl, rfl⟩); (try refine ⟨SUB, ?_⟩)) | fail)
              all_goals first
                | (exfalso; omega)
                | ((refine At_ret Try.results9 rfl (fun w' hw => ?_)); exact ⟨rfl, hw.below0 rfl⟩)
          · obtain rfl : j = row.length := by omega
            repeat' (first | (refine GO ?_) | (refine GOE ?_; (first | (rintro _ _ ⟨rfl, rfl⟩) | (rintro _ _ ⟨g, rfl, rfl⟩) | (rintro _ _ ⟨A', c', rfl, rfl⟩))) | ((refine GO2 ?_ ?_) <;> intro h <;> (try (repeat (first | with_reducible (replace h := of_decide_eq_true h) | with_reducible (replace h := of_decide_eq_false h) | with_reducible (replace h := bnt h) | with_reducible (replace h := bnf h) | with_reducible (replace h := Int.not_lt.mp h) | with_reducible (replace h := Int.not_le.mp h) | with_reducible (replace h := band_dec h) | with_reducible (replace h := band_decF h) | with_reducible (replace h := bor_dec h) | with_reducible (replace h := bor_decF h)))) <;> (try (exfalso; first | contradiction | omega))) | fail)
            exact At_rounds (k + 1) ⟨hkl, hnx (all_at fun i hi => hnj i hi hi)⟩ (by omega) (by (repeat (first | exact SubE.nil _ | refine SubE.cons rfl ?_))) (by exact SUBS)
        · obtain rfl : k = ps.length := by omega
          obtain rfl := r0 fun i hi => hno i hi hi
          repeat' (first | (refine GO ?_) | (refine GOE ?_; (first | (rintro _ _ ⟨rfl, rfl⟩) | (rintro _ _ ⟨g, rfl, rfl⟩) | (rintro _ _ ⟨A', c', rfl, rfl⟩))) | ((refine GO2 ?_ ?_) <;> intro h <;> (try (repeat (first | with_reducible (replace h := of_decide_eq_true h) | with_reducible (replace h := of_decide_eq_false h) | with_reducible (replace h := bnt h) | with_reducible (replace h := bnf h) | with_reducible (replace h := Int.not_lt.mp h) | with_reducible (replace h := Int.not_le.mp h) | with_reducible (replace h := band_dec h) | with_reducible (replace h := band_decF h) | with_reducible (replace h := bor_dec h) | with_reducible (replace h := bor_decF h)))) <;> (try (exfalso; first | contradiction | omega))) | fail)
          (refine At_ret Try.results9 rfl (fun w' hw => ?_))
          exact ⟨rfl, hw.below0 rfl⟩
end
end Go.Proofs.Ytnflkmjfhbfekaa
