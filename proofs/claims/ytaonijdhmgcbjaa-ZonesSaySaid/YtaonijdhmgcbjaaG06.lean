/- Lemmas for the walks (Hist7, Hist8, Cau1). No condition. -/
import Derived.Test.YtaonijdhmgcbjaaG05
import Derived.Test.YtaonijdhmgcbjaaRows
import Derived.Test.YtaonijdhmgcbjaaG01
import Derived.ChangeKeysEq
import Derived.Test.YtaonijdhmgcbjaaG03
set_option linter.unusedSimpArgs false
set_option linter.unusedVariables false
set_option linter.unusedSectionVars false
set_option linter.unnecessarySimpa false
namespace Go.Proofs.Ytaonijdhmgcbjaa
open Go.RowKit

/-- the last of the first q calls that is somebody's and open (-1: none) -/
def openTo (cs : List Cl) (who : Int) : Nat → Int
  | 0 => -1
  | q + 1 => if (cs.getD q default).who = who ∧ (cs.getD q default).to = -1 then (q : Int) else openTo cs who q
theorem openTo_lt (cs : List Cl) (who : Int) : ∀ q, -1 ≤ openTo cs who q ∧ openTo cs who q < q
  | 0 => by simp [openTo]
  | q + 1 => by
    have := openTo_lt cs who q
    rw [openTo]
    split <;> omega
/-- one step of the document's reading -/
def evR (ts : List Int) (cs : List Cl) (i : Int) (x : Ev) : Int × List Cl :=
  if formBad ts x = true then (3, cs)
  else if x.kind = 0 then
    if openTo cs x.who cs.length < 0 then (4, cs)
    else if (cs.getD (openTo cs x.who cs.length).toNat default).thing = x.thing ∧ ansB (cs.getD (openTo cs x.who cs.length).toNat default).kind x.value = true then
      (0, cs.set (openTo cs x.who cs.length).toNat { cs.getD (openTo cs x.who cs.length).toNat default with res := x.value, to := i })
    else (3, cs)
  else if ((kindsL (ts.getD x.thing.toNat 0)).contains x.kind && argB x.kind x.value) = false then (3, cs)
  else if 0 ≤ openTo cs x.who cs.length then (5, cs)
  else (0, cs ++ [⟨x.who, x.thing, x.kind, x.value, 0, i, -1⟩])
def stR (ts : List Int) (l : List Ev) : Nat → List Cl
  | 0 => []
  | k + 1 => (evR ts (stR ts l k) k (l.getD k default)).2
def erR (ts : List Int) (l : List Ev) (k : Nat) : Int := (evR ts (stR ts l k) k (l.getD k default)).1

/-- what is so of the reader's state: those that are open are each one call's, the last of theirs -/
def StOk (cs : List Cl) (op : Nat → Int) : Prop :=
  (∀ k : Nat, k < 8 → openTo cs (k : Int) cs.length = op k - 1) ∧ (∀ c, c ∈ cs → 1 ≤ c.kind ∧ c.kind ≤ 10) ∧
  ∀ i j, (hi : i < cs.length) → (hj : j < cs.length) → cs[i].who = cs[j].who → cs[i].to = -1 → cs[j].to = -1 → i = j
theorem openTo_congr {cs ds : List Cl} {who : Int} : ∀ q, (∀ j, j < q → ((cs.getD j default).who = who ∧ (cs.getD j default).to = -1 ↔ (ds.getD j default).who = who ∧ (ds.getD j default).to = -1)) → openTo cs who q = openTo ds who q
  | 0, _ => rfl
  | q + 1, h => by
    rw [openTo, openTo, openTo_congr q fun j hj => h j (by omega)]
    have := h q (by omega)
    by_cases e : (cs.getD q default).who = who ∧ (cs.getD q default).to = -1
    · rw [if_pos e, if_pos (this.1 e)]
    · rw [if_neg e, if_neg fun e' => e (this.2 e')]
theorem openTo_none {cs : List Cl} {who : Int} : ∀ q, (∀ j, j < q → ¬ ((cs.getD j default).who = who ∧ (cs.getD j default).to = -1)) → openTo cs who q = -1
  | 0, _ => rfl
  | q + 1, h => by rw [openTo, if_neg (h q (by omega)), openTo_none q fun j hj => h j (by omega)]
theorem openTo_at {cs : List Cl} {who : Int} : ∀ q, openTo cs who q ≠ -1 → ∃ m : Nat, openTo cs who q = m ∧ m < q ∧ (cs.getD m default).who = who ∧ (cs.getD m default).to = -1
  | 0, h => absurd rfl h
  | q + 1, h => by
    rw [openTo] at h ⊢
    by_cases e : (cs.getD q default).who = who ∧ (cs.getD q default).to = -1
    · rw [if_pos e]
      exact ⟨q, rfl, by omega, e⟩
    · rw [if_neg e] at h ⊢
      obtain ⟨m, h1, h2, h3⟩ := openTo_at q h
      exact ⟨m, h1, by omega, h3⟩
theorem openTo_some {cs : List Cl} {who : Int} {j : Nat} : ∀ q, j < q → (cs.getD j default).who = who ∧ (cs.getD j default).to = -1 → openTo cs who q ≠ -1
  | 0, h, _ => by omega
  | q + 1, h, hj => by
    rw [openTo]
    by_cases e : (cs.getD q default).who = who ∧ (cs.getD q default).to = -1
    · rw [if_pos e]; omega
    · rw [if_neg e]
      have : j ≠ q := fun e' => e (e' ▸ hj)
      exact openTo_some q (by omega) hj
theorem stOk_push {cs : List Cl} {op : Nat → Int} {k : Nat} {c : Cl} (hs : StOk cs op) (hk : op k = 0) (hk8 : k < 8) (hw : c.who = k) (ht : c.to = -1) (h1 : 1 ≤ c.kind ∧ c.kind ≤ 10) : StOk (cs ++ [c]) (upz op k (cs.length + 1)) := by
  obtain ⟨a1, a2, a3⟩ := hs
  have hl : (cs ++ [c]).getD cs.length default = c := by simp
  have ho : ∀ j, j < cs.length → (cs ++ [c]).getD j default = cs.getD j default := fun j hj => by simp [hj, List.getElem?_append_left hj]
  have hno : ∀ j (hj : j < cs.length), cs[j].who = k → cs[j].to = -1 → False := fun j hj e1 e2 =>
    openTo_some (cs := cs) (who := k) cs.length hj (by simp [hj, e1, e2]) (by rw [a1 k hk8, hk]; rfl)
  refine ⟨fun k' hk' => ?_, fun x hx => ?_, fun i j hi hj e1 e2 e3 => ?_⟩
  · rw [List.length_append, List.length_singleton, openTo, hl, hw, ht]
    by_cases e : k' = k
    · subst e
      rw [if_pos ⟨rfl, rfl⟩]
      simp [upz]
    · rw [if_neg (by intro h; exact e (by have := h.1; omega)), openTo_congr (ds := cs) _ (fun j hj => by rw [ho j hj]), a1 k' hk']
      simp [upz, e]
  · rcases List.mem_append.1 hx with h | h
    · exact a2 x h
    · rw [List.mem_singleton.1 h]; exact h1
  · simp only [List.length_append, List.length_singleton] at hi hj
    rcases Nat.lt_or_ge i cs.length with h | h <;> rcases Nat.lt_or_ge j cs.length with h' | h'
    · simp only [List.getElem_append_left h, List.getElem_append_left h'] at e1 e2 e3
      exact a3 i j h h' e1 e2 e3
    · obtain rfl : j = cs.length := by omega
      simp only [List.getElem_append_left h, List.getElem_concat_length] at e1 e2
      exact absurd (hno i h (by rw [e1, hw]) e2) id
    · obtain rfl : i = cs.length := by omega
      simp only [List.getElem_append_left h', List.getElem_concat_length] at e1 e3
      exact absurd (hno j h' (by rw [← e1, hw]) e3) id
    · omega
theorem stOk_set {cs : List Cl} {op : Nat → Int} {k m : Nat} {v i : Int} (hs : StOk cs op) (hk8 : k < 8) (hm : m < cs.length) (hop : op k = (m : Int) + 1) (hi : 0 ≤ i) : StOk (cs.set m { cs[m] with res := v, to := i }) (upz op k 0) := by
  obtain ⟨a1, a2, a3⟩ := hs
  obtain ⟨m', h1, h2, h3, h4⟩ := openTo_at (cs := cs) (who := k) cs.length (by rw [a1 k hk8, hop]; omega)
  obtain rfl : m' = m := by have := a1 k hk8; rw [h1, hop] at this; omega
  have hd : cs.getD m' default = cs[m'] := by simp [hm]
  rw [hd] at h3 h4
  have ho : ∀ j, j ≠ m' → (cs.set m' { cs[m'] with res := v, to := i }).getD j default = cs.getD j default := fun j hj => by
    simp only [List.getD_eq_getElem?_getD, List.getElem?_set]
    rw [if_neg (fun e => hj e.symm)]
  have hn : (cs.set m' { cs[m'] with res := v, to := i }).getD m' default = { cs[m'] with res := v, to := i } := by simp [hm]
  have hto : ¬ i = -1 := by omega
  refine ⟨fun k' hk' => ?_, fun x hx => ?_, fun p q hp hq e1 e2 e3 => ?_⟩
  · rw [List.length_set]
    by_cases e : k' = k
    · subst e
      rw [openTo_none]
      · simp [upz]
      · intro j hj hh
        by_cases e : j = m'
        · subst e; rw [hn] at hh; exact hto hh.2
        · rw [ho j e] at hh
          have hjd : cs.getD j default = cs[j] := by simp [hj]
          rw [hjd] at hh
          exact e (a3 j m' hj hm (by rw [hh.1, h3]) hh.2 h4)
    · rw [openTo_congr (ds := cs) _ (fun j hj => ?_), a1 k' hk']
      · simp [upz, e]
      · by_cases e' : j = m'
        · subst e'
          rw [hn, hd]
          simp only [h3]
          constructor
          · intro h; exact absurd h.1 (by omega)
          · intro h; exact absurd h.1 (by omega)
        · rw [ho j e']
  · rcases List.mem_or_eq_of_mem_set hx with h | h
    · exact a2 x h
    · subst h; exact a2 cs[m'] (List.getElem_mem _)
  · simp only [List.length_set] at hp hq
    simp only [List.getElem_set] at e1 e2 e3
    by_cases ep : m' = p
    · rw [if_pos ep] at e2; exact absurd e2 hto
    · by_cases eq : m' = q
      · rw [if_pos eq] at e3; exact absurd e3 hto
      · rw [if_neg ep, if_neg eq] at e1
        rw [if_neg ep] at e2
        rw [if_neg eq] at e3
        exact a3 p q hp hq e1 e2 e3

theorem step_same {ts : List Int} {cs : List Cl} {op : Nat → Int} {i : Int} {x : Ev} (hi : 0 ≤ i) (hs : StOk cs op) (ho : OpOk cs op) :
    (evP ts cs op i x).1 = (evR ts cs i x).1 ∧ (evP ts cs op i x).2.1 = (evR ts cs i x).2 ∧ StOk (evP ts cs op i x).2.1 (evP ts cs op i x).2.2 := by
  by_cases hf : formBad ts x = true
  · simp [evP, evR, hf, hs]
  · have hff := hf
    simp only [formBad, Bool.not_eq_true', Bool.not_eq_false', decide_eq_true_eq, decide_eq_false_iff_not, Bool.and_eq_true, Bool.or_eq_true, Bool.or_eq_false_iff, Bool.and_eq_false_iff, not_or, Int.not_lt, Int.not_le] at hff
    obtain ⟨⟨⟨q1, q2⟩, q3⟩, q4⟩ := hff
    obtain ⟨who, thing, kind, value⟩ := x
    obtain ⟨k, rfl⟩ := Int.eq_ofNat_of_zero_le q1
    have hk : k < 8 := by simp at q2; omega
    have hop := hs.1 k hk
    have hok := ho k hk
    by_cases hkind : kind = 0
    · subst hkind
      by_cases h0 : op k = 0
      · have : openTo cs k cs.length < 0 := by omega
        simp [evP, evR, hf, h0, this, hs]
      · obtain ⟨m, hm⟩ : ∃ m : Nat, op k = (m : Int) + 1 := ⟨(op k - 1).toNat, by omega⟩
        have hmc : m < cs.length := by omega
        have hd : cs.getD m default = cs[m] := by simp [hmc]
        have hot : openTo cs k cs.length = m := by omega
        have hkd := hs.2.1 cs[m] (List.getElem_mem _)
        have hra := resB_ansB (n := value) hkd.1 hkd.2
        by_cases hth : cs[m].thing = thing ∧ resB cs[m].kind value = true
        · have e1 : evP ts cs op i ⟨k, thing, 0, value⟩ = (0, cs.set m { cs[m] with res := value, to := i }, upz op k 0) := by
            simp [evP, hf, hm, hmc, hth, show ¬ (m : Int) + 1 = 0 by omega]
          have e2 : evR ts cs i ⟨k, thing, 0, value⟩ = (0, cs.set m { cs[m] with res := value, to := i }) := by
            simp [evR, hf, hot, hmc, ← hra, hth, show ¬ (m : Int) < 0 by omega]
          rw [e1, e2]
          exact ⟨rfl, rfl, stOk_set hs hk hmc hm hi⟩
        · have e1 : evP ts cs op i ⟨k, thing, 0, value⟩ = (3, cs, op) := by
            simp [evP, hf, hm, hmc, hth, show ¬ (m : Int) + 1 = 0 by omega]
          have e2 : evR ts cs i ⟨k, thing, 0, value⟩ = (3, cs) := by
            simp [evR, hf, hot, hmc, ← hra, hth, show ¬ (m : Int) < 0 by omega]
          rw [e1, e2]
          exact ⟨rfl, rfl, hs⟩
    · have hkl := typeF_kinds (ts.getD thing.toNat 0) kind
      by_cases hfa : (fitsB (ts.getD thing.toNat 0) kind && argB kind value) = true
      · have hfk : fitsB (ts.getD thing.toNat 0) kind = true := (Bool.and_eq_true _ _ ▸ hfa).1
        by_cases h0 : 0 < op k
        · have : 0 ≤ openTo cs k cs.length := by omega
          have e1 : evP ts cs op i ⟨k, thing, kind, value⟩ = (5, cs, op) := by
            simp only [evP, if_neg hf, if_pos hkind, hfa, Int.toNat_natCast, if_pos h0]; simp
          have e2 : evR ts cs i ⟨k, thing, kind, value⟩ = (5, cs) := by
            simp only [evR, if_neg hf, if_neg hkind, ← hkl, hfa, if_pos this]; simp
          rw [e1, e2]
          exact ⟨rfl, rfl, hs⟩
        · have : ¬ 0 ≤ openTo cs k cs.length := by omega
          have e1 : evP ts cs op i ⟨k, thing, kind, value⟩ = (0, cs ++ [⟨k, thing, kind, value, 0, i, -1⟩], upz op k (cs.length + 1)) := by
            simp only [evP, if_neg hf, if_pos hkind, hfa, Int.toNat_natCast, if_neg h0]; simp
          have e2 : evR ts cs i ⟨k, thing, kind, value⟩ = (0, cs ++ [⟨k, thing, kind, value, 0, i, -1⟩]) := by
            simp only [evR, if_neg hf, if_neg hkind, ← hkl, hfa, if_neg this]; simp
          rw [e1, e2]
          exact ⟨rfl, rfl, stOk_push hs (by omega) hk rfl rfl (typeF_pos hfk)⟩
      · have hfb : (fitsB (ts.getD thing.toNat 0) kind && argB kind value) = false := by simpa using hfa
        have e1 : evP ts cs op i ⟨k, thing, kind, value⟩ = (3, cs, op) := by
          simp only [evP, if_neg hf, if_pos hkind, hfb]; simp
        have e2 : evR ts cs i ⟨k, thing, kind, value⟩ = (3, cs) := by
          simp only [evR, if_neg hf, if_neg hkind, ← hkl, hfb]; simp
        rw [e1, e2]
        exact ⟨rfl, rfl, hs⟩

theorem run_same (ts : List Int) (l : List Ev) : ∀ k, (stP ts l k).1 = stR ts l k ∧ StOk (stP ts l k).1 (stP ts l k).2
  | 0 => ⟨rfl, fun k _ => by simp [stP, openTo], fun c hc => by simp [stP] at hc, fun i j hi _ _ _ _ => by simp [stP] at hi⟩
  | k + 1 => by
    obtain ⟨h1, h2⟩ := run_same ts l k
    have := step_same (ts := ts) (x := l.getD k default) (show (0 : Int) ≤ k by omega) h2 (stP_ok ts l k)
    rw [h1] at this
    simp only [stP, stR]
    rw [h1]
    exact ⟨this.2.1, this.2.2⟩
theorem er_same (ts : List Int) (l : List Ev) (k : Nat) : erP ts l k = erR ts l k := by
  obtain ⟨h1, h2⟩ := run_same ts l k
  have := step_same (ts := ts) (x := l.getD k default) (show (0 : Int) ≤ k by omega) h2 (stP_ok ts l k)
  rw [h1] at this
  unfold erP erR
  rw [h1]
  exact this.1
def failR (ts : List Int) (l : List Ev) : Nat := ((List.range l.length).find? fun k => decide (erR ts l k ≠ 0)).getD l.length
/-- what the document's reading answers -/
def callsR (ts : List Int) (l : List Ev) : List Cl × Int × Int :=
  if typesE ts ≠ 0 then ([], 0, typesE ts)
  else if 200 < l.length then ([], 0, 2)
  else if failR ts l < l.length then ([], failR ts l, erR ts l (failR ts l))
  else (stR ts l l.length, 0, 0)
theorem calls_same (ts : List Int) (l : List Ev) : callsP ts l = callsR ts l := by
  have hf : failP ts l = failR ts l := by
    unfold failP failR
    simp only [er_same]
  unfold callsP callsR
  rw [hf, er_same, (run_same ts l l.length).1]
theorem failR_at {ts : List Int} {l : List Ev} {k : Nat} (hk : k < l.length) (h : ∀ j, j < k → erR ts l j = 0) (he : erR ts l k ≠ 0) : failR ts l = k := by
  have := failP_at (ts := ts) (l := l) hk (fun j hj => by rw [er_same]; exact h j hj) (by rw [er_same]; exact he)
  unfold failP at this
  unfold failR
  simpa only [er_same] using this
theorem failR_none {ts : List Int} {l : List Ev} (h : ∀ j, j < l.length → erR ts l j = 0) : failR ts l = l.length := by
  have := failP_none (ts := ts) (l := l) (fun j hj => by rw [er_same]; exact h j hj)
  unfold failP at this
  unfold failR
  simpa only [er_same] using this
end Go.Proofs.Ytaonijdhmgcbjaa

namespace Go.Proofs.Ytaonijdhmgcbjaa
open Go.RowKit

theorem between_B (a b c : Int) (w : World) : Calls Try.prog 20 #[.int .i64 a, .int .i64 b, .int .i64 c] w fun e w' => e = .returned (.bool (decide (b ≤ a) && decide (a ≤ c))) ∧ Below w.heap.size w w' :=
  Calls.same_below (between_any a b c w)
theorem Cl.enc_mk (a b c d e f g : Int) : Cl.enc ⟨a, b, c, d, e, f, g⟩ = [.int .i64 a, .int .i64 b, .int .i64 c, .int .i64 d, .int .i64 e, .int .i64 f, .int .i64 g] := rfl
set_option maxRecDepth 100000 in
theorem kinds_T (t : Int) (w : World) : Calls Try.prog 47 #[.int .i64 t] w fun e w' => ∃ A c, e = .returned (.slice A (kindsL t).length c) ∧ Own intEnc 1 3 w' w.heap.size (.slice A (kindsL t).length c) (kindsL t) ∧ Below w.heap.size w w' := by
  refine calls_T (S := []) [] Try.func47 rfl Try.ntmps47 (by simp) (Mem.nil _) ?_
  repeat' (first | ((with_reducible (first | apply TD_e2z | apply TD_e3z | apply TL_e | apply TD_e2 | apply TD_e3)); (first | exact ES.auto | ((with_reducible apply ES_storeOwn); exact rfl; exact rfl; (first | ((repeat (first | with_reducible exact Upd.here _ _ _ | with_reducible apply Upd.there)); done) | (repeat (first | exact Upd.here _ _ _ | apply Upd.there))); exact fun _ => rfl; (first | exact List.getElem?_set_self (by first | assumption | omega) | exact List.getElem?_eq_getElem (by first | assumption | omega | (simp only [List.length_set]; omega))); decide; exact Cl.enc_mk _ _ _ _ _ _ _; exact rfl)); (first | exact rfl | exact ⟨rfl, rfl, rfl⟩); (first | (rintro _ _ ⟨rfl, rfl⟩) | (rintro _ _ ⟨g, rfl, rfl⟩) | (rintro _ _ ⟨A', c', rfl, rfl⟩)); (try refine ⟨SUB, ?_⟩)) | (refine GO ?_) | (refine GOE ?_; (first | (rintro _ _ ⟨rfl, rfl⟩) | (rintro _ _ ⟨g, rfl, rfl⟩) | (rintro _ _ ⟨A', c', rfl, rfl⟩))) | ((refine GO2 ?_ ?_) <;> intro h <;> (try (repeat (first | with_reducible (replace h := of_decide_eq_true h) | with_reducible (replace h := of_decide_eq_false h) | with_reducible (replace h := bnt h) | with_reducible (replace h := bnf h) | with_reducible (replace h := Int.not_lt.mp h) | with_reducible (replace h := Int.not_le.mp h) | with_reducible (replace h := band_dec h) | with_reducible (replace h := band_decF h) | with_reducible (replace h := bor_dec h) | with_reducible (replace h := bor_decF h)))) <;> (try (exfalso; first | contradiction | omega))))
  all_goals (refine At_ret Try.results47 rfl (fun w' hw => ?_))
  all_goals try subst_vars
  all_goals first
    | exact ⟨_, _, rfl, hw.blkOut (enc := intEnc) [1, 2] rfl (by first | ((repeat (first | with_reducible exact List.mem_cons_self | with_reducible apply List.mem_cons_of_mem)); done) | (repeat (first | exact List.Mem.head _ | apply List.Mem.tail))) rfl (fun _ => rfl) (by decide), hw.below0 rfl⟩
    | exact ⟨_, _, rfl, hw.blkOut (enc := intEnc) [3, 4] rfl (by first | ((repeat (first | with_reducible exact List.mem_cons_self | with_reducible apply List.mem_cons_of_mem)); done) | (repeat (first | exact List.Mem.head _ | apply List.Mem.tail))) rfl (fun _ => rfl) (by decide), hw.below0 rfl⟩
    | exact ⟨_, _, rfl, hw.blkOut (enc := intEnc) [5, 6] rfl (by first | ((repeat (first | with_reducible exact List.mem_cons_self | with_reducible apply List.mem_cons_of_mem)); done) | (repeat (first | exact List.Mem.head _ | apply List.Mem.tail))) rfl (fun _ => rfl) (by decide), hw.below0 rfl⟩
    | exact ⟨_, _, rfl, hw.blkOut (enc := intEnc) [7, 8, 9] rfl (by first | ((repeat (first | with_reducible exact List.mem_cons_self | with_reducible apply List.mem_cons_of_mem)); done) | (repeat (first | exact List.Mem.head _ | apply List.Mem.tail))) rfl (fun _ => rfl) (by decide), hw.below0 rfl⟩
    | exact ⟨_, _, rfl, hw.blkOut (enc := intEnc) [10] rfl (by first | ((repeat (first | with_reducible exact List.mem_cons_self | with_reducible apply List.mem_cons_of_mem)); done) | (repeat (first | exact List.Mem.head _ | apply List.Mem.tail))) rfl (fun _ => rfl) (by decide), hw.below0 rfl⟩
    | (have e : kindsL t = [] := by simp [kindsL, *]
       rw [e]; exact ⟨none, 0, rfl, Own.nil _ _, hw.below0 rfl⟩)

theorem kindsL_len (t : Int) : (kindsL t).length ≤ 9223372036854775807 := by
  unfold kindsL
  repeat' split
  all_goals decide
section
variable {ts : List Int} {cs : List Cl} {i z tt : Int} {x : Ev}
theorem evR_none (hf : formBad ts x = false) (hk : x.kind = 0) (hz : openTo cs x.who cs.length = z) (h : z < 0) : evR ts cs i x = (4, cs) := by
  unfold evR; rw [if_neg (by rw [hf]; decide), if_pos hk, hz, if_pos h]
theorem evR_bad0 {c : Cl} (hf : formBad ts x = false) (hk : x.kind = 0) (hz : openTo cs x.who cs.length = z) (h : 0 ≤ z) (hc : cs.getD z.toNat default = c) (hn : ¬ (c.thing = x.thing ∧ ansB c.kind x.value = true)) : evR ts cs i x = (3, cs) := by
  unfold evR; rw [if_neg (by rw [hf]; decide), if_pos hk, hz, if_neg (by omega), hc, if_neg hn]
theorem evR_end {c : Cl} (hf : formBad ts x = false) (hk : x.kind = 0) (hz : openTo cs x.who cs.length = z) (h : 0 ≤ z) (hc : cs.getD z.toNat default = c) (hn : c.thing = x.thing ∧ ansB c.kind x.value = true) : evR ts cs i x = (0, cs.set z.toNat { c with res := x.value, to := i }) := by
  unfold evR; rw [if_neg (by rw [hf]; decide), if_pos hk, hz, if_neg (by omega), hc, if_pos hn]
theorem evR_bad1 (hf : formBad ts x = false) (hk : ¬ x.kind = 0) (ht : ts.getD x.thing.toNat 0 = tt) (h : ((kindsL tt).contains x.kind && argB x.kind x.value) = false) : evR ts cs i x = (3, cs) := by
  unfold evR; rw [if_neg (by rw [hf]; decide), if_neg hk, ht, if_pos h]
theorem evR_twice (hf : formBad ts x = false) (hk : ¬ x.kind = 0) (ht : ts.getD x.thing.toNat 0 = tt) (h1 : (kindsL tt).contains x.kind = true) (h2 : argB x.kind x.value = true) (hz : openTo cs x.who cs.length = z) (h : 0 ≤ z) : evR ts cs i x = (5, cs) := by
  unfold evR; rw [if_neg (by rw [hf]; decide), if_neg hk, ht, if_neg (by simp only [h1, h2]; decide), hz, if_pos h]
theorem evR_push (hf : formBad ts x = false) (hk : ¬ x.kind = 0) (ht : ts.getD x.thing.toNat 0 = tt) (h1 : (kindsL tt).contains x.kind = true) (h2 : argB x.kind x.value = true) (hz : openTo cs x.who cs.length = z) (h : ¬ 0 ≤ z) : evR ts cs i x = (0, cs ++ [⟨x.who, x.thing, x.kind, x.value, 0, i, -1⟩]) := by
  unfold evR; rw [if_neg (by rw [hf]; decide), if_neg hk, ht, if_neg (by simp only [h1, h2]; decide), hz, if_neg h]
theorem thing_at {t : Int} (h : t.toNat < ts.length) (hg : ts.getD t.toNat 0 = ts[t.toNat]) : ts.getD t.toNat 0 = ts[t.toNat] := hg
end
theorem callsR_types {ts : List Int} {l : List Ev} (h : typesOk ts = false) : callsR ts l = ([], 0, 1) := by simp [callsR, typesE, h]
theorem callsR_long {ts : List Int} {l : List Ev} (h : typesOk ts = true) (hl : 200 < l.length) : callsR ts l = ([], 0, 2) := by simp [callsR, typesE, h, hl]
theorem callsR_err {ts : List Int} {l : List Ev} (h : typesOk ts = true) (hl : l.length ≤ 200) {k : Nat} (hk : k < l.length) (hno : ∀ j, j < k → erR ts l j = 0) {z : Int} (he : erR ts l k = z) (hz : z ≠ 0) : callsR ts l = ([], (k : Int), z) := by
  have hf := failR_at hk hno (by rw [he]; exact hz)
  have ht : typesE ts = 0 := by simp [typesE, h]
  simp only [callsR, ht, hf]
  rw [if_neg (by simp), if_neg (by omega), if_pos hk, he]
theorem callsR_ok {ts : List Int} {l : List Ev} (h : typesOk ts = true) (hl : l.length ≤ 200) (hno : ∀ j, j < l.length → erR ts l j = 0) : callsR ts l = (stR ts l l.length, 0, 0) := by
  have hf := failR_none hno
  have ht : typesE ts = 0 := by simp [typesE, h]
  simp only [callsR, ht, hf]
  rw [if_neg (by simp), if_neg (by omega), if_neg (by omega)]
theorem all_succ {p : Nat → Prop} {k : Nat} (h : ∀ j, j < k → p j) (hk : p k) : ∀ j, j < k + 1 → p j := fun j hj => by
  by_cases e : j = k
  · rw [e]; exact hk
  · exact h j (by omega)
theorem typesOk_no {ts : List Int} {k : Nat} (hk : k < ts.length) (h : ts[k] < 1 ∨ 5 < ts[k]) : typesOk ts = false := by
  have : ts.any badT = true := List.any_eq_true.2 ⟨ts[k], List.getElem_mem hk, by simp [badT, h]⟩
  simp [typesOk, this]
set_option maxRecDepth 100000 in
set_option maxHeartbeats 2000000 in
theorem callsOf_any (T A : Option Addr) (ct c : Nat) (ts : List Int) (l : List Ev) (w : World) (hts : ts.length ≤ 9223372036854775807) (hl : l.length ≤ 9223372036854775807) (hT : RdInt w T ts) (hA : RdEv w A l) :
    Calls Try.prog 19 #[.slice T ts.length ct, .slice A l.length c] w fun e w' => ∃ A' c', e = .returned (.tuple #[.slice A' (callsR ts l).1.length c', .int .i64 (callsR ts l).2.1, .int .i64 (callsR ts l).2.2]) ∧
      Own Cl.enc 7 107 w' w.heap.size (.slice A' (callsR ts l).1.length c') (callsR ts l).1 ∧ Below w.heap.size w w' := by
  refine calls_T (S := []) [] Try.func19 rfl Try.ntmps19 (by simp) (Mem.nil _) ?_
  repeat' (first | ((with_reducible (first | apply TD_e2z | apply TD_e3z | apply TL_e | apply TD_e2 | apply TD_e3)); (first | exact ES.auto | ((with_reducible apply ES_storeOwn); exact rfl; exact rfl; (first | ((repeat (first | with_reducible exact Upd.here _ _ _ | with_reducible apply Upd.there)); done) | (repeat (first | exact Upd.here _ _ _ | apply Upd.there))); exact fun _ => rfl; (first | exact List.getElem?_set_self (by first | assumption | omega) | exact List.getElem?_eq_getElem (by first | assumption | omega | (simp only [List.length_set]; omega))); decide; exact Cl.enc_mk _ _ _ _ _ _ _; exact rfl)); (first | exact rfl | exact ⟨rfl, rfl, rfl⟩); (first | (rintro _ _ ⟨rfl, rfl⟩) | (rintro _ _ ⟨g, rfl, rfl⟩) | (rintro _ _ ⟨A', c', rfl, rfl⟩)); (try refine ⟨SUB, ?_⟩)) | (refine GO ?_) | (refine GOE ?_; (first | (rintro _ _ ⟨rfl, rfl⟩) | (rintro _ _ ⟨g, rfl, rfl⟩) | (rintro _ _ ⟨A', c', rfl, rfl⟩))) | ((refine GO2 ?_ ?_) <;> intro h <;> (try (repeat (first | with_reducible (replace h := of_decide_eq_true h) | with_reducible (replace h := of_decide_eq_false h) | with_reducible (replace h := bnt h) | with_reducible (replace h := bnf h) | with_reducible (replace h := Int.not_lt.mp h) | with_reducible (replace h := Int.not_le.mp h) | with_reducible (replace h := band_dec h) | with_reducible (replace h := band_decF h) | with_reducible (replace h := bor_dec h) | with_reducible (replace h := bor_decF h)))) <;> (try (exfalso; first | contradiction | omega))))
  refine T_loop (X := Nat) (fun k => [(17, .int .i64 (k : Nat)), (16, .int .i64 ts.length), (15, .slice T ts.length ct), (0, .slice T ts.length ct), (1, .slice A l.length c)])
    (fun _ => []) (fun k => k ≤ ts.length ∧ (ts.take k).any badT = false) (fun k => ts.length - k) 0 ⟨by omega, by simp⟩ (by (repeat (first | exact SubE.nil _ | refine SubE.cons rfl ?_))) (by exact SUBS) ?_
  rintro k ⟨hk, hno⟩
  by_cases hlt : k < ts.length
  · obtain ⟨b, o, rfl, hb0⟩ := RdE.open hT (by omega)
    repeat' (first | ((with_reducible (first | apply TD_e2z | apply TD_e3z | apply TL_e | apply TD_e2 | apply TD_e3)); (first | exact ES.auto | ((with_reducible apply ES_storeOwn); exact rfl; exact rfl; (first | ((repeat (first | with_reducible exact Upd.here _ _ _ | with_reducible apply Upd.there)); done) | (repeat (first | exact Upd.here _ _ _ | apply Upd.there))); exact fun _ => rfl; (first | exact List.getElem?_set_self (by first | assumption | omega) | exact List.getElem?_eq_getElem (by first | assumption | omega | (simp only [List.length_set]; omega))); decide; exact Cl.enc_mk _ _ _ _ _ _ _; exact rfl)); (first | exact rfl | exact ⟨rfl, rfl, rfl⟩); (first | (rintro _ _ ⟨rfl, rfl⟩) | (rintro _ _ ⟨g, rfl, rfl⟩) | (rintro _ _ ⟨A', c', rfl, rfl⟩)); (try refine ⟨SUB, ?_⟩)) | (refine GO ?_) | (refine GOE ?_; (first | (rintro _ _ ⟨rfl, rfl⟩) | (rintro _ _ ⟨g, rfl, rfl⟩) | (rintro _ _ ⟨A', c', rfl, rfl⟩))) | ((refine GO2 ?_ ?_) <;> intro h <;> (try (repeat (first | with_reducible (replace h := of_decide_eq_true h) | with_reducible (replace h := of_decide_eq_false h) | with_reducible (replace h := bnt h) | with_reducible (replace h := bnf h) | with_reducible (replace h := Int.not_lt.mp h) | with_reducible (replace h := Int.not_le.mp h) | with_reducible (replace h := band_dec h) | with_reducible (replace h := band_decF h) | with_reducible (replace h := bor_dec h) | with_reducible (replace h := bor_decF h)))) <;> (try (exfalso; first | contradiction | omega))) | ((with_reducible (first | apply TD_e2z | apply TD_e3z | apply TL_e | apply TD_e2 | apply TD_e3)); ((with_reducible apply ES_callV (f := 20)); exact rfl; (intro w hw; exact between_B _ _ _ _); exact rfl); (first | exact rfl | exact ⟨rfl, rfl, rfl⟩); (rintro _ _ ⟨rfl, rfl⟩); (try refine ⟨SUB, ?_⟩)))
    · (refine At_ret Try.results19 rfl (fun w' hw => ?_))
      rw [callsR_types (typesOk_no hlt (by omega))]
      exact ⟨none, 0, rfl, Own.nil _ _, hw.below0 rfl⟩
    · (refine At_rounds (k + 1) ?_ ?_ ?_ ?_; (exact ⟨by omega, any_take_succ' hlt hno (by simp [badT]; omega)⟩); (omega); ((repeat (first | exact SubE.nil _ | refine SubE.cons rfl ?_))); (exact SUBS))
  · obtain rfl : k = ts.length := by omega
    repeat' (first | ((with_reducible (first | apply TD_e2z | apply TD_e3z | apply TL_e | apply TD_e2 | apply TD_e3)); (first | exact ES.auto | ((with_reducible apply ES_storeOwn); exact rfl; exact rfl; (first | ((repeat (first | with_reducible exact Upd.here _ _ _ | with_reducible apply Upd.there)); done) | (repeat (first | exact Upd.here _ _ _ | apply Upd.there))); exact fun _ => rfl; (first | exact List.getElem?_set_self (by first | assumption | omega) | exact List.getElem?_eq_getElem (by first | assumption | omega | (simp only [List.length_set]; omega))); decide; exact Cl.enc_mk _ _ _ _ _ _ _; exact rfl)); (first | exact rfl | exact ⟨rfl, rfl, rfl⟩); (first | (rintro _ _ ⟨rfl, rfl⟩) | (rintro _ _ ⟨g, rfl, rfl⟩) | (rintro _ _ ⟨A', c', rfl, rfl⟩)); (try refine ⟨SUB, ?_⟩)) | (refine GO ?_) | (refine GOE ?_; (first | (rintro _ _ ⟨rfl, rfl⟩) | (rintro _ _ ⟨g, rfl, rfl⟩) | (rintro _ _ ⟨A', c', rfl, rfl⟩))) | ((refine GO2 ?_ ?_) <;> intro h <;> (try (repeat (first | with_reducible (replace h := of_decide_eq_true h) | with_reducible (replace h := of_decide_eq_false h) | with_reducible (replace h := bnt h) | with_reducible (replace h := bnf h) | with_reducible (replace h := Int.not_lt.mp h) | with_reducible (replace h := Int.not_le.mp h) | with_reducible (replace h := band_dec h) | with_reducible (replace h := band_decF h) | with_reducible (replace h := bor_dec h) | with_reducible (replace h := bor_decF h)))) <;> (try (exfalso; first | contradiction | omega))) | ((with_reducible (first | apply TD_e2z | apply TD_e3z | apply TL_e | apply TD_e2 | apply TD_e3)); ((with_reducible apply ES_callV (f := 20)); exact rfl; (intro w hw; exact between_B _ _ _ _); exact rfl); (first | exact rfl | exact ⟨rfl, rfl, rfl⟩); (rintro _ _ ⟨rfl, rfl⟩); (try refine ⟨SUB, ?_⟩)))
    · (refine At_ret Try.results19 rfl (fun w' hw => ?_))
      rw [callsR_types (by simp [typesOk]; omega)]
      exact ⟨none, 0, rfl, Own.nil _ _, hw.below0 rfl⟩
    · (refine At_ret Try.results19 rfl (fun w' hw => ?_))
      rw [callsR_long (by rw [List.take_length] at hno; simp [typesOk, hno]; omega) (by omega)]
      exact ⟨none, 0, rfl, Own.nil _ _, hw.below0 rfl⟩
    have hok : typesOk ts = true := by rw [List.take_length] at hno; simp [typesOk, hno]; omega
    have hl2 : l.length ≤ 200 := by omega
    refine T_loop (X := Nat × Option Addr × Nat)
      (fun x => [(34, .int .i64 (x.1 : Nat)), (33, .int .i64 l.length), (32, .slice A l.length c), (9, .slice x.2.1 (stR ts l x.1).length x.2.2), (0, .slice T ts.length ct)])
      (fun x => [entOwn Cl.enc 7 107 x.2.1 x.2.2 (stR ts l x.1)]) (fun x => x.1 ≤ l.length ∧ ∀ j, j < x.1 → erR ts l j = 0) (fun x => l.length - x.1) (0, none, 0)
      ⟨by simp, by simp⟩ (by (repeat (first | exact SubE.nil _ | refine SubE.cons rfl ?_))) (fun w hw => (hw.nilOwn Cl.enc 7 107).sub (by first | ((repeat (first | with_reducible exact List.nil_sublist _ | with_reducible exact List.Sublist.refl _ | with_reducible apply List.Sublist.cons_cons | with_reducible apply List.Sublist.cons)); done) | (repeat (first | exact List.nil_sublist _ | exact List.Sublist.refl _ | apply List.Sublist.cons_cons | apply List.Sublist.cons)))) ?_
    rintro ⟨k, A1, c1⟩ ⟨hk, hno2⟩
    dsimp only at hk hno2 ⊢
    have hlen2 : (stR ts l k).length ≤ k := by rw [← (run_same ts l k).1]; exact stP_len ts l k
    by_cases hlt : k < l.length
    · obtain ⟨b, o, rfl, hb0⟩ := RdE.open hA (by omega)
      have hg : l.getD k default = l[k] := by simp [hlt]
      have hst : erR ts l k = (evR ts (stR ts l k) k l[k]).1 ∧ stR ts l (k + 1) = (evR ts (stR ts l k) k l[k]).2 := by rw [← hg]; exact ⟨rfl, rfl⟩
      generalize stR ts l k = cs at hst hlen2 ⊢
      repeat' (first | ((with_reducible (first | apply TD_e2z | apply TD_e3z | apply TL_e | apply TD_e2 | apply TD_e3)); (first | exact ES.auto | ((with_reducible apply ES_storeOwn); exact rfl; exact rfl; (first | ((repeat (first | with_reducible exact Upd.here _ _ _ | with_reducible apply Upd.there)); done) | (repeat (first | exact Upd.here _ _ _ | apply Upd.there))); exact fun _ => rfl; (first | exact List.getElem?_set_self (by first | assumption | omega) | exact List.getElem?_eq_getElem (by first | assumption | omega | (simp only [List.length_set]; omega))); decide; exact Cl.enc_mk _ _ _ _ _ _ _; exact rfl)); (first | exact rfl | exact ⟨rfl, rfl, rfl⟩); (first | (rintro _ _ ⟨rfl, rfl⟩) | (rintro _ _ ⟨g, rfl, rfl⟩) | (rintro _ _ ⟨A', c', rfl, rfl⟩)); (try refine ⟨SUB, ?_⟩)) | (refine GO ?_) | (refine GOE ?_; (first | (rintro _ _ ⟨rfl, rfl⟩) | (rintro _ _ ⟨g, rfl, rfl⟩) | (rintro _ _ ⟨A', c', rfl, rfl⟩))) | ((refine GO2 ?_ ?_) <;> intro h <;> (try (repeat (first | with_reducible (replace h := of_decide_eq_true h) | with_reducible (replace h := of_decide_eq_false h) | with_reducible (replace h := bnt h) | with_reducible (replace h := bnf h) | with_reducible (replace h := Int.not_lt.mp h) | with_reducible (replace h := Int.not_le.mp h) | with_reducible (replace h := band_dec h) | with_reducible (replace h := band_decF h) | with_reducible (replace h := bor_dec h) | with_reducible (replace h := bor_decF h)))) <;> (try (exfalso; first | contradiction | omega))) | ((with_reducible (first | apply TD_e2z | apply TD_e3z | apply TL_e | apply TD_e2 | apply TD_e3)); ((with_reducible apply ES_callV (f := 20)); exact rfl; (intro w hw; exact between_B _ _ _ _); exact rfl); (first | exact rfl | exact ⟨rfl, rfl, rfl⟩); (rintro _ _ ⟨rfl, rfl⟩); (try refine ⟨SUB, ?_⟩)))
      · (refine At_ret Try.results19 rfl (fun w' hw => ?_))
        have he : (evR ts cs k l[k]).1 = 3 := by unfold evR; rw [if_pos (by simp only [formBad, Bool.or_eq_true, decide_eq_true_eq]; omega)]
        rw [callsR_err hok hl2 hlt hno2 (hst.1.trans he) (by decide)]
        exact ⟨none, 0, rfl, Own.nil _ _, hw.below0 rfl⟩
      · (refine At_ret Try.results19 rfl (fun w' hw => ?_))
        have he : (evR ts cs k l[k]).1 = 3 := by unfold evR; rw [if_pos (by simp only [formBad, Bool.or_eq_true, decide_eq_true_eq]; omega)]
        rw [callsR_err hok hl2 hlt hno2 (hst.1.trans he) (by decide)]
        exact ⟨none, 0, rfl, Own.nil _ _, hw.below0 rfl⟩
      have hff : formBad ts l[k] = false := by simp only [formBad, Bool.or_eq_false_iff, decide_eq_false_iff_not]; omega
      refine T_loop (X := Nat)
        (fun j => [(55, .int .i64 (j : Nat)), (54, .int .i64 cs.length), (53, .slice A1 cs.length c1), (12, .int .i64 (openTo cs l[k].who j)), (11, .pointer (some ⟨g, 0, none⟩)), (10, .int .i64 (k : Nat)), (34, .int .i64 (k : Nat)), (33, .int .i64 l.length), (32, .slice (some ⟨b, o, none⟩) l.length c), (9, .slice A1 cs.length c1), (0, .slice T ts.length ct)])
        (fun _ => [entBlk g 34 (Ev.enc l[k]).toArray, entOwn Cl.enc 7 107 A1 c1 cs]) (fun j => j ≤ cs.length) (fun j => cs.length - j) 0
        (by omega) (by (repeat (first | exact SubE.nil _ | refine SubE.cons rfl ?_))) (by exact SUBS) ?_
      intro j hj
      by_cases hjl : j < cs.length
      · have hgj : cs.getD j default = cs[j] := by simp [hjl]
        refine T_own (by first | ((repeat (first | with_reducible exact List.mem_cons_self | with_reducible apply List.mem_cons_of_mem)); done) | (repeat (first | exact List.Mem.head _ | apply List.Mem.tail))) (by omega) ?_
        rintro g2 rfl
        repeat' (first | ((with_reducible (first | apply TD_e2z | apply TD_e3z | apply TL_e | apply TD_e2 | apply TD_e3)); (first | exact ES.auto | ((with_reducible apply ES_storeOwn); exact rfl; exact rfl; (first | ((repeat (first | with_reducible exact Upd.here _ _ _ | with_reducible apply Upd.there)); done) | (repeat (first | exact Upd.here _ _ _ | apply Upd.there))); exact fun _ => rfl; (first | exact List.getElem?_set_self (by first | assumption | omega) | exact List.getElem?_eq_getElem (by first | assumption | omega | (simp only [List.length_set]; omega))); decide; exact Cl.enc_mk _ _ _ _ _ _ _; exact rfl)); (first | exact rfl | exact ⟨rfl, rfl, rfl⟩); (first | (rintro _ _ ⟨rfl, rfl⟩) | (rintro _ _ ⟨g, rfl, rfl⟩) | (rintro _ _ ⟨A', c', rfl, rfl⟩)); (try refine ⟨SUB, ?_⟩)) | (refine GO ?_) | (refine GOE ?_; (first | (rintro _ _ ⟨rfl, rfl⟩) | (rintro _ _ ⟨g, rfl, rfl⟩) | (rintro _ _ ⟨A', c', rfl, rfl⟩))) | ((refine GO2 ?_ ?_) <;> intro h <;> (try (repeat (first | with_reducible (replace h := of_decide_eq_true h) | with_reducible (replace h := of_decide_eq_false h) | with_reducible (replace h := bnt h) | with_reducible (replace h := bnf h) | with_reducible (replace h := Int.not_lt.mp h) | with_reducible (replace h := Int.not_le.mp h) | with_reducible (replace h := band_dec h) | with_reducible (replace h := band_decF h) | with_reducible (replace h := bor_dec h) | with_reducible (replace h := bor_decF h)))) <;> (try (exfalso; first | contradiction | omega))))
        all_goals
          refine At_rounds (j + 1) (by show j + 1 ≤ cs.length; omega) (by omega) ?_ (by exact SUBS)
          have ho : openTo cs l[k].who (j + 1) = if cs[j].who = l[k].who ∧ cs[j].to = -1 then (j : Int) else openTo cs l[k].who j := by rw [openTo, hgj]
          rw [ho]
          first | rw [if_pos ⟨‹_›, ‹_›⟩] | rw [if_neg (by intro h; simp_all)]
          (repeat (first | exact SubE.nil _ | refine SubE.cons rfl ?_))
      · obtain rfl : j = cs.length := by omega
        have hzl := openTo_lt cs l[k].who cs.length
        generalize hz : openTo cs l[k].who cs.length = z at hzl ⊢
        obtain ⟨bt, ot, rfl, hbt⟩ := RdE.open hT (by omega)
        have hzt : l[k].thing.toNat < ts.length := by omega
        have hgt : ts.getD l[k].thing.toNat 0 = ts[l[k].thing.toNat] := by simp [hzt]
        by_cases hz0 : 0 ≤ z
        · refine T_own (by first | ((repeat (first | with_reducible exact List.mem_cons_self | with_reducible apply List.mem_cons_of_mem)); done) | (repeat (first | exact List.Mem.head _ | apply List.Mem.tail))) (by omega) ?_
          rintro g2 rfl
          have hzn : z.toNat < cs.length := by omega
          have hgz : cs.getD z.toNat default = cs[z.toNat] := by simp [hzn]
          repeat' (first | ((with_reducible (first | apply TD_e2z | apply TD_e3z | apply TL_e | apply TD_e2 | apply TD_e3)); (first | exact ES.auto | ((with_reducible apply ES_storeOwn); exact rfl; exact rfl; (first | ((repeat (first | with_reducible exact Upd.here _ _ _ | with_reducible apply Upd.there)); done) | (repeat (first | exact Upd.here _ _ _ | apply Upd.there))); exact fun _ => rfl; (first | exact List.getElem?_set_self (by first | assumption | omega) | exact List.getElem?_eq_getElem (by first | assumption | omega | (simp only [List.length_set]; omega))); decide; exact Cl.enc_mk _ _ _ _ _ _ _; exact rfl)); (first | exact rfl | exact ⟨rfl, rfl, rfl⟩); (first | (rintro _ _ ⟨rfl, rfl⟩) | (rintro _ _ ⟨g, rfl, rfl⟩) | (rintro _ _ ⟨A', c', rfl, rfl⟩)); (try refine ⟨SUB, ?_⟩)) | (refine GG ?_) | (refine GE ?_; (first | (rintro _ _ ⟨rfl, rfl⟩) | (rintro _ _ ⟨g, rfl, rfl⟩) | (rintro _ _ ⟨A', c', rfl, rfl⟩)); (try refine ⟨SUB, ?_⟩)) | ((refine GO2 ?_ ?_) <;> intro h <;> (try (repeat (first | with_reducible (replace h := of_decide_eq_true h) | with_reducible (replace h := of_decide_eq_false h) | with_reducible (replace h := bnt h) | with_reducible (replace h := bnf h) | with_reducible (replace h := Int.not_lt.mp h) | with_reducible (replace h := Int.not_le.mp h) | with_reducible (replace h := band_dec h) | with_reducible (replace h := band_decF h) | with_reducible (replace h := bor_dec h) | with_reducible (replace h := bor_decF h)))) <;> (try (exfalso; first | contradiction | omega))) | (refine GOF ?_ ?_) | ((with_reducible apply T_draw (id := 27) 1000 (OT.seq [(0, 0), (0, 1), (0, 2), (0, 3), (0, 5), (1, 4), (1, 6), (0, 7), (0, 8), (0, 9), (0, 10), (0, 11), (0, 12), (0, 14), (1, 13), (1, 15), (2, 16), (0, 17), (0, 18)] .nil)); kernel_rfl; exact rfl; kernel_rfl; (repeat (first | with_reducible exact Blind.body | with_reducible apply Blind.seq | with_reducible apply Blind.block))) | ((with_reducible apply T_draw (id := 30) 1000 (OT.seq [(0, 0), (0, 1), (0, 6), (1, 2), (0, 3), (1, 4), (1, 7), (2, 5), (2, 8), (0, 9), (0, 10), (0, 11), (0, 13), (1, 12), (1, 14), (2, 15), (0, 16), (0, 17)] .nil)); kernel_rfl; exact rfl; kernel_rfl; (repeat (first | with_reducible exact Blind.body | with_reducible apply Blind.seq | with_reducible apply Blind.block))) | ((with_reducible (first | apply TD_e2z | apply TD_e3z | apply TL_e | apply TD_e2 | apply TD_e3)); ((with_reducible apply ES_callV (f := 45)); exact rfl; (intro w hw; exact Calls.same_below (answers_any _ _ _)); exact rfl); (first | exact rfl | exact ⟨rfl, rfl, rfl⟩); (rintro _ _ ⟨rfl, rfl⟩); (try refine ⟨SUB, ?_⟩)) | ((with_reducible (first | apply TD_e2z | apply TD_e3z | apply TL_e | apply TD_e2 | apply TD_e3)); ((with_reducible apply ES_callOwn (f := 47)); exact rfl; (intro w hw; exact kinds_T _ _); exact rfl); (first | exact rfl | exact ⟨rfl, rfl, rfl⟩); (rintro _ _ ⟨A, c, rfl, rfl⟩); (try refine ⟨SUB, ?_⟩)) | ((with_reducible (first | apply TD_e2z | apply TD_e3z | apply TL_e | apply TD_e2 | apply TD_e3)); ((with_reducible apply ES_callV (f := 46)); exact rfl; (intro w hw; exact contains_any _ _ (kindsL _) _ _ (kindsL_len _) (Mem.ownRd hw (by first | ((repeat (first | with_reducible exact List.mem_cons_self | with_reducible apply List.mem_cons_of_mem)); done) | (repeat (first | exact List.Mem.head _ | apply List.Mem.tail))) (fun _ => rfl))); exact rfl); (first | exact rfl | exact ⟨rfl, rfl, rfl⟩); (rintro _ _ ⟨rfl, rfl⟩); (try refine ⟨SUB, ?_⟩)) | ((with_reducible (first | apply TD_e2z | apply TD_e3z | apply TL_e | apply TD_e2 | apply TD_e3)); ((with_reducible apply ES_callV (f := 48)); exact rfl; (intro w hw; exact asks_any _ _ _); exact rfl); (first | exact rfl | exact ⟨rfl, rfl, rfl⟩); (rintro _ _ ⟨rfl, rfl⟩); (try refine ⟨SUB, ?_⟩)) | ((with_reducible (first | apply TD_e2z | apply TD_e3z | apply TL_e | apply TD_e2 | apply TD_e3)); ((with_reducible apply ES_append (enc := Cl.enc) (xs := [(⟨l[k].who, l[k].thing, l[k].kind, l[k].value, 0, k, -1⟩ : Cl)])); exact rfl; exact rfl; exact Lies.blk (by first | ((repeat (first | with_reducible exact List.mem_cons_self | with_reducible apply List.mem_cons_of_mem)); done) | (repeat (first | exact List.Mem.head _ | apply List.Mem.tail))); exact fun _ => rfl; exact fun _ => rfl; (intro A' c'; first | ((repeat (first | with_reducible exact Upd.here _ _ _ | with_reducible apply Upd.there)); done) | (repeat (first | exact Upd.here _ _ _ | apply Upd.there))); (simp; omega); decide; exact rfl); (first | exact rfl | exact ⟨rfl, rfl, rfl⟩); (rintro _ _ ⟨A', c', rfl, rfl⟩); (try refine ⟨SUB, ?_⟩)))
          · (refine At_ret Try.results19 rfl (fun w' hw => ?_))
            rw [callsR_err hok hl2 hlt hno2 (hst.1.trans (congrArg Prod.fst (evR_bad0 hff ‹_› hz hz0 hgz (fun hh => absurd hh.1 ‹_›)))) (by simp)]
            exact ⟨none, 0, rfl, Own.nil _ _, hw.below0 rfl⟩
          · (refine At_ret Try.results19 rfl (fun w' hw => ?_))
            rw [callsR_err hok hl2 hlt hno2 (hst.1.trans (congrArg Prod.fst (evR_bad0 hff ‹_› hz hz0 hgz (fun hh => absurd hh.2 (by rw [‹ansB _ _ = false›]; simp))))) (by simp)]
            exact ⟨none, 0, rfl, Own.nil _ _, hw.below0 rfl⟩
          · have hev := evR_end hff ‹_› hz hz0 hgz ⟨‹_›, ‹_›⟩ (i := k)
            rw [hev] at hst
            refine At_rounds (k + 1, some ⟨g2, 0, none⟩, c1) ⟨by show k + 1 ≤ _; omega, all_succ hno2 hst.1⟩ (by show l.length - (k + 1) < l.length - k; omega) ?_ ?_
            · simp only [hst.2, List.length_set]; (repeat (first | exact SubE.nil _ | refine SubE.cons rfl ?_))
            · simp only [hst.2]
              intro w hw
              have := hw.sub (S' := [entOwn Cl.enc 7 107 (some ⟨g2, 0, none⟩) c1 _]) (by first | ((repeat (first | with_reducible exact List.nil_sublist _ | with_reducible exact List.Sublist.refl _ | with_reducible apply List.Sublist.cons_cons | with_reducible apply List.Sublist.cons)); done) | (repeat (first | exact List.nil_sublist _ | exact List.Sublist.refl _ | apply List.Sublist.cons_cons | apply List.Sublist.cons)))
              rw [List.set_set] at this
              exact this
          · (refine At_ret Try.results19 rfl (fun w' hw => ?_))
            rw [callsR_err hok hl2 hlt hno2 (hst.1.trans (congrArg Prod.fst (evR_bad1 hff ‹_› (thing_at hzt hgt) (by rw [‹List.contains _ _ = false›]; rfl)))) (by simp)]
            exact ⟨none, 0, rfl, Own.nil _ _, hw.below0 rfl⟩
          · (refine At_ret Try.results19 rfl (fun w' hw => ?_))
            rw [callsR_err hok hl2 hlt hno2 (hst.1.trans (congrArg Prod.fst (evR_bad1 hff ‹_› (thing_at hzt hgt) (by rw [‹argB _ _ = false›]; simp)))) (by simp)]
            exact ⟨none, 0, rfl, Own.nil _ _, hw.below0 rfl⟩
          · (refine At_ret Try.results19 rfl (fun w' hw => ?_))
            rw [callsR_err hok hl2 hlt hno2 (hst.1.trans (congrArg Prod.fst (evR_twice hff ‹_› (thing_at hzt hgt) ‹_› ‹_› hz hz0))) (by simp)]
            exact ⟨none, 0, rfl, Own.nil _ _, hw.below0 rfl⟩
        · repeat' (first | ((with_reducible (first | apply TD_e2z | apply TD_e3z | apply TL_e | apply TD_e2 | apply TD_e3)); (first | exact ES.auto | ((with_reducible apply ES_storeOwn); exact rfl; exact rfl; (first | ((repeat (first | with_reducible exact Upd.here _ _ _ | with_reducible apply Upd.there)); done) | (repeat (first | exact Upd.here _ _ _ | apply Upd.there))); exact fun _ => rfl; (first | exact List.getElem?_set_self (by first | assumption | omega) | exact List.getElem?_eq_getElem (by first | assumption | omega | (simp only [List.length_set]; omega))); decide; exact Cl.enc_mk _ _ _ _ _ _ _; exact rfl)); (first | exact rfl | exact ⟨rfl, rfl, rfl⟩); (first | (rintro _ _ ⟨rfl, rfl⟩) | (rintro _ _ ⟨g, rfl, rfl⟩) | (rintro _ _ ⟨A', c', rfl, rfl⟩)); (try refine ⟨SUB, ?_⟩)) | (refine GG ?_) | (refine GE ?_; (first | (rintro _ _ ⟨rfl, rfl⟩) | (rintro _ _ ⟨g, rfl, rfl⟩) | (rintro _ _ ⟨A', c', rfl, rfl⟩)); (try refine ⟨SUB, ?_⟩)) | ((refine GO2 ?_ ?_) <;> intro h <;> (try (repeat (first | with_reducible (replace h := of_decide_eq_true h) | with_reducible (replace h := of_decide_eq_false h) | with_reducible (replace h := bnt h) | with_reducible (replace h := bnf h) | with_reducible (replace h := Int.not_lt.mp h) | with_reducible (replace h := Int.not_le.mp h) | with_reducible (replace h := band_dec h) | with_reducible (replace h := band_decF h) | with_reducible (replace h := bor_dec h) | with_reducible (replace h := bor_decF h)))) <;> (try (exfalso; first | contradiction | omega))) | (refine GOF ?_ ?_) | ((with_reducible apply T_draw (id := 27) 1000 (OT.seq [(0, 0), (0, 1), (0, 2), (0, 3), (0, 5), (1, 4), (1, 6), (0, 7), (0, 8), (0, 9), (0, 10), (0, 11), (0, 12), (0, 14), (1, 13), (1, 15), (2, 16), (0, 17), (0, 18)] .nil)); kernel_rfl; exact rfl; kernel_rfl; (repeat (first | with_reducible exact Blind.body | with_reducible apply Blind.seq | with_reducible apply Blind.block))) | ((with_reducible apply T_draw (id := 30) 1000 (OT.seq [(0, 0), (0, 1), (0, 6), (1, 2), (0, 3), (1, 4), (1, 7), (2, 5), (2, 8), (0, 9), (0, 10), (0, 11), (0, 13), (1, 12), (1, 14), (2, 15), (0, 16), (0, 17)] .nil)); kernel_rfl; exact rfl; kernel_rfl; (repeat (first | with_reducible exact Blind.body | with_reducible apply Blind.seq | with_reducible apply Blind.block))) | ((with_reducible (first | apply TD_e2z | apply TD_e3z | apply TL_e | apply TD_e2 | apply TD_e3)); ((with_reducible apply ES_callV (f := 45)); exact rfl; (intro w hw; exact Calls.same_below (answers_any _ _ _)); exact rfl); (first | exact rfl | exact ⟨rfl, rfl, rfl⟩); (rintro _ _ ⟨rfl, rfl⟩); (try refine ⟨SUB, ?_⟩)) | ((with_reducible (first | apply TD_e2z | apply TD_e3z | apply TL_e | apply TD_e2 | apply TD_e3)); ((with_reducible apply ES_callOwn (f := 47)); exact rfl; (intro w hw; exact kinds_T _ _); exact rfl); (first | exact rfl | exact ⟨rfl, rfl, rfl⟩); (rintro _ _ ⟨A, c, rfl, rfl⟩); (try refine ⟨SUB, ?_⟩)) | ((with_reducible (first | apply TD_e2z | apply TD_e3z | apply TL_e | apply TD_e2 | apply TD_e3)); ((with_reducible apply ES_callV (f := 46)); exact rfl; (intro w hw; exact contains_any _ _ (kindsL _) _ _ (kindsL_len _) (Mem.ownRd hw (by first | ((repeat (first | with_reducible exact List.mem_cons_self | with_reducible apply List.mem_cons_of_mem)); done) | (repeat (first | exact List.Mem.head _ | apply List.Mem.tail))) (fun _ => rfl))); exact rfl); (first | exact rfl | exact ⟨rfl, rfl, rfl⟩); (rintro _ _ ⟨rfl, rfl⟩); (try refine ⟨SUB, ?_⟩)) | ((with_reducible (first | apply TD_e2z | apply TD_e3z | apply TL_e | apply TD_e2 | apply TD_e3)); ((with_reducible apply ES_callV (f := 48)); exact rfl; (intro w hw; exact asks_any _ _ _); exact rfl); (first | exact rfl | exact ⟨rfl, rfl, rfl⟩); (rintro _ _ ⟨rfl, rfl⟩); (try refine ⟨SUB, ?_⟩)) | ((with_reducible (first | apply TD_e2z | apply TD_e3z | apply TL_e | apply TD_e2 | apply TD_e3)); ((with_reducible apply ES_append (enc := Cl.enc) (xs := [(⟨l[k].who, l[k].thing, l[k].kind, l[k].value, 0, k, -1⟩ : Cl)])); exact rfl; exact rfl; exact Lies.blk (by first | ((repeat (first | with_reducible exact List.mem_cons_self | with_reducible apply List.mem_cons_of_mem)); done) | (repeat (first | exact List.Mem.head _ | apply List.Mem.tail))); exact fun _ => rfl; exact fun _ => rfl; (intro A' c'; first | ((repeat (first | with_reducible exact Upd.here _ _ _ | with_reducible apply Upd.there)); done) | (repeat (first | exact Upd.here _ _ _ | apply Upd.there))); (simp; omega); decide; exact rfl); (first | exact rfl | exact ⟨rfl, rfl, rfl⟩); (rintro _ _ ⟨A', c', rfl, rfl⟩); (try refine ⟨SUB, ?_⟩)))
          · (refine At_ret Try.results19 rfl (fun w' hw => ?_))
            rw [callsR_err hok hl2 hlt hno2 (hst.1.trans (congrArg Prod.fst (evR_none hff ‹_› hz (by omega)))) (by simp)]
            exact ⟨none, 0, rfl, Own.nil _ _, hw.below0 rfl⟩
          · (refine At_ret Try.results19 rfl (fun w' hw => ?_))
            rw [callsR_err hok hl2 hlt hno2 (hst.1.trans (congrArg Prod.fst (evR_bad1 hff ‹_› (thing_at hzt hgt) (by rw [‹List.contains _ _ = false›]; rfl)))) (by simp)]
            exact ⟨none, 0, rfl, Own.nil _ _, hw.below0 rfl⟩
          · (refine At_ret Try.results19 rfl (fun w' hw => ?_))
            rw [callsR_err hok hl2 hlt hno2 (hst.1.trans (congrArg Prod.fst (evR_bad1 hff ‹_› (thing_at hzt hgt) (by rw [‹argB _ _ = false›]; simp)))) (by simp)]
            exact ⟨none, 0, rfl, Own.nil _ _, hw.below0 rfl⟩
          · have hev := evR_push hff ‹_› (thing_at hzt hgt) ‹_› ‹_› hz (by omega) (i := k)
            rw [hev] at hst
            refine At_rounds (k + 1, A', c') ⟨by show k + 1 ≤ _; omega, all_succ hno2 hst.1⟩ (by show l.length - (k + 1) < l.length - k; omega) ?_ ?_
            · simp only [hst.2]; (repeat (first | exact SubE.nil _ | refine SubE.cons rfl ?_))
            · simp only [hst.2]; exact SUBS
    · obtain rfl : k = l.length := by omega
      repeat' (first | ((with_reducible (first | apply TD_e2z | apply TD_e3z | apply TL_e | apply TD_e2 | apply TD_e3)); (first | exact ES.auto | ((with_reducible apply ES_storeOwn); exact rfl; exact rfl; (first | ((repeat (first | with_reducible exact Upd.here _ _ _ | with_reducible apply Upd.there)); done) | (repeat (first | exact Upd.here _ _ _ | apply Upd.there))); exact fun _ => rfl; (first | exact List.getElem?_set_self (by first | assumption | omega) | exact List.getElem?_eq_getElem (by first | assumption | omega | (simp only [List.length_set]; omega))); decide; exact Cl.enc_mk _ _ _ _ _ _ _; exact rfl)); (first | exact rfl | exact ⟨rfl, rfl, rfl⟩); (first | (rintro _ _ ⟨rfl, rfl⟩) | (rintro _ _ ⟨g, rfl, rfl⟩) | (rintro _ _ ⟨A', c', rfl, rfl⟩)); (try refine ⟨SUB, ?_⟩)) | (refine GO ?_) | (refine GOE ?_; (first | (rintro _ _ ⟨rfl, rfl⟩) | (rintro _ _ ⟨g, rfl, rfl⟩) | (rintro _ _ ⟨A', c', rfl, rfl⟩))) | ((refine GO2 ?_ ?_) <;> intro h <;> (try (repeat (first | with_reducible (replace h := of_decide_eq_true h) | with_reducible (replace h := of_decide_eq_false h) | with_reducible (replace h := bnt h) | with_reducible (replace h := bnf h) | with_reducible (replace h := Int.not_lt.mp h) | with_reducible (replace h := Int.not_le.mp h) | with_reducible (replace h := band_dec h) | with_reducible (replace h := band_decF h) | with_reducible (replace h := bor_dec h) | with_reducible (replace h := bor_decF h)))) <;> (try (exfalso; first | contradiction | omega))))
      (refine At_ret Try.results19 rfl (fun w' hw => ?_))
      rw [callsR_ok hok hl2 hno2]
      exact ⟨A1, c1, rfl, hw.ownOut rfl (by first | ((repeat (first | with_reducible exact List.mem_cons_self | with_reducible apply List.mem_cons_of_mem)); done) | (repeat (first | exact List.Mem.head _ | apply List.Mem.tail))), hw.below0 rfl⟩
end Go.Proofs.Ytaonijdhmgcbjaa

namespace Go.Proofs.Ytaonijdhmgcbjaa
open Go.RowKit

theorem callsCode_any (A B : Option Addr) (c d : Nat) (ts : List Int) (l : List Ev) (w : World) (hts : ts.length ≤ 9223372036854775807) (hl : l.length ≤ 9223372036854775807) (hT : RdInt w A ts) (hA : RdEv w B l) :
    Calls Try.prog 39 #[.slice A ts.length c, .slice B l.length d] w fun e w' => ∃ A' c', e = .returned (.tuple #[.slice A' (callsR ts l).1.length c', .int .i64 (callsR ts l).2.1, .int .i64 (callsR ts l).2.2]) ∧
      Own Cl.enc 7 107 w' w.heap.size (.slice A' (callsR ts l).1.length c') (callsR ts l).1 ∧ Below w.heap.size w w' := by
  rw [← calls_same]
  exact calls_any A B c d ts l w hts hl hT hA
theorem callsR_len (ts : List Int) (l : List Ev) : (callsR ts l).1.length ≤ 200 := by
  unfold callsR
  split
  · simp
  · split
    · simp
    · split
      · simp
      · have := stP_len ts l l.length
        rw [(run_same ts l l.length).1] at this
        show (stR ts l l.length).length ≤ 200
        omega
/-- what is so of each call that a reading keeps -/
structure ClOk (ts : List Int) (i : Int) (c : Cl) : Prop where
  who : 0 ≤ c.who ∧ c.who < 8
  thing : 0 ≤ c.thing ∧ c.thing < ts.length
  kind : (kindsL (ts.getD c.thing.toNat 0)).contains c.kind = true
  arg : argB c.kind c.arg = true
  place : 0 ≤ c.from_ ∧ c.from_ < i
structure ClsOk (ts : List Int) (i : Int) (cs : List Cl) : Prop where
  each : ∀ q (h : q < cs.length), ClOk ts i cs[q]
  rising : ∀ p q (h1 : p < q) (h : q < cs.length), cs[p].from_ < cs[q].from_
theorem ClOk.mono {ts : List Int} {i j : Int} {c : Cl} (h : ClOk ts i c) (hij : i ≤ j) : ClOk ts j c := ⟨h.who, h.thing, h.kind, h.arg, by have := h.place; omega⟩
theorem clsOk_step {ts : List Int} {i : Int} {cs : List Cl} (x : Ev) (hi : 0 ≤ i) (h : ClsOk ts i cs) : ClsOk ts (i + 1) (evR ts cs i x).2 := by
  have keep : ClsOk ts (i + 1) cs := ⟨fun q hq => (h.each q hq).mono (by omega), h.rising⟩
  unfold evR
  by_cases hf : formBad ts x = true
  · rw [if_pos hf]; exact keep
  · rw [if_neg hf]
    have hf' : formBad ts x = false := by simpa using hf
    by_cases hk : x.kind = 0
    · rw [if_pos hk]
      split
      · exact keep
      · split
        · rename_i hz hc
          obtain ⟨m, hm⟩ : ∃ m, (openTo cs x.who cs.length).toNat = m := ⟨_, rfl⟩
          have hlt := openTo_lt cs x.who cs.length
          have hml : m < cs.length := by omega
          rw [hm]
          have hd : cs.getD m default = cs[m] := by simp [hml]
          rw [hd]
          dsimp only
          refine ⟨fun q hq => ?_, fun p q hpq hq => ?_⟩
          · have hq' : q < cs.length := by simpa using hq
            have hc' := keep.each q hq'
            rw [List.getElem_set]
            split
            · rename_i e
              subst e
              exact ⟨hc'.who, hc'.thing, hc'.kind, hc'.arg, hc'.place⟩
            · exact hc'
          · have hq' : q < cs.length := by simpa using hq
            have hr := h.rising p q hpq hq'
            rw [List.getElem_set, List.getElem_set]
            split <;> split <;> (subst_vars; first | exact hr | omega)
        · exact keep
    · rw [if_neg hk]
      split
      · exact keep
      · split
        · exact keep
        · rename_i hb _
          simp only [formBad, Bool.or_eq_false_iff, decide_eq_false_iff_not] at hf'
          have hb' : ((kindsL (ts.getD x.thing.toNat 0)).contains x.kind && argB x.kind x.value) = true := by simpa using hb
          rw [Bool.and_eq_true] at hb'
          dsimp only
          refine ⟨fun q hq => ?_, fun p q hpq hq => ?_⟩
          · by_cases e : q < cs.length
            · rw [List.getElem_append_left e]; exact keep.each q e
            · rw [List.getElem_append_right (by omega)]
              simp only [List.getElem_singleton]
              exact ⟨by dsimp only; omega, by dsimp only; omega, hb'.1, hb'.2, by dsimp only; omega⟩
          · simp only [List.length_append, List.length_cons, List.length_nil] at hq
            by_cases e : q < cs.length
            · rw [List.getElem_append_left e, List.getElem_append_left (by omega)]; exact h.rising p q hpq e
            · rw [List.getElem_append_left (show p < cs.length by omega), List.getElem_append_right (by omega)]
              simp only [List.getElem_singleton]
              have := (h.each p (by omega)).place
              omega
theorem clsOk_st (ts : List Int) (l : List Ev) : ∀ k : Nat, ClsOk ts (k : Int) (stR ts l k)
  | 0 => ⟨fun q h => by simp [stR] at h, fun p q _ h => by simp [stR] at h⟩
  | k + 1 => by
    have := clsOk_step (ts := ts) (i := k) (l.getD k default) (by omega) (clsOk_st ts l k)
    rw [stR]
    exact this
/-- the calls that a reading gives -/
theorem callsR_inv {ts : List Int} {l : List Ev} (h : (callsR ts l).2.2 = 0) : typesOk ts = true ∧ l.length ≤ 200 ∧ (∀ j, j < l.length → erR ts l j = 0) ∧ (callsR ts l).1 = stR ts l l.length := by
  by_cases h1 : typesOk ts = true
  · by_cases h2 : 200 < l.length
    · rw [callsR_long h1 h2] at h; cases h
    · rcases Nat.lt_or_ge (failR ts l) l.length with hf | hf
      · exfalso
        have hk : ∃ k, k < l.length ∧ (∀ j, j < k → erR ts l j = 0) ∧ erR ts l k ≠ 0 := by
          unfold failR at hf
          cases hc : (List.range l.length).find? fun k => decide (erR ts l k ≠ 0) with
          | none => rw [hc] at hf; simp at hf
          | some k =>
            rw [List.find?_range_eq_some] at hc
            exact ⟨k, by simpa using hc.2.1, fun j hj => by simpa using hc.2.2 j hj, by simpa using hc.1⟩
        obtain ⟨k, a, b, c⟩ := hk
        rw [callsR_err h1 (by omega) a b rfl c] at h
        exact c h
      · have hall : ∀ j, j < l.length → erR ts l j = 0 := by
          intro j hj
          refine Decidable.byContradiction fun hn => ?_
          unfold failR at hf
          cases hc : (List.range l.length).find? fun k => decide (erR ts l k ≠ 0) with
          | none =>
            rw [List.find?_eq_none] at hc
            have := hc j (by simpa using hj)
            simp only [decide_eq_true_eq] at this
            exact this hn
          | some k =>
            rw [hc] at hf
            rw [List.find?_range_eq_some] at hc
            have h3 : k < l.length := by simpa using hc.2.1
            simp at hf
            omega
        refine ⟨h1, by omega, hall, ?_⟩
        rw [callsR_ok h1 (by omega) hall]
  · rw [callsR_types (by simpa using h1)] at h; cases h
end Go.Proofs.Ytaonijdhmgcbjaa
