/- Histories: the reader's step in one law; the whole reading. -/
import Derived.Test.YtppicbdaijiifaaHist4c
import Derived.Test.YtppicbdaijiifaaT3
set_option linter.unusedSimpArgs false
set_option linter.unusedVariables false
set_option linter.unusedSectionVars false
set_option linter.unnecessarySimpa false
namespace Go.Proofs.Ytppicbdaijiifaa
open Go.RowKit

/-- one step of the reader: the error, the calls so far, who is open (1 more than the number of the call) -/
def evP (ts : List Int) (cs : List Cl) (op : Nat → Int) (i : Int) (x : Ev) : Int × List Cl × (Nat → Int) :=
  if formBad ts x = true then (3, cs, op)
  else if x.kind ≠ 0 then
    if (fitsB (ts.getD x.thing.toNat 0) x.kind && argB x.kind x.value) = false then (3, cs, op)
    else if 0 < op x.who.toNat then (5, cs, op)
    else (0, cs ++ [⟨x.who, x.thing, x.kind, x.value, 0, i, -1⟩], upz op x.who.toNat (cs.length + 1))
  else if op x.who.toNat = 0 then (4, cs, op)
  else if (cs.getD (op x.who.toNat - 1).toNat default).thing = x.thing ∧ resB (cs.getD (op x.who.toNat - 1).toNat default).kind x.value = true then
    (0, cs.set (op x.who.toNat - 1).toNat { cs.getD (op x.who.toNat - 1).toNat default with res := x.value, to := i }, upz op x.who.toNat 0)
  else (3, cs, op)
def OpOk (cs : List Cl) (op : Nat → Int) : Prop := ∀ k, k < 8 → 0 ≤ op k ∧ op k ≤ cs.length
theorem evP_ok {ts : List Int} {cs : List Cl} {op : Nat → Int} {i : Int} {x : Ev} (h : OpOk cs op) : OpOk (evP ts cs op i x).2.1 (evP ts cs op i x).2.2 := by
  unfold evP
  repeat' split
  all_goals first | exact h | skip
  · intro k hk
    have := h k hk
    simp only [upz, List.length_append, List.length_singleton]
    split <;> omega
  · intro k hk
    have := h k hk
    simp only [upz, List.length_set]
    split <;> omega

theorem event_any (r : Nat) (T : Option Addr) (c : Nat) (ts : List Int) (v : Value) (op : Nat → Int) (i : Int) (x : Ev) (w : World) (hl : ts.length ≤ 9223372036854775807)
    (hb : Blk w r 229 (rdCells (.slice T ts.length c) v op)) (hT : RdInt w T ts) (B : Nat) (hB : B ≤ r) (cs : List Cl) (hcs : cs.length ≤ 1000) (ho : OwnCl w B v cs) (hop : OpOk cs op) (hTB : 0 < ts.length → ∀ b o, T = some ⟨b, o, none⟩ → b < B) :
    Calls Try.prog 136 #[.pointer (some ⟨r, 0, none⟩), .int .i64 i, .agg (Ev.enc x).toArray] w fun e w' => ∃ v', e = .returned (.int .i64 (evP ts cs op i x).1) ∧
      ((evP ts cs op i x).1 = 0 → Blk w' r 229 (rdCells (.slice T ts.length c) v' (evP ts cs op i x).2.2) ∧ OwnCl w' B v' (evP ts cs op i x).2.1) ∧ Below B w w' := by
  have hBw : B ≤ w.heap.size := by have := hb.lt; omega
  have bad : ∀ z : Int, z ≠ 0 → (evP ts cs op i x).1 = z → (Calls Try.prog 136 #[.pointer (some ⟨r, 0, none⟩), .int .i64 i, .agg (Ev.enc x).toArray] w fun e w' => e = .returned (.int .i64 z) ∧ Below w.heap.size w w') →
      Calls Try.prog 136 #[.pointer (some ⟨r, 0, none⟩), .int .i64 i, .agg (Ev.enc x).toArray] w fun e w' => ∃ v', e = .returned (.int .i64 (evP ts cs op i x).1) ∧
      ((evP ts cs op i x).1 = 0 → Blk w' r 229 (rdCells (.slice T ts.length c) v' (evP ts cs op i x).2.2) ∧ OwnCl w' B v' (evP ts cs op i x).2.1) ∧ Below B w w' := by
    intro z hz he hc
    refine hc.mono fun e w' ⟨h1, h2⟩ => ⟨v, ?_, fun h => absurd (he.symm.trans h) hz, h2.mono hBw⟩
    rw [h1, he]
  by_cases hf : formBad ts x = true
  · exact bad 3 (by decide) (by simp [evP, hf]) (event_form r T c ts v op i x w hl hb hf)
  · obtain ⟨who, thing, kind, value⟩ := x
    have hff := hf
    simp only [formBad, Bool.not_eq_true', Bool.not_eq_false', decide_eq_true_eq, decide_eq_false_iff_not, Bool.and_eq_true, Bool.or_eq_true, Bool.or_eq_false_iff, Bool.and_eq_false_iff, not_or, Int.not_lt, Int.not_le] at hff
    obtain ⟨⟨⟨q1, q2⟩, q3⟩, q4⟩ := hff
    obtain ⟨k, rfl⟩ := Int.eq_ofNat_of_zero_le q1
    obtain ⟨t, rfl⟩ := Int.eq_ofNat_of_zero_le q3
    have hk : k < 8 := by omega
    have ht : t < ts.length := by omega
    have hg : ts.getD t 0 = ts[t] := by simp [ht]
    have hok := hop k hk
    by_cases hkind : kind = 0
    · subst hkind
      by_cases h0 : op k = 0
      · exact bad 4 (by decide) (by simp [evP, hf, h0]) (event_none r T c ts v op i k t value w hl hk ht hb h0)
      · obtain ⟨m, hm⟩ : ∃ m : Nat, op k = (m : Int) + 1 := ⟨(op k - 1).toNat, by omega⟩
        have hmc : m < cs.length := by omega
        have hd : cs.getD m default = cs[m] := by simp [hmc]
        by_cases hth : cs[m].thing = t ∧ resB cs[m].kind value = true
        · have e : evP ts cs op i ⟨k, t, 0, value⟩ = (0, cs.set m { cs[m] with res := value, to := i }, upz op k 0) := by
            simp [evP, hf, hm, hmc, hth, show ¬ (m : Int) + 1 = 0 by omega]
          rw [e]
          exact (event_end_ok r T c ts v op i k t value w hl hk ht hb B hB cs hcs ho m hmc hm hth.1 hth.2).mono fun e w' ⟨h1, h2, h3, h4⟩ => ⟨v, h1, fun _ => ⟨h2, h3⟩, h4⟩
        · refine bad 3 (by decide) (by simp [evP, hf, hm, hmc, hth, show ¬ (m : Int) + 1 = 0 by omega]) (event_end_bad r T c ts v op i k t value w hl hk ht hb B cs hcs ho m hmc hm fun h => ?_)
          cases hr : resB cs[m].kind value
          · rfl
          · exact absurd ⟨h, hr⟩ hth
    · by_cases hfa : (fitsB ts[t] kind && argB kind value) = true
      · have hfa' : fitsB ts[t] kind = true ∧ argB kind value = true := by simpa using hfa
        by_cases h0 : 0 < op k
        · exact bad 5 (by decide) (by simp [evP, hf, hkind, ht, hfa', h0]) (event_twice r T c ts v op i k t kind value w hl hk ht hb hT (by simpa using hkind) hfa'.1 hfa'.2 h0)
        · have e : evP ts cs op i ⟨k, t, kind, value⟩ = (0, cs ++ [⟨k, t, kind, value, 0, i, -1⟩], upz op k (cs.length + 1)) := by
            simp [evP, hf, hkind, ht, hfa', h0]
          rw [e]
          exact (event_call_ok r T c ts v op i k t kind value w hl hk ht hb hT B hB cs hcs ho (by simpa using hkind) hfa'.1 hfa'.2 (by omega) (hTB (by omega))).mono fun e w' ⟨v', h1, h2, h3, h4⟩ => ⟨v', h1, fun _ => ⟨h2, h3⟩, h4⟩
      · have hfb : (fitsB ts[t] kind && argB kind value) = false := by simpa using hfa
        exact bad 3 (by decide) (by simp only [evP, if_neg hf, Int.toNat_natCast, hg, hfb]; simp [hkind]) (event_call_bad r T c ts v op i k t kind value w hl hk ht hb hT (by simpa using hkind) hfb)
instance : Inhabited Ev := ⟨⟨0, 0, 0, 0⟩⟩
def stP (ts : List Int) (l : List Ev) : Nat → List Cl × (Nat → Int)
  | 0 => ([], fun _ => 0)
  | k + 1 => (evP ts (stP ts l k).1 (stP ts l k).2 k (l.getD k default)).2
def erP (ts : List Int) (l : List Ev) (k : Nat) : Int := (evP ts (stP ts l k).1 (stP ts l k).2 k (l.getD k default)).1
theorem stP_ok (ts : List Int) (l : List Ev) : ∀ k, OpOk (stP ts l k).1 (stP ts l k).2
  | 0 => fun k hk => by simp [stP]
  | k + 1 => evP_ok (stP_ok ts l k)
theorem evP_len (ts : List Int) (cs : List Cl) (op : Nat → Int) (i : Int) (x : Ev) : (evP ts cs op i x).2.1.length ≤ cs.length + 1 := by
  unfold evP
  repeat' split
  all_goals simp
theorem stP_len (ts : List Int) (l : List Ev) : ∀ k, (stP ts l k).1.length ≤ k
  | 0 => by simp [stP]
  | k + 1 => by have := stP_len ts l k; have := evP_len ts (stP ts l k).1 (stP ts l k).2 k (l.getD k default); simp only [stP]; omega
/-- the first event that can't be read (their number: there is none) -/
def failP (ts : List Int) (l : List Ev) : Nat := ((List.range l.length).find? fun k => decide (erP ts l k ≠ 0)).getD l.length
def callsP (ts : List Int) (l : List Ev) : List Cl × Int × Int :=
  if typesE ts ≠ 0 then ([], 0, typesE ts)
  else if 200 < l.length then ([], 0, 2)
  else if failP ts l < l.length then ([], failP ts l, erP ts l (failP ts l))
  else ((stP ts l l.length).1, 0, 0)
theorem failP_at {ts : List Int} {l : List Ev} {k : Nat} (hk : k < l.length) (h : ∀ j, j < k → erP ts l j = 0) (he : erP ts l k ≠ 0) : failP ts l = k := by
  unfold failP
  have : (List.range l.length).find? (fun k => decide (erP ts l k ≠ 0)) = some k := by
    rw [List.find?_range_eq_some]
    exact ⟨by simpa using he, by simpa using hk, fun j hj => by simp [h j hj]⟩
  rw [this]; rfl
theorem failP_none {ts : List Int} {l : List Ev} (h : ∀ j, j < l.length → erP ts l j = 0) : failP ts l = l.length := by
  unfold failP
  have : (List.range l.length).find? (fun k => decide (erP ts l k ≠ 0)) = none := by
    rw [List.find?_eq_none]
    intro j hj
    simp [h j (by simpa using hj)]
  rw [this]; rfl

theorem RdEv.at_ {w wr : World} {A : Option Addr} {l : List Ev} (h : RdEv w A l) (hb : Below w.heap.size w wr) (k : Nat) (hk : k < l.length) :
    ∃ b o, A = some ⟨b, o, none⟩ ∧ b < w.heap.size ∧ b < wr.heap.size ∧ wr.cell? ⟨b, o + k * 4, none⟩ = some (.int .i64 l[k].who) ∧ wr.cell? ⟨b, o + k * 4 + 1, none⟩ = some (.int .i64 l[k].thing) ∧ wr.cell? ⟨b, o + k * 4 + 2, none⟩ = some (.int .i64 l[k].kind) ∧ wr.cell? ⟨b, o + k * 4 + 3, none⟩ = some (.int .i64 l[k].value) := by
  obtain ⟨b, o, h1, h2, h3, h4⟩ := RdE.at_ h hb k hk
  exact ⟨b, o, h1, h2, h3, h4 0 _ rfl, h4 1 _ rfl, h4 2 _ rfl, h4 3 _ rfl⟩

set_option maxHeartbeats 2000000 in
theorem calls_any (T A : Option Addr) (ct c : Nat) (ts : List Int) (l : List Ev) (w : World) (hts : ts.length ≤ 9223372036854775807) (hl : l.length ≤ 9223372036854775807) (hT : RdInt w T ts) (hA : RdEv w A l) :
    Calls Try.prog 81 #[.slice T ts.length ct, .slice A l.length c] w fun e w' => ∃ A' c', e = .returned (.tuple #[.slice A' (callsP ts l).1.length c', .int .i64 (callsP ts l).2.1, .int .i64 (callsP ts l).2.2]) ∧ OwnCl w' w.heap.size (.slice A' (callsP ts l).1.length c') (callsP ts l).1 ∧ Below w.heap.size w w' := by
  by_cases hty : typesE ts = 0
  · by_cases h2 : 200 < l.length
    · have he : callsP ts l = ([], 0, 2) := by simp [callsP, hty, h2]
      have He := Lib.hid he
      clear he
      go_enter Try.func81, Try.ntmps81
      go_wp2_with (go_at_call 135; refine (types_any _ _ _ _ hts hT).mono ?_; rintro e w1 ⟨rfl, hb1⟩; rw [hty])
      go_ret3
      rw [He.out]
      exact ⟨none, 0, rfl, Own.nil _ _, hb1⟩
    · have hl2 : l.length ≤ 200 := by omega
      have Hty := Lib.hid hty
      clear h2
      have hTB : Hid (0 < ts.length → ∀ b o, T = some ⟨b, o, none⟩ → b < w.heap.size) := Lib.hid fun h b o e => by
        obtain ⟨b', o', h1, h2⟩ := hT.open h
        rw [e] at h1; cases h1; exact h2
      go_enter Try.func81, Try.ntmps81
      go_wp2_with (go_at_call 135; refine (types_any _ _ _ _ hts hT).mono ?_; rintro e w1 ⟨rfl, hb1⟩; rw [hty])
      have hs1 := hb1.size
      go_loopw [25] (fun i wr => ∃ (k : Nat) (v : Value), k ≤ l.length ∧ i = .int .i64 k ∧ Hid (∀ j, j < k → erP ts l j = 0) ∧ Blk wr w1.heap.size 229 (rdCells (.slice T ts.length ct) v (stP ts l k).2) ∧ OwnCl wr w.heap.size v (stP ts l k).1 ∧ Below w.heap.size w wr) (fun i _ => l.length - (intOf i).toNat)
      case atStart => exact ⟨0, _, by omega, rfl, Lib.hid (by omega), Blk.new _ _ _, Own.nil _ _, by (repeat (first | assumption | exact Below.refl _ _ | refine bel_alloc ?_ _ | refine Below.drew ?_ | refine below_drewN' ?_ _ | (refine bel_set ?_ (by first | (simp; done) | (simp; omega)) _) | (refine bel_row ?_ (by first | (simp; done) | (simp; omega)) _)))⟩
      case round =>
        obtain ⟨k, v, hk, rfl, hno, hblk, hown, hbel⟩ := hrel
        have hlen := stP_len ts l k
        by_cases hlt : k < l.length
        · obtain ⟨b, o, rfl, hb0, hbs, c0, c1, c2, c3⟩ := hA.at_ hbel k hlt
          have hg : l.getD k default = l[k] := by simp [hlt]
          have a5 := hblk.lt
          by_cases he : erP ts l k = 0
          · have hev : (evP ts (stP ts l k).1 (stP ts l k).2 k l[k]).1 = 0 := by rw [← hg]; exact he
            have Hev := Lib.hid hev
            have He := Lib.hid he
            clear hev he
            go_wp2_with (go_at_call 136; refine (event_any _ T ct ts v (stP ts l k).2 k l[k] _ hts (hblk.alloc _) (RdE.below hT (by (repeat (first | assumption | exact Below.refl _ _ | refine bel_alloc ?_ _ | refine Below.drew ?_ | refine below_drewN' ?_ _ | (refine bel_set ?_ (by first | (simp; done) | (simp; omega)) _) | (refine bel_row ?_ (by first | (simp; done) | (simp; omega)) _))))) w.heap.size (by omega) (stP ts l k).1 (by omega) (Own.alloc hown _) (stP_ok ts l k) hTB.out).mono ?_; rintro e w2 ⟨v', he', hst, hbw⟩; rw [Hev.out] at he'; subst he')
            go_roundw
            case rel =>
              have h2 := hst Hev.out
              refine ⟨k + 1, v', by omega, by go_num, Lib.hid (fun j hj => ?_), ?_, ?_, ?_⟩
              · by_cases e : j = k
                · subst e; exact He.out
                · exact hno.out j (by omega)
              · simp only [stP, hg]; exact h2.1
              · simp only [stP, hg]; exact h2.2
              · exact (bel_alloc hbel _).trans hbw
            case measure => simp [intOf]; omega
          · have hev : (evP ts (stP ts l k).1 (stP ts l k).2 k l[k]).1 = erP ts l k := by rw [← hg]; rfl
            have hn : (erP ts l k != 0) = true := by simpa using he
            have hcp : callsP ts l = ([], (k : Int), erP ts l k) := by
              have hf := failP_at hlt hno.out he
              simp only [callsP, Hty.out, hf]
              rw [if_neg (by simp), if_neg (by omega), if_pos hlt]
            have Hev := Lib.hid hev
            have Hcp := Lib.hid hcp
            clear hev hcp he
            go_wp2_with (go_at_call 136; refine (event_any _ T ct ts v (stP ts l k).2 k l[k] _ hts (hblk.alloc _) (RdE.below hT (by (repeat (first | assumption | exact Below.refl _ _ | refine bel_alloc ?_ _ | refine Below.drew ?_ | refine below_drewN' ?_ _ | (refine bel_set ?_ (by first | (simp; done) | (simp; omega)) _) | (refine bel_row ?_ (by first | (simp; done) | (simp; omega)) _))))) w.heap.size (by omega) (stP ts l k).1 (by omega) (Own.alloc hown _) (stP_ok ts l k) hTB.out).mono ?_; rintro e w2 ⟨v', he', hst, hbw⟩; rw [Hev.out] at he'; subst he')
            go_ret3
            rw [Hcp.out]
            exact ⟨none, 0, rfl, Own.nil _ _, (bel_alloc hbel _).trans hbw⟩
        · obtain rfl : k = l.length := by omega
          have hcp : callsP ts l = ((stP ts l l.length).1, 0, 0) := by
            have hf := failP_none hno.out
            simp only [callsP, Hty.out, hf]
            rw [if_neg (by simp), if_neg (by omega), if_neg (by omega)]
          have Hcp := Lib.hid hcp
          obtain ⟨A', c', rfl⟩ := Own.form hown
          have d0 := (hblk.cell 1).trans (rdCells_1 _ _ _)
          have a5 := hblk.lt
          clear hcp
          go_wp2_with (fail)
          go_ret3
          rw [Hcp.out]
          exact ⟨A', c', rfl, hown, hbel⟩
  · have he : callsP ts l = ([], 0, typesE ts) := by simp [callsP, hty]
    have He := Lib.hid he
    have hn : (typesE ts != 0) = true := by simpa using hty
    clear he hty
    go_enter Try.func81, Try.ntmps81
    go_wp2_with (go_at_call 135; refine (types_any _ _ _ _ hts hT).mono ?_; rintro e w1 ⟨rfl, hb1⟩)
    go_ret3
    rw [He.out]
    exact ⟨none, 0, rfl, Own.nil _ _, hb1⟩
end Go.Proofs.Ytppicbdaijiifaa
