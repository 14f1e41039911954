/- Lemmas for the walks (Th5, Th6). No condition. -/
import Derived.Test.YtbhjljnbjomnhaaG17
import Derived.Test.YtbhjljnbjomnhaaG16
import Derived.Test.YtbhjljnbjomnhaaG09
set_option linter.unusedSimpArgs false
set_option linter.unusedVariables false
set_option linter.unusedSectionVars false
set_option linter.unnecessarySimpa false
namespace Go.Proofs.Ytbhjljnbjomnhaa
open Go.RowKit
set_option linter.unusedSectionVars false

def stRows (ts : List Int) (dn : List (List Dn)) : List (List Int) := (List.range ts.length).map (stD ts dn)
theorem stRows_len (ts : List Int) (dn : List (List Dn)) : (stRows ts dn).length = ts.length := by simp [stRows]
theorem stRows_at {ts : List Int} {dn : List (List Dn)} {t : Nat} (h : t < (stRows ts dn).length) : (stRows ts dn)[t] = stD ts dn t := by simp [stRows]
theorem stRows_set {ts : List Int} {dn : List (List Dn)} {t : Nat} (h : t < dn.length) (l : List Dn) : stRows ts (dn.set t l) = (stRows ts dn).set t (stAt (ts.getD t 0) (begL (ts.getD t 0)) l) := by
  unfold stRows
  apply List.ext_getElem
  · simp
  · intro i h1 h2
    rw [List.getElem_set]
    simp only [List.getElem_map, List.getElem_range]
    unfold stD
    split
    · rename_i e; subst e; simp [h]
    · rename_i e
      simp [List.getElem?_set_ne e]
structure TpOk (w : World) (row : List Ak) (q : Tp) (p : Pe) : Prop where
  n : q.hd.n = (row.drop p.k).length
  le : q.hd.n ≤ q.hd.c
  rd : RdE Ak.enc 3 w q.hd.a (row.drop p.k)
  pend : q.pend = decide (p.ph ≠ 0)
  call : p.ph ≠ 0 → q.call = p.call
  one : p.ph = 1 → q.dn = false
  two : p.ph = 2 → q.dn = true ∧ q.fl = false ∧ q.res = p.res
  three : p.ph = 3 → q.dn = true ∧ q.fl = true
structure PlOk (ts : List Int) (ps : List (List Ak)) (w : World) (s : Th) (hS : List Hd) (pr : List Tp) : Prop where
  lp : pr.length = s.pe.length
  lh : hS.length = ts.length
  each : ∀ i (h : i < pr.length) (h2 : i < s.pe.length), TpOk w (ps.getD i []) pr[i] s.pe[i]
theorem PlOk.set {ts : List Int} {ps : List (List Ak)} {w : World} {s s' : Th} {hS hS' : List Hd} {pr : List Tp} {k : Nat} {q : Tp} {p : Pe} (h : PlOk ts ps w s hS pr) (hl : hS'.length = hS.length) (hs : s'.pe = s.pe.set k p) (hq : TpOk w (ps.getD k []) q p) : PlOk ts ps w s' hS' (pr.set k q) := by
  refine ⟨by simp [hs, h.lp], by rw [hl, h.lh], fun i h1 h2 => ?_⟩
  have h3 : i < pr.length := by simpa using h1
  simp only [hs, List.getElem_set]
  split
  · rename_i e; subst e; exact hq
  · exact h.each i h3 (by rw [← h.lp]; exact h3)
section
variable (a : TLc) (ts : List Int) (ps : List (List Ak)) (s : Th) (hS : List Hd) (pr : List Tp) (x : (Option Addr × Nat) × (Option Addr × Nat)) (k : Nat) {C : Ctx} {W : World} {R : List Ent}
  (hw : Mem C W (machT a (stRows ts s.dn) s.evs s.sts s.calls hS pr x ++ R)) (hF : C.F = []) (hT : RdInt C.w0 a.A0 ts) (hnT : a.nT = ts.length) (hpl : PlOk ts ps C.w0 s hS pr) (hok : ThOk ts ps s)
  (hps : ∀ i (hi : i < ps.length) j (hj : j < ps[i].length), askB ts ps[i][j] = true) (hk : k < ps.length) (he : s.evs.length ≤ 1000) (hs : s.sts.length ≤ 1000) (hc : s.calls ≤ 1000)
include hw hF hT hnT hpl hok hps hk he hs hc
def TurnPost (a : TLc) (ts : List Int) (ps : List (List Ak)) (w : World) (s s' : Th) (hS : List Hd) (pr : List Tp) (x : (Option Addr × Nat) × (Option Addr × Nat)) (W : World) (e : Ending) (W' : World) : Prop :=
  ∃ y : {y : List Hd × List Tp × ((Option Addr × Nat) × (Option Addr × Nat)) // PlOk ts ps w s' y.1 y.2.1}, e = .returned (.tuple #[]) ∧ Mem ⟨0, blks (machT a (stRows ts s.dn) s.evs s.sts s.calls hS pr x), W⟩ W' (machT a (stRows ts s'.dn) s'.evs s'.sts s'.calls y.1.1 y.1.2.1 y.1.2.2)
theorem turnT_any : Calls Try.prog 92 #[.pointer (some ⟨a.m, 0, none⟩), .int .i64 (k : Nat)] W (TurnPost a ts ps C.w0 s (stepT ts ps s k) hS pr x W) := by
  have hk2 : k < s.pe.length := by rw [hok.pe]; exact hk
  have hk1 : k < pr.length := by rw [hpl.lp]; exact hk2
  have hp : s.pe.getD k default = s.pe[k] := by simp [hk2]
  have hr : ps.getD k [] = ps[k] := by simp [hk]
  have hq := hpl.each k hk1 hk2
  have hl := hok.le k hk2
  rw [hr] at hq hl
  have hself := hw.self 0
  have hfar : ∀ b, b < C.w0.heap.size → b ∉ blks (machT a (stRows ts s.dn) s.evs s.sts s.calls hS pr x) := fun b hb => hw.newBlkF (by rw [hF]; simp) hb
  obtain ⟨qn, qle, qrd, qp, qc, q1, q2, q3⟩ := hq
  unfold TurnPost
  unfold stepT
  rw [hp, hr]
  obtain ⟨⟨⟨qA, qm, qcap⟩, pend, cl, dn, fl, rs⟩, hpq⟩ : ∃ q, pr[k] = q := ⟨_, rfl⟩
  obtain ⟨⟨pk, ph, pcall, pres⟩, hpp⟩ : ∃ q, s.pe[k] = q := ⟨_, rfl⟩
  rw [hpp] at hl ⊢
  simp only [hpq, hpp] at qn qle qrd qp qc q1 q2 q3
  dsimp only at hl ⊢
  by_cases h1 : ps[k].length ≤ pk
  · rw [if_pos (.inl h1)]
    have hph : ph = 0 := by omega
    subst hph
    have h0 : qm = 0 := by rw [qn]; simp; omega
    subst h0
    have hpd : pend = false := by rw [qp]; rfl
    subst hpd
    refine (turn_idle a (stRows ts s.dn) s.evs s.sts s.calls hS pr x k W 0 hk1 hself he hs hc qA qcap cl dn fl rs hpq).mono fun e W' ⟨h2, h3⟩ => ?_
    exact ⟨⟨(hS, pr, x), hpl⟩, h2, h3⟩
  have hlt : pk < ps[k].length := by omega
  by_cases h3 : ph = 3
  · rw [if_pos (.inr h3)]
    obtain ⟨rfl, rfl⟩ := q3 h3
    have hpd : pend = true := by rw [qp, h3]; rfl
    subst hpd
    refine (turn_stuck a (stRows ts s.dn) s.evs s.sts s.calls hS pr x k W 0 hk1 hself he hs hc _ cl rs hpq).mono fun e W' ⟨h2, h3⟩ => ?_
    exact ⟨⟨(hS, pr, x), hpl⟩, h2, h3⟩
  rw [if_neg (by rintro (h | h); exact h1 h; exact h3 h)]
  have ha : ps[k].getD pk default = ps[k][pk] := by simp [hlt]
  have h0 : 0 < (ps[k].drop pk).length := by simp; omega
  have hd0 : (ps[k].drop pk)[0] = ps[k][pk] := by simp
  have hab := askB_ok (hps k hk pk hlt)
  rw [ha]
  obtain ⟨b, o, rfl, hb⟩ := RdE.open qrd h0
  have hbF := hfar b hb
  have qrdW := hw.rd hF qrd
  subst qn
  by_cases hc0 : ph = 0
  · subst hc0
    have hpd : pend = false := by rw [qp]; rfl
    subst hpd
    rw [if_pos rfl]
    refine (turn_call a (stRows ts s.dn) s.evs s.sts s.calls hS pr x k (ps[k].drop pk) W 0 hk1 hself he hs hc b o qcap cl dn fl rs hpq qrdW h0 hbF).mono fun e W' ⟨y, h2, h4⟩ => ?_
    rw [hd0] at h4
    exact ⟨⟨(hS, pr.set k ⟨⟨some ⟨b, o, none⟩, (ps[k].drop pk).length, qcap⟩, true, (s.calls : Nat), false, fl, rs⟩, (y, x.2)), hpl.set rfl rfl (by rw [hr]; exact ⟨rfl, qle, qrd, rfl, fun _ => rfl, fun _ => rfl, fun e => by simp at e, fun e => by simp at e⟩)⟩, h2, h4⟩
  rw [if_neg hc0]
  have hpd : pend = true := by rw [qp]; simp [hc0]
  subst hpd
  have hcl := qc hc0
  subst hcl
  by_cases hc1 : ph = 1
  · subst hc1
    obtain rfl := q1 rfl
    rw [if_pos rfl]
    have hth : ps[k][pk].thing = ((ps[k][pk].thing.toNat : Nat) : Int) := by omega
    have htl : ps[k][pk].thing.toNat < ts.length := by omega
    have hjs : ps[k][pk].thing.toNat < (stRows ts s.dn).length := by rw [stRows_len]; exact htl
    have hdl : ps[k][pk].thing.toNat < s.dn.length := by rw [hok.dn]; exact htl
    have hty : ts.getD ps[k][pk].thing.toNat 0 = ts[ps[k][pk].thing.toNat] := by simp [htl]
    have hck := (hok.ok _ hdl).chk
    have hsd : stD ts s.dn ps[k][pk].thing.toNat = stAt (ts.getD ps[k][pk].thing.toNat 0) (begL (ts.getD ps[k][pk].thing.toNat 0)) s.dn[ps[k][pk].thing.toNat] := by unfold stD; rw [show s.dn.getD ps[k][pk].thing.toNat [] = s.dn[ps[k][pk].thing.toNat] by simp [hdl]]
    have hlen := (chkS_ok hck).2.1
    rw [← hsd] at hlen
    have hTW := hw.rd hF hT
    rw [hty]
    obtain ⟨RR, hRR⟩ : ∃ RR, stepO ts[ps[k][pk].thing.toNat] (stD ts s.dn ps[k][pk].thing.toNat) ps[k][pk].kind ps[k][pk].arg = RR := ⟨_, rfl⟩
    refine (turn_do a ts (stRows ts s.dn) s.evs s.sts s.calls hS pr x k (ps[k].drop pk) W 0 hk1 hself he hs hc b o qcap cl rs fl ps[k][pk].thing.toNat RR hpq qrdW h0 hbF ps[k][pk].kind ps[k][pk].arg (by rw [hd0, ← hth]) hTW hnT
      (fun b2 o2 e => by
        obtain ⟨b3, o3, e3, h5⟩ := RdE.open hT (by omega)
        rw [e] at e3
        cases e3
        exact hfar _ h5) htl hjs (by rw [stRows_at hjs]; omega) (by rw [stRows_at hjs]; exact hRR)).mono fun e W' ⟨y, h2, h4⟩ => ?_
    rw [hRR]
    by_cases hR0 : RR.2.2 = 0
    · rw [if_pos hR0] at h4
      rw [if_neg (by simp [hR0])]
      refine ⟨⟨(hS.set ps[k][pk].thing.toNat ⟨y.2.1, RR.1.length, y.2.2⟩, pr.set k ⟨⟨some ⟨b, o, none⟩, (ps[k].drop pk).length, qcap⟩, true, cl, true, false, RR.2.1⟩, (x.1, y.1)), hpl.set (by simp) rfl (by rw [hr]; exact ⟨rfl, qle, qrd, rfl, fun _ => rfl, fun e => by simp at e, fun _ => ⟨rfl, rfl, rfl⟩, fun e => by simp at e⟩)⟩, h2, ?_⟩
      dsimp only
      rw [stRows_set hdl, stAt_snoc, show s.dn.getD ps[k][pk].thing.toNat [] = s.dn[ps[k][pk].thing.toNat] by simp [hdl], ← hsd, hty, hRR]
      exact h4
    · rw [if_neg hR0] at h4
      rw [if_pos hR0]
      exact ⟨⟨(hS, pr.set k ⟨⟨some ⟨b, o, none⟩, (ps[k].drop pk).length, qcap⟩, true, cl, true, true, RR.2.1⟩, x), hpl.set rfl rfl (by rw [hr]; exact ⟨rfl, qle, qrd, rfl, fun _ => rfl, fun e => by simp at e, fun e => by simp at e, fun _ => ⟨rfl, rfl⟩⟩)⟩, h2, h4⟩
  rw [if_neg hc1]
  have hc2 : ph = 2 := by omega
  subst hc2
  obtain ⟨rfl, rfl, rfl⟩ := q2 rfl
  refine (turn_end a (stRows ts s.dn) s.evs s.sts s.calls hS pr x k (ps[k].drop pk) W 0 hk1 hself he hs hc b o qcap cl rs hpq qrdW h0 hbF).mono fun e W' ⟨y, h2, h4⟩ => ?_
  rw [hd0] at h4
  have hrd' : RdE Ak.enc 3 C.w0 (some ⟨b, if qcap = 1 then o else o + 1 * 3, none⟩) (ps[k].drop (pk + 1)) := by
    by_cases hz : (ps[k].drop (pk + 1)).length = 0
    · rw [List.length_eq_zero_iff] at hz
      rw [hz]
      exact fun i x h => by simp at h
    · have h5 := qrd.drop 1
      rw [List.drop_drop] at h5
      have hc1 : qcap ≠ 1 := by
        simp only [List.length_drop] at hz qle
        omega
      rw [if_neg hc1]
      exact h5
  exact ⟨⟨(hS, pr.set k ⟨⟨some ⟨b, if qcap = 1 then o else o + 1 * 3, none⟩, (ps[k].drop pk).length - 1, qcap - 1⟩, false, cl, true, false, rs⟩, (y, x.2)), hpl.set rfl rfl (by rw [hr]; exact ⟨by simp only [List.length_drop]; omega, by dsimp only; omega, hrd', rfl, fun e => absurd rfl e, fun e => by simp at e, fun e => by simp at e, fun e => by simp at e⟩)⟩, h2, h4⟩
end
end Go.Proofs.Ytbhjljnbjomnhaa

namespace Go.Proofs.Ytbhjljnbjomnhaa
open Go.RowKit

def plT (ts : List Int) (ps : List (List Ak)) (tu : List Int) : List Ev × List Stp × Int :=
  if pplR ts ps ≠ 0 then ([], [], pplR ts ps) else if trnR (ps.length : Int) 300 tu ≠ 0 then ([], [], trnR (ps.length : Int) 300 tu) else ((runT ts ps tu tu.length).evs, (runT ts ps tu tu.length).sts, 0)
def tp0 (h : Hd) : Tp := ⟨⟨h.a, h.n, h.c⟩, false, 0, false, false, 0⟩
theorem stRows_0 (ts : List Int) (n : Nat) : (List.range ts.length).map (fun t => begL (ts.getD t 0)) = stRows ts (th0 n ts.length).dn := by
  unfold stRows
  refine List.map_congr_left fun t ht => ?_
  have h : t < ts.length := List.mem_range.1 ht
  unfold stD th0
  simp [h, stAt]
theorem PlOk0 {ts : List Int} {ps : List (List Ak)} {w : World} {D0 : Option Addr} {hs hS : List Hd} (hD : RdRows Ak.enc 3 w D0 hs ps) (hl : hS.length = ts.length) : PlOk ts ps w (th0 ps.length ts.length) hS (hs.map tp0) := by
  obtain ⟨h1, h2, h3⟩ := hD
  refine ⟨by simp [th0, h2], hl, fun i hi hi2 => ?_⟩
  have hi : i < hs.length := by simpa using hi
  have hi3 : i < ps.length := by omega
  obtain ⟨k1, k2, k3, k4⟩ := h3 i hi hi3
  rw [show ps.getD i [] = ps[i] by simp [hi3]]
  simp only [List.getElem_map, th0, List.getElem_replicate]
  exact ⟨by simpa [tp0] using k1, by simp only [tp0]; omega, by simpa [tp0] using k4, rfl, fun e => absurd rfl e, fun e => by simp at e, fun e => by simp at e, fun e => by simp at e⟩
section
variable (A0 D0 B0 : Option Addr) (c0 e0 d0 : Nat) (ts : List Int) (hs : List Hd) (ps : List (List Ak)) (tu : List Int) (w : World) (hts : ts.length ≤ 9223372036854775807) (hpl : ps.length ≤ 9223372036854775807) (htl : tu.length ≤ 9223372036854775807) (hT : RdInt w A0 ts) (hD : RdRows Ak.enc 3 w D0 hs ps) (hB : RdInt w B0 tu)
include hts hpl htl hT hD hB
def PlayPost (R : List Ev × List Stp × Int) (w : World) (e : Ending) (w' : World) : Prop := ∃ x : (Option Addr × Nat) × (Option Addr × Nat), e = .returned (.tuple #[.slice x.1.1 R.1.length x.1.2, .slice x.2.1 R.2.1.length x.2.2, .int .i64 R.2.2]) ∧ Mem ⟨0, [], w⟩ w' [entOwn Ev.enc 4 86 x.1.1 x.1.2 R.1, entOwn Stp.enc 2 39 x.2.1 x.2.2 R.2.1]
set_option maxRecDepth 100000 in
set_option maxHeartbeats 8000000 in
theorem thPlay_any : Calls Try.prog 44 #[.slice A0 ts.length c0, .slice D0 hs.length e0, .slice B0 tu.length d0] w (PlayPost (plT ts ps tu) w) := by
  have hck := fun w h1 h2 => thCheck_any A0 D0 c0 e0 ts hs ps w hts hpl h1 h2
  have htn := fun w h => thTurns_any (ps.length : Int) 300 B0 d0 tu w htl h
  have hrows : ∀ {C : Ctx} {w' : World} {S : List Ent}, C.F = [] → C.w0 = w → Mem C w' S → RdRows Ak.enc 3 w' D0 hs ps := fun hF h0 hw =>
    ⟨hw.rd hF (by rw [h0]; exact hD.1), hD.2.1, fun j h1 h2 => ⟨(hD.2.2 j h1 h2).1, (hD.2.2 j h1 h2).2.1, (hD.2.2 j h1 h2).2.2.1, hw.rd hF (by rw [h0]; exact (hD.2.2 j h1 h2).2.2.2)⟩⟩
  have hlen : hs.length = ps.length := hD.2.1
  unfold plT PlayPost
  refine calls_T (S := []) [] Try.func44 rfl Try.ntmps44 (by simp) (Mem.nil _) ?_
  by_cases h0 : pplR ts ps = 0
  · rw [if_neg (by simp [h0])]
    rw [h0] at hck
    by_cases h1 : trnR (ps.length : Int) 300 tu = 0
    · rw [if_neg (by simp [h1])]
      rw [h1] at htn
      obtain ⟨hty, h8, hps⟩ := pplR_ok h0
      obtain ⟨ht3, htu⟩ := trnR_ok h1
      have hrun := fun k hk => runT_ok hty hps htu k hk
      have hrl := fun k => runT_len ts ps tu k
      have hsuc : ∀ k (hk : k < tu.length), runT ts ps tu (k + 1) = stepT ts ps (runT ts ps tu k) tu[k].toNat := fun k hk => by rw [runT, show tu.getD k 0 = tu[k] by simp [hk]]
      have hr0 : runT ts ps tu 0 = th0 ps.length ts.length := rfl
      obtain ⟨hD1, hD2, hD3⟩ := hD
      have ht4 : ts.length ≤ 4 := by
        unfold typesOk at hty
        rw [Bool.and_eq_true] at hty
        have := of_decide_eq_true hty.1
        omega
      rw [← hlen] at htn
      repeat' (first | (refine GO ?_) | (refine GOE ?_; (first | (rintro _ _ ⟨rfl, rfl⟩) | (rintro _ _ ⟨g, rfl, rfl⟩) | (rintro _ _ ⟨A', c', rfl, rfl⟩))) | ((refine GO2 ?_ ?_) <;> intro h <;> (try (repeat (first | with_reducible (replace h := of_decide_eq_true h) | with_reducible (replace h := of_decide_eq_false h) | with_reducible (replace h := bnt h) | with_reducible (replace h := bnf h) | with_reducible (replace h := Int.not_lt.mp h) | with_reducible (replace h := Int.not_le.mp h) | with_reducible (replace h := band_dec h) | with_reducible (replace h := band_decF h) | with_reducible (replace h := bor_dec h) | with_reducible (replace h := bor_decF h)))) <;> (try (exfalso; first | contradiction | omega))) | ((with_reducible (first | apply TD_e2z | apply TD_e3z | apply TL_e | apply TD_e2 | apply TD_e3)); ((with_reducible apply ES_callV (f := 45)); exact rfl; (intro w hw; exact hck w (hw.rd rfl hT) (hrows rfl rfl hw)); exact rfl); (first | exact rfl | exact ⟨rfl, rfl, rfl⟩); (rintro _ _ ⟨rfl, rfl⟩); (try refine ⟨SUB, ?_⟩)) | ((with_reducible (first | apply TD_e2z | apply TD_e3z | apply TL_e | apply TD_e2 | apply TD_e3)); ((with_reducible apply ES_callV (f := 80)); exact rfl; (intro w hw; exact htn w (hw.rd rfl hB)); exact rfl); (first | exact rfl | exact ⟨rfl, rfl, rfl⟩); (rintro _ _ ⟨rfl, rfl⟩); (try refine ⟨SUB, ?_⟩)) | fail)
      obtain ⟨gm, rfl⟩ : ∃ x, x = g := ⟨_, rfl⟩
      refine T_loop (X := Nat × (Option Addr × Nat) × List Hd) (fun x => [(38, .int .i64 (x.1 : Nat)), (37, .int .i64 ts.length), (36, .slice A0 ts.length c0), (11, .pointer (some ⟨gm, 0, none⟩)), (1, .slice D0 hs.length e0), (2, .slice B0 tu.length d0)])
        (fun x => [entBlk gm 189 #[.slice A0 ts.length c0, .slice x.2.1.1 x.2.2.length x.2.1.2, .slice none 0 0, .slice none 0 0, .slice none 0 0, .int .i64 0], entOwn hdEnc 1 22 x.2.1.1 x.2.1.2 x.2.2, entInner intEnc 1 3 x.2.2 ((List.range x.1).map fun t => begL (ts.getD t 0))])
        (fun x => x.1 ≤ ts.length ∧ x.2.2.length = x.1) (fun x => ts.length - x.1) (0, (none, 0), []) ⟨by (try dsimp only); omega, rfl⟩ (by (repeat (first | exact SubE.nil _ | refine SubE.cons rfl ?_))) (fun w' hw => by
          have h1 := (hw.nilInner intEnc 1 3).nilOwn hdEnc 1 22
          show Mem _ w' [entBlk gm 189 #[.slice A0 ts.length c0, .slice none 0 0, .slice none 0 0, .slice none 0 0, .slice none 0 0, .int .i64 0], entOwn hdEnc 1 22 none 0 [], entInner intEnc 1 3 [] []]
          exact h1.sel (by (repeat (first | exact Sel.nil _ | (apply Sel.cons; (repeat (first | with_reducible exact Pick.here _ _ | with_reducible apply Pick.there))))))) ?_
      rintro ⟨k, ⟨AS, cS⟩, hS⟩ ⟨hk, hSl⟩
      dsimp only at hk hSl ⊢
      by_cases hkl : k < ts.length
      · obtain ⟨bT, oT, rfl, _⟩ := RdE.open hT (by omega)
        have hst := fun w => objStart_any ts[k] w
        have hnx : (List.range (k + 1)).map (fun t => begL (ts.getD t 0)) = (List.range k).map (fun t => begL (ts.getD t 0)) ++ [begL ts[k]] := by
          rw [List.range_succ, List.map_append]; simp [hkl]
        generalize begE ts[k] = ee at *
        generalize begL ts[k] = bl at *
        repeat' (first | (refine GO ?_) | (refine GOE ?_; (first | (rintro _ _ ⟨rfl, rfl⟩) | (rintro _ _ ⟨g, rfl, rfl⟩) | (rintro _ _ ⟨A', c', rfl, rfl⟩))) | ((refine GO2 ?_ ?_) <;> intro h <;> (try (repeat (first | with_reducible (replace h := of_decide_eq_true h) | with_reducible (replace h := of_decide_eq_false h) | with_reducible (replace h := bnt h) | with_reducible (replace h := bnf h) | with_reducible (replace h := Int.not_lt.mp h) | with_reducible (replace h := Int.not_le.mp h) | with_reducible (replace h := band_dec h) | with_reducible (replace h := band_decF h) | with_reducible (replace h := bor_dec h) | with_reducible (replace h := bor_decF h)))) <;> (try (exfalso; first | contradiction | omega))) | ((with_reducible (first | apply TD_e2z | apply TD_e3z | apply TL_e | apply TD_e2 | apply TD_e3)); ((with_reducible apply ES_callOwn (f := 91)); exact rfl; (intro w hw; exact hst w); exact rfl); (first | exact rfl | exact ⟨rfl, rfl, rfl⟩); (rintro _ _ ⟨A2, c2, rfl, rfl⟩); (try refine ⟨SUB, ?_⟩)) | ((with_reducible (first | apply TD_e2z | apply TD_e3z | apply TL_e | apply TD_e2 | apply TD_e3)); ((with_reducible apply ES_append1 (enc := hdEnc) (xx := (⟨A2, bl.length, c2⟩ : Hd))); exact rfl; exact rfl; (repeat (first | with_reducible exact List.mem_cons_self | with_reducible apply List.mem_cons_of_mem)); exact rfl; exact fun _ => rfl; exact fun _ => rfl; (intro A' c'; first | ((repeat (first | with_reducible exact Upd.here _ _ _ | with_reducible apply Upd.there)); done) | (repeat (first | exact Upd.here _ _ _ | apply Upd.there))); (omega); decide; exact rfl); (first | exact rfl | exact ⟨rfl, rfl, rfl⟩); (rintro _ _ ⟨A', c', rfl, rfl⟩); (try refine ⟨SUB, ?_⟩)) | fail)
        apply At_rounds (k + 1, (A', c'), hS ++ [⟨A2, bl.length, c2⟩])
        case hE => (repeat (first | exact SubE.nil _ | refine SubE.cons rfl ?_))
        case hS =>
          intro w' hw
          have h1 := Mem.absorb (A := A2) (c := c2) (l := bl) (by repeat (first | exact Pick.here _ _ | apply Pick.there)) (by first | ((repeat (first | with_reducible exact Upd.here _ _ _ | with_reducible apply Upd.there)); done) | (repeat (first | exact Upd.here _ _ _ | apply Upd.there))) hw
          dsimp only
          rw [hnx]
          exact h1.sel (by (repeat (first | exact Sel.nil _ | (apply Sel.cons; (repeat (first | with_reducible exact Pick.here _ _ | with_reducible apply Pick.there))))))
        case hμ => (try dsimp only); omega
        case hp => exact ⟨hkl, by simp [hSl]⟩
      · obtain rfl : k = ts.length := by omega
        rw [stRows_0 ts ps.length, ← hr0]
        repeat' (first | (refine GO ?_) | (refine GOE ?_; (first | (rintro _ _ ⟨rfl, rfl⟩) | (rintro _ _ ⟨g, rfl, rfl⟩) | (rintro _ _ ⟨A', c', rfl, rfl⟩))) | ((refine GO2 ?_ ?_) <;> intro h <;> (try (repeat (first | with_reducible (replace h := of_decide_eq_true h) | with_reducible (replace h := of_decide_eq_false h) | with_reducible (replace h := bnt h) | with_reducible (replace h := bnf h) | with_reducible (replace h := Int.not_lt.mp h) | with_reducible (replace h := Int.not_le.mp h) | with_reducible (replace h := band_dec h) | with_reducible (replace h := band_decF h) | with_reducible (replace h := bor_dec h) | with_reducible (replace h := bor_decF h)))) <;> (try (exfalso; first | contradiction | omega))) | fail)
        refine T_loop (X := Nat × (Option Addr × Nat)) (fun x => [(60, .int .i64 (x.1 : Nat)), (59, .int .i64 hs.length), (58, .slice D0 hs.length e0), (11, .pointer (some ⟨gm, 0, none⟩)), (2, .slice B0 tu.length d0)])
          (fun x => [entBlk gm 189 #[.slice A0 ts.length c0, .slice AS hS.length cS, .slice x.2.1 ((hs.take x.1).map tp0).length x.2.2, .slice none 0 0, .slice none 0 0, .int .i64 0], entOwn hdEnc 1 22 AS cS hS, entInner intEnc 1 3 hS (stRows ts (runT ts ps tu 0).dn), entOwn Tp.enc 6 192 x.2.1 x.2.2 ((hs.take x.1).map tp0)])
          (fun x => x.1 ≤ hs.length) (fun x => hs.length - x.1) (0, (none, 0)) (by (try dsimp only); omega) (by (repeat (first | exact SubE.nil _ | refine SubE.cons rfl ?_))) (fun w' hw => by
            have h1 := hw.nilOwn Tp.enc 6 192
            show Mem _ w' [entBlk gm 189 #[.slice A0 ts.length c0, .slice AS hS.length cS, .slice none 0 0, .slice none 0 0, .slice none 0 0, .int .i64 0], _, _, entOwn Tp.enc 6 192 none 0 []]
            exact h1.sel (by (repeat (first | exact Sel.nil _ | (apply Sel.cons; (repeat (first | with_reducible exact Pick.here _ _ | with_reducible apply Pick.there))))))) ?_
        rintro ⟨k, ⟨AP, cP⟩⟩ hk
        dsimp only at hk ⊢
        by_cases hkl : k < hs.length
        · obtain ⟨bD, oD, rfl, _⟩ := RdE.open hD1 (by omega)
          have hnx : (hs.take (k + 1)).map tp0 = (hs.take k).map tp0 ++ [tp0 hs[k]] := by
            rw [List.take_add_one, List.map_append]; simp [hkl]
          have hll : ((hs.take k).map tp0).length ≤ 8 := by simp; omega
          generalize (hs.take k).map tp0 = O at *
          repeat' (first | (refine GO ?_) | (refine GOE ?_; (first | (rintro _ _ ⟨rfl, rfl⟩) | (rintro _ _ ⟨g, rfl, rfl⟩) | (rintro _ _ ⟨A', c', rfl, rfl⟩))) | ((refine GO2 ?_ ?_) <;> intro h <;> (try (repeat (first | with_reducible (replace h := of_decide_eq_true h) | with_reducible (replace h := of_decide_eq_false h) | with_reducible (replace h := bnt h) | with_reducible (replace h := bnf h) | with_reducible (replace h := Int.not_lt.mp h) | with_reducible (replace h := Int.not_le.mp h) | with_reducible (replace h := band_dec h) | with_reducible (replace h := band_decF h) | with_reducible (replace h := bor_dec h) | with_reducible (replace h := bor_decF h)))) <;> (try (exfalso; first | contradiction | omega))) | ((with_reducible (first | apply TD_e2z | apply TD_e3z | apply TL_e | apply TD_e2 | apply TD_e3)); ((with_reducible apply ES_append1 (enc := Tp.enc) (xx := (tp0 hs[k]))); exact rfl; exact rfl; (repeat (first | with_reducible exact List.mem_cons_self | with_reducible apply List.mem_cons_of_mem)); exact rfl; exact fun _ => rfl; exact fun _ => rfl; (intro A' c'; first | ((repeat (first | with_reducible exact Upd.here _ _ _ | with_reducible apply Upd.there)); done) | (repeat (first | exact Upd.here _ _ _ | apply Upd.there))); (omega); decide; exact rfl); (first | exact rfl | exact ⟨rfl, rfl, rfl⟩); (rintro _ _ ⟨A', c', rfl, rfl⟩); (try refine ⟨SUB, ?_⟩)) | fail)
          apply At_rounds (k + 1, (A', c'))
          case hE => (repeat (first | exact SubE.nil _ | refine SubE.cons rfl ?_))
          case hS =>
            intro w' hw
            dsimp only
            rw [hnx]
            exact hw.sel (by (repeat (first | exact Sel.nil _ | (apply Sel.cons; (repeat (first | with_reducible exact Pick.here _ _ | with_reducible apply Pick.there))))))
          case hμ => (try dsimp only); omega
          case hp => exact hkl
        · obtain rfl : k = hs.length := by omega
          rw [List.take_length]
          repeat' (first | (refine GO ?_) | (refine GOE ?_; (first | (rintro _ _ ⟨rfl, rfl⟩) | (rintro _ _ ⟨g, rfl, rfl⟩) | (rintro _ _ ⟨A', c', rfl, rfl⟩))) | ((refine GO2 ?_ ?_) <;> intro h <;> (try (repeat (first | with_reducible (replace h := of_decide_eq_true h) | with_reducible (replace h := of_decide_eq_false h) | with_reducible (replace h := bnt h) | with_reducible (replace h := bnf h) | with_reducible (replace h := Int.not_lt.mp h) | with_reducible (replace h := Int.not_le.mp h) | with_reducible (replace h := band_dec h) | with_reducible (replace h := band_decF h) | with_reducible (replace h := bor_dec h) | with_reducible (replace h := bor_decF h)))) <;> (try (exfalso; first | contradiction | omega))) | fail)
          have hp0 := PlOk0 (ts := ts) (hS := hS) (⟨hD1, hD2, hD3⟩ : RdRows Ak.enc 3 w D0 hs ps) hSl
          rw [← hr0] at hp0
          refine T_loop (X := Nat × List Hd × List Tp × ((Option Addr × Nat) × (Option Addr × Nat))) (fun x => [(78, .int .i64 (x.1 : Nat)), (77, .int .i64 tu.length), (76, .slice B0 tu.length d0), (11, .pointer (some ⟨gm, 0, none⟩))])
            (fun x => machT ⟨gm, A0, ts.length, c0, AS, cS, AP, cP⟩ (stRows ts (runT ts ps tu x.1).dn) (runT ts ps tu x.1).evs (runT ts ps tu x.1).sts (runT ts ps tu x.1).calls x.2.1 x.2.2.1 x.2.2.2)
            (fun x => x.1 ≤ tu.length ∧ PlOk ts ps w (runT ts ps tu x.1) x.2.1 x.2.2.1) (fun x => tu.length - x.1) (0, hS, hs.map tp0, (none, 0), (none, 0)) ⟨by (try dsimp only); omega, hp0⟩ (by (repeat (first | exact SubE.nil _ | refine SubE.cons rfl ?_))) (fun w' hw => by
              have h1 := (hw.nilOwn Stp.enc 2 39).nilOwn Ev.enc 4 86
              dsimp only [machT]
              rw [show (runT ts ps tu 0).evs = [] from rfl, show (runT ts ps tu 0).sts = [] from rfl, show (runT ts ps tu 0).calls = 0 from rfl]
              show Mem _ w' [entBlk gm 189 #[.slice A0 ts.length c0, .slice AS hS.length cS, .slice AP (hs.map tp0).length cP, .slice none 0 0, .slice none 0 0, .int .i64 0], _, _, _, _, _]
              exact h1.sel (by (repeat (first | exact Sel.nil _ | (apply Sel.cons; (repeat (first | with_reducible exact Pick.here _ _ | with_reducible apply Pick.there))))))) ?_
          rintro ⟨k, hS, pr, x⟩ ⟨hk, hplk⟩
          dsimp only at hk hplk
          have hokk := hrun k hk
          have hrlk := hrl k
          by_cases hkl : k < tu.length
          · obtain ⟨bB, oB, rfl, _⟩ := RdE.open hB (by omega)
            have hz := htu k hkl
            have hzz : ((tu[k].toNat : Nat) : Int) = tu[k] := by omega
            have hsk := hsuc k hkl
            have hturn := fun (C : Ctx) (R' : List Ent) (W : World) (hw : Mem C W (machT ⟨gm, A0, ts.length, c0, AS, cS, AP, cP⟩ (stRows ts (runT ts ps tu k).dn) (runT ts ps tu k).evs (runT ts ps tu k).sts (runT ts ps tu k).calls hS pr x ++ R')) (h1 : C.F = []) (h2 : C.w0 = w) =>
              (show Calls Try.prog 92 #[.pointer (some ⟨gm, 0, none⟩), .int .i64 tu[k]] W (TurnPost ⟨gm, A0, ts.length, c0, AS, cS, AP, cP⟩ ts ps w (runT ts ps tu k) (runT ts ps tu (k + 1)) hS pr x W) by
                have h3 := turnT_any ⟨gm, A0, ts.length, c0, AS, cS, AP, cP⟩ ts ps (runT ts ps tu k) hS pr x tu[k].toNat hw h1 (by rw [h2]; exact hT) rfl (by rw [h2]; exact hplk) hokk hps (by omega) (by omega) (by omega) (by omega)
                rw [hzz, h2, ← hsk] at h3
                exact h3)
            clear hplk hokk hrl hrun hsuc hsk hp0
            unfold TurnPost at hturn
            obtain ⟨s', hs'⟩ : ∃ s', runT ts ps tu (k + 1) = s' := ⟨_, rfl⟩
            rw [hs'] at hturn
            dsimp only
            repeat' (first | (refine GO ?_) | (refine GOE ?_; (first | (rintro _ _ ⟨rfl, rfl⟩) | (rintro _ _ ⟨g, rfl, rfl⟩) | (rintro _ _ ⟨A', c', rfl, rfl⟩))) | ((refine GO2 ?_ ?_) <;> intro h <;> (try (repeat (first | with_reducible (replace h := of_decide_eq_true h) | with_reducible (replace h := of_decide_eq_false h) | with_reducible (replace h := bnt h) | with_reducible (replace h := bnf h) | with_reducible (replace h := Int.not_lt.mp h) | with_reducible (replace h := Int.not_le.mp h) | with_reducible (replace h := band_dec h) | with_reducible (replace h := band_decF h) | with_reducible (replace h := bor_dec h) | with_reducible (replace h := bor_decF h)))) <;> (try (exfalso; first | contradiction | omega))) | fail)
            refine TL_e (ES_callX (f := 92) (X := {y : List Hd × List Tp × ((Option Addr × Nat) × (Option Addr × Nat)) // PlOk ts ps w s' y.1 y.2.1}) (S1 := machT ⟨gm, A0, ts.length, c0, AS, cS, AP, cP⟩ (stRows ts (runT ts ps tu k).dn) (runT ts ps tu k).evs (runT ts ps tu k).sts (runT ts ps tu k).calls hS pr x)
              (fun _ => .tuple #[]) (fun y => machT ⟨gm, A0, ts.length, c0, AS, cS, AP, cP⟩ (stRows ts s'.dn) s'.evs s'.sts s'.calls y.1.1 y.1.2.1 y.1.2.2) rfl (by dsimp only [machT]; (repeat (first | exact Pull.nil _ | (apply Pull.cons; (repeat (first | with_reducible exact Pick.here _ _ | with_reducible apply Pick.there)))))) (fun y => by dsimp only [machT]; repeat (first | exact AppL.nil _ | apply AppL.cons))
              (fun w' hw => hturn _ _ w' hw rfl rfl) rfl) rfl ?_
            rintro _ _ ⟨⟨⟨hS2, pr2, x2⟩, hpl2⟩, rfl, rfl⟩
            dsimp only at hpl2 ⊢
            repeat' (first | (refine GO ?_) | (refine GOE ?_; (first | (rintro _ _ ⟨rfl, rfl⟩) | (rintro _ _ ⟨g, rfl, rfl⟩) | (rintro _ _ ⟨A', c', rfl, rfl⟩))) | ((refine GO2 ?_ ?_) <;> intro h <;> (try (repeat (first | with_reducible (replace h := of_decide_eq_true h) | with_reducible (replace h := of_decide_eq_false h) | with_reducible (replace h := bnt h) | with_reducible (replace h := bnf h) | with_reducible (replace h := Int.not_lt.mp h) | with_reducible (replace h := Int.not_le.mp h) | with_reducible (replace h := band_dec h) | with_reducible (replace h := band_decF h) | with_reducible (replace h := bor_dec h) | with_reducible (replace h := bor_decF h)))) <;> (try (exfalso; first | contradiction | omega))) | fail)
            apply At_rounds (k + 1, hS2, pr2, x2)
            case hE => (repeat (first | exact SubE.nil _ | refine SubE.cons rfl ?_))
            case hS =>
              intro w' hw
              dsimp only [machT]
              rw [hs']
              exact hw.sel (by (repeat (first | exact Sel.nil _ | (apply Sel.cons; (repeat (first | with_reducible exact Pick.here _ _ | with_reducible apply Pick.there))))))
            case hμ => (try dsimp only); omega
            case hp => exact ⟨hkl, by dsimp only; rw [hs']; exact hpl2⟩
          · obtain rfl : k = tu.length := by omega
            dsimp only [machT]
            repeat' (first | (refine GG ?_) | (refine GE ?_; (first | (rintro _ _ ⟨rfl, rfl⟩) | (rintro _ _ ⟨g, rfl, rfl⟩) | (rintro _ _ ⟨A', c', rfl, rfl⟩)); (try refine ⟨SUB, ?_⟩)) | ((refine GO2 ?_ ?_) <;> intro h <;> (try (repeat (first | with_reducible (replace h := of_decide_eq_true h) | with_reducible (replace h := of_decide_eq_false h) | with_reducible (replace h := bnt h) | with_reducible (replace h := bnf h) | with_reducible (replace h := Int.not_lt.mp h) | with_reducible (replace h := Int.not_le.mp h) | with_reducible (replace h := band_dec h) | with_reducible (replace h := band_decF h) | with_reducible (replace h := bor_dec h) | with_reducible (replace h := bor_decF h)))) <;> (try (exfalso; first | contradiction | omega))) | (refine GOF ?_ ?_) | ((with_reducible apply T_draw (id := 24) 1000 (OT.seq [(0, 0), (0, 1), (0, 2), (0, 4), (0, 5), (0, 6), (1, 3), (0, 8), (1, 7), (0, 9), (0, 10)] .nil)); kernel_rfl; exact rfl; kernel_rfl; (repeat (first | with_reducible exact Blind.body | with_reducible apply Blind.seq | with_reducible apply Blind.block))) | fail)
            (refine At_ret Try.results44 rfl (fun w' hw => ?_))
            exact ⟨x, rfl, (hw.anyN 0).sel (by (repeat (first | exact Sel.nil _ | (apply Sel.cons; (repeat (first | with_reducible exact Pick.here _ _ | with_reducible apply Pick.there))))))⟩
    · rw [if_pos (by simp [h1])]
      rw [← hlen] at htn h1 ⊢
      generalize trnR (hs.length : Int) 300 tu = Z at *
      repeat' (first | (refine GO ?_) | (refine GOE ?_; (first | (rintro _ _ ⟨rfl, rfl⟩) | (rintro _ _ ⟨g, rfl, rfl⟩) | (rintro _ _ ⟨A', c', rfl, rfl⟩))) | ((refine GO2 ?_ ?_) <;> intro h <;> (try (repeat (first | with_reducible (replace h := of_decide_eq_true h) | with_reducible (replace h := of_decide_eq_false h) | with_reducible (replace h := bnt h) | with_reducible (replace h := bnf h) | with_reducible (replace h := Int.not_lt.mp h) | with_reducible (replace h := Int.not_le.mp h) | with_reducible (replace h := band_dec h) | with_reducible (replace h := band_decF h) | with_reducible (replace h := bor_dec h) | with_reducible (replace h := bor_decF h)))) <;> (try (exfalso; first | contradiction | omega))) | ((with_reducible (first | apply TD_e2z | apply TD_e3z | apply TL_e | apply TD_e2 | apply TD_e3)); ((with_reducible apply ES_callV (f := 45)); exact rfl; (intro w hw; exact hck w (hw.rd rfl hT) (hrows rfl rfl hw)); exact rfl); (first | exact rfl | exact ⟨rfl, rfl, rfl⟩); (rintro _ _ ⟨rfl, rfl⟩); (try refine ⟨SUB, ?_⟩)) | ((with_reducible (first | apply TD_e2z | apply TD_e3z | apply TL_e | apply TD_e2 | apply TD_e3)); ((with_reducible apply ES_callV (f := 80)); exact rfl; (intro w hw; exact htn w (hw.rd rfl hB)); exact rfl); (first | exact rfl | exact ⟨rfl, rfl, rfl⟩); (rintro _ _ ⟨rfl, rfl⟩); (try refine ⟨SUB, ?_⟩)) | fail)
      all_goals first | (exfalso; omega) | skip
      (refine At_ret Try.results44 rfl (fun w' hw => ?_))
      exact ⟨((none, 0), (none, 0)), rfl, ((hw.sub (List.nil_sublist _)).anyN 0 |>.nilOwn Stp.enc 2 39).nilOwn Ev.enc 4 86⟩
  · rw [if_pos h0]
    generalize pplR ts ps = Z at *
    repeat' (first | (refine GO ?_) | (refine GOE ?_; (first | (rintro _ _ ⟨rfl, rfl⟩) | (rintro _ _ ⟨g, rfl, rfl⟩) | (rintro _ _ ⟨A', c', rfl, rfl⟩))) | ((refine GO2 ?_ ?_) <;> intro h <;> (try (repeat (first | with_reducible (replace h := of_decide_eq_true h) | with_reducible (replace h := of_decide_eq_false h) | with_reducible (replace h := bnt h) | with_reducible (replace h := bnf h) | with_reducible (replace h := Int.not_lt.mp h) | with_reducible (replace h := Int.not_le.mp h) | with_reducible (replace h := band_dec h) | with_reducible (replace h := band_decF h) | with_reducible (replace h := bor_dec h) | with_reducible (replace h := bor_decF h)))) <;> (try (exfalso; first | contradiction | omega))) | ((with_reducible (first | apply TD_e2z | apply TD_e3z | apply TL_e | apply TD_e2 | apply TD_e3)); ((with_reducible apply ES_callV (f := 45)); exact rfl; (intro w hw; exact hck w (hw.rd rfl hT) (hrows rfl rfl hw)); exact rfl); (first | exact rfl | exact ⟨rfl, rfl, rfl⟩); (rintro _ _ ⟨rfl, rfl⟩); (try refine ⟨SUB, ?_⟩)) | fail)
    all_goals first | (exfalso; omega) | skip
    (refine At_ret Try.results44 rfl (fun w' hw => ?_))
    exact ⟨((none, 0), (none, 0)), rfl, ((hw.sub (List.nil_sublist _)).anyN 0 |>.nilOwn Stp.enc 2 39).nilOwn Ev.enc 4 86⟩
end
end Go.Proofs.Ytbhjljnbjomnhaa
