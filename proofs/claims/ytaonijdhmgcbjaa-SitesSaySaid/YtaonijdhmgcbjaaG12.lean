/- Lemmas for the walks (SvH, SvI, Th2). No condition. -/
import Derived.Test.YtaonijdhmgcbjaaG09
import Derived.Test.YtaonijdhmgcbjaaG10
import Derived.Test.YtaonijdhmgcbjaaG11
import Derived.Test.YtaonijdhmgcbjaaG06
import Derived.Test.YtaonijdhmgcbjaaG05
set_option linter.unusedSimpArgs false
set_option linter.unusedVariables false
set_option linter.unusedSectionVars false
set_option linter.unnecessarySimpa false
namespace Go.Proofs.Ytaonijdhmgcbjaa
open Go.RowKit
set_option linter.unusedSectionVars false

structure QOk (w0 : World) (row : List Ak) (q : Fq) (p : Pc) : Prop where
  n : q.hd.n = (row.drop p.next).length
  le : q.hd.n ≤ q.hd.c
  rd : RdE Ak.enc 3 w0 q.hd.a (row.drop p.next)
  eq : q = fq q.hd p
structure PvsOk (ps : List (List Ak)) (w0 : World) (c : Cv) (pr : List Fq) : Prop where
  lp : pr.length = c.pe.length
  each : ∀ i (h : i < pr.length) (h2 : i < c.pe.length), QOk w0 (ps.getD i []) pr[i] c.pe[i]
/-- how large it all is -/
structure CB (n : Nat) (ps : List (List Ak)) (c : Cv) : Prop where
  n5 : n ≤ 5
  at_ : c.at_.length = n
  pel : c.pe.length = ps.length
  ml : c.ml.length ≤ 5000
  evs : c.evs.length ≤ 1000
  rd : ∀ w, w < ps.length → (c.p w).rd ≤ 1000
  rep : ∀ w, w < ps.length → (c.p w).pend = true → (c.p w).rep ≤ 5
  bs : ∀ w, w < ps.length → (c.p w).pend = true → -1 ≤ (c.p w).best.s ∧ (c.p w).best.s ≤ 1000
  nx : ∀ w, w < ps.length → (c.p w).pend = true → (c.p w).next < (ps.getD w []).length
  le : ∀ i, i < c.ml.length → (c.le i).who < ps.length ∧ (c.le i).site < n
  lt : ∀ i, i < c.ml.length → -1 ≤ (c.le i).tg.s ∧ (c.le i).tg.s ≤ 1000
theorem CB_of {n K : Nat} {ps : List (List Ak)} {s : Sv} {c : Cv} (hn : n ≤ 5) (hs : SvOk n ps K s) (h : CvOk n ps s c) (hK : K ≤ 1000) : CB n ps c := by
  have h1 := hs.lt
  have h2 := hs.le
  refine ⟨hn, by rw [h.at_]; exact hs.at_, h.pel, ?_, by rw [h.evs]; omega, fun w hw => ?_, fun w hw hp => ?_, fun w hw hp => ?_, fun w hw hp => ?_, fun i hi => ?_, fun i hi => ?_⟩
  · rw [h.ml, hs.lm]
    have : s.tr.length * n ≤ 1000 * 5 := Nat.mul_le_mul (by omega) hn
    omega
  · have := hs.rd w hw
    rw [(h.pe w hw).rd]; omega
  · have hp0 := h.pe w hw
    have hz : (s.p w).trip ≠ 0 := by rw [hp0.pend] at hp; simpa using hp
    obtain ⟨_, p1, _⟩ := (hs.pr w hw).2 hz
    rw [hp0.rep hz, hs.le_trip (by omega)]
    have := cntP_le (fun j => decide ((s.le (((s.p w).trip - 1) * n + j)).st = 2)) n
    omega
  · have hp0 := h.pe w hw
    have hz : (s.p w).trip ≠ 0 := by rw [hp0.pend] at hp; simpa using hp
    obtain ⟨_, p1, _⟩ := (hs.pr w hw).2 hz
    by_cases hput : (s.tp ((s.p w).trip - 1)).put = true
    · rw [hp0.tag hz hput]
      have := hs.cr _ (.inr ⟨(s.p w).trip - 1, by omega, rfl⟩)
      omega
    · rw [hp0.best hz (by simpa using hput)]
      split
      · exact ⟨by show (-1 : Int) ≤ -1; omega, by show (-1 : Int) ≤ 1000; omega⟩
      · have := hs.cr _ (most_circ hs ((s.p w).trip - 1))
        omega
  · have hp0 := h.pe w hw
    have hz : (s.p w).trip ≠ 0 := by rw [hp0.pend] at hp; simpa using hp
    rw [hp0.next]
    exact ((hs.pr w hw).2 hz).1
  · rw [h.ml] at hi
    rw [h.le i hi]
    exact ⟨(hs.tw _ (hs.tripLt hi)).1, hs.siteLt hi⟩
  · rw [h.ml] at hi
    rw [h.le i hi]
    show -1 ≤ (if (s.tp (s.le i).trip).put = true then (s.tp (s.le i).trip).tag else (s.le i).got).s ∧ (if (s.tp (s.le i).trip).put = true then (s.tp (s.le i).trip).tag else (s.le i).got).s ≤ 1000
    split
    · have := hs.cr _ (.inr ⟨_, hs.tripLt hi, rfl⟩)
      omega
    · have := hs.cr _ (hs.cg i hi)
      omega
def AcPost (a : NLc) (fast : Bool) (ps : List (List Ak)) (w0 : World) (c c' : Cv) (pr : List Fq) (y x : Option Addr × Nat) (W : World) (e : Ending) (W' : World) : Prop :=
  ∃ z : {z : List Fq × (Option Addr × Nat) × (Option Addr × Nat) // PvsOk ps w0 c' z.1}, e = .returned (.tuple #[]) ∧ Mem ⟨0, blks (netV a fast c.at_ pr (c.ml.map fl) c.evs y x), W⟩ W' (netV a fast c'.at_ z.1.1 (c'.ml.map fl) c'.evs z.1.2.1 z.1.2.2)
theorem PvsOk.set {ps : List (List Ak)} {w0 : World} {c c' : Cv} {pr : List Fq} {k : Nat} {q : Fq} {p : Pc} (h : PvsOk ps w0 c pr) (hs : c'.pe = c.pe.set k p) (hq : QOk w0 (ps.getD k []) q p) : PvsOk ps w0 c' (pr.set k q) := by
  refine ⟨by simp [hs, h.lp], fun i h1 h2 => ?_⟩
  have h3 : i < pr.length := by simpa using h1
  have h4 : i < c.pe.length := by rw [← h.lp]; exact h3
  simp only [hs, List.getElem_set]
  split
  · rename_i e; subst e; exact hq
  · exact h.each i h3 h4
theorem PvsOk.same {ps : List (List Ak)} {w0 : World} {c c' : Cv} {pr : List Fq} (h : PvsOk ps w0 c pr) (hs : c'.pe = c.pe) : PvsOk ps w0 c' pr :=
  ⟨by rw [hs]; exact h.lp, fun i h1 h2 => by
    have := h.each i h1 (by rw [← hs]; exact h2)
    simpa [hs] using this⟩
theorem newLc_fl (n w r : Nat) (put : Bool) (t : Tg) : (newLc n w r put t).map fl = newF (w : Nat) (r : Nat) put t n := by
  unfold newLc newF
  rw [List.map_map]
  rfl
theorem drop0 {α : Type} [Inhabited α] (l : List α) (q : Nat) (h : q < l.length) (h2 : 0 < (l.drop q).length) : (l.drop q)[0] = l.getD q default := by simp [h]
theorem fq_start (hd : Hd) (p : Pc) (put : Bool) (t : Tg) : (⟨hd, p.pend, ((p.rd : Nat) : Int) + 1, put, 0, if put = true then t.s else -1, if put = true then t.w else -1, if put = true then t.v else 0⟩ : Fq) = fq hd { p with rd := p.rd + 1, put := put, rep := 0, best := if put = true then t else tn1 } := by
  cases put <;> rfl
theorem fq_resp (hd : Hd) (p : Pc) : (⟨hd, false, ((p.rd : Nat) : Int) + 1, p.put, ((p.rep : Nat) : Int), p.best.s, p.best.w, p.best.v⟩ : Fq) = fq hd { p with next := p.next + 1, pend := false, rd := p.rd + 1 } := rfl
theorem start_ml {n k : Nat} {c : Cv} {put : Bool} {t : Tg} : (startC n c k put t).ml.map fl = c.ml.map fl ++ newF (k : Nat) (((c.p k).rd : Nat) + 1) put t n := by
  show (c.ml ++ newLc n k ((c.p k).rd + 1) put t).map fl = _
  rw [List.map_append, newLc_fl]; rfl
/-- one question less -/
theorem row_less {w0 : World} {ps : List (List Ak)} {k nx b o qc : Nat} (hlt : nx < (ps.getD k []).length) (hle : ((ps.getD k []).drop nx).length ≤ qc) (hr : RdE Ak.enc 3 w0 (some ⟨b, o, none⟩) ((ps.getD k []).drop nx)) : (hd1 b o ((ps.getD k []).drop nx).length qc).n = ((ps.getD k []).drop (nx + 1)).length ∧ (hd1 b o ((ps.getD k []).drop nx).length qc).n ≤ (hd1 b o ((ps.getD k []).drop nx).length qc).c ∧ RdE Ak.enc 3 w0 (hd1 b o ((ps.getD k []).drop nx).length qc).a ((ps.getD k []).drop (nx + 1)) := by
  refine ⟨by simp only [List.length_drop]; omega, by show _ - 1 ≤ qc - 1; omega, ?_⟩
  by_cases hz : ((ps.getD k []).drop (nx + 1)).length = 0
  · rw [List.length_eq_zero_iff] at hz
    rw [hz]
    exact fun i x h => by simp at h
  · have h5 := hr.drop 1
    rw [List.drop_drop] at h5
    have hc1 : qc ≠ 1 := by
      simp only [List.length_drop] at hz hle
      omega
    show RdE Ak.enc 3 w0 (some ⟨b, if qc = 1 then o else o + 1 * 3, none⟩) _
    rw [if_neg hc1]
    exact h5
section
variable (a : NLc) (fast : Bool) (n : Nat) (ps : List (List Ak)) (c : Cv) (pr : List Fq) (y x : Option Addr × Nat) {C : Ctx} {W : World} {R : List Ent}
  (hw : Mem C W (netV a fast c.at_ pr (c.ml.map fl) c.evs y x ++ R)) (hF : C.F = []) (hpl : PvsOk ps C.w0 c pr) (hB : CB n ps c)
include hw hF hpl hB
/-- a process, laid open -/
theorem pvs_at {k : Nat} (hk : k < ps.length) : ∃ h1 : k < pr.length, QOk C.w0 (ps.getD k []) pr[k] (c.p k) := by
  have h2 : k < c.pe.length := by rw [hB.pel]; exact hk
  have h1 : k < pr.length := by rw [hpl.lp]; exact h2
  refine ⟨h1, ?_⟩
  have := hpl.each k h1 h2
  have e : c.p k = c.pe[k] := by unfold Cv.p; simp [h2]
  rw [e]; exact this
theorem callC_any {k : Nat} (hk : k < ps.length) : Calls Try.prog 27 #[.pointer (some ⟨a.m, 0, none⟩), .int .i64 (k : Nat)] W (AcPost a fast ps C.w0 c (callC n ps c k) pr y x W) := by
  obtain ⟨hk1, hq⟩ := pvs_at a fast n ps c pr y x hw hF hpl hB hk
  have hk2 : k < c.pe.length := by rw [hB.pel]; exact hk
  have h0 := hw.self 0
  have h1 : Mem ⟨0, blks (netV a fast c.at_ pr (c.ml.map fl) c.evs y x), W⟩ W ([netB a fast c.at_.length pr.length (c.ml.map fl).length c.evs.length y x, entOwn Fq.enc 8 84 (some ⟨a.gP, 0, none⟩) a.cP pr, entOwn Fl.enc 9 134 y.1 y.2 (c.ml.map fl), entOwn Ev.enc 4 34 x.1 x.2 c.evs] ++ [entOwn Si.enc 4 37 (some ⟨a.gS, 0, none⟩) a.cS c.at_]) := h0.sel (by dsimp only [netV, List.cons_append, List.nil_append]; (repeat (first | exact Sel.nil _ | (apply Sel.cons; (repeat (first | with_reducible exact Pick.here _ _ | with_reducible apply Pick.there))))))
  have h1' : Mem C W ([netB a fast c.at_.length pr.length (c.ml.map fl).length c.evs.length y x, entOwn Fq.enc 8 84 (some ⟨a.gP, 0, none⟩) a.cP pr, entOwn Fl.enc 9 134 y.1 y.2 (c.ml.map fl), entOwn Ev.enc 4 34 x.1 x.2 c.evs] ++ ([entOwn Si.enc 4 37 (some ⟨a.gS, 0, none⟩) a.cS c.at_])) := (show Mem C W (netV a fast c.at_ pr (c.ml.map fl) c.evs y x ++ R) from hw).sub (List.sublist_append_left _ _) |>.sel (by dsimp only [netV, List.cons_append, List.nil_append]; (repeat (first | exact Sel.nil _ | (apply Sel.cons; (repeat (first | with_reducible exact Pick.here _ _ | with_reducible apply Pick.there))))))
  obtain ⟨qn, qle, qrd, qe⟩ := hq
  obtain ⟨⟨⟨qA, qm, qc⟩, pd, rd, pu, rp, bs, bw, bv⟩, hpq⟩ : ∃ q, pr[k] = q := ⟨_, rfl⟩
  rw [hpq] at qn qle qrd qe
  dsimp only at qn qle qrd qe
  have hrd := hB.rd k hk
  have hn5 := hB.n5
  have hml := hB.ml
  have hev := hB.evs
  have e1 : pd = (c.p k).pend := congrArg Fq.pend qe
  have e2 : rd = ((c.p k).rd : Nat) := congrArg Fq.rd qe
  unfold AcPost callC
  by_cases hid : (c.p k).pend = true ∨ (ps.getD k []).length ≤ (c.p k).next
  · rw [if_pos hid]
    refine (call_idle a fast c.at_.length x pr (c.ml.map fl) c.evs y k 0 W hk1 (h1.self 0) qA qm qc pd rd pu rp bs bw bv hpq (by
      rcases hid with e | e
      · exact .inl (by rw [e1]; exact e)
      · exact .inr (by rw [qn, List.length_drop]; omega))).mono fun e W' ⟨g1, g2⟩ => ?_
    exact ⟨⟨(pr, y, x), hpl⟩, g1, (h1.frame g2).sel (by dsimp only [netV, List.cons_append, List.nil_append]; (repeat (first | exact Sel.nil _ | (apply Sel.cons; (repeat (first | with_reducible exact Pick.here _ _ | with_reducible apply Pick.there))))))⟩
  rw [if_neg hid]
  have hlt : (c.p k).next < (ps.getD k []).length := by omega
  have hpf : (c.p k).pend = false := by simpa using fun e => hid (.inl e)
  have hrow : 0 < ((ps.getD k []).drop (c.p k).next).length := by rw [List.length_drop]; omega
  obtain ⟨b, o, rfl, hb⟩ := RdE.open qrd hrow
  have hbF := h1'.newBlkF (by rw [hF]; simp) hb
  have hd0 : ((ps.getD k []).drop (c.p k).next)[0] = (ps.getD k []).getD (c.p k).next default := drop0 _ _ hlt _
  have qrdW := hw.rd hF qrd
  subst qn
  rw [hpf] at e1
  subst e1
  refine (call_go a fast c.at_.length x pr (c.ml.map fl) c.evs y k 0 W hk1 (h1.self 0) ((ps.getD k []).drop (c.p k).next) b o qc rd pu rp bs bw bv hpq qrdW hrow (by omega) (by omega) (by rw [hB.at_]; exact hn5) (by rw [List.length_map]; omega) (by omega) hbF).mono fun e W' ⟨z, g1, g2⟩ => ?_
  rw [hd0, hB.at_] at g2
  have hp1 : Cv.p { c with pe := c.pe.set k { c.p k with pend := true }, evs := c.evs ++ [⟨(k : Nat), 0, ((ps.getD k []).getD (c.p k).next default).kind, ((ps.getD k []).getD (c.p k).next default).arg⟩] } k = { c.p k with pend := true } := getD_set_eq hk2
  have hml2 := start_ml (n := n) (k := k) (c := { c with pe := c.pe.set k { c.p k with pend := true }, evs := c.evs ++ [⟨(k : Nat), 0, ((ps.getD k []).getD (c.p k).next default).kind, ((ps.getD k []).getD (c.p k).next default).arg⟩] }) (put := false) (t := t0)
  rw [hp1] at hml2
  subst e2
  refine ⟨⟨(prS k ((c.p k).rd : Nat) false t0 pr (some ⟨b, o, none⟩) ((ps.getD k []).drop (c.p k).next).length qc true, z.1, z.2), hpl.set (p := { c.p k with pend := true, rd := (c.p k).rd + 1, put := false, rep := 0, best := tn1 }) ?_ ?_⟩, g1, ?_⟩
  · show (c.pe.set k _).set k _ = _
    rw [List.set_set, hp1]; rfl
  · exact ⟨rfl, qle, qrd, fq_start _ { c.p k with pend := true } false t0⟩
  · dsimp only
    rw [hml2]
    have h2 := h1.frame g2
    show Mem _ W' (netV a fast c.at_ _ _ (c.evs ++ [_]) _ _)
    unfold netV
    rw [hB.at_]
    exact h2.sel (by dsimp only [List.cons_append, List.nil_append]; (repeat (first | exact Sel.nil _ | (apply Sel.cons; (repeat (first | with_reducible exact Pick.here _ _ | with_reducible apply Pick.there))))))
theorem handC_any {i : Nat} (hi : i < c.ml.length) : Calls Try.prog 28 #[.pointer (some ⟨a.m, 0, none⟩), .int .i64 (i : Nat)] W (AcPost a fast ps C.w0 c (handC c i) pr y x W) := by
  have h0 := hw.self 0
  have h1 : Mem ⟨0, blks (netV a fast c.at_ pr (c.ml.map fl) c.evs y x), W⟩ W ([netB a fast c.at_.length pr.length (c.ml.map fl).length c.evs.length y x, entOwn Si.enc 4 37 (some ⟨a.gS, 0, none⟩) a.cS c.at_, entOwn Fl.enc 9 134 y.1 y.2 (c.ml.map fl)] ++ [entOwn Fq.enc 8 84 (some ⟨a.gP, 0, none⟩) a.cP pr, entOwn Ev.enc 4 34 x.1 x.2 c.evs]) := h0.sel (by dsimp only [netV, List.cons_append, List.nil_append]; (repeat (first | exact Sel.nil _ | (apply Sel.cons; (repeat (first | with_reducible exact Pick.here _ _ | with_reducible apply Pick.there))))))
  have hi2 : i < (c.ml.map fl).length := by simpa using hi
  have hj := (hB.le i hi).2
  rw [← hB.at_] at hj
  have hle : (c.ml.map fl)[i] = fl (c.le i) := by unfold Cv.le; simp [hi]
  have hsi0 : ∀ j (hj : j < c.at_.length), c.at_[j] = c.si j := fun j hj => by unfold Cv.si; simp [hj]
  have post : ∀ (c' : Cv) (sl' : List Si) (L' : List Fl), c'.pe = c.pe → c'.evs = c.evs → c'.at_ = sl' → c'.ml.map fl = L' → ∀ e W', HPost a fast pr.length c.evs.length x c.at_ (c.ml.map fl) y sl' L' W e W' → AcPost a fast ps C.w0 c c' pr y x W e W' := fun c' sl' L' f1 f2 f3 f4 e W' ⟨g1, g2⟩ => by
    refine ⟨⟨(pr, y, x), hpl.same f1⟩, g1, ?_⟩
    dsimp only
    rw [f2, f3, f4]
    exact (h1.frame g2).sel (by dsimp only [netV, List.cons_append, List.nil_append]; (repeat (first | exact Sel.nil _ | (apply Sel.cons; (repeat (first | with_reducible exact Pick.here _ _ | with_reducible apply Pick.there))))))
  obtain ⟨⟨s2, w2, v2, dn⟩, hS⟩ : ∃ q, c.si (c.le i).site = q := ⟨_, rfl⟩
  obtain ⟨⟨who, rnd, site, put, ⟨s1, w1, v1⟩, del, rec_⟩, hL⟩ : ∃ q, c.le i = q := ⟨_, rfl⟩
  rw [hL] at hle hj hS
  dsimp only at hle hj hS
  have hsi := (hsi0 site hj).trans hS
  unfold handC
  rw [hL]
  dsimp only
  rw [hS]
  by_cases hno : del = true ∨ dn = true
  · rw [if_pos hno]
    exact (hand_no a fast pr.length c.evs.length x c.at_ (c.ml.map fl) y 0 W (h1.self 0) i site hi2 hj (who : Nat) (rnd : Nat) put s1 w1 v1 del rec_ s2 w2 v2 dn hle hsi hno).mono (post c _ _ rfl rfl rfl rfl)
  rw [if_neg hno]
  have hd1 : del = false := by simpa using fun e => hno (.inl e)
  have hd2 : dn = false := by simpa using fun e => hno (.inr e)
  by_cases hp : put = false
  · rw [if_pos hp]
    refine (hand_get a fast pr.length c.evs.length x c.at_ (c.ml.map fl) y 0 W (h1.self 0) i site hi2 hj (who : Nat) (rnd : Nat) put s1 w1 v1 del rec_ s2 w2 v2 dn hle hsi hd1 hd2 hp).mono (post _ _ _ rfl rfl rfl ?_)
    rw [List.map_set, hp]; rfl
  rw [if_neg hp]
  have hp2 : put = true := by simpa using hp
  refine (hand_put a fast pr.length c.evs.length x c.at_ (c.ml.map fl) y 0 W (h1.self 0) i site hi2 hj (who : Nat) (rnd : Nat) put s1 w1 v1 del rec_ s2 w2 v2 dn hle hsi hd1 hd2 hp2).mono ?_
  have hless : lessT (Si.tg ⟨s2, w2, v2, dn⟩) ⟨s1, w1, v1⟩ = lessT ⟨s2, w2, 0⟩ ⟨s1, w1, 0⟩ := rfl
  rw [hless]
  by_cases hl : lessT ⟨s2, w2, 0⟩ ⟨s1, w1, 0⟩ = true
  · rw [if_pos hl, if_pos hl]
    refine post _ _ _ rfl rfl ?_ ?_
    · rw [hd2]
    · rw [List.map_set, hp2]; rfl
  · rw [if_neg hl, if_neg hl]
    refine post _ _ _ rfl rfl rfl ?_
    rw [List.map_set, hp2]; rfl
end
end Go.Proofs.Ytaonijdhmgcbjaa

namespace Go.Proofs.Ytaonijdhmgcbjaa
open Go.RowKit
set_option linter.unusedSectionVars false

theorem nextC_any (a : NLc) (fast : Bool) (n : Nat) (ps : List (List Ak)) (c : Cv) (pr : List Fq) (w0 : World) (hpl : PvsOk ps w0 c pr) (hat : c.at_.length = n) (hn5 : n ≤ 5) (hpel : c.pe.length = ps.length) (hml : c.ml.length ≤ 5000) (hev : c.evs.length ≤ 1000) {k : Nat} (hk : k < ps.length) (hrd : (c.p k).rd ≤ 1000) (hbs : -1 ≤ (c.p k).best.s ∧ (c.p k).best.s ≤ 1000) (hnx : (c.p k).next < (ps.getD k []).length) (hpend : (c.p k).pend = true) :
    ∃ pr', PvsOk ps w0 (nextC n fast ps c k) pr' ∧ (nextC n fast ps c k).at_ = c.at_ ∧ ∀ (y x : Option Addr × Nat) (n0 : Nat) (W : World), Mem ⟨n0, blks (nE4 a fast n pr (c.ml.map fl) c.evs y x), W⟩ W (nE4 a fast n pr (c.ml.map fl) c.evs y x) → (∀ b o, RdE Ak.enc 3 w0 (some ⟨b, o, none⟩) ((ps.getD k []).drop (c.p k).next) → RdE Ak.enc 3 W (some ⟨b, o, none⟩) ((ps.getD k []).drop (c.p k).next) ∧ b ∉ blks (nE4 a fast n pr (c.ml.map fl) c.evs y x)) →
      Calls Try.prog 59 #[.pointer (some ⟨a.m, 0, none⟩), .int .i64 (k : Nat)] W (NPost a fast n pr (c.ml.map fl) c.evs y x pr' ((nextC n fast ps c k).ml.map fl) (nextC n fast ps c k).evs W) := by
  have hk2 : k < c.pe.length := by rw [hpel]; exact hk
  have hk1 : k < pr.length := by rw [hpl.lp]; exact hk2
  have hpe : c.p k = c.pe[k] := by unfold Cv.p; simp [hk2]
  have hq := hpl.each k hk1 hk2
  rw [← hpe] at hq
  obtain ⟨qn, qle, qrd, qe⟩ := hq
  obtain ⟨⟨⟨qA, qm, qc⟩, pd, rd, pu, rp, bs, bw, bv⟩, hpq⟩ : ∃ q, pr[k] = q := ⟨_, rfl⟩
  rw [hpq] at qn qle qrd qe
  dsimp only at qn qle qrd qe
  have hrow : 0 < ((ps.getD k []).drop (c.p k).next).length := by rw [List.length_drop]; omega
  obtain ⟨b, o, rfl, hb⟩ := RdE.open qrd hrow
  have hd0 : ((ps.getD k []).drop (c.p k).next)[0] = (ps.getD k []).getD (c.p k).next default := drop0 _ _ hnx _
  have e1 : pd = (c.p k).pend := congrArg Fq.pend qe
  have e2 : rd = ((c.p k).rd : Nat) := congrArg Fq.rd qe
  have e3 : pu = (c.p k).put := congrArg Fq.put qe
  have e4 : rp = ((c.p k).rep : Nat) := congrArg Fq.rep qe
  have e5 : bs = (c.p k).best.s := congrArg Fq.bs qe
  have e6 : bw = (c.p k).best.w := congrArg Fq.bw qe
  have e7 : bv = (c.p k).best.v := congrArg Fq.bv qe
  clear qe
  subst qn e2 e4 e5 e6 e7
  have hless := row_less hnx qle qrd
  have hbn : (c.ml.map fl).length ≤ 10000 := by simp; omega
  obtain ⟨X, hX⟩ : ∃ X, X = (ps.getD k []).getD (c.p k).next default := ⟨_, rfl⟩
  have resp : ∀ v, ((pu = true ∧ X.kind = 1 ∧ v = 0) ∨ (¬ (pu = true ∧ X.kind = 1) ∧ (pu = true ∨ (X.kind ≠ 1 ∧ fast = true)) ∧ v = (c.p k).best.v)) → nextC n fast ps c k = respC c k v → ∃ pr', PvsOk ps w0 (nextC n fast ps c k) pr' ∧ (nextC n fast ps c k).at_ = c.at_ ∧ ∀ (y x : Option Addr × Nat) (n0 : Nat) (W : World), Mem ⟨n0, blks (nE4 a fast n pr (c.ml.map fl) c.evs y x), W⟩ W (nE4 a fast n pr (c.ml.map fl) c.evs y x) → (∀ b o, RdE Ak.enc 3 w0 (some ⟨b, o, none⟩) ((ps.getD k []).drop (c.p k).next) → RdE Ak.enc 3 W (some ⟨b, o, none⟩) ((ps.getD k []).drop (c.p k).next) ∧ b ∉ blks (nE4 a fast n pr (c.ml.map fl) c.evs y x)) →
      Calls Try.prog 59 #[.pointer (some ⟨a.m, 0, none⟩), .int .i64 (k : Nat)] W (NPost a fast n pr (c.ml.map fl) c.evs y x pr' ((nextC n fast ps c k).ml.map fl) (nextC n fast ps c k).evs W) := fun v hv heq => by
    rw [heq]
    refine ⟨pr.set k ⟨hd1 b o ((ps.getD k []).drop (c.p k).next).length qc, false, ((c.p k).rd : Nat) + 1, pu, ((c.p k).rep : Nat), (c.p k).best.s, (c.p k).best.w, (c.p k).best.v⟩, hpl.set (p := { c.p k with next := (c.p k).next + 1, pend := false, rd := (c.p k).rd + 1 }) rfl ⟨hless.1, hless.2.1, hless.2.2, by rw [e3]; exact fq_resp _ _⟩, rfl, fun y x n0 W hM hr => ?_⟩
    obtain ⟨r1, r2⟩ := hr b o qrd
    exact next_resp a fast n x pr (c.ml.map fl) c.evs y k n0 W hk1 hM ((ps.getD k []).drop (c.p k).next) b o qc pd _ pu _ _ _ _ hpq r1 hrow (by omega) (by omega) hn5 hbn (by omega) r2 v (by rw [hd0, ← hX]; exact hv)
  have star : ∀ t : Tg, pu = false → ((X.kind = 1 ∧ t = ⟨(c.p k).best.s + 1, (k : Nat), X.arg⟩) ∨ (X.kind ≠ 1 ∧ fast = false ∧ t = ⟨(c.p k).best.s, (c.p k).best.w, (c.p k).best.v⟩)) → nextC n fast ps c k = startC n c k true t → ∃ pr', PvsOk ps w0 (nextC n fast ps c k) pr' ∧ (nextC n fast ps c k).at_ = c.at_ ∧ ∀ (y x : Option Addr × Nat) (n0 : Nat) (W : World), Mem ⟨n0, blks (nE4 a fast n pr (c.ml.map fl) c.evs y x), W⟩ W (nE4 a fast n pr (c.ml.map fl) c.evs y x) → (∀ b o, RdE Ak.enc 3 w0 (some ⟨b, o, none⟩) ((ps.getD k []).drop (c.p k).next) → RdE Ak.enc 3 W (some ⟨b, o, none⟩) ((ps.getD k []).drop (c.p k).next) ∧ b ∉ blks (nE4 a fast n pr (c.ml.map fl) c.evs y x)) →
      Calls Try.prog 59 #[.pointer (some ⟨a.m, 0, none⟩), .int .i64 (k : Nat)] W (NPost a fast n pr (c.ml.map fl) c.evs y x pr' ((nextC n fast ps c k).ml.map fl) (nextC n fast ps c k).evs W) := fun t hpu hv heq => by
    rw [heq, start_ml]
    refine ⟨prS k ((c.p k).rd : Nat) true t pr (some ⟨b, o, none⟩) ((ps.getD k []).drop (c.p k).next).length qc pd, hpl.set (p := { c.p k with rd := (c.p k).rd + 1, put := true, rep := 0, best := t }) rfl ⟨rfl, qle, qrd, by rw [e1]; exact fq_start _ (c.p k) true t⟩, rfl, fun y x n0 W hM hr => ?_⟩
    obtain ⟨r1, r2⟩ := hr b o qrd
    exact next_start a fast n x pr (c.ml.map fl) c.evs y k n0 W hk1 hM ((ps.getD k []).drop (c.p k).next) b o qc pd _ pu _ _ _ _ hpq r1 hrow (by omega) (by omega) hn5 hbn (by omega) r2 t hpu hbs.1 (by omega) (by rw [hd0, ← hX]; exact hv)
  unfold nextC at resp star ⊢
  dsimp only at resp star ⊢
  rw [← hX, ← e3] at resp star ⊢
  by_cases h1 : pu = true ∧ X.kind = 1
  · have := resp 0 (.inl ⟨h1.1, h1.2, rfl⟩) (by rw [if_pos h1])
    exact this
  by_cases h2 : pu = true ∨ (X.kind ≠ 1 ∧ fast = true)
  · exact resp _ (.inr ⟨h1, h2, rfl⟩) (by rw [if_neg h1, if_pos h2])
  have hpf : pu = false := by simpa using fun e => h2 (.inl e)
  by_cases h3 : X.kind = 1
  · exact star _ hpf (.inl ⟨h3, rfl⟩) (by rw [if_neg h1, if_neg h2, if_pos h3])
  · have hff : fast = false := by simpa using fun e => h2 (.inr ⟨h3, e⟩)
    exact star _ hpf (.inr ⟨h3, hff, rfl⟩) (by rw [if_neg h1, if_neg h2, if_neg h3])
section
variable (a : NLc) (fast : Bool) (n : Nat) (ps : List (List Ak)) (c : Cv) (pr : List Fq) (y x : Option Addr × Nat) {C : Ctx} {W : World} {R : List Ent}
  (hw : Mem C W (netV a fast c.at_ pr (c.ml.map fl) c.evs y x ++ R)) (hF : C.F = []) (hpl : PvsOk ps C.w0 c pr) (hB : CB n ps c)
include hw hF hpl hB
theorem backC_any {i : Nat} (hi : i < c.ml.length) : Calls Try.prog 29 #[.pointer (some ⟨a.m, 0, none⟩), .int .i64 (i : Nat)] W (AcPost a fast ps C.w0 c (backC n fast ps c i) pr y x W) := by
  have h0 := hw.self 0
  have h1 : Mem ⟨0, blks (netV a fast c.at_ pr (c.ml.map fl) c.evs y x), W⟩ W (nE4 a fast n pr (c.ml.map fl) c.evs y x ++ [entOwn Si.enc 4 37 (some ⟨a.gS, 0, none⟩) a.cS c.at_]) := by
    unfold netV at h0 ⊢
    unfold nE4
    rw [hB.at_] at h0 ⊢
    exact h0.sel (by dsimp only [List.cons_append, List.nil_append]; (repeat (first | exact Sel.nil _ | (apply Sel.cons; (repeat (first | with_reducible exact Pick.here _ _ | with_reducible apply Pick.there))))))
  have h1' : Mem C W (nE4 a fast n pr (c.ml.map fl) c.evs y x ++ [entOwn Si.enc 4 37 (some ⟨a.gS, 0, none⟩) a.cS c.at_]) := by
    have hw2 := hw.sub (List.sublist_append_left _ _)
    unfold netV at hw2
    unfold nE4
    rw [hB.at_] at hw2
    exact hw2.sel (by dsimp only [List.cons_append, List.nil_append]; (repeat (first | exact Sel.nil _ | (apply Sel.cons; (repeat (first | with_reducible exact Pick.here _ _ | with_reducible apply Pick.there))))))
  have hi2 : i < (c.ml.map fl).length := by simpa using hi
  obtain ⟨hk, -⟩ := hB.le i hi
  have hle : (c.ml.map fl)[i] = fl (c.le i) := by unfold Cv.le; simp [hi]
  have hrd := hB.rd _ hk
  have hn5 := hB.n5
  have hml := hB.ml
  have hev := hB.evs
  have hbs := hB.bs _ hk
  have hnx := hB.nx _ hk
  have hrp := hB.rep _ hk
  have hlt := hB.lt i hi
  have post : ∀ (c' : Cv) (pr' : List Fq) (L' : List Fl) (E' : List Ev), PvsOk ps C.w0 c' pr' → c'.at_ = c.at_ → c'.evs = E' → c'.ml.map fl = L' → ∀ e W', NPost a fast n pr (c.ml.map fl) c.evs y x pr' L' E' W e W' → AcPost a fast ps C.w0 c c' pr y x W e W' := fun c' pr' L' E' f1 f3 f2 f4 e W' ⟨z, g1, g2⟩ => by
    refine ⟨⟨(pr', z.1, z.2), f1⟩, g1, ?_⟩
    dsimp only
    rw [f2, f3, f4]
    have h2 := h1.frame g2
    unfold netV
    unfold nE4 at h2
    rw [hB.at_]
    exact h2.sel (by dsimp only [List.cons_append, List.nil_append]; (repeat (first | exact Sel.nil _ | (apply Sel.cons; (repeat (first | with_reducible exact Pick.here _ _ | with_reducible apply Pick.there))))))
  obtain ⟨⟨who, rnd, site, put, ⟨s1, w1, v1⟩, del, rec_⟩, hL⟩ : ∃ q, c.le i = q := ⟨_, rfl⟩
  rw [hL] at hle hk hrd hbs hnx hrp hlt
  dsimp only at hle hk hrd hbs hnx hrp hlt
  obtain ⟨hk1, hq⟩ := pvs_at a fast n ps c pr y x hw hF hpl hB hk
  have hk2 : who < c.pe.length := by rw [hB.pel]; exact hk
  unfold backC
  rw [hL]
  dsimp only
  by_cases hno : del = false ∨ rec_ = true
  · rw [if_pos hno]
    exact (back_no a fast n x pr (c.ml.map fl) c.evs y 0 W (h1.self 0) i who hi2 hk1 (rnd : Nat) (site : Nat) put s1 w1 v1 del rec_ hle hno).mono (post c pr _ _ hpl rfl rfl rfl)
  rw [if_neg hno]
  have hd1' : del = true := by simpa using fun e => hno (.inl e)
  have hd2' : rec_ = false := by simpa using fun e => hno (.inr e)
  obtain ⟨qn, qle, qrd, qe⟩ := hq
  obtain ⟨⟨⟨qA, qm, qc⟩, pd, rd, pu, rp, bs, bw, bv⟩, hpq⟩ : ∃ q, pr[who] = q := ⟨_, rfl⟩
  rw [hpq] at qn qle qrd qe
  dsimp only at qn qle qrd qe
  have e1 : pd = (c.p who).pend := congrArg Fq.pend qe
  have e2 : rd = ((c.p who).rd : Nat) := congrArg Fq.rd qe
  have e3 : pu = (c.p who).put := congrArg Fq.put qe
  have e4 : rp = ((c.p who).rep : Nat) := congrArg Fq.rep qe
  have e5 : bs = (c.p who).best.s := congrArg Fq.bs qe
  have e6 : bw = (c.p who).best.w := congrArg Fq.bw qe
  have e7 : bv = (c.p who).best.v := congrArg Fq.bv qe
  clear qe
  by_cases hst : (c.p who).pend = false ∨ rnd ≠ (c.p who).rd
  · rw [if_pos hst]
    refine (back_stale a fast n x pr (c.ml.map fl) c.evs y 0 W (h1.self 0) i who hi2 hk1 (rnd : Nat) (site : Nat) put s1 w1 v1 del rec_ hle qA qm qc pd rd pu rp bs bw bv hpq hd1' hd2' (by
      rcases hst with e | e
      · exact .inl (by rw [e1]; exact e)
      · exact .inr (by rw [e2]; omega))).mono (post _ pr _ _ (hpl.same rfl) rfl rfl ?_)
    rw [List.map_set, hd1']; rfl
  rw [if_neg hst]
  have hpend : (c.p who).pend = true := by simpa using fun e => hst (.inl e)
  have hrr : rnd = (c.p who).rd := Classical.not_not.1 fun e => hst (.inr e)
  have hbs := hbs hpend
  have hnx := hnx hpend
  have hrp := hrp hpend
  obtain ⟨g, hg⟩ : ∃ g, g = gotC c i := ⟨_, rfl⟩
  obtain ⟨bt, hbt⟩ : ∃ bt : Tg, bt = if put = false ∧ lessT (c.p who).best ⟨s1, w1, v1⟩ = true then ⟨s1, w1, v1⟩ else (c.p who).best := ⟨_, rfl⟩
  have g1 : g.at_ = c.at_ := by rw [hg]; rfl
  have g2 : g.evs = c.evs := by rw [hg]; rfl
  have g3 : g.pe = c.pe.set who { c.p who with rep := (c.p who).rep + 1, best := bt } := by rw [hg, hbt]; unfold gotC; rw [hL]
  have g4 : g.ml.map fl = (c.ml.map fl).set i ⟨(who : Nat), (rnd : Nat), (site : Nat), put, s1, w1, v1, true, true⟩ := by rw [hg]; unfold gotC; rw [hL, List.map_set, hd1']; rfl
  have g5 : g.p who = { c.p who with rep := (c.p who).rep + 1, best := bt } := by show g.pe.getD who default = _; rw [g3, getD_set_eq hk2]
  have g6 : PvsOk ps C.w0 g (pr.set who ⟨⟨qA, qm, qc⟩, true, ((c.p who).rd : Nat), pu, ((c.p who).rep : Nat) + 1, bt.s, bt.w, bt.v⟩) := hpl.set g3 ⟨qn, qle, qrd, by
    unfold fq
    rw [e3, hpend]; rfl⟩
  have hbb : (put = false ∧ lessT ⟨bs, bw, 0⟩ ⟨s1, w1, 0⟩ = true ∧ bt.s = s1 ∧ bt.w = w1 ∧ bt.v = v1) ∨ (¬ (put = false ∧ lessT ⟨bs, bw, 0⟩ ⟨s1, w1, 0⟩ = true) ∧ bt.s = bs ∧ bt.w = bw ∧ bt.v = bv) := by
    have : lessT (c.p who).best ⟨s1, w1, v1⟩ = lessT ⟨bs, bw, 0⟩ ⟨s1, w1, 0⟩ := by rw [e5, e6]; rfl
    rw [this] at hbt
    by_cases hc : put = false ∧ lessT ⟨bs, bw, 0⟩ ⟨s1, w1, 0⟩ = true
    · rw [if_pos hc] at hbt
      rw [hbt]
      exact .inl ⟨hc.1, hc.2, rfl, rfl, rfl⟩
    · rw [if_neg hc] at hbt
      rw [hbt]
      exact .inr ⟨hc, e5.symm, e6.symm, e7.symm⟩
  rw [← hg]
  subst hrr
  have hgml : g.ml.length ≤ 5000 := by
    have := congrArg List.length g4
    simp only [List.length_map, List.length_set] at this
    omega
  by_cases hq : n < 2 * ((c.p who).rep + 1)
  case neg =>
    rw [if_neg hq]
    refine (back_got a fast n x pr (c.ml.map fl) c.evs y 0 W (h1.self 0) i who hi2 hk1 _ (site : Nat) put s1 w1 v1 del rec_ hle qA qm qc pd rd pu rp bs bw bv hpq hd1' hd2' (by rw [e1]; exact hpend) e2.symm (by omega) (by omega) hn5 bt.s bt.w bt.v hbb (pr.set who ⟨⟨qA, qm, qc⟩, true, ((c.p who).rd : Nat), pu, ((c.p who).rep : Nat) + 1, bt.s, bt.w, bt.v⟩) _ (g.ml.map fl) _ _ (by rw [e2, e4]) g4 (fun _ => ⟨rfl, rfl, rfl⟩) (fun hh => by exfalso; rw [e4] at hh; omega)).mono (post g _ _ _ g6 g1 g2 rfl)
  rw [if_pos hq]
  have hbts : -1 ≤ bt.s ∧ bt.s ≤ 1000 := by
    rw [hbt]
    split
    · exact hlt
    · exact hbs
  obtain ⟨pr', n1, n2, n3⟩ := nextC_any a fast n ps g _ C.w0 g6 (by rw [g1]; exact hB.at_) hn5 (by rw [g3, List.length_set]; exact hB.pel) hgml (by rw [g2]; exact hev) hk (by rw [g5]; exact hrd) (by rw [g5]; exact hbts) (by rw [g5]; exact hnx) (by rw [g5]; exact hpend)
  rw [g5, g2] at n3
  dsimp only at n3
  refine (back_got a fast n x pr (c.ml.map fl) c.evs y 0 W (h1.self 0) i who hi2 hk1 _ (site : Nat) put s1 w1 v1 del rec_ hle qA qm qc pd rd pu rp bs bw bv hpq hd1' hd2' (by rw [e1]; exact hpend) e2.symm (by omega) (by omega) hn5 bt.s bt.w bt.v hbb (pr.set who ⟨⟨qA, qm, qc⟩, true, ((c.p who).rd : Nat), pu, ((c.p who).rep : Nat) + 1, bt.s, bt.w, bt.v⟩) pr' (g.ml.map fl) _ _ (by rw [e2, e4]) g4 (fun hh => by exfalso; rw [e4] at hh; omega) (fun _ C2 R2 W2 f1 f2 hw2 => n3 y x 0 W2 (hw2.self 0) fun b o hr => ?_)).mono (post _ pr' _ _ n1 (n2.trans g1) rfl rfl)
  have hrow : 0 < ((ps.getD who []).drop (c.p who).next).length := by rw [List.length_drop]; omega
  obtain ⟨b2, o2, eq2, hb⟩ := RdE.open hr hrow
  cases eq2
  have hbF : b ∉ blks (nE4 a fast n pr (c.ml.map fl) c.evs y x) := h1'.newBlkF (by rw [hF]; simp) hb
  have hrW := hw.rd hF hr
  obtain ⟨b3, o3, eq3, hb3⟩ := RdE.open hrW hrow
  cases eq3
  exact ⟨hw2.rdAwayF (by rw [f2]; exact hrW) (fun b4 o4 e => by cases e; rw [f1]; exact hbF), hw2.newBlkF (by rw [f1]; exact hbF) (by rw [f2]; exact hb3)⟩
theorem backOut_any {i : Int} (hi : i < 0 ∨ (c.ml.length : Int) ≤ i) : Calls Try.prog 29 #[.pointer (some ⟨a.m, 0, none⟩), .int .i64 i] W (AcPost a fast ps C.w0 c c pr y x W) := by
  have h0 := hw.self 0
  have h1 : Mem ⟨0, blks (netV a fast c.at_ pr (c.ml.map fl) c.evs y x), W⟩ W (nE4 a fast n pr (c.ml.map fl) c.evs y x ++ [entOwn Si.enc 4 37 (some ⟨a.gS, 0, none⟩) a.cS c.at_]) := by
    unfold netV at h0 ⊢
    unfold nE4
    rw [hB.at_] at h0 ⊢
    exact h0.sel (by dsimp only [List.cons_append, List.nil_append]; (repeat (first | exact Sel.nil _ | (apply Sel.cons; (repeat (first | with_reducible exact Pick.here _ _ | with_reducible apply Pick.there))))))
  refine (back_out a fast n x pr (c.ml.map fl) c.evs y 0 W (h1.self 0) i (by rw [List.length_map]; exact hi)).mono fun e W' ⟨z, g1, g2⟩ => ?_
  refine ⟨⟨(pr, z.1, z.2), hpl⟩, g1, ?_⟩
  dsimp only
  have h2 := h1.frame g2
  unfold netV
  unfold nE4 at h2
  rw [hB.at_]
  exact h2.sel (by dsimp only [List.cons_append, List.nil_append]; (repeat (first | exact Sel.nil _ | (apply Sel.cons; (repeat (first | with_reducible exact Pick.here _ _ | with_reducible apply Pick.there))))))
theorem handOut_any {i : Int} (hi : i < 0 ∨ (c.ml.length : Int) ≤ i) : Calls Try.prog 28 #[.pointer (some ⟨a.m, 0, none⟩), .int .i64 i] W (AcPost a fast ps C.w0 c c pr y x W) := by
  have h0 := hw.self 0
  have h1 : Mem ⟨0, blks (netV a fast c.at_ pr (c.ml.map fl) c.evs y x), W⟩ W ([netB a fast c.at_.length pr.length (c.ml.map fl).length c.evs.length y x, entOwn Si.enc 4 37 (some ⟨a.gS, 0, none⟩) a.cS c.at_, entOwn Fl.enc 9 134 y.1 y.2 (c.ml.map fl)] ++ [entOwn Fq.enc 8 84 (some ⟨a.gP, 0, none⟩) a.cP pr, entOwn Ev.enc 4 34 x.1 x.2 c.evs]) := h0.sel (by dsimp only [netV, List.cons_append, List.nil_append]; (repeat (first | exact Sel.nil _ | (apply Sel.cons; (repeat (first | with_reducible exact Pick.here _ _ | with_reducible apply Pick.there))))))
  refine (hand_out a fast pr.length c.evs.length x c.at_ (c.ml.map fl) y 0 W (h1.self 0) i (by rw [List.length_map]; exact hi)).mono fun e W' ⟨g1, g2⟩ => ?_
  refine ⟨⟨(pr, y, x), hpl⟩, g1, ?_⟩
  dsimp only
  exact (h1.frame g2).sel (by dsimp only [netV, List.cons_append, List.nil_append]; (repeat (first | exact Sel.nil _ | (apply Sel.cons; (repeat (first | with_reducible exact Pick.here _ _ | with_reducible apply Pick.there))))))
end
end Go.Proofs.Ytaonijdhmgcbjaa

namespace Go.Proofs.Ytaonijdhmgcbjaa
open Go.RowKit

theorem pplR_1 {ts : List Int} {ps : List (List Ak)} (h : typesE ts ≠ 0 ∨ 8 < ps.length) : pplR ts ps = 1 := by unfold pplR; rw [if_pos h]
theorem pplR_2 {ts : List Int} {ps : List (List Ak)} (h : ¬ (typesE ts ≠ 0 ∨ 8 < ps.length)) (h2 : 90 < sumW ps ps.length) : pplR ts ps = 2 := by unfold pplR; rw [if_neg h, if_pos h2]
theorem pplR_3 {ts : List Int} {ps : List (List Ak)} (h : ¬ (typesE ts ≠ 0 ∨ 8 < ps.length)) (h2 : ¬ 90 < sumW ps ps.length) {i : Nat} (hi : i < ps.length) {j : Nat} (hj : j < ps[i].length) (hb : askB ts ps[i][j] = false) : pplR ts ps = 3 := by
  unfold pplR
  rw [if_neg h, if_neg h2, if_neg]
  rw [all_no hi (by unfold rowB; exact all_no hj hb)]; decide
theorem pplR_0 {ts : List Int} {ps : List (List Ak)} (h : ¬ (typesE ts ≠ 0 ∨ 8 < ps.length)) (h2 : ¬ 90 < sumW ps ps.length) (hb : ∀ i (hi : i < ps.length), rowB ts ps[i] = true) : pplR ts ps = 0 := by
  unfold pplR
  rw [if_neg h, if_neg h2, if_pos (all_at hb)]
section
variable (A0 D0 : Option Addr) (c0 e0 : Nat) (ts : List Int) (hs : List Hd) (ps : List (List Ak)) (w : World) (hts : ts.length ≤ 9223372036854775807) (hpl : ps.length ≤ 9223372036854775807) (hT : RdInt w A0 ts) (hD : RdRows Ak.enc 3 w D0 hs ps)
include hts hpl hT hD
set_option maxRecDepth 100000 in
set_option maxHeartbeats 8000000 in
theorem thCheck_any : Calls Try.prog 56 #[.slice A0 ts.length c0, .slice D0 hs.length e0] w fun e w' => e = .returned (.int .i64 (pplR ts ps)) ∧ Below w.heap.size w w' := by
  have hty := fun w h => types_any A0 c0 ts w hts h
  obtain ⟨hD1, hD2, hD3⟩ := hD
  have r1 := pplR_1 (ts := ts) (ps := ps)
  have r2 := pplR_2 (ts := ts) (ps := ps)
  have r3 := fun h h2 i hi j hj hb => pplR_3 (ts := ts) (ps := ps) h h2 (i := i) hi (j := j) hj hb
  have r0 := pplR_0 (ts := ts) (ps := ps)
  generalize pplR ts ps = R at *
  generalize typesE ts = z at *
  refine calls_T (S := []) [] Try.func56 rfl Try.ntmps56 (by simp) (Mem.nil _) ?_
  by_cases h1 : z ≠ 0 ∨ 8 < ps.length
  · obtain rfl := r1 h1
    repeat' (first | (refine GO ?_) | (refine GOE ?_; (first | (rintro _ _ ⟨rfl, rfl⟩) | (rintro _ _ ⟨g, rfl, rfl⟩) | (rintro _ _ ⟨A', c', rfl, rfl⟩))) | ((refine GO2 ?_ ?_) <;> intro h <;> (try (repeat (first | with_reducible (replace h := of_decide_eq_true h) | with_reducible (replace h := of_decide_eq_false h) | with_reducible (replace h := bnt h) | with_reducible (replace h := bnf h) | with_reducible (replace h := Int.not_lt.mp h) | with_reducible (replace h := Int.not_le.mp h) | with_reducible (replace h := band_dec h) | with_reducible (replace h := band_decF h) | with_reducible (replace h := bor_dec h) | with_reducible (replace h := bor_decF h)))) <;> (try (exfalso; first | contradiction | omega))) | ((with_reducible (first | apply TD_e2z | apply TD_e3z | apply TL_e | apply TD_e2 | apply TD_e3)); ((with_reducible apply ES_callV (f := 67)); exact rfl; (intro w hw; exact hty w (hw.rd rfl hT)); exact rfl); (first | exact rfl | exact ⟨rfl, rfl, rfl⟩); (rintro _ _ ⟨rfl, rfl⟩); (try refine ⟨SUB, ?_⟩)) | fail)
    all_goals first
      | (exfalso; omega)
      | ((refine At_ret Try.results56 rfl (fun w' hw => ?_)); exact ⟨rfl, hw.below0 rfl⟩)
  · have r2 := r2 h1
    have r3 := r3 h1
    have r0 := r0 h1
    clear r1
    repeat' (first | (refine GO ?_) | (refine GOE ?_; (first | (rintro _ _ ⟨rfl, rfl⟩) | (rintro _ _ ⟨g, rfl, rfl⟩) | (rintro _ _ ⟨A', c', rfl, rfl⟩))) | ((refine GO2 ?_ ?_) <;> intro h <;> (try (repeat (first | with_reducible (replace h := of_decide_eq_true h) | with_reducible (replace h := of_decide_eq_false h) | with_reducible (replace h := bnt h) | with_reducible (replace h := bnf h) | with_reducible (replace h := Int.not_lt.mp h) | with_reducible (replace h := Int.not_le.mp h) | with_reducible (replace h := band_dec h) | with_reducible (replace h := band_decF h) | with_reducible (replace h := bor_dec h) | with_reducible (replace h := bor_decF h)))) <;> (try (exfalso; first | contradiction | omega))) | ((with_reducible (first | apply TD_e2z | apply TD_e3z | apply TL_e | apply TD_e2 | apply TD_e3)); ((with_reducible apply ES_callV (f := 67)); exact rfl; (intro w hw; exact hty w (hw.rd rfl hT)); exact rfl); (first | exact rfl | exact ⟨rfl, rfl, rfl⟩); (rintro _ _ ⟨rfl, rfl⟩); (try refine ⟨SUB, ?_⟩)) | fail)
    all_goals first | (exfalso; omega) | skip
    refine T_loop (X := Nat) (fun k => [(22, .int .i64 (k : Nat)), (21, .int .i64 hs.length), (20, .slice D0 hs.length e0), (5, .int .i64 (sumW ps k)), (1, .slice D0 hs.length e0), (0, .slice A0 ts.length c0)]) (fun _ => []) (fun k => k ≤ ps.length) (fun k => ps.length - k) 0 (by omega) (by (repeat (first | exact SubE.nil _ | refine SubE.cons rfl ?_))) (by exact SUBS) ?_
    intro k hk
    by_cases hkl : k < ps.length
    · obtain ⟨hrn, hrc, hrl, hrd⟩ := hD3 k (by omega) hkl
      obtain ⟨bD, oD, rfl, _⟩ := RdE.open hD1 (by omega)
      have hsu := sumW_succ hkl
      rw [← hrn] at hsu
      generalize sumW ps k = Q at *
      repeat' (first | (refine GO ?_) | (refine GOE ?_; (first | (rintro _ _ ⟨rfl, rfl⟩) | (rintro _ _ ⟨g, rfl, rfl⟩) | (rintro _ _ ⟨A', c', rfl, rfl⟩))) | ((refine GO2 ?_ ?_) <;> intro h <;> (try (repeat (first | with_reducible (replace h := of_decide_eq_true h) | with_reducible (replace h := of_decide_eq_false h) | with_reducible (replace h := bnt h) | with_reducible (replace h := bnf h) | with_reducible (replace h := Int.not_lt.mp h) | with_reducible (replace h := Int.not_le.mp h) | with_reducible (replace h := band_dec h) | with_reducible (replace h := band_decF h) | with_reducible (replace h := bor_dec h) | with_reducible (replace h := bor_decF h)))) <;> (try (exfalso; first | contradiction | omega))) | fail)
      apply At_rounds (k + 1)
      case hE => (try dsimp only); rw [hsu]; (repeat (first | exact SubE.nil _ | refine SubE.cons rfl ?_))
      case hS => exact SUBS
      case hμ => (try dsimp only); omega
      case hp => (try dsimp only); omega
    · obtain rfl : k = ps.length := by omega
      generalize sumW ps ps.length = Q at *
      by_cases h2 : 90 < Q
      · obtain rfl := r2 h2
        repeat' (first | (refine GO ?_) | (refine GOE ?_; (first | (rintro _ _ ⟨rfl, rfl⟩) | (rintro _ _ ⟨g, rfl, rfl⟩) | (rintro _ _ ⟨A', c', rfl, rfl⟩))) | ((refine GO2 ?_ ?_) <;> intro h <;> (try (repeat (first | with_reducible (replace h := of_decide_eq_true h) | with_reducible (replace h := of_decide_eq_false h) | with_reducible (replace h := bnt h) | with_reducible (replace h := bnf h) | with_reducible (replace h := Int.not_lt.mp h) | with_reducible (replace h := Int.not_le.mp h) | with_reducible (replace h := band_dec h) | with_reducible (replace h := band_decF h) | with_reducible (replace h := bor_dec h) | with_reducible (replace h := bor_decF h)))) <;> (try (exfalso; first | contradiction | omega))) | fail)
        (refine At_ret Try.results56 rfl (fun w' hw => ?_))
        exact ⟨rfl, hw.below0 rfl⟩
      · have r3 := r3 h2
        have r0 := r0 h2
        repeat' (first | (refine GO ?_) | (refine GOE ?_; (first | (rintro _ _ ⟨rfl, rfl⟩) | (rintro _ _ ⟨g, rfl, rfl⟩) | (rintro _ _ ⟨A', c', rfl, rfl⟩))) | ((refine GO2 ?_ ?_) <;> intro h <;> (try (repeat (first | with_reducible (replace h := of_decide_eq_true h) | with_reducible (replace h := of_decide_eq_false h) | with_reducible (replace h := bnt h) | with_reducible (replace h := bnf h) | with_reducible (replace h := Int.not_lt.mp h) | with_reducible (replace h := Int.not_le.mp h) | with_reducible (replace h := band_dec h) | with_reducible (replace h := band_decF h) | with_reducible (replace h := bor_dec h) | with_reducible (replace h := bor_decF h)))) <;> (try (exfalso; first | contradiction | omega))) | fail)
        refine T_loop (X := Nat) (fun k => [(35, .int .i64 (k : Nat)), (34, .int .i64 hs.length), (33, .slice D0 hs.length e0), (0, .slice A0 ts.length c0)]) (fun _ => []) (fun k => k ≤ ps.length ∧ ∀ i (hi : i < ps.length), i < k → rowB ts ps[i] = true) (fun k => ps.length - k) 0 ⟨by omega, fun i _ hi => by omega⟩ (by (repeat (first | exact SubE.nil _ | refine SubE.cons rfl ?_))) (by exact SUBS) ?_
        rintro k ⟨hk, hno⟩
        by_cases hkl : k < ps.length
        · obtain ⟨hrn, hrc, hrl, hrd⟩ := hD3 k (by omega) hkl
          obtain ⟨bD, oD, rfl, _⟩ := RdE.open hD1 (by omega)
          have r3 := r3 k hkl
          have hnx : rowB ts ps[k] = true → ∀ i (hi : i < ps.length), i < k + 1 → rowB ts ps[i] = true := fun hb i hi h2 => (Nat.lt_succ_iff_lt_or_eq.1 h2).elim (fun e => hno i hi e) (fun e => by subst e; exact hb)
          generalize ps[k] = row at *
          repeat' (first | (refine GO ?_) | (refine GOE ?_; (first | (rintro _ _ ⟨rfl, rfl⟩) | (rintro _ _ ⟨g, rfl, rfl⟩) | (rintro _ _ ⟨A', c', rfl, rfl⟩))) | ((refine GO2 ?_ ?_) <;> intro h <;> (try (repeat (first | with_reducible (replace h := of_decide_eq_true h) | with_reducible (replace h := of_decide_eq_false h) | with_reducible (replace h := bnt h) | with_reducible (replace h := bnf h) | with_reducible (replace h := Int.not_lt.mp h) | with_reducible (replace h := Int.not_le.mp h) | with_reducible (replace h := band_dec h) | with_reducible (replace h := band_decF h) | with_reducible (replace h := bor_dec h) | with_reducible (replace h := bor_decF h)))) <;> (try (exfalso; first | contradiction | omega))) | fail)
          rw [hrn]
          obtain ⟨ra, hra⟩ : ∃ x, hs[k].a = x := ⟨_, rfl⟩
          obtain ⟨rc, hrc2⟩ : ∃ x, hs[k].c = x := ⟨_, rfl⟩
          rw [hra] at hrd
          rw [hra, hrc2]
          clear hra hrc2 hrn
          refine T_loop (X := Nat) (fun j => [(41, .int .i64 (j : Nat)), (40, .int .i64 row.length), (39, .slice ra row.length rc), (35, .int .i64 (k : Nat)), (34, .int .i64 hs.length), (33, .slice (some ⟨bD, oD, none⟩) hs.length e0), (0, .slice A0 ts.length c0)]) (fun _ => []) (fun j => j ≤ row.length ∧ ∀ i (hi : i < row.length), i < j → askB ts row[i] = true) (fun j => row.length - j) 0 ⟨by omega, fun i _ hi => by omega⟩ (by (repeat (first | exact SubE.nil _ | refine SubE.cons rfl ?_))) (by exact SUBS) ?_
          rintro j ⟨hj, hnj⟩
          by_cases hjl : j < row.length
          · obtain ⟨bR, oR, rfl, _⟩ := RdE.open hrd (by omega)
            have r3 := r3 j hjl
            have hnj2 : askB ts row[j] = true → ∀ i (hi : i < row.length), i < j + 1 → askB ts row[i] = true := fun hb i hi h2 => (Nat.lt_succ_iff_lt_or_eq.1 h2).elim (fun e => hnj i hi e) (fun e => by subst e; exact hb)
            by_cases hin : 0 ≤ row[j].thing ∧ row[j].thing < ts.length
            · have hq : askB ts row[j] = ((kindsL (ts[row[j].thing.toNat]'(by omega))).contains row[j].kind && argB row[j].kind row[j].arg) := by
                unfold askB
                rw [decide_eq_true hin.1, decide_eq_true hin.2, show ts.getD row[j].thing.toNat 0 = ts[row[j].thing.toNat]'(by omega) by simp [show row[j].thing.toNat < ts.length by omega]]
                rfl
              obtain ⟨bT, oT, rfl, _⟩ := RdE.open hT (by omega)
              generalize hK : (kindsL (ts[row[j].thing.toNat]'(by omega))).contains row[j].kind = K at *
              generalize hG : argB row[j].kind row[j].arg = G at *
              have hf : ∀ w, Calls Try.prog 78 #[.int .i64 (ts[row[j].thing.toNat]'(by omega)), .int .i64 row[j].kind] w fun e w' => e = .returned (.bool K) ∧ Below w.heap.size w w' := fun w => by rw [← hK]; exact fits_C _ _ w
              have hg : ∀ w, Calls Try.prog 79 #[.int .i64 row[j].kind, .int .i64 row[j].arg] w fun e w' => e = .returned (.bool G) ∧ Below w.heap.size w w' := fun w => by rw [← hG]; exact argument_C _ _ w
              clear hK hG
              repeat' (first | (refine GG ?_) | (refine GE ?_; (first | (rintro _ _ ⟨rfl, rfl⟩) | (rintro _ _ ⟨g, rfl, rfl⟩) | (rintro _ _ ⟨A', c', rfl, rfl⟩)); (try refine ⟨SUB, ?_⟩)) | ((refine GO2 ?_ ?_) <;> intro h <;> (try (repeat (first | with_reducible (replace h := of_decide_eq_true h) | with_reducible (replace h := of_decide_eq_false h) | with_reducible (replace h := bnt h) | with_reducible (replace h := bnf h) | with_reducible (replace h := Int.not_lt.mp h) | with_reducible (replace h := Int.not_le.mp h) | with_reducible (replace h := band_dec h) | with_reducible (replace h := band_decF h) | with_reducible (replace h := bor_dec h) | with_reducible (replace h := bor_decF h)))) <;> (try (exfalso; first | contradiction | omega))) | (refine GOF ?_ ?_) | ((with_reducible apply T_draw (id := 17) 1000 (OT.seq [(0, 0), (1, 1), (0, 2), (0, 3), (0, 4), (0, 6), (0, 7), (1, 5), (0, 8), (0, 9), (0, 10), (0, 11), (0, 12), (0, 16), (1, 13), (0, 14), (1, 15), (1, 17), (2, 18), (0, 19), (0, 20), (0, 21), (0, 22), (0, 24), (1, 23), (1, 25), (2, 26), (0, 27), (0, 28)] .nil)); kernel_rfl; exact rfl; kernel_rfl; (repeat (first | with_reducible exact Blind.body | with_reducible apply Blind.seq | with_reducible apply Blind.block))) | ((with_reducible (first | apply TD_e2z | apply TD_e3z | apply TL_e | apply TD_e2 | apply TD_e3)); ((with_reducible apply ES_callV (f := 78)); exact rfl; (intro w hw; exact hf w); exact rfl); (first | exact rfl | exact ⟨rfl, rfl, rfl⟩); (rintro _ _ ⟨rfl, rfl⟩); (try refine ⟨SUB, ?_⟩)) | ((with_reducible (first | apply TD_e2z | apply TD_e3z | apply TL_e | apply TD_e2 | apply TD_e3)); ((with_reducible apply ES_callV (f := 79)); exact rfl; (intro w hw; exact hg w); exact rfl); (first | exact rfl | exact ⟨rfl, rfl, rfl⟩); (rintro _ _ ⟨rfl, rfl⟩); (try refine ⟨SUB, ?_⟩)) | fail)
              all_goals first
                | (exfalso; omega)
                | ((refine At_ret Try.results56 rfl (fun w' hw => ?_)); obtain rfl := r3 (by rw [hq]; simp [*]); exact ⟨rfl, hw.below0 rfl⟩)
                | exact At_rounds (j + 1) ⟨hjl, hnj2 (by rw [hq]; simp [*])⟩ (by omega) (by (repeat (first | exact SubE.nil _ | refine SubE.cons rfl ?_))) (by exact SUBS)
            · have hq : askB ts row[j] = false := by
                rw [Bool.eq_false_iff]
                intro e
                exact hin ⟨(askB_ok e).1, (askB_ok e).2.1⟩
              obtain rfl := r3 hq
              repeat' (first | (refine GG ?_) | (refine GE ?_; (first | (rintro _ _ ⟨rfl, rfl⟩) | (rintro _ _ ⟨g, rfl, rfl⟩) | (rintro _ _ ⟨A', c', rfl, rfl⟩)); (try refine ⟨SUB, ?_⟩)) | ((refine GO2 ?_ ?_) <;> intro h <;> (try (repeat (first | with_reducible (replace h := of_decide_eq_true h) | with_reducible (replace h := of_decide_eq_false h) | with_reducible (replace h := bnt h) | with_reducible (replace h := bnf h) | with_reducible (replace h := Int.not_lt.mp h) | with_reducible (replace h := Int.not_le.mp h) | with_reducible (replace h := band_dec h) | with_reducible (replace h := band_decF h) | with_reducible (replace h := bor_dec h) | with_reducible (replace h := bor_decF h)))) <;> (try (exfalso; first | contradiction | omega))) | (refine GOF ?_ ?_) | ((with_reducible apply T_draw (id := 17) 1000 (OT.seq [(0, 0), (1, 1), (0, 2), (0, 3), (0, 4), (0, 6), (0, 7), (1, 5), (0, 8), (0, 9), (0, 10), (0, 11), (0, 12), (0, 16), (1, 13), (0, 14), (1, 15), (1, 17), (2, 18), (0, 19), (0, 20), (0, 21), (0, 22), (0, 24), (1, 23), (1, 25), (2, 26), (0, 27), (0, 28)] .nil)); kernel_rfl; exact rfl; kernel_rfl; (repeat (first | with_reducible exact Blind.body | with_reducible apply Blind.seq | with_reducible apply Blind.block))) | fail)
              all_goals first
                | (exfalso; omega)
                | ((refine At_ret Try.results56 rfl (fun w' hw => ?_)); exact ⟨rfl, hw.below0 rfl⟩)
          · obtain rfl : j = row.length := by omega
            repeat' (first | (refine GO ?_) | (refine GOE ?_; (first | (rintro _ _ ⟨rfl, rfl⟩) | (rintro _ _ ⟨g, rfl, rfl⟩) | (rintro _ _ ⟨A', c', rfl, rfl⟩))) | ((refine GO2 ?_ ?_) <;> intro h <;> (try (repeat (first | with_reducible (replace h := of_decide_eq_true h) | with_reducible (replace h := of_decide_eq_false h) | with_reducible (replace h := bnt h) | with_reducible (replace h := bnf h) | with_reducible (replace h := Int.not_lt.mp h) | with_reducible (replace h := Int.not_le.mp h) | with_reducible (replace h := band_dec h) | with_reducible (replace h := band_decF h) | with_reducible (replace h := bor_dec h) | with_reducible (replace h := bor_decF h)))) <;> (try (exfalso; first | contradiction | omega))) | fail)
            exact At_rounds (k + 1) ⟨hkl, hnx (all_at fun i hi => hnj i hi hi)⟩ (by omega) (by (repeat (first | exact SubE.nil _ | refine SubE.cons rfl ?_))) (by exact SUBS)
        · obtain rfl : k = ps.length := by omega
          obtain rfl := r0 fun i hi => hno i hi hi
          repeat' (first | (refine GO ?_) | (refine GOE ?_; (first | (rintro _ _ ⟨rfl, rfl⟩) | (rintro _ _ ⟨g, rfl, rfl⟩) | (rintro _ _ ⟨A', c', rfl, rfl⟩))) | ((refine GO2 ?_ ?_) <;> intro h <;> (try (repeat (first | with_reducible (replace h := of_decide_eq_true h) | with_reducible (replace h := of_decide_eq_false h) | with_reducible (replace h := bnt h) | with_reducible (replace h := bnf h) | with_reducible (replace h := Int.not_lt.mp h) | with_reducible (replace h := Int.not_le.mp h) | with_reducible (replace h := band_dec h) | with_reducible (replace h := band_decF h) | with_reducible (replace h := bor_dec h) | with_reducible (replace h := bor_decF h)))) <;> (try (exfalso; first | contradiction | omega))) | fail)
          (refine At_ret Try.results56 rfl (fun w' hw => ?_))
          exact ⟨rfl, hw.below0 rfl⟩
end
end Go.Proofs.Ytaonijdhmgcbjaa
