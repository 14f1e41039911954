/- Lemmas for the walks (Row, Th4). No condition. -/
import Derived.Test.YtbhjljnbjomnhaaG14
import Derived.Test.YtbhjljnbjomnhaaG05
import Derived.Test.YtbhjljnbjomnhaaG16
import Derived.Test.YtbhjljnbjomnhaaG13
set_option linter.unusedSimpArgs false
set_option linter.unusedVariables false
set_option linter.unusedSectionVars false
set_option linter.unnecessarySimpa false
namespace Go.Proofs.Ytbhjljnbjomnhaa
open Go.RowKit

theorem TL_fact {P : Program} {C : Ctx} {Q : Exit → Act → World → Prop} {E : Slots} {S : List Ent} {l rest : List Oper} {p : Prop} (hS : ∀ w, Mem C w S → p) (h : p → TL P C l Q rest E S) : TL P C l Q rest E S :=
  ⟨fun a w ha hw => (h (hS w hw)).run a w ha hw⟩
def hd0 : Hd := ⟨none, 0, 0⟩
theorem All2.set {α β : Type} {R : α → β → Prop} {a : α} {b : β} (h : R a b) : ∀ {l : List α} {m : List β} (j : Nat), All2 R l m → All2 R (l.set j a) (m.set j b)
  | _, _, _, .nil => by simpa using All2.nil
  | _, _, 0, .cons _ t => .cons h t
  | _, _, j + 1, .cons h' t => .cons h' (All2.set h j t)
theorem pairwise_set {α : Type} {R : α → α → Prop} {a : α} : ∀ {l : List α} (j : Nat), l.Pairwise R → (∀ x ∈ l, R a x) → (∀ x ∈ l, R x a) → (l.set j a).Pairwise R
  | [], _, _, _, _ => by simp
  | x :: l, 0, h, h1, _ => by
    rw [List.set_cons_zero, List.pairwise_cons]
    exact ⟨fun y hy => h1 y (by simp [hy]), (List.pairwise_cons.1 h).2⟩
  | x :: l, j + 1, h, h1, h2 => by
    rw [List.set_cons_succ, List.pairwise_cons]
    obtain ⟨q1, q2⟩ := List.pairwise_cons.1 h
    refine ⟨fun y hy => ?_, pairwise_set j q2 (fun y hy => h1 y (by simp [hy])) (fun y hy => h2 y (by simp [hy]))⟩
    rcases List.mem_or_eq_of_mem_set hy with hy | rfl
    · exact q1 y hy
    · exact h2 x (by simp)
section
variable {C : Ctx} {w : World} {S S1 S' : List Ent} {α : Type} {enc : α → List Value} {M e : Nat} {hs : List Hd} {rows : List (List α)} {l : List α} {A : Option Addr} {c j : Nat}
theorem hd0_blk : hd0.v.ownBlock = none := rfl
theorem set_has {k : Nat} {h : Hd} (hm : ∃ g ∈ hs.set j h, g.v.ownBlock = some k) : h.v.ownBlock = some k ∨ ∃ i, i ≠ j ∧ ∃ hi : i < hs.length, hs[i].v.ownBlock = some k := by
  obtain ⟨g, hg, hk⟩ := hm
  obtain ⟨i, hi, rfl⟩ := List.mem_iff_getElem.1 hg
  rw [List.length_set] at hi
  by_cases e : i = j
  · subst e
    rw [List.getElem_set_self] at hk; exact .inl hk
  · rw [List.getElem_set_ne (fun e' => e e'.symm)] at hk
    exact .inr ⟨i, e, hi, hk⟩
/-- a row is taken out -/
theorem Mem.takeRow (hj : j < hs.length) (hj' : j < rows.length) (hu : Upd S (entInner enc M e hs rows) (entInner enc M e (hs.set j hd0) (rows.set j [])) S') (hw : Mem C w S) : Mem C w (entOwn enc M e hs[j].a hs[j].c rows[j] :: S') := by
  obtain ⟨X, Y, rfl, rfl⟩ := hu.form
  have hap := hw.apart
  rw [List.pairwise_append, List.pairwise_cons] at hap
  obtain ⟨hX, ⟨hY1, hY⟩, hXY⟩ := hap
  have hin := hw.holds (entInner enc M e hs rows) (by simp)
  have hrow := forall2_at hin.1.1 j hj hj'
  have hv : hs[j].v = .slice hs[j].a rows[j].length hs[j].c := by rw [← hrow.1]; rfl
  have hsub : ∀ k, (entInner enc M e (hs.set j hd0) (rows.set j [])).has k → (entInner enc M e hs rows).has k ∧ hs[j].v.ownBlock ≠ some k := by
    intro k hk
    rcases set_has hk with h | ⟨i, hi, hil, h⟩
    · rw [hd0_blk] at h; cases h
    · refine ⟨⟨_, List.getElem_mem hil, h⟩, fun hk' => ?_⟩
      have hp := List.pairwise_iff_getElem.1 hin.1.2
      rcases Nat.lt_or_gt_of_ne hi with hlt | hlt
      · exact hp i j hil hj hlt k h hk'
      · exact hp j i hj hil hlt k hk' h
  have hown : ∀ k, (entOwn enc M e hs[j].a hs[j].c rows[j]).has k → (entInner enc M e hs rows).has k := by
    intro k hk
    refine ⟨hs[j], List.getElem_mem hj, ?_⟩
    rw [hv]; exact hk
  have hnew : Inner enc M e w (hs.set j hd0) (rows.set j []) := by
    refine ⟨All2.set ⟨rfl, Own.nil w 0⟩ j hin.1.1, pairwise_set j hin.1.2 (fun x _ k hk => ?_) (fun x _ k _ => ?_)⟩
    · rw [hd0_blk] at hk; cases hk
    · rw [hd0_blk]; simp
  refine ⟨hw.keeps, fun f hf => ?_, ?_⟩
  · rcases List.mem_cons.1 hf with rfl | hf
    · refine ⟨?_, fun k hk => hin.2 k (hown k hk)⟩
      show Own enc M e w 0 (.slice hs[j].a rows[j].length hs[j].c) rows[j]
      rw [← hv]; exact hrow.2
    · rcases List.mem_append.1 hf with hf | hf
      · exact hw.holds f (by simp [hf])
      · rcases List.mem_cons.1 hf with rfl | hf
        · exact ⟨hnew, fun k hk => hin.2 k (hsub k hk).1⟩
        · exact hw.holds f (by simp [hf])
  · refine List.pairwise_cons.2 ⟨fun f hf k hk => ?_, ?_⟩
    · rcases List.mem_append.1 hf with hf | hf
      · exact fun hk' => hXY f hf (entInner enc M e hs rows) List.mem_cons_self k hk' (hown k hk)
      · rcases List.mem_cons.1 hf with rfl | hf
        · intro hk'
          refine (hsub k hk').2 ?_
          rw [hv]; exact hk
        · exact hY1 f hf k (hown k hk)
    · rw [List.pairwise_append, List.pairwise_cons]
      refine ⟨hX, ⟨fun f hf k hk => hY1 f hf k (hsub k hk).1, hY⟩, fun f hf g hg k hk => ?_⟩
      rcases List.mem_cons.1 hg with rfl | hg
      · exact fun hk' => hXY f hf (entInner enc M e hs rows) List.mem_cons_self k hk (hsub k hk').1
      · exact hXY f hf g (by simp [hg]) k hk
/-- a row is put in the place of another one -/
theorem Mem.putRow (hp : Pick S (entOwn enc M e A c l) S1) (hu : Upd S1 (entInner enc M e hs rows) (entInner enc M e (hs.set j ⟨A, l.length, c⟩) (rows.set j l)) S') (hw : Mem C w S) : Mem C w S' := by
  have h1 := hw.pick hp
  obtain ⟨X, Y, rfl, rfl⟩ := hu.form
  have hap := List.pairwise_cons.1 h1.apart
  have hap2 := hap.2
  rw [List.pairwise_append, List.pairwise_cons] at hap2
  obtain ⟨hX, ⟨hY1, hY⟩, hXY⟩ := hap2
  have ho := h1.holds _ List.mem_cons_self
  have hin := h1.holds (entInner enc M e hs rows) (by simp)
  have hfar : ∀ k, (∃ h ∈ hs, h.v.ownBlock = some k) → (Value.slice A l.length c).ownBlock ≠ some k := fun k hk hk' => hap.1 (entInner enc M e hs rows) (by simp) k hk' hk
  have hhas : ∀ k, (entInner enc M e (hs.set j ⟨A, l.length, c⟩) (rows.set j l)).has k → (entInner enc M e hs rows).has k ∨ (entOwn enc M e A c l).has k := by
    intro k hk
    rcases set_has hk with h | ⟨i, _, hil, h⟩
    · exact .inr h
    · exact .inl ⟨_, List.getElem_mem hil, h⟩
  have hnew : Inner enc M e w (hs.set j ⟨A, l.length, c⟩) (rows.set j l) := by
    refine ⟨All2.set ⟨rfl, ho.1⟩ j hin.1.1, pairwise_set j hin.1.2 (fun x hx k hk hk' => hfar k ⟨x, hx, hk'⟩ hk) (fun x hx k hk => hfar k ⟨x, hx, hk⟩)⟩
  refine ⟨h1.keeps, fun f hf => ?_, ?_⟩
  · rcases List.mem_append.1 hf with hf | hf
    · exact h1.holds f (by simp [hf])
    · rcases List.mem_cons.1 hf with rfl | hf
      · refine ⟨hnew, fun k hk => ?_⟩
        rcases hhas k hk with h | h
        · exact hin.2 k h
        · exact ho.2 k h
      · exact h1.holds f (by simp [hf])
  · rw [List.pairwise_append, List.pairwise_cons]
    refine ⟨hX, ⟨fun f hf k hk => ?_, hY⟩, fun f hf g hg k hk => ?_⟩
    · rcases hhas k hk with h | h
      · exact hY1 f hf k h
      · exact hap.1 f (by simp [hf]) k h
    · rcases List.mem_cons.1 hg with rfl | hg
      · intro hk'
        rcases hhas k hk' with h | h
        · exact hXY f hf _ List.mem_cons_self k hk h
        · exact hap.1 f (by simp [hf]) k h hk
      · exact hXY f hf g (by simp [hg]) k hk
/-- rows that all are empty -/
theorem Mem.emptyRows (enc : α → List Value) (M e n : Nat) (hw : Mem C w S) : Mem C w (entInner enc M e (List.replicate n hd0) (List.replicate n []) :: S) := by
  have hno : ∀ k, ¬ (entInner enc M e (List.replicate n hd0) (List.replicate n [])).has k := by
    rintro k ⟨h, hm, hk⟩
    rw [(List.mem_replicate.1 hm).2, hd0_blk] at hk; cases hk
  refine hw.fresh (Below.refl _ _) (fun g hg => (hno g hg).elim) ⟨?_, ?_⟩
  · induction n with
    | zero => exact .nil
    | succ n ih => exact .cons ⟨rfl, Own.nil w 0⟩ (ih fun k hk => hno k (by obtain ⟨h, hm, hk⟩ := hk; exact ⟨h, by rw [List.mem_replicate] at hm ⊢; exact ⟨by omega, hm.2⟩, hk⟩))
  · rw [List.pairwise_replicate]
    right
    intro k hk; rw [hd0_blk] at hk; cases hk
theorem Mem.newBlkF {b : Nat} {R : List Ent} (hw : Mem C w (S1 ++ R)) (hF : b ∉ C.F) (hb : b < C.w0.heap.size) : b ∉ blks S1 := fun hm => by
  obtain ⟨e, he, hg⟩ := mem_blks.1 hm
  rcases ((hw.holds e (by simp [he])).2 b hg).2 with h | h
  · exact hF h
  · omega
theorem Mem.rdAwayF {A : Option Addr} {ls : List α} (hw : Mem C w S) (h : RdE enc M C.w0 A ls) (hF : ∀ b o, A = some ⟨b, o, Option.none⟩ → b ∉ C.F) : RdE enc M w A ls := by
  intro j x hj
  obtain ⟨b, o, h1, h2, h3⟩ := h j x hj
  exact ⟨b, o, h1, Nat.lt_of_lt_of_le h2 hw.keeps.size, fun k v hk => hw.old h2 (hF b o h1) (h3 k v hk)⟩
/-- the last item is left off -/
theorem Mem.ownLast {g et : Nat} {ls : List α} {x : α} (hu : Upd S (entOwn enc M et (some ⟨g, 0, Option.none⟩) c (ls ++ [x])) (entOwn enc M et (some ⟨g, 0, Option.none⟩) c ls) S') (hM : ∀ x, (enc x).length = M) (hw : Mem C w S) : Mem C w S' := by
  have ho := hw.holds _ hu.mem
  have h : Own enc M et w 0 (.slice (some ⟨g, 0, Option.none⟩) (ls ++ [x]).length c) (ls ++ [x]) := ho.1
  refine hw.upd hu (Keeps.refl [] w) (by simp) (fun k hk => ?_) ?_
  · have : some g = some k := hk
    cases this
    exact ⟨(ho.2 g rfl).1, .inl rfl⟩
  · obtain ⟨g', cap, cur, hv, hbb, hg, hnc, hcm, hcs, htake⟩ := h.2.resolve_left (by simp)
    simp only [Value.slice.injEq, Option.some.injEq, Addr.mk.injEq, and_true, true_and] at hv
    obtain ⟨rfl, rfl⟩ := hv
    rw [List.length_append, List.length_singleton] at hnc
    refine ⟨flat_len hM _, .inr ⟨g, c, cur, rfl, hbb, hg, by omega, hcm, hcs, ?_⟩⟩
    have e1 : (ls ++ [x]).flatMap enc = ls.flatMap enc ++ enc x := by rw [List.flatMap_append]; simp
    rw [e1, List.length_append, List.length_singleton] at htake
    have h2 := congrArg (List.take (ls.length * M)) htake
    rw [List.take_take, List.take_append_of_le_length (by rw [flat_len hM]; omega)] at h2
    rw [List.take_of_length_le (l := ls.flatMap enc) (by rw [flat_len hM]; omega)] at h2
    rw [← h2, Nat.min_eq_left]
    rw [Nat.add_mul]; omega
end
end Go.Proofs.Ytbhjljnbjomnhaa

namespace Go.Proofs.Ytbhjljnbjomnhaa
open Go.RowKit
set_option linter.unusedSectionVars false

instance : Inhabited Hd := ⟨⟨none, 0, 0⟩⟩
/-- a process of the machine -/
structure Tp where
  hd : Hd
  pend : Bool
  call : Int
  dn : Bool
  fl : Bool
  res : Int
  deriving Inhabited
def Tp.enc (q : Tp) : List Value := [.slice q.hd.a q.hd.n q.hd.c, .bool q.pend, .int .i64 q.call, .bool q.dn, .bool q.fl, .int .i64 q.res]
theorem Tp.enc_mk (A : Option Addr) (n c : Nat) (p : Bool) (i : Int) (d f : Bool) (r : Int) : Tp.enc ⟨⟨A, n, c⟩, p, i, d, f, r⟩ = [.slice A n c, .bool p, .int .i64 i, .bool d, .bool f, .int .i64 r] := rfl
section
variable {P : Program} {C : Ctx} {S : List Ent} {α : Type} {enc : α → List Value} {M e g c j off s : Nat} {ls : List α} {x : α} {v : Value}
theorem Lds.rdAggZ {o : Nat} [hs : AggOf P s M] (h : RdE enc M C.w0 (some ⟨g, o, none⟩) ls) (hM : ∀ x, (enc x).length = M) (hF : g ∉ C.F) (hj : 0 < ls.length) : Lds P C S s ⟨g, o, none⟩ (.agg (enc ls[0]).toArray) := by
  have := Lds.rdAgg (P := P) (S := S) (s := s) h hM hF hj
  rwa [Nat.zero_mul, Nat.add_zero] at this
theorem Lds.setAt [OneCell P s] (hm : entOwn enc M e (some ⟨g, 0, none⟩) c (ls.set j x) ∈ S) (hM : ∀ x, (enc x).length = M) (hj : j < ls.length) (hv : (enc x)[off]? = some v) : Lds P C S s ⟨g, j * M + off, none⟩ v :=
  Lds.own hm hM (by simpa using hj) (by rw [List.getElem_set_self]; exact hv)
theorem Lds.setAt0 [OneCell P s] (hm : entOwn enc M e (some ⟨g, 0, none⟩) c (ls.set j x) ∈ S) (hM : ∀ x, (enc x).length = M) (hj : j < ls.length) (hv : (enc x)[0]? = some v) : Lds P C S s ⟨g, j * M, none⟩ v :=
  Lds.own0 hm hM (by simpa using hj) (by rw [List.getElem_set_self]; exact hv)
end
/-- where the machine lies -/
structure TLc where
  m : Nat
  A0 : Option Addr
  nT : Nat
  cT : Nat
  AS : Option Addr
  cS : Nat
  AP : Option Addr
  cP : Nat
def machT (a : TLc) (rows : List (List Int)) (evs : List Ev) (sts : List Stp) (calls : Nat) (hS : List Hd) (pr : List Tp) (x : (Option Addr × Nat) × (Option Addr × Nat)) : List Ent :=
  [entBlk a.m 189 #[.slice a.A0 a.nT a.cT, .slice a.AS hS.length a.cS, .slice a.AP pr.length a.cP, .slice x.1.1 evs.length x.1.2, .slice x.2.1 sts.length x.2.2, .int .i64 (calls : Nat)],
    entOwn hdEnc 1 22 a.AS a.cS hS, entInner intEnc 1 3 hS rows, entOwn Tp.enc 6 192 a.AP a.cP pr, entOwn Ev.enc 4 86 x.1.1 x.1.2 evs, entOwn Stp.enc 2 39 x.2.1 x.2.2 sts]
section
variable (a : TLc) (ts : List Int) (rows : List (List Int)) (evs : List Ev) (sts : List Stp) (calls : Nat) (hS : List Hd) (pr : List Tp) (x : (Option Addr × Nat) × (Option Addr × Nat)) (k : Nat) (row : List Ak) (w : World) (n0 : Nat)
  (hk : k < pr.length) (hm : Mem ⟨n0, blks (machT a rows evs sts calls hS pr x), w⟩ w (machT a rows evs sts calls hS pr x)) (he : evs.length ≤ 1000) (hs : sts.length ≤ 1000) (hc : calls ≤ 1000)
include hk hm he hs hc
set_option maxRecDepth 100000 in
set_option maxHeartbeats 4000000 in
/-- nothing is left -/
theorem turn_idle (A : Option Addr) (c : Nat) (cl : Int) (dn fl : Bool) (rs : Int) (hpk : pr[k] = ⟨⟨A, 0, c⟩, false, cl, dn, fl, rs⟩) : Calls Try.prog 92 #[.pointer (some ⟨a.m, 0, none⟩), .int .i64 (k : Nat)] w fun e w' => e = .returned (.tuple #[]) ∧ Mem ⟨0, blks (machT a rows evs sts calls hS pr x), w⟩ w' (machT a rows evs sts calls hS pr x) := by
  generalize blks (machT a rows evs sts calls hS pr x) = F at hm ⊢
  obtain ⟨am, A0, nT, cT, AS, cS, AP, cP⟩ := a
  obtain ⟨⟨AE, cE⟩, ⟨AG, cG⟩⟩ := x
  refine calls_T F Try.func92 rfl Try.ntmps92 (by simp) (hm.anyN _) ?_
  dsimp only [machT]
  refine T_own (enc := Tp.enc) (ls := pr) (by first | ((repeat (first | with_reducible exact List.mem_cons_self | with_reducible apply List.mem_cons_of_mem)); done) | (repeat (first | exact List.Mem.head _ | apply List.Mem.tail))) (by omega) ?_
  rintro gP rfl
  repeat' (first | ((first | with_reducible (first | apply TL_q | apply TD_q0 | apply TD_q1 | apply TD_q2 | apply TD_q3) | ((with_reducible (first | apply TD_q0y | apply TD_q1y)); exact rfl; exact rfl; (with_reducible exact rfl))); (first | ((with_reducible apply QS_load); exact rfl; exact Lds.rdAggZ (enc := Ak.enc) (M := 3) hr (by intro x; rfl) (by assumption) (by assumption)) | ((with_reducible apply QS_load); exact rfl; exact Lds.own (enc := Tp.enc) (by first | ((repeat (first | with_reducible exact List.mem_cons_self | with_reducible apply List.mem_cons_of_mem)); done) | (repeat (first | exact List.Mem.head _ | apply List.Mem.tail))) (fun _ => rfl) hk (by rw [hpk, Tp.enc_mk]; rfl)) | ((with_reducible apply QS_load); exact rfl; exact Lds.own0 (enc := Tp.enc) (by first | ((repeat (first | with_reducible exact List.mem_cons_self | with_reducible apply List.mem_cons_of_mem)); done) | (repeat (first | exact List.Mem.head _ | apply List.Mem.tail))) (fun _ => rfl) hk (by rw [hpk, Tp.enc_mk]; rfl)) | ((with_reducible apply QS_load); exact rfl; exact Lds.own1 (enc := hdEnc) (by first | ((repeat (first | with_reducible exact List.mem_cons_self | with_reducible apply List.mem_cons_of_mem)); done) | (repeat (first | exact List.Mem.head _ | apply List.Mem.tail))) (fun _ => rfl) hjl hhead) | ((with_reducible apply QS_load); exact rfl; exact Lds.setAt (by first | ((repeat (first | with_reducible exact List.mem_cons_self | with_reducible apply List.mem_cons_of_mem)); done) | (repeat (first | exact List.Mem.head _ | apply List.Mem.tail))) (fun _ => rfl) (by first | exact hk | (simp only [List.length_set]; exact hk)) (by rw [Tp.enc_mk]; rfl)) | ((with_reducible apply QS_load); exact rfl; exact Lds.setAt0 (by first | ((repeat (first | with_reducible exact List.mem_cons_self | with_reducible apply List.mem_cons_of_mem)); done) | (repeat (first | exact List.Mem.head _ | apply List.Mem.tail))) (fun _ => rfl) (by first | exact hk | (simp only [List.length_set]; exact hk)) (by rw [Tp.enc_mk]; rfl)) | ((with_reducible apply QS_sliceLow (l := 1)); exact rfl; exact rfl; omega) | exact QS.auto); exact rfl) | ((with_reducible (first | apply TD_e2z | apply TD_e3z | apply TL_e | apply TD_e2 | apply TD_e3)); (first | ((with_reducible apply ES_storeOwn (enc := Tp.enc)); exact rfl; exact rfl; (first | ((repeat (first | with_reducible exact Upd.here _ _ _ | with_reducible apply Upd.there)); done) | (repeat (first | exact Upd.here _ _ _ | apply Upd.there))); exact fun _ => rfl; ((first | exact List.getElem?_set_self (by first | exact hk | (simp only [List.length_set]; exact hk)) | exact hpk1)); decide; exact Tp.enc_mk _ _ _ _ _ _ _ _; exact rfl) | ((with_reducible apply ES_storeOwn0 (enc := Tp.enc)); exact rfl; exact rfl; (first | ((repeat (first | with_reducible exact Upd.here _ _ _ | with_reducible apply Upd.there)); done) | (repeat (first | exact Upd.here _ _ _ | apply Upd.there))); exact fun _ => rfl; ((first | exact List.getElem?_set_self (by first | exact hk | (simp only [List.length_set]; exact hk)) | exact hpk1)); decide; exact Tp.enc_mk _ _ _ _ _ _ _ _; exact rfl) | exact ES.auto); (first | exact rfl | exact ⟨rfl, rfl, rfl⟩); (first | (rintro _ _ ⟨rfl, rfl⟩) | (rintro _ _ ⟨g, rfl, rfl⟩) | (rintro _ _ ⟨A', c', rfl, rfl⟩)); (try refine ⟨SUB, ?_⟩)) | (refine GO ?_) | (refine GOE ?_; (first | (rintro _ _ ⟨rfl, rfl⟩) | (rintro _ _ ⟨g, rfl, rfl⟩) | (rintro _ _ ⟨A', c', rfl, rfl⟩))) | ((refine GO2 ?_ ?_) <;> intro h <;> (try (repeat (first | with_reducible (replace h := of_decide_eq_true h) | with_reducible (replace h := of_decide_eq_false h) | with_reducible (replace h := bnt h) | with_reducible (replace h := bnf h) | with_reducible (replace h := Int.not_lt.mp h) | with_reducible (replace h := Int.not_le.mp h) | with_reducible (replace h := band_dec h) | with_reducible (replace h := band_decF h) | with_reducible (replace h := bor_dec h) | with_reducible (replace h := bor_decF h)))) <;> (try (exfalso; first | contradiction | omega))) | fail)
  (refine At_retN Try.results92 rfl (fun w' hw => ?_))
  exact ⟨rfl, hw.anyN 0⟩
set_option maxRecDepth 100000 in
set_option maxHeartbeats 4000000 in
/-- one is stuck -/
theorem turn_stuck (h : Hd) (cl rs : Int) (hpk : pr[k] = ⟨h, true, cl, true, true, rs⟩) : Calls Try.prog 92 #[.pointer (some ⟨a.m, 0, none⟩), .int .i64 (k : Nat)] w fun e w' => e = .returned (.tuple #[]) ∧ Mem ⟨0, blks (machT a rows evs sts calls hS pr x), w⟩ w' (machT a rows evs sts calls hS pr x) := by
  generalize blks (machT a rows evs sts calls hS pr x) = F at hm ⊢
  obtain ⟨am, A0, nT, cT, AS, cS, AP, cP⟩ := a
  obtain ⟨⟨AE, cE⟩, ⟨AG, cG⟩⟩ := x
  refine calls_T F Try.func92 rfl Try.ntmps92 (by simp) (hm.anyN _) ?_
  dsimp only [machT]
  refine T_own (enc := Tp.enc) (ls := pr) (by first | ((repeat (first | with_reducible exact List.mem_cons_self | with_reducible apply List.mem_cons_of_mem)); done) | (repeat (first | exact List.Mem.head _ | apply List.Mem.tail))) (by omega) ?_
  rintro gP rfl
  repeat' (first | ((first | with_reducible (first | apply TL_q | apply TD_q0 | apply TD_q1 | apply TD_q2 | apply TD_q3) | ((with_reducible (first | apply TD_q0y | apply TD_q1y)); exact rfl; exact rfl; (with_reducible exact rfl))); (first | ((with_reducible apply QS_load); exact rfl; exact Lds.rdAggZ (enc := Ak.enc) (M := 3) hr (by intro x; rfl) (by assumption) (by assumption)) | ((with_reducible apply QS_load); exact rfl; exact Lds.own (enc := Tp.enc) (by first | ((repeat (first | with_reducible exact List.mem_cons_self | with_reducible apply List.mem_cons_of_mem)); done) | (repeat (first | exact List.Mem.head _ | apply List.Mem.tail))) (fun _ => rfl) hk (by rw [hpk, Tp.enc_mk]; rfl)) | ((with_reducible apply QS_load); exact rfl; exact Lds.own0 (enc := Tp.enc) (by first | ((repeat (first | with_reducible exact List.mem_cons_self | with_reducible apply List.mem_cons_of_mem)); done) | (repeat (first | exact List.Mem.head _ | apply List.Mem.tail))) (fun _ => rfl) hk (by rw [hpk, Tp.enc_mk]; rfl)) | ((with_reducible apply QS_load); exact rfl; exact Lds.own1 (enc := hdEnc) (by first | ((repeat (first | with_reducible exact List.mem_cons_self | with_reducible apply List.mem_cons_of_mem)); done) | (repeat (first | exact List.Mem.head _ | apply List.Mem.tail))) (fun _ => rfl) hjl hhead) | ((with_reducible apply QS_load); exact rfl; exact Lds.setAt (by first | ((repeat (first | with_reducible exact List.mem_cons_self | with_reducible apply List.mem_cons_of_mem)); done) | (repeat (first | exact List.Mem.head _ | apply List.Mem.tail))) (fun _ => rfl) (by first | exact hk | (simp only [List.length_set]; exact hk)) (by rw [Tp.enc_mk]; rfl)) | ((with_reducible apply QS_load); exact rfl; exact Lds.setAt0 (by first | ((repeat (first | with_reducible exact List.mem_cons_self | with_reducible apply List.mem_cons_of_mem)); done) | (repeat (first | exact List.Mem.head _ | apply List.Mem.tail))) (fun _ => rfl) (by first | exact hk | (simp only [List.length_set]; exact hk)) (by rw [Tp.enc_mk]; rfl)) | ((with_reducible apply QS_sliceLow (l := 1)); exact rfl; exact rfl; omega) | exact QS.auto); exact rfl) | ((with_reducible (first | apply TD_e2z | apply TD_e3z | apply TL_e | apply TD_e2 | apply TD_e3)); (first | ((with_reducible apply ES_storeOwn (enc := Tp.enc)); exact rfl; exact rfl; (first | ((repeat (first | with_reducible exact Upd.here _ _ _ | with_reducible apply Upd.there)); done) | (repeat (first | exact Upd.here _ _ _ | apply Upd.there))); exact fun _ => rfl; ((first | exact List.getElem?_set_self (by first | exact hk | (simp only [List.length_set]; exact hk)) | exact hpk1)); decide; exact Tp.enc_mk _ _ _ _ _ _ _ _; exact rfl) | ((with_reducible apply ES_storeOwn0 (enc := Tp.enc)); exact rfl; exact rfl; (first | ((repeat (first | with_reducible exact Upd.here _ _ _ | with_reducible apply Upd.there)); done) | (repeat (first | exact Upd.here _ _ _ | apply Upd.there))); exact fun _ => rfl; ((first | exact List.getElem?_set_self (by first | exact hk | (simp only [List.length_set]; exact hk)) | exact hpk1)); decide; exact Tp.enc_mk _ _ _ _ _ _ _ _; exact rfl) | exact ES.auto); (first | exact rfl | exact ⟨rfl, rfl, rfl⟩); (first | (rintro _ _ ⟨rfl, rfl⟩) | (rintro _ _ ⟨g, rfl, rfl⟩) | (rintro _ _ ⟨A', c', rfl, rfl⟩)); (try refine ⟨SUB, ?_⟩)) | (refine GO ?_) | (refine GOE ?_; (first | (rintro _ _ ⟨rfl, rfl⟩) | (rintro _ _ ⟨g, rfl, rfl⟩) | (rintro _ _ ⟨A', c', rfl, rfl⟩))) | ((refine GO2 ?_ ?_) <;> intro h <;> (try (repeat (first | with_reducible (replace h := of_decide_eq_true h) | with_reducible (replace h := of_decide_eq_false h) | with_reducible (replace h := bnt h) | with_reducible (replace h := bnf h) | with_reducible (replace h := Int.not_lt.mp h) | with_reducible (replace h := Int.not_le.mp h) | with_reducible (replace h := band_dec h) | with_reducible (replace h := band_decF h) | with_reducible (replace h := bor_dec h) | with_reducible (replace h := bor_decF h)))) <;> (try (exfalso; first | contradiction | omega))) | fail)
  (refine At_retN Try.results92 rfl (fun w' hw => ?_))
  exact ⟨rfl, hw.anyN 0⟩
set_option maxRecDepth 100000 in
set_option maxHeartbeats 4000000 in
/-- a call -/
theorem turn_call (b o c : Nat) (cl : Int) (dn fl : Bool) (rs : Int) (hpk : pr[k] = ⟨⟨some ⟨b, o, none⟩, row.length, c⟩, false, cl, dn, fl, rs⟩) (hr : RdE Ak.enc 3 w (some ⟨b, o, none⟩) row) (h0 : 0 < row.length) (hb : b ∉ blks (machT a rows evs sts calls hS pr x)) : Calls Try.prog 92 #[.pointer (some ⟨a.m, 0, none⟩), .int .i64 (k : Nat)] w fun e w' => ∃ y : Option Addr × Nat, e = .returned (.tuple #[]) ∧ Mem ⟨0, blks (machT a rows evs sts calls hS pr x), w⟩ w' (machT a rows (evs ++ [⟨(k : Nat), row[0].thing, row[0].kind, row[0].arg⟩]) sts (calls + 1) hS (pr.set k ⟨⟨some ⟨b, o, none⟩, row.length, c⟩, true, (calls : Nat), false, fl, rs⟩) (y, x.2)) := by
  generalize blks (machT a rows evs sts calls hS pr x) = F at hm hb ⊢
  obtain ⟨am, A0, nT, cT, AS, cS, AP, cP⟩ := a
  obtain ⟨⟨AE, cE⟩, ⟨AG, cG⟩⟩ := x
  have hpk1 : pr[k]? = some ⟨⟨some ⟨b, o, none⟩, row.length, c⟩, false, cl, dn, fl, rs⟩ := by rw [List.getElem?_eq_getElem hk, hpk]
  refine calls_T F Try.func92 rfl Try.ntmps92 (by simp) (hm.anyN _) ?_
  dsimp only [machT]
  refine T_own (enc := Tp.enc) (ls := pr) (by first | ((repeat (first | with_reducible exact List.mem_cons_self | with_reducible apply List.mem_cons_of_mem)); done) | (repeat (first | exact List.Mem.head _ | apply List.Mem.tail))) (by omega) ?_
  rintro gP rfl
  repeat' (first | ((first | with_reducible (first | apply TL_q | apply TD_q0 | apply TD_q1 | apply TD_q2 | apply TD_q3) | ((with_reducible (first | apply TD_q0y | apply TD_q1y)); exact rfl; exact rfl; (with_reducible exact rfl))); (first | ((with_reducible apply QS_load); exact rfl; exact Lds.rdAggZ (enc := Ak.enc) (M := 3) hr (by intro x; rfl) (by assumption) (by assumption)) | ((with_reducible apply QS_load); exact rfl; exact Lds.own (enc := Tp.enc) (by first | ((repeat (first | with_reducible exact List.mem_cons_self | with_reducible apply List.mem_cons_of_mem)); done) | (repeat (first | exact List.Mem.head _ | apply List.Mem.tail))) (fun _ => rfl) hk (by rw [hpk, Tp.enc_mk]; rfl)) | ((with_reducible apply QS_load); exact rfl; exact Lds.own0 (enc := Tp.enc) (by first | ((repeat (first | with_reducible exact List.mem_cons_self | with_reducible apply List.mem_cons_of_mem)); done) | (repeat (first | exact List.Mem.head _ | apply List.Mem.tail))) (fun _ => rfl) hk (by rw [hpk, Tp.enc_mk]; rfl)) | ((with_reducible apply QS_load); exact rfl; exact Lds.own1 (enc := hdEnc) (by first | ((repeat (first | with_reducible exact List.mem_cons_self | with_reducible apply List.mem_cons_of_mem)); done) | (repeat (first | exact List.Mem.head _ | apply List.Mem.tail))) (fun _ => rfl) hjl hhead) | ((with_reducible apply QS_load); exact rfl; exact Lds.setAt (by first | ((repeat (first | with_reducible exact List.mem_cons_self | with_reducible apply List.mem_cons_of_mem)); done) | (repeat (first | exact List.Mem.head _ | apply List.Mem.tail))) (fun _ => rfl) (by first | exact hk | (simp only [List.length_set]; exact hk)) (by rw [Tp.enc_mk]; rfl)) | ((with_reducible apply QS_load); exact rfl; exact Lds.setAt0 (by first | ((repeat (first | with_reducible exact List.mem_cons_self | with_reducible apply List.mem_cons_of_mem)); done) | (repeat (first | exact List.Mem.head _ | apply List.Mem.tail))) (fun _ => rfl) (by first | exact hk | (simp only [List.length_set]; exact hk)) (by rw [Tp.enc_mk]; rfl)) | ((with_reducible apply QS_sliceLow (l := 1)); exact rfl; exact rfl; omega) | exact QS.auto); exact rfl) | ((with_reducible (first | apply TD_e2z | apply TD_e3z | apply TL_e | apply TD_e2 | apply TD_e3)); (first | ((with_reducible apply ES_storeOwn (enc := Tp.enc)); exact rfl; exact rfl; (first | ((repeat (first | with_reducible exact Upd.here _ _ _ | with_reducible apply Upd.there)); done) | (repeat (first | exact Upd.here _ _ _ | apply Upd.there))); exact fun _ => rfl; ((first | exact List.getElem?_set_self (by first | exact hk | (simp only [List.length_set]; exact hk)) | exact hpk1)); decide; exact Tp.enc_mk _ _ _ _ _ _ _ _; exact rfl) | ((with_reducible apply ES_storeOwn0 (enc := Tp.enc)); exact rfl; exact rfl; (first | ((repeat (first | with_reducible exact Upd.here _ _ _ | with_reducible apply Upd.there)); done) | (repeat (first | exact Upd.here _ _ _ | apply Upd.there))); exact fun _ => rfl; ((first | exact List.getElem?_set_self (by first | exact hk | (simp only [List.length_set]; exact hk)) | exact hpk1)); decide; exact Tp.enc_mk _ _ _ _ _ _ _ _; exact rfl) | exact ES.auto); (first | exact rfl | exact ⟨rfl, rfl, rfl⟩); (first | (rintro _ _ ⟨rfl, rfl⟩) | (rintro _ _ ⟨g, rfl, rfl⟩) | (rintro _ _ ⟨A', c', rfl, rfl⟩)); (try refine ⟨SUB, ?_⟩)) | (refine GG ?_) | (refine GE ?_; (first | (rintro _ _ ⟨rfl, rfl⟩) | (rintro _ _ ⟨g, rfl, rfl⟩) | (rintro _ _ ⟨A', c', rfl, rfl⟩)); (try refine ⟨SUB, ?_⟩)) | ((refine GO2 ?_ ?_) <;> intro h <;> (try (repeat (first | with_reducible (replace h := of_decide_eq_true h) | with_reducible (replace h := of_decide_eq_false h) | with_reducible (replace h := bnt h) | with_reducible (replace h := bnf h) | with_reducible (replace h := Int.not_lt.mp h) | with_reducible (replace h := Int.not_le.mp h) | with_reducible (replace h := band_dec h) | with_reducible (replace h := band_decF h) | with_reducible (replace h := bor_dec h) | with_reducible (replace h := bor_decF h)))) <;> (try (exfalso; first | contradiction | omega))) | (refine GOF ?_ ?_) | ((with_reducible apply T_draw (id := 4) 14 (OT.seq [(0, 0), (0, 1), (0, 2), (0, 3), (0, 5), (0, 6), (0, 8), (0, 10), (1, 4), (1, 7), (1, 9), (1, 11), (0, 12), (2, 13), (3, 14), (0, 15), (0, 16), (3, 17)] .nil)); kernel_rfl; exact rfl; kernel_rfl; (repeat (first | with_reducible exact Blind.body | with_reducible apply Blind.seq | with_reducible apply Blind.block))) | ((with_reducible apply T_draw (id := 9) 1000 (OT.seq [(0, 0), (0, 1), (0, 2), (0, 4), (0, 8), (0, 9), (0, 10), (0, 12), (0, 16), (0, 18), (1, 3), (1, 5), (0, 6), (1, 7), (1, 11), (1, 13), (0, 14), (1, 15), (1, 17), (1, 19), (2, 20), (0, 21), (0, 22), (0, 23), (0, 24), (0, 25), (0, 26), (0, 27)] .nil)); kernel_rfl; exact rfl; kernel_rfl; (repeat (first | with_reducible exact Blind.body | with_reducible apply Blind.seq | with_reducible apply Blind.block))) | ((with_reducible apply T_draw (id := 12) 8 (OT.seq [(0, 0), (0, 1), (0, 2), (0, 4), (0, 6), (1, 3), (1, 5), (0, 7), (3, 8)] .nil)); kernel_rfl; exact rfl; kernel_rfl; (repeat (first | with_reducible exact Blind.body | with_reducible apply Blind.seq | with_reducible apply Blind.block))) | ((with_reducible apply T_draw (id := 13) 12 (OT.seq [(0, 0), (0, 1), (0, 2), (0, 3), (0, 5), (0, 6), (0, 7), (0, 9), (1, 4), (1, 8), (0, 10), (2, 11), (3, 12), (0, 13), (0, 14), (3, 15)] .nil)); kernel_rfl; exact rfl; kernel_rfl; (repeat (first | with_reducible exact Blind.body | with_reducible apply Blind.seq | with_reducible apply Blind.block))) | ((with_reducible apply T_draw (id := 15) 19 (OT.seq [(0, 0), (0, 1), (0, 2), (0, 3), (0, 5), (0, 6), (0, 7), (0, 8), (0, 13), (0, 14), (0, 15), (1, 4), (1, 9), (0, 10), (0, 11), (1, 12), (1, 16), (0, 17), (2, 18), (3, 19), (0, 20), (0, 21), (3, 22)] .nil)); kernel_rfl; exact rfl; kernel_rfl; (repeat (first | with_reducible exact Blind.body | with_reducible apply Blind.seq | with_reducible apply Blind.block))) | ((with_reducible (first | apply TD_e2z | apply TD_e3z | apply TL_e | apply TD_e2 | apply TD_e3)); ((with_reducible apply ES_append1 (enc := Ev.enc) (xx := (⟨(k : Nat), row[0].thing, row[0].kind, row[0].arg⟩ : Ev))); exact rfl; exact rfl; (repeat (first | with_reducible exact List.mem_cons_self | with_reducible apply List.mem_cons_of_mem)); exact rfl; exact fun _ => rfl; exact fun _ => rfl; (intro A' c'; first | ((repeat (first | with_reducible exact Upd.here _ _ _ | with_reducible apply Upd.there)); done) | (repeat (first | exact Upd.here _ _ _ | apply Upd.there))); (omega); decide; exact rfl); (first | exact rfl | exact ⟨rfl, rfl, rfl⟩); (rintro _ _ ⟨A', c', rfl, rfl⟩); (try refine ⟨SUB, ?_⟩)) | fail)
  (refine At_retN Try.results92 rfl (fun w' hw => ?_))
  refine ⟨(A', c'), rfl, ?_⟩
  have h9 := hw.anyN 0
  simp only [List.set_set] at h9
  rw [List.length_set]
  rw [show ((calls + 1 : Nat) : Int) = (calls : Int) + 1 by omega]
  exact h9.sel (by (repeat (first | exact Sel.nil _ | (apply Sel.cons; (repeat (first | with_reducible exact Pick.here _ _ | with_reducible apply Pick.there))))))
set_option maxRecDepth 100000 in
set_option maxHeartbeats 4000000 in
/-- an answer -/
theorem turn_end (b o c : Nat) (cl rs : Int) (hpk : pr[k] = ⟨⟨some ⟨b, o, none⟩, row.length, c⟩, true, cl, true, false, rs⟩) (hr : RdE Ak.enc 3 w (some ⟨b, o, none⟩) row) (h0 : 0 < row.length) (hb : b ∉ blks (machT a rows evs sts calls hS pr x)) : Calls Try.prog 92 #[.pointer (some ⟨a.m, 0, none⟩), .int .i64 (k : Nat)] w fun e w' => ∃ y : Option Addr × Nat, e = .returned (.tuple #[]) ∧ Mem ⟨0, blks (machT a rows evs sts calls hS pr x), w⟩ w' (machT a rows (evs ++ [⟨(k : Nat), row[0].thing, 0, rs⟩]) sts calls hS (pr.set k ⟨⟨some ⟨b, if c = 1 then o else o + 1 * 3, none⟩, row.length - 1, c - 1⟩, false, cl, true, false, rs⟩) (y, x.2)) := by
  generalize blks (machT a rows evs sts calls hS pr x) = F at hm hb ⊢
  obtain ⟨am, A0, nT, cT, AS, cS, AP, cP⟩ := a
  obtain ⟨⟨AE, cE⟩, ⟨AG, cG⟩⟩ := x
  have hpk1 : pr[k]? = some ⟨⟨some ⟨b, o, none⟩, row.length, c⟩, true, cl, true, false, rs⟩ := by rw [List.getElem?_eq_getElem hk, hpk]
  refine calls_T F Try.func92 rfl Try.ntmps92 (by simp) (hm.anyN _) ?_
  dsimp only [machT]
  refine T_own (enc := Tp.enc) (ls := pr) (by first | ((repeat (first | with_reducible exact List.mem_cons_self | with_reducible apply List.mem_cons_of_mem)); done) | (repeat (first | exact List.Mem.head _ | apply List.Mem.tail))) (by omega) ?_
  rintro gP rfl
  repeat' (first | ((first | with_reducible (first | apply TL_q | apply TD_q0 | apply TD_q1 | apply TD_q2 | apply TD_q3) | ((with_reducible (first | apply TD_q0y | apply TD_q1y)); exact rfl; exact rfl; (with_reducible exact rfl))); (first | ((with_reducible apply QS_load); exact rfl; exact Lds.rdAggZ (enc := Ak.enc) (M := 3) hr (by intro x; rfl) (by assumption) (by assumption)) | ((with_reducible apply QS_load); exact rfl; exact Lds.own (enc := Tp.enc) (by first | ((repeat (first | with_reducible exact List.mem_cons_self | with_reducible apply List.mem_cons_of_mem)); done) | (repeat (first | exact List.Mem.head _ | apply List.Mem.tail))) (fun _ => rfl) hk (by rw [hpk, Tp.enc_mk]; rfl)) | ((with_reducible apply QS_load); exact rfl; exact Lds.own0 (enc := Tp.enc) (by first | ((repeat (first | with_reducible exact List.mem_cons_self | with_reducible apply List.mem_cons_of_mem)); done) | (repeat (first | exact List.Mem.head _ | apply List.Mem.tail))) (fun _ => rfl) hk (by rw [hpk, Tp.enc_mk]; rfl)) | ((with_reducible apply QS_load); exact rfl; exact Lds.own1 (enc := hdEnc) (by first | ((repeat (first | with_reducible exact List.mem_cons_self | with_reducible apply List.mem_cons_of_mem)); done) | (repeat (first | exact List.Mem.head _ | apply List.Mem.tail))) (fun _ => rfl) hjl hhead) | ((with_reducible apply QS_load); exact rfl; exact Lds.setAt (by first | ((repeat (first | with_reducible exact List.mem_cons_self | with_reducible apply List.mem_cons_of_mem)); done) | (repeat (first | exact List.Mem.head _ | apply List.Mem.tail))) (fun _ => rfl) (by first | exact hk | (simp only [List.length_set]; exact hk)) (by rw [Tp.enc_mk]; rfl)) | ((with_reducible apply QS_load); exact rfl; exact Lds.setAt0 (by first | ((repeat (first | with_reducible exact List.mem_cons_self | with_reducible apply List.mem_cons_of_mem)); done) | (repeat (first | exact List.Mem.head _ | apply List.Mem.tail))) (fun _ => rfl) (by first | exact hk | (simp only [List.length_set]; exact hk)) (by rw [Tp.enc_mk]; rfl)) | ((with_reducible apply QS_sliceLow (l := 1)); exact rfl; exact rfl; omega) | exact QS.auto); exact rfl) | ((with_reducible (first | apply TD_e2z | apply TD_e3z | apply TL_e | apply TD_e2 | apply TD_e3)); (first | ((with_reducible apply ES_storeOwn (enc := Tp.enc)); exact rfl; exact rfl; (first | ((repeat (first | with_reducible exact Upd.here _ _ _ | with_reducible apply Upd.there)); done) | (repeat (first | exact Upd.here _ _ _ | apply Upd.there))); exact fun _ => rfl; ((first | exact List.getElem?_set_self (by first | exact hk | (simp only [List.length_set]; exact hk)) | exact hpk1)); decide; exact Tp.enc_mk _ _ _ _ _ _ _ _; exact rfl) | ((with_reducible apply ES_storeOwn0 (enc := Tp.enc)); exact rfl; exact rfl; (first | ((repeat (first | with_reducible exact Upd.here _ _ _ | with_reducible apply Upd.there)); done) | (repeat (first | exact Upd.here _ _ _ | apply Upd.there))); exact fun _ => rfl; ((first | exact List.getElem?_set_self (by first | exact hk | (simp only [List.length_set]; exact hk)) | exact hpk1)); decide; exact Tp.enc_mk _ _ _ _ _ _ _ _; exact rfl) | exact ES.auto); (first | exact rfl | exact ⟨rfl, rfl, rfl⟩); (first | (rintro _ _ ⟨rfl, rfl⟩) | (rintro _ _ ⟨g, rfl, rfl⟩) | (rintro _ _ ⟨A', c', rfl, rfl⟩)); (try refine ⟨SUB, ?_⟩)) | (refine GG ?_) | (refine GE ?_; (first | (rintro _ _ ⟨rfl, rfl⟩) | (rintro _ _ ⟨g, rfl, rfl⟩) | (rintro _ _ ⟨A', c', rfl, rfl⟩)); (try refine ⟨SUB, ?_⟩)) | ((refine GO2 ?_ ?_) <;> intro h <;> (try (repeat (first | with_reducible (replace h := of_decide_eq_true h) | with_reducible (replace h := of_decide_eq_false h) | with_reducible (replace h := bnt h) | with_reducible (replace h := bnf h) | with_reducible (replace h := Int.not_lt.mp h) | with_reducible (replace h := Int.not_le.mp h) | with_reducible (replace h := band_dec h) | with_reducible (replace h := band_decF h) | with_reducible (replace h := bor_dec h) | with_reducible (replace h := bor_decF h)))) <;> (try (exfalso; first | contradiction | omega))) | (refine GOF ?_ ?_) | ((with_reducible apply T_draw (id := 4) 14 (OT.seq [(0, 0), (0, 1), (0, 2), (0, 3), (0, 5), (0, 6), (0, 8), (0, 10), (1, 4), (1, 7), (1, 9), (1, 11), (0, 12), (2, 13), (3, 14), (0, 15), (0, 16), (3, 17)] .nil)); kernel_rfl; exact rfl; kernel_rfl; (repeat (first | with_reducible exact Blind.body | with_reducible apply Blind.seq | with_reducible apply Blind.block))) | ((with_reducible apply T_draw (id := 9) 1000 (OT.seq [(0, 0), (0, 1), (0, 2), (0, 4), (0, 8), (0, 9), (0, 10), (0, 12), (0, 16), (0, 18), (1, 3), (1, 5), (0, 6), (1, 7), (1, 11), (1, 13), (0, 14), (1, 15), (1, 17), (1, 19), (2, 20), (0, 21), (0, 22), (0, 23), (0, 24), (0, 25), (0, 26), (0, 27)] .nil)); kernel_rfl; exact rfl; kernel_rfl; (repeat (first | with_reducible exact Blind.body | with_reducible apply Blind.seq | with_reducible apply Blind.block))) | ((with_reducible apply T_draw (id := 12) 8 (OT.seq [(0, 0), (0, 1), (0, 2), (0, 4), (0, 6), (1, 3), (1, 5), (0, 7), (3, 8)] .nil)); kernel_rfl; exact rfl; kernel_rfl; (repeat (first | with_reducible exact Blind.body | with_reducible apply Blind.seq | with_reducible apply Blind.block))) | ((with_reducible apply T_draw (id := 13) 12 (OT.seq [(0, 0), (0, 1), (0, 2), (0, 3), (0, 5), (0, 6), (0, 7), (0, 9), (1, 4), (1, 8), (0, 10), (2, 11), (3, 12), (0, 13), (0, 14), (3, 15)] .nil)); kernel_rfl; exact rfl; kernel_rfl; (repeat (first | with_reducible exact Blind.body | with_reducible apply Blind.seq | with_reducible apply Blind.block))) | ((with_reducible apply T_draw (id := 15) 19 (OT.seq [(0, 0), (0, 1), (0, 2), (0, 3), (0, 5), (0, 6), (0, 7), (0, 8), (0, 13), (0, 14), (0, 15), (1, 4), (1, 9), (0, 10), (0, 11), (1, 12), (1, 16), (0, 17), (2, 18), (3, 19), (0, 20), (0, 21), (3, 22)] .nil)); kernel_rfl; exact rfl; kernel_rfl; (repeat (first | with_reducible exact Blind.body | with_reducible apply Blind.seq | with_reducible apply Blind.block))) | ((with_reducible (first | apply TD_e2z | apply TD_e3z | apply TL_e | apply TD_e2 | apply TD_e3)); ((with_reducible apply ES_append1 (enc := Ev.enc) (xx := (⟨(k : Nat), row[0].thing, 0, rs⟩ : Ev))); exact rfl; exact rfl; (repeat (first | with_reducible exact List.mem_cons_self | with_reducible apply List.mem_cons_of_mem)); exact rfl; exact fun _ => rfl; exact fun _ => rfl; (intro A' c'; first | ((repeat (first | with_reducible exact Upd.here _ _ _ | with_reducible apply Upd.there)); done) | (repeat (first | exact Upd.here _ _ _ | apply Upd.there))); (omega); decide; exact rfl); (first | exact rfl | exact ⟨rfl, rfl, rfl⟩); (rintro _ _ ⟨A', c', rfl, rfl⟩); (try refine ⟨SUB, ?_⟩)) | fail)
  (refine At_retN Try.results92 rfl (fun w' hw => ?_))
  refine ⟨(A', c'), rfl, ?_⟩
  have h9 := hw.anyN 0
  simp only [List.set_set] at h9
  rw [List.length_set]
  exact h9.sel (by (repeat (first | exact Sel.nil _ | (apply Sel.cons; (repeat (first | with_reducible exact Pick.here _ _ | with_reducible apply Pick.there))))))
set_option maxRecDepth 100000 in
set_option maxHeartbeats 8000000 in
/-- what was called is done, or cannot be -/
theorem turn_do (b o c : Nat) (cl rs : Int) (fl : Bool) (th : Nat) (R : Res) (hpk : pr[k] = ⟨⟨some ⟨b, o, none⟩, row.length, c⟩, true, cl, false, fl, rs⟩) (hr : RdE Ak.enc 3 w (some ⟨b, o, none⟩) row) (h0 : 0 < row.length) (hb : b ∉ blks (machT a rows evs sts calls hS pr x)) (kd ar : Int) (hrow : row[0] = ⟨(th : Nat), kd, ar⟩)
    (hT : RdInt w a.A0 ts) (hnT : a.nT = ts.length) (hbT : ∀ b o, a.A0 = some ⟨b, o, none⟩ → b ∉ blks (machT a rows evs sts calls hS pr x)) (htl : th < ts.length) (hjs : th < rows.length) (hrw : rows[th].length ≤ 1000) (hR : stepO ts[th] rows[th] kd ar = R) :
    Calls Try.prog 92 #[.pointer (some ⟨a.m, 0, none⟩), .int .i64 (k : Nat)] w fun e w' => ∃ y : (Option Addr × Nat) × (Option Addr × Nat), e = .returned (.tuple #[]) ∧ Mem ⟨0, blks (machT a rows evs sts calls hS pr x), w⟩ w'
      (if R.2.2 = 0 then machT a (rows.set th R.1) evs (sts ++ [⟨cl, R.2.1⟩]) calls (hS.set th ⟨y.2.1, R.1.length, y.2.2⟩) (pr.set k ⟨⟨some ⟨b, o, none⟩, row.length, c⟩, true, cl, true, false, R.2.1⟩) (x.1, y.1)
       else machT a rows evs sts calls hS (pr.set k ⟨⟨some ⟨b, o, none⟩, row.length, c⟩, true, cl, true, true, R.2.1⟩) x) := by
  have hsl' : hS.length = rows.length := hm.innerLen (enc := intEnc) (M := 1) (e := 3) (by unfold machT; first | ((repeat (first | with_reducible exact List.mem_cons_self | with_reducible apply List.mem_cons_of_mem)); done) | (repeat (first | exact List.Mem.head _ | apply List.Mem.tail)))
  have hjl : th < hS.length := by omega
  obtain ⟨hn, hRow⟩ := hm.innerRd (enc := intEnc) (M := 1) (e := 3) (by unfold machT; first | ((repeat (first | with_reducible exact List.mem_cons_self | with_reducible apply List.mem_cons_of_mem)); done) | (repeat (first | exact List.Mem.head _ | apply List.Mem.tail))) (fun _ => rfl) hjl hjs
  obtain ⟨aR, cR, hh⟩ : ∃ aR cR, hS[th] = ⟨aR, rows[th].length, cR⟩ := ⟨hS[th].a, hS[th].c, by rw [← hn]⟩
  have hhead : (hdEnc hS[th])[0]? = some (.slice aR rows[th].length cR) := by rw [hh]; rfl
  have hstep := fun (w' : World) (h : RdInt w' aR rows[th]) => objStep_any aR cR rows[th] ts[th] kd ar w' h (by omega)
  rw [hR] at hstep
  have hrd : ∀ {C : Ctx} {S : List Ent} {W' : World}, Mem C W' S → entInner intEnc 1 3 hS rows ∈ S → RdInt W' aR rows[th] := fun hw hm => by
    have := (hw.innerRd hm (fun _ => rfl) hjl hjs).2
    rw [hh] at this; exact this
  generalize blks (machT a rows evs sts calls hS pr x) = F at hm hb hbT ⊢
  obtain ⟨am, A0, nT, cT, AS, cS, AP, cP⟩ := a
  obtain ⟨⟨AE, cE⟩, ⟨AG, cG⟩⟩ := x
  dsimp only at hT hnT hbT
  subst hnT
  obtain ⟨bT, oT, rfl, _⟩ := RdE.open hT (by omega)
  have hTF : bT ∉ F := hbT _ _ rfl
  have hpk1 : pr[k]? = some ⟨⟨some ⟨b, o, none⟩, row.length, c⟩, true, cl, false, fl, rs⟩ := by rw [List.getElem?_eq_getElem hk, hpk]
  refine calls_T F Try.func92 rfl Try.ntmps92 (by simp) (hm.anyN _) ?_
  dsimp only [machT]
  refine T_own (enc := Tp.enc) (ls := pr) (by first | ((repeat (first | with_reducible exact List.mem_cons_self | with_reducible apply List.mem_cons_of_mem)); done) | (repeat (first | exact List.Mem.head _ | apply List.Mem.tail))) (by omega) ?_
  rintro gP rfl
  refine T_own (enc := hdEnc) (ls := hS) (by first | ((repeat (first | with_reducible exact List.mem_cons_self | with_reducible apply List.mem_cons_of_mem)); done) | (repeat (first | exact List.Mem.head _ | apply List.Mem.tail))) (by omega) ?_
  rintro gh rfl
  repeat' (first | ((first | with_reducible (first | apply TL_q | apply TD_q0 | apply TD_q1 | apply TD_q2 | apply TD_q3) | ((with_reducible (first | apply TD_q0y | apply TD_q1y)); exact rfl; exact rfl; (with_reducible exact rfl))); (first | ((with_reducible apply QS_load); exact rfl; exact Lds.rdAggZ (enc := Ak.enc) (M := 3) hr (by intro x; rfl) (by assumption) (by assumption)) | ((with_reducible apply QS_load); exact rfl; exact Lds.own (enc := Tp.enc) (by first | ((repeat (first | with_reducible exact List.mem_cons_self | with_reducible apply List.mem_cons_of_mem)); done) | (repeat (first | exact List.Mem.head _ | apply List.Mem.tail))) (fun _ => rfl) hk (by rw [hpk, Tp.enc_mk]; rfl)) | ((with_reducible apply QS_load); exact rfl; exact Lds.own0 (enc := Tp.enc) (by first | ((repeat (first | with_reducible exact List.mem_cons_self | with_reducible apply List.mem_cons_of_mem)); done) | (repeat (first | exact List.Mem.head _ | apply List.Mem.tail))) (fun _ => rfl) hk (by rw [hpk, Tp.enc_mk]; rfl)) | ((with_reducible apply QS_load); exact rfl; exact Lds.own1 (enc := hdEnc) (by first | ((repeat (first | with_reducible exact List.mem_cons_self | with_reducible apply List.mem_cons_of_mem)); done) | (repeat (first | exact List.Mem.head _ | apply List.Mem.tail))) (fun _ => rfl) hjl hhead) | ((with_reducible apply QS_load); exact rfl; exact Lds.setAt (by first | ((repeat (first | with_reducible exact List.mem_cons_self | with_reducible apply List.mem_cons_of_mem)); done) | (repeat (first | exact List.Mem.head _ | apply List.Mem.tail))) (fun _ => rfl) (by first | exact hk | (simp only [List.length_set]; exact hk)) (by rw [Tp.enc_mk]; rfl)) | ((with_reducible apply QS_load); exact rfl; exact Lds.setAt0 (by first | ((repeat (first | with_reducible exact List.mem_cons_self | with_reducible apply List.mem_cons_of_mem)); done) | (repeat (first | exact List.Mem.head _ | apply List.Mem.tail))) (fun _ => rfl) (by first | exact hk | (simp only [List.length_set]; exact hk)) (by rw [Tp.enc_mk]; rfl)) | ((with_reducible apply QS_sliceLow (l := 1)); exact rfl; exact rfl; omega) | exact QS.auto); exact rfl) | ((with_reducible (first | apply TD_e2z | apply TD_e3z | apply TL_e | apply TD_e2 | apply TD_e3)); (first | ((with_reducible apply ES_storeOwn (enc := Tp.enc)); exact rfl; exact rfl; (first | ((repeat (first | with_reducible exact Upd.here _ _ _ | with_reducible apply Upd.there)); done) | (repeat (first | exact Upd.here _ _ _ | apply Upd.there))); exact fun _ => rfl; ((first | exact List.getElem?_set_self (by first | exact hk | (simp only [List.length_set]; exact hk)) | exact hpk1)); decide; exact Tp.enc_mk _ _ _ _ _ _ _ _; exact rfl) | ((with_reducible apply ES_storeOwn0 (enc := Tp.enc)); exact rfl; exact rfl; (first | ((repeat (first | with_reducible exact Upd.here _ _ _ | with_reducible apply Upd.there)); done) | (repeat (first | exact Upd.here _ _ _ | apply Upd.there))); exact fun _ => rfl; ((first | exact List.getElem?_set_self (by first | exact hk | (simp only [List.length_set]; exact hk)) | exact hpk1)); decide; exact Tp.enc_mk _ _ _ _ _ _ _ _; exact rfl) | exact ES.auto); (first | exact rfl | exact ⟨rfl, rfl, rfl⟩); (first | (rintro _ _ ⟨rfl, rfl⟩) | (rintro _ _ ⟨g, rfl, rfl⟩) | (rintro _ _ ⟨A', c', rfl, rfl⟩)); (try refine ⟨SUB, ?_⟩)) | (refine GO ?_) | (refine GOE ?_; (first | (rintro _ _ ⟨rfl, rfl⟩) | (rintro _ _ ⟨g, rfl, rfl⟩) | (rintro _ _ ⟨A', c', rfl, rfl⟩))) | ((refine GO2 ?_ ?_) <;> intro h <;> (try (repeat (first | with_reducible (replace h := of_decide_eq_true h) | with_reducible (replace h := of_decide_eq_false h) | with_reducible (replace h := bnt h) | with_reducible (replace h := bnf h) | with_reducible (replace h := Int.not_lt.mp h) | with_reducible (replace h := Int.not_le.mp h) | with_reducible (replace h := band_dec h) | with_reducible (replace h := band_decF h) | with_reducible (replace h := bor_dec h) | with_reducible (replace h := bor_decF h)))) <;> (try (exfalso; first | contradiction | omega))) | fail)
  rw [hrow]
  dsimp only [Ak.enc]
  repeat' (first | ((first | with_reducible (first | apply TL_q | apply TD_q0 | apply TD_q1 | apply TD_q2 | apply TD_q3) | ((with_reducible (first | apply TD_q0y | apply TD_q1y)); exact rfl; exact rfl; (with_reducible exact rfl))); (first | ((with_reducible apply QS_load); exact rfl; exact Lds.rdAggZ (enc := Ak.enc) (M := 3) hr (by intro x; rfl) (by assumption) (by assumption)) | ((with_reducible apply QS_load); exact rfl; exact Lds.own (enc := Tp.enc) (by first | ((repeat (first | with_reducible exact List.mem_cons_self | with_reducible apply List.mem_cons_of_mem)); done) | (repeat (first | exact List.Mem.head _ | apply List.Mem.tail))) (fun _ => rfl) hk (by rw [hpk, Tp.enc_mk]; rfl)) | ((with_reducible apply QS_load); exact rfl; exact Lds.own0 (enc := Tp.enc) (by first | ((repeat (first | with_reducible exact List.mem_cons_self | with_reducible apply List.mem_cons_of_mem)); done) | (repeat (first | exact List.Mem.head _ | apply List.Mem.tail))) (fun _ => rfl) hk (by rw [hpk, Tp.enc_mk]; rfl)) | ((with_reducible apply QS_load); exact rfl; exact Lds.own1 (enc := hdEnc) (by first | ((repeat (first | with_reducible exact List.mem_cons_self | with_reducible apply List.mem_cons_of_mem)); done) | (repeat (first | exact List.Mem.head _ | apply List.Mem.tail))) (fun _ => rfl) hjl hhead) | ((with_reducible apply QS_load); exact rfl; exact Lds.setAt (by first | ((repeat (first | with_reducible exact List.mem_cons_self | with_reducible apply List.mem_cons_of_mem)); done) | (repeat (first | exact List.Mem.head _ | apply List.Mem.tail))) (fun _ => rfl) (by first | exact hk | (simp only [List.length_set]; exact hk)) (by rw [Tp.enc_mk]; rfl)) | ((with_reducible apply QS_load); exact rfl; exact Lds.setAt0 (by first | ((repeat (first | with_reducible exact List.mem_cons_self | with_reducible apply List.mem_cons_of_mem)); done) | (repeat (first | exact List.Mem.head _ | apply List.Mem.tail))) (fun _ => rfl) (by first | exact hk | (simp only [List.length_set]; exact hk)) (by rw [Tp.enc_mk]; rfl)) | ((with_reducible apply QS_sliceLow (l := 1)); exact rfl; exact rfl; omega) | exact QS.auto); exact rfl) | ((with_reducible (first | apply TD_e2z | apply TD_e3z | apply TL_e | apply TD_e2 | apply TD_e3)); (first | ((with_reducible apply ES_storeOwn (enc := Tp.enc)); exact rfl; exact rfl; (first | ((repeat (first | with_reducible exact Upd.here _ _ _ | with_reducible apply Upd.there)); done) | (repeat (first | exact Upd.here _ _ _ | apply Upd.there))); exact fun _ => rfl; ((first | exact List.getElem?_set_self (by first | exact hk | (simp only [List.length_set]; exact hk)) | exact hpk1)); decide; exact Tp.enc_mk _ _ _ _ _ _ _ _; exact rfl) | ((with_reducible apply ES_storeOwn0 (enc := Tp.enc)); exact rfl; exact rfl; (first | ((repeat (first | with_reducible exact Upd.here _ _ _ | with_reducible apply Upd.there)); done) | (repeat (first | exact Upd.here _ _ _ | apply Upd.there))); exact fun _ => rfl; ((first | exact List.getElem?_set_self (by first | exact hk | (simp only [List.length_set]; exact hk)) | exact hpk1)); decide; exact Tp.enc_mk _ _ _ _ _ _ _ _; exact rfl) | exact ES.auto); (first | exact rfl | exact ⟨rfl, rfl, rfl⟩); (first | (rintro _ _ ⟨rfl, rfl⟩) | (rintro _ _ ⟨g, rfl, rfl⟩) | (rintro _ _ ⟨A', c', rfl, rfl⟩)); (try refine ⟨SUB, ?_⟩)) | (refine GG ?_) | (refine GE ?_; (first | (rintro _ _ ⟨rfl, rfl⟩) | (rintro _ _ ⟨g, rfl, rfl⟩) | (rintro _ _ ⟨A', c', rfl, rfl⟩)); (try refine ⟨SUB, ?_⟩)) | ((refine GO2 ?_ ?_) <;> intro h <;> (try (repeat (first | with_reducible (replace h := of_decide_eq_true h) | with_reducible (replace h := of_decide_eq_false h) | with_reducible (replace h := bnt h) | with_reducible (replace h := bnf h) | with_reducible (replace h := Int.not_lt.mp h) | with_reducible (replace h := Int.not_le.mp h) | with_reducible (replace h := band_dec h) | with_reducible (replace h := band_decF h) | with_reducible (replace h := bor_dec h) | with_reducible (replace h := bor_decF h)))) <;> (try (exfalso; first | contradiction | omega))) | (refine GOF ?_ ?_) | ((with_reducible apply T_draw (id := 4) 14 (OT.seq [(0, 0), (0, 1), (0, 2), (0, 3), (0, 5), (0, 6), (0, 8), (0, 10), (1, 4), (1, 7), (1, 9), (1, 11), (0, 12), (2, 13), (3, 14), (0, 15), (0, 16), (3, 17)] .nil)); kernel_rfl; exact rfl; kernel_rfl; (repeat (first | with_reducible exact Blind.body | with_reducible apply Blind.seq | with_reducible apply Blind.block))) | ((with_reducible apply T_draw (id := 9) 1000 (OT.seq [(0, 0), (0, 1), (0, 2), (0, 4), (0, 8), (0, 9), (0, 10), (0, 12), (0, 16), (0, 18), (1, 3), (1, 5), (0, 6), (1, 7), (1, 11), (1, 13), (0, 14), (1, 15), (1, 17), (1, 19), (2, 20), (0, 21), (0, 22), (0, 23), (0, 24), (0, 25), (0, 26), (0, 27)] .nil)); kernel_rfl; exact rfl; kernel_rfl; (repeat (first | with_reducible exact Blind.body | with_reducible apply Blind.seq | with_reducible apply Blind.block))) | ((with_reducible apply T_draw (id := 12) 8 (OT.seq [(0, 0), (0, 1), (0, 2), (0, 4), (0, 6), (1, 3), (1, 5), (0, 7), (3, 8)] .nil)); kernel_rfl; exact rfl; kernel_rfl; (repeat (first | with_reducible exact Blind.body | with_reducible apply Blind.seq | with_reducible apply Blind.block))) | ((with_reducible apply T_draw (id := 13) 12 (OT.seq [(0, 0), (0, 1), (0, 2), (0, 3), (0, 5), (0, 6), (0, 7), (0, 9), (1, 4), (1, 8), (0, 10), (2, 11), (3, 12), (0, 13), (0, 14), (3, 15)] .nil)); kernel_rfl; exact rfl; kernel_rfl; (repeat (first | with_reducible exact Blind.body | with_reducible apply Blind.seq | with_reducible apply Blind.block))) | ((with_reducible apply T_draw (id := 15) 19 (OT.seq [(0, 0), (0, 1), (0, 2), (0, 3), (0, 5), (0, 6), (0, 7), (0, 8), (0, 13), (0, 14), (0, 15), (1, 4), (1, 9), (0, 10), (0, 11), (1, 12), (1, 16), (0, 17), (2, 18), (3, 19), (0, 20), (0, 21), (3, 22)] .nil)); kernel_rfl; exact rfl; kernel_rfl; (repeat (first | with_reducible exact Blind.body | with_reducible apply Blind.seq | with_reducible apply Blind.block))) | ((with_reducible (first | apply TD_e2z | apply TD_e3z | apply TL_e | apply TD_e2 | apply TD_e3)); ((with_reducible apply ES_callOwn (f := 137)); exact rfl; (intro w hw; exact hstep w (hrd hw (by first | ((repeat (first | with_reducible exact List.mem_cons_self | with_reducible apply List.mem_cons_of_mem)); done) | (repeat (first | exact List.Mem.head _ | apply List.Mem.tail))))); exact rfl); (first | exact rfl | exact ⟨rfl, rfl, rfl⟩); (rintro _ _ ⟨A2, c2, rfl, rfl⟩); (try refine ⟨SUB, ?_⟩)) | ((with_reducible (first | apply TD_e2z | apply TD_e3z | apply TL_e | apply TD_e2 | apply TD_e3)); ((with_reducible apply ES_storeOwn1 (xx := (⟨A2, R.1.length, c2⟩ : Hd))); exact rfl; exact rfl; (first | ((repeat (first | with_reducible exact Upd.here _ _ _ | with_reducible apply Upd.there)); done) | (repeat (first | exact Upd.here _ _ _ | apply Upd.there))); exact fun _ => rfl; exact List.getElem?_eq_getElem hjl; exact rfl; exact rfl); (first | exact rfl | exact ⟨rfl, rfl, rfl⟩); (rintro _ _ ⟨rfl, rfl⟩); (try refine ⟨SUB, ?_⟩)) | ((with_reducible (first | apply TD_e2z | apply TD_e3z | apply TL_e | apply TD_e2 | apply TD_e3)); ((with_reducible apply ES_append1 (enc := Stp.enc) (xx := (⟨cl, R.2.1⟩ : Stp))); exact rfl; exact rfl; (repeat (first | with_reducible exact List.mem_cons_self | with_reducible apply List.mem_cons_of_mem)); exact rfl; exact fun _ => rfl; exact fun _ => rfl; (intro A' c'; first | ((repeat (first | with_reducible exact Upd.here _ _ _ | with_reducible apply Upd.there)); done) | (repeat (first | exact Upd.here _ _ _ | apply Upd.there))); (omega); decide; exact rfl); (first | exact rfl | exact ⟨rfl, rfl, rfl⟩); (rintro _ _ ⟨A', c', rfl, rfl⟩); (try refine ⟨SUB, ?_⟩)) | fail)
  · rename_i h
    (refine At_retN Try.results92 rfl (fun w' hw => ?_))
    refine ⟨((A', c'), (A2, c2)), rfl, ?_⟩
    rw [if_pos h]
    have h1 := Mem.takeRow hjl hjs (by first | ((repeat (first | with_reducible exact Upd.here _ _ _ | with_reducible apply Upd.there)); done) | (repeat (first | exact Upd.here _ _ _ | apply Upd.there))) (hw.anyN 0)
    have h2 := Mem.putRow (A := A2) (c := c2) (l := R.1) (j := th) (by repeat (first | exact Pick.here _ _ | apply Pick.there)) (by first | ((repeat (first | with_reducible exact Upd.here _ _ _ | with_reducible apply Upd.there)); done) | (repeat (first | exact Upd.here _ _ _ | apply Upd.there))) h1
    rw [List.set_set, List.set_set] at h2
    simp only [List.set_set, decide_eq_true h, Bool.not_true] at h2
    dsimp only
    rw [List.length_set, List.length_set]
    exact h2.sel (by (repeat (first | exact Sel.nil _ | (apply Sel.cons; (repeat (first | with_reducible exact Pick.here _ _ | with_reducible apply Pick.there))))))
  · rename_i h
    (refine At_retN Try.results92 rfl (fun w' hw => ?_))
    refine ⟨(((none, 0), (none, 0))), rfl, ?_⟩
    rw [if_neg h]
    have h1 := hw.anyN 0
    simp only [List.set_set, decide_eq_false h, Bool.not_false] at h1
    rw [List.length_set]
    exact h1.sel (by (repeat (first | exact Sel.nil _ | (apply Sel.cons; (repeat (first | with_reducible exact Pick.here _ _ | with_reducible apply Pick.there))))))
end
end Go.Proofs.Ytbhjljnbjomnhaa
