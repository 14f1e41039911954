/- Lemmas for the walks (Zn8, ZnR). No condition. -/
import Derived.Test.YtaonijdhmgcbjaaG08
import Derived.Test.YtaonijdhmgcbjaaG07
set_option linter.unusedSimpArgs false
set_option linter.unusedVariables false
set_option linter.unusedSectionVars false
set_option linter.unnecessarySimpa false
namespace Go.Proofs.Ytaonijdhmgcbjaa
open Go.RowKit
set_option linter.unusedSectionVars false

theorem fm_congr {α β : Type} {f g : α → Option β} : ∀ {l : List α}, (∀ x ∈ l, f x = g x) → l.filterMap f = l.filterMap g
  | [], _ => rfl
  | x :: l, h => by rw [List.filterMap_cons, List.filterMap_cons, h x List.mem_cons_self, fm_congr fun y hy => h y (List.mem_cons_of_mem _ hy)]
/-- the zones of the clusters that count -/
def zfL (S : List Clu) (k : Nat) : List Zon := (S.take k).filterMap fun x => if x.counts = true then some ⟨x.zv, x.zf, x.zl, x.zw⟩ else none
theorem zfL_succ {S : List Clu} {k : Nat} (hk : k < S.length) : zfL S (k + 1) = if S[k].counts = true then zfL S k ++ [⟨S[k].zv, S[k].zf, S[k].zl, S[k].zw⟩] else zfL S k := by
  unfold zfL
  rw [List.take_succ_eq_append_getElem hk, List.filterMap_append, List.filterMap_cons, List.filterMap_nil]
  split <;> rename_i e
  · split at e
    · cases e
    · rename_i h; rw [if_neg h, List.append_nil]
  · split at e
    · rename_i h; rw [if_pos h]; cases e; rfl
    · cases e
theorem zfL_len (S : List Clu) (k : Nat) : (zfL S k).length ≤ k := by
  unfold zfL
  exact Nat.le_trans (List.length_filterMap_le _ _) (by rw [List.length_take]; omega)
theorem zfL_all {cs : List Cl} (S : CluS cs) : zfL S.1 S.1.length = zonL cs 1001 := by
  obtain ⟨S, hv, hS⟩ := S
  unfold zfL
  rw [List.take_length]
  have h1 : S.filterMap (fun x => if x.counts = true then some (⟨x.zv, x.zf, x.zl, x.zw⟩ : Zon) else none) = (S.map (·.value)).filterMap (fun v => if (endZ cs v).some_ = true then some (zonE cs v) else none) := by
    rw [List.filterMap_map]
    refine fm_congr fun x hx => ?_
    obtain ⟨h, e⟩ := hS x hx
    generalize x.value = v at e
    subst e
    rfl
  dsimp only at hv ⊢
  rw [h1, hv, List.filterMap_map]
  unfold keyZ zonL
  rw [List.filterMap_filter]
  refine fm_congr fun v _ => ?_
  unfold zonO
  by_cases e : isV cs v = true
  · rw [if_pos e, e, Bool.true_and]; rfl
  · rw [if_neg e, Bool.eq_false_iff.2 e, Bool.false_and, if_neg (by decide)]
section
variable (A : Option Addr) (c : Nat) (S : List Clu) (w : World) (hl : S.length ≤ 1000) (hA : RdE Clu.enc 9 w A S)
include hl hA
set_option maxRecDepth 100000 in
set_option maxHeartbeats 4000000 in
theorem zonesOf_any : Calls Try.prog 34 #[.slice A S.length c] w fun e w' => ∃ A c, e = .returned (.slice A (zfL S S.length).length c) ∧ Own Zon.enc 4 50 w' w.heap.size (.slice A (zfL S S.length).length c) (zfL S S.length) ∧ Below w.heap.size w w' := by
  refine calls_T (S := []) [] Try.func34 rfl Try.ntmps34 (by simp) (Mem.nil _) ?_
  repeat' (first | ((first | with_reducible (first | apply TL_q | apply TD_q0 | apply TD_q1 | apply TD_q2 | apply TD_q3) | ((with_reducible (first | apply TD_q0y | apply TD_q1y)); exact rfl; exact rfl; (with_reducible exact rfl))); (first | ((with_reducible apply QS_load); exact rfl; (apply Lds.old; assumption; simp; assumption)) | ((with_reducible apply QS_load); exact rfl; exact Lds.mid (us := [.int .i64 S[k].zv, .int .i64 S[k].zf, .int .i64 S[k].zl, .bool S[k].zw]) (by first | ((repeat (first | with_reducible exact List.mem_cons_self | with_reducible apply List.mem_cons_of_mem)); done) | (repeat (first | exact List.Mem.head _ | apply List.Mem.tail))) rfl rfl) | exact QS.auto); exact rfl) | (refine GO ?_) | (refine GOE ?_; (first | (rintro _ _ ⟨rfl, rfl⟩) | (rintro _ _ ⟨g, rfl, rfl⟩) | (rintro _ _ ⟨A', c', rfl, rfl⟩))) | ((refine GO2 ?_ ?_) <;> intro h <;> (try (repeat (first | with_reducible (replace h := of_decide_eq_true h) | with_reducible (replace h := of_decide_eq_false h) | with_reducible (replace h := bnt h) | with_reducible (replace h := bnf h) | with_reducible (replace h := Int.not_lt.mp h) | with_reducible (replace h := Int.not_le.mp h) | with_reducible (replace h := band_dec h) | with_reducible (replace h := band_decF h) | with_reducible (replace h := bor_dec h) | with_reducible (replace h := bor_decF h)))) <;> (try (exfalso; first | contradiction | omega))) | fail)
  refine T_loop (X := Nat × Option Addr × Nat) (fun x => [(8, .int .i64 (x.1 : Nat)), (7, .int .i64 S.length), (6, .slice A S.length c), (3, .slice x.2.1 (zfL S x.1).length x.2.2)]) (fun x => [entOwn Zon.enc 4 50 x.2.1 x.2.2 (zfL S x.1)]) (fun x => x.1 ≤ S.length) (fun x => S.length - x.1) (0, none, 0) (by (try dsimp only); omega) (by (try dsimp only); (repeat (first | exact SubE.nil _ | refine SubE.cons rfl ?_))) (fun w hw => (hw.nilOwn Zon.enc 4 50).sub (by first | ((repeat (first | with_reducible exact List.nil_sublist _ | with_reducible exact List.Sublist.refl _ | with_reducible apply List.Sublist.cons_cons | with_reducible apply List.Sublist.cons)); done) | (repeat (first | exact List.nil_sublist _ | exact List.Sublist.refl _ | apply List.Sublist.cons_cons | apply List.Sublist.cons)))) ?_
  rintro ⟨k, A1, c1⟩ hk
  dsimp only at hk ⊢
  have hzl := zfL_len S k
  by_cases hkl : k < S.length
  · obtain ⟨b, o, rfl, _⟩ := RdE.open hA (by omega)
    have hzs := zfL_succ hkl
    generalize zfL S k = Z at *
    cases hc : S[k].counts
    · rw [if_neg (by rw [hc]; decide)] at hzs
      repeat' (first | ((first | with_reducible (first | apply TL_q | apply TD_q0 | apply TD_q1 | apply TD_q2 | apply TD_q3) | ((with_reducible (first | apply TD_q0y | apply TD_q1y)); exact rfl; exact rfl; (with_reducible exact rfl))); (first | ((with_reducible apply QS_load); exact rfl; (apply Lds.old; assumption; simp; assumption)) | ((with_reducible apply QS_load); exact rfl; exact Lds.mid (us := [.int .i64 S[k].zv, .int .i64 S[k].zf, .int .i64 S[k].zl, .bool S[k].zw]) (by first | ((repeat (first | with_reducible exact List.mem_cons_self | with_reducible apply List.mem_cons_of_mem)); done) | (repeat (first | exact List.Mem.head _ | apply List.Mem.tail))) rfl rfl) | exact QS.auto); exact rfl) | (refine GO ?_) | (refine GOE ?_; (first | (rintro _ _ ⟨rfl, rfl⟩) | (rintro _ _ ⟨g, rfl, rfl⟩) | (rintro _ _ ⟨A', c', rfl, rfl⟩))) | ((refine GO2 ?_ ?_) <;> intro h <;> (try (repeat (first | with_reducible (replace h := of_decide_eq_true h) | with_reducible (replace h := of_decide_eq_false h) | with_reducible (replace h := bnt h) | with_reducible (replace h := bnf h) | with_reducible (replace h := Int.not_lt.mp h) | with_reducible (replace h := Int.not_le.mp h) | with_reducible (replace h := band_dec h) | with_reducible (replace h := band_decF h) | with_reducible (replace h := bor_dec h) | with_reducible (replace h := bor_decF h)))) <;> (try (exfalso; first | contradiction | omega))) | fail)
      all_goals first
        | (exfalso; simp_all; done)
        | (apply At_rounds (k + 1, A1, c1); (case hE => (try dsimp only); rw [hzs]; (repeat (first | exact SubE.nil _ | refine SubE.cons rfl ?_))); (case hS => (try dsimp only); rw [hzs]; exact fun w' hw => hw.sel (by (repeat (first | exact Sel.nil _ | (apply Sel.cons; (repeat (first | with_reducible exact Pick.here _ _ | with_reducible apply Pick.there))))))); (case hμ => (try dsimp only); omega); (case hp => (try dsimp only); omega))
    · rw [if_pos hc] at hzs
      repeat' (first | ((first | with_reducible (first | apply TL_q | apply TD_q0 | apply TD_q1 | apply TD_q2 | apply TD_q3) | ((with_reducible (first | apply TD_q0y | apply TD_q1y)); exact rfl; exact rfl; (with_reducible exact rfl))); (first | ((with_reducible apply QS_load); exact rfl; (apply Lds.old; assumption; simp; assumption)) | ((with_reducible apply QS_load); exact rfl; exact Lds.mid (us := [.int .i64 S[k].zv, .int .i64 S[k].zf, .int .i64 S[k].zl, .bool S[k].zw]) (by first | ((repeat (first | with_reducible exact List.mem_cons_self | with_reducible apply List.mem_cons_of_mem)); done) | (repeat (first | exact List.Mem.head _ | apply List.Mem.tail))) rfl rfl) | exact QS.auto); exact rfl) | (refine GO ?_) | (refine GOE ?_; (first | (rintro _ _ ⟨rfl, rfl⟩) | (rintro _ _ ⟨g, rfl, rfl⟩) | (rintro _ _ ⟨A', c', rfl, rfl⟩))) | ((refine GO2 ?_ ?_) <;> intro h <;> (try (repeat (first | with_reducible (replace h := of_decide_eq_true h) | with_reducible (replace h := of_decide_eq_false h) | with_reducible (replace h := bnt h) | with_reducible (replace h := bnf h) | with_reducible (replace h := Int.not_lt.mp h) | with_reducible (replace h := Int.not_le.mp h) | with_reducible (replace h := band_dec h) | with_reducible (replace h := band_decF h) | with_reducible (replace h := bor_dec h) | with_reducible (replace h := bor_decF h)))) <;> (try (exfalso; first | contradiction | omega))) | ((with_reducible (first | apply TD_e2z | apply TD_e3z | apply TL_e | apply TD_e2 | apply TD_e3)); ((with_reducible apply ES_append1 (enc := Zon.enc) (xx := (⟨S[k].zv, S[k].zf, S[k].zl, S[k].zw⟩ : Zon))); exact rfl; exact rfl; (repeat (first | with_reducible exact List.mem_cons_self | with_reducible apply List.mem_cons_of_mem)); exact rfl; exact fun _ => rfl; exact fun _ => rfl; (intro A' c'; first | ((repeat (first | with_reducible exact Upd.here _ _ _ | with_reducible apply Upd.there)); done) | (repeat (first | exact Upd.here _ _ _ | apply Upd.there))); (omega); decide; exact rfl); (first | exact rfl | exact ⟨rfl, rfl, rfl⟩); (rintro _ _ ⟨A', c', rfl, rfl⟩); (try refine ⟨SUB, ?_⟩)) | fail)
      all_goals first
        | (exfalso; simp_all; done)
        | (apply At_rounds (k + 1, A', c'); (case hE => (try dsimp only); rw [hzs]; (repeat (first | exact SubE.nil _ | refine SubE.cons rfl ?_))); (case hS => (try dsimp only); rw [hzs]; exact fun w' hw => hw.sel (by (repeat (first | exact Sel.nil _ | (apply Sel.cons; (repeat (first | with_reducible exact Pick.here _ _ | with_reducible apply Pick.there))))))); (case hμ => (try dsimp only); omega); (case hp => (try dsimp only); omega))
  · obtain rfl : k = S.length := by omega
    repeat' (first | ((first | with_reducible (first | apply TL_q | apply TD_q0 | apply TD_q1 | apply TD_q2 | apply TD_q3) | ((with_reducible (first | apply TD_q0y | apply TD_q1y)); exact rfl; exact rfl; (with_reducible exact rfl))); (first | ((with_reducible apply QS_load); exact rfl; (apply Lds.old; assumption; simp; assumption)) | ((with_reducible apply QS_load); exact rfl; exact Lds.mid (us := [.int .i64 S[k].zv, .int .i64 S[k].zf, .int .i64 S[k].zl, .bool S[k].zw]) (by first | ((repeat (first | with_reducible exact List.mem_cons_self | with_reducible apply List.mem_cons_of_mem)); done) | (repeat (first | exact List.Mem.head _ | apply List.Mem.tail))) rfl rfl) | exact QS.auto); exact rfl) | (refine GO ?_) | (refine GOE ?_; (first | (rintro _ _ ⟨rfl, rfl⟩) | (rintro _ _ ⟨g, rfl, rfl⟩) | (rintro _ _ ⟨A', c', rfl, rfl⟩))) | ((refine GO2 ?_ ?_) <;> intro h <;> (try (repeat (first | with_reducible (replace h := of_decide_eq_true h) | with_reducible (replace h := of_decide_eq_false h) | with_reducible (replace h := bnt h) | with_reducible (replace h := bnf h) | with_reducible (replace h := Int.not_lt.mp h) | with_reducible (replace h := Int.not_le.mp h) | with_reducible (replace h := band_dec h) | with_reducible (replace h := band_decF h) | with_reducible (replace h := bor_dec h) | with_reducible (replace h := bor_decF h)))) <;> (try (exfalso; first | contradiction | omega))) | fail)
    (refine At_ret Try.results34 rfl (fun w' hw => ?_))
    exact ⟨A1, c1, rfl, hw.ownOut rfl (by first | ((repeat (first | with_reducible exact List.mem_cons_self | with_reducible apply List.mem_cons_of_mem)); done) | (repeat (first | exact List.Mem.head _ | apply List.Mem.tail))), hw.below0 rfl⟩
end
set_option maxRecDepth 100000 in
theorem zrd1_any (x : Clu) (b1 : Nat) (y : Cl) (w : World) (h1 : b1 < w.heap.size) (hc1 : w.cell? ⟨b1, 4, none⟩ = some (.int .i64 y.res)) :
    Calls Try.prog 65 #[.agg (Clu.enc x).toArray, .pointer (some ⟨b1, 0, none⟩)] w fun e w' => e = .returned (.bool (decide (x.value = y.res))) ∧ Below w.heap.size w w' := by
  refine calls_T (S := []) [] Try.func65 rfl Try.ntmps65 (by simp) (Mem.nil _) ?_
  repeat' (first | ((first | with_reducible (first | apply TL_q | apply TD_q0 | apply TD_q1 | apply TD_q2 | apply TD_q3) | ((with_reducible (first | apply TD_q0y | apply TD_q1y)); exact rfl; exact rfl; (with_reducible exact rfl))); (first | ((with_reducible apply QS_load); exact rfl; (apply Lds.old; assumption; simp; assumption)) | ((with_reducible apply QS_load); exact rfl; exact Lds.mid (us := [.int .i64 S[k].zv, .int .i64 S[k].zf, .int .i64 S[k].zl, .bool S[k].zw]) (by first | ((repeat (first | with_reducible exact List.mem_cons_self | with_reducible apply List.mem_cons_of_mem)); done) | (repeat (first | exact List.Mem.head _ | apply List.Mem.tail))) rfl rfl) | exact QS.auto); exact rfl) | (refine GO ?_) | (refine GOE ?_; (first | (rintro _ _ ⟨rfl, rfl⟩) | (rintro _ _ ⟨g, rfl, rfl⟩) | (rintro _ _ ⟨A', c', rfl, rfl⟩))) | ((refine GO2 ?_ ?_) <;> intro h <;> (try (repeat (first | with_reducible (replace h := of_decide_eq_true h) | with_reducible (replace h := of_decide_eq_false h) | with_reducible (replace h := bnt h) | with_reducible (replace h := bnf h) | with_reducible (replace h := Int.not_lt.mp h) | with_reducible (replace h := Int.not_le.mp h) | with_reducible (replace h := band_dec h) | with_reducible (replace h := band_decF h) | with_reducible (replace h := bor_dec h) | with_reducible (replace h := bor_decF h)))) <;> (try (exfalso; first | contradiction | omega))) | fail)
  refine At_ret Try.results65 rfl (fun w' hw => ?_)
  exact ⟨rfl, hw.below0 rfl⟩
end Go.Proofs.Ytaonijdhmgcbjaa

namespace Go.Proofs.Ytaonijdhmgcbjaa
open Go.RowKit
set_option linter.unusedSectionVars false

theorem earlyV_succ (cs : List Cl) (k : Nat) : earlyV cs (k + 1) = if (earlyV cs k).kind = 0 ∧ earzB cs k = true then ⟨3, (k : Int), wrBy cs (clK cs k).res⟩ else earlyV cs k := by
  unfold earlyV
  cases e : firstN k (earzB cs) with
  | some j =>
    obtain ⟨h1, h2, h3⟩ := firstN_some e
    rw [firstN_at (i := j) (by omega) h3 h2]
    dsimp only
    rw [if_neg (by simp)]
  | none =>
    have h1 := firstN_no e
    dsimp only
    by_cases h : earzB cs k = true
    · rw [firstN_at (i := k) (by omega) h1 h, if_pos ⟨rfl, h⟩]
    · rw [firstN_none (fun i hi => (Nat.lt_succ_iff_lt_or_eq.1 hi).elim (fun e => h1 i e) (fun e => by subst e; exact Bool.eq_false_iff.2 h)), if_neg (by simp [h])]
/-- what the look-up of a value among the clusters gives -/
theorem clu_find {cs : List Cl} (hok : RgOk cs) (S : CluS cs) {r : Int} (hr : 0 ≤ r ∧ r ≤ 1000) :
    (idxF (fun x : Clu => decide (x.value = r)) S.1 = -1 ∧ r ≠ 0 ∧ wrBy cs r < 0) ∨
    ∃ q, ∃ hq : q < S.1.length, idxF (fun x : Clu => decide (x.value = r)) S.1 = (q : Int) ∧ (r = 0 ∨ 0 ≤ wrBy cs r) ∧ S.1[q].write = wrBy cs r ∧ S.1[q].frm = if r = 0 then -1 else (clK cs (wrBy cs r).toNat).from_ := by
  obtain ⟨S, hv, hS⟩ := S
  dsimp only
  have hmem : S.any (fun x : Clu => decide (x.value = r)) = true ↔ r = 0 ∨ 0 ≤ wrBy cs r := by
    rw [List.any_eq_true]
    have h1 : (∃ x ∈ S, decide (x.value = r) = true) ↔ r ∈ S.map (·.value) := by
      rw [List.mem_map]
      constructor
      · rintro ⟨x, h1, h2⟩; exact ⟨x, h1, of_decide_eq_true h2⟩
      · rintro ⟨x, h1, h2⟩; exact ⟨x, h1, decide_eq_true h2⟩
    rw [h1, hv, List.mem_map]
    constructor
    · rintro ⟨v, h1v, rfl⟩
      have := (keyZ_mem.1 h1v).2
      omega
    · intro h
      refine ⟨r.toNat, keyZ_mem.2 ⟨by omega, ?_⟩, by omega⟩
      rw [show ((r.toNat : Nat) : Int) = r by omega]
      omega
  by_cases h : S.any (fun x : Clu => decide (x.value = r)) = true
  · right
    have h2 := hmem.1 h
    obtain ⟨x, hx1, hx2⟩ := List.any_eq_true.1 h
    have hlt : S.findIdx (fun x : Clu => decide (x.value = r)) < S.length := List.findIdx_lt_length.2 ⟨x, hx1, hx2⟩
    refine ⟨_, hlt, ?_, h2, ?_⟩
    · unfold idxF; rw [if_pos h]
    · have hg := List.findIdx_getElem (w := hlt)
      have hg := of_decide_eq_true hg
      obtain ⟨hh, he⟩ := hS _ (List.getElem_mem hlt)
      rw [hg] at he
      rw [he]
      exact ⟨rfl, rfl⟩
  · left
    refine ⟨by unfold idxF; rw [if_neg h], ?_⟩
    have h3 : ¬ (r = 0 ∨ 0 ≤ wrBy cs r) := fun e => h (hmem.2 e)
    omega
section
variable (A B : Option Addr) (c d : Nat) (cs : List Cl) (S : List Clu) (w : World) (hl : cs.length ≤ 200) (hsl : S.length ≤ 1000) (hA : RdCl w A cs) (hB : RdE Clu.enc 9 w B S) (hok : RgOk cs)
  (hS : S.map (·.value) = (keyZ cs).map (fun v : Nat => (v : Int)) ∧ ∀ k ∈ S, ∃ h, k = cluE cs k.value h)
include hl hsl hA hB hok hS
set_option maxRecDepth 100000 in
set_option maxHeartbeats 8000000 in
theorem zreads_any : Calls Try.prog 36 #[.slice A cs.length c, .slice B S.length d] w fun e w' => e = .returned (.agg (Bd.enc (readsV cs)).toArray) ∧ Below w.heap.size w w' := by
  have hfind := fun r hr => clu_find hok ⟨S, hS⟩ (r := r) hr
  dsimp only at hfind
  have hR1 : ∀ k, k < cs.length → (∀ i, i < k → strzB cs i = false) → strzB cs k = true → readsV cs = ⟨1, k, 0⟩ := fun k hk h1 h => by unfold readsV; rw [firstN_at hk h1 h]
  have hR0 : (∀ i, i < cs.length → strzB cs i = false) → readsV cs = earlyV cs cs.length := fun h => by unfold readsV; rw [firstN_none h]
  generalize readsV cs = R at *
  refine calls_T (S := []) [] Try.func36 rfl Try.ntmps36 (by simp) (Mem.nil _) ?_
  repeat' (first | (refine GO ?_) | (refine GOE ?_; (first | (rintro _ _ ⟨rfl, rfl⟩) | (rintro _ _ ⟨g, rfl, rfl⟩) | (rintro _ _ ⟨A', c', rfl, rfl⟩))) | ((refine GO2 ?_ ?_) <;> intro h <;> (try (repeat (first | with_reducible (replace h := of_decide_eq_true h) | with_reducible (replace h := of_decide_eq_false h) | with_reducible (replace h := bnt h) | with_reducible (replace h := bnf h) | with_reducible (replace h := Int.not_lt.mp h) | with_reducible (replace h := Int.not_le.mp h) | with_reducible (replace h := band_dec h) | with_reducible (replace h := band_decF h) | with_reducible (replace h := bor_dec h) | with_reducible (replace h := bor_decF h)))) <;> (try (exfalso; first | contradiction | omega))) | fail)
  obtain ⟨g5, rfl⟩ : ∃ x, x = g := ⟨_, rfl⟩
  obtain ⟨g4, rfl⟩ : ∃ x, x = g := ⟨_, rfl⟩
  refine T_loop (X := Nat) (fun k => [(12, .int .i64 (k : Nat)), (11, .int .i64 cs.length), (10, .slice A cs.length c), (5, .pointer (some ⟨g5, 0, none⟩)), (4, .pointer (some ⟨g4, 0, none⟩)), (1, .slice B S.length d)]) (fun k => [entBlk g4 43 #[.int .i64 0, .int .i64 0, .int .i64 0], entBlk g5 43 #[.int .i64 (earlyV cs k).kind, .int .i64 (earlyV cs k).a, .int .i64 (earlyV cs k).b]])
    (fun k => k ≤ cs.length ∧ ∀ i, i < k → strzB cs i = false) (fun k => cs.length - k) 0 ⟨by omega, fun i hi => by omega⟩ (by (repeat (first | exact SubE.nil _ | refine SubE.cons rfl ?_))) (fun w' hw => by rw [show earlyV cs 0 = ⟨0, 0, 0⟩ from rfl]; exact hw.sel (by (repeat (first | exact Sel.nil _ | (apply Sel.cons; (repeat (first | with_reducible exact Pick.here _ _ | with_reducible apply Pick.there))))))) ?_
  rintro k ⟨hk, hno⟩
  by_cases hkl : k < cs.length
  · obtain ⟨b, o, rfl, _⟩ := RdE.open hA (by omega)
    have hck := clK_eq hkl
    have hes := earlyV_succ cs k
    have hst : strzB cs k = (decide (cs[k].kind = 2) && (decide (cs[k].to ≠ -1) && (decide (cs[k].res ≠ 0) && decide (wrBy cs cs[k].res < 0)))) := by unfold strzB; rw [hck]
    have hea : earzB cs k = (decide (cs[k].kind = 2) && (decide (cs[k].to ≠ -1) && (decide (0 ≤ wrBy cs cs[k].res) && decide (cs[k].to < (clK cs (wrBy cs cs[k].res).toNat).from_)))) := by unfold earzB; rw [hck]
    have hrd := hok.rd k hkl
    have hto := hok.to k hkl
    have hz := wrBy_zero hok.toRgAll
    rw [hck] at hes hrd hto
    have hnos : strzB cs k = false → ∀ i, i < k + 1 → strzB cs i = false := fun h i hi => (Nat.lt_succ_iff_lt_or_eq.1 hi).elim (fun e => hno i e) (fun e => by subst e; exact h)
    by_cases h2 : cs[k].kind = 2 ∧ cs[k].to ≠ -1
    · obtain ⟨h2, h3⟩ := h2
      have hrd := hrd h2 h3
      have hf := hfind cs[k].res hrd
      have hfi : ∀ (n g7 : Nat) (T : List Ent) (w1 : World), Mem ⟨n, [], w⟩ w1 T → entBlk g7 107 (Cl.enc cs[k]).toArray ∈ T → Calls Try.prog 64 #[.slice B S.length d, .func (.func 65) #[] [.pointer (some ⟨g7, 0, none⟩)].toArray] w1 fun e w' => e = .returned (.int .i64 (idxF (fun x : Clu => decide (x.value = cs[k].res)) S)) ∧ Below w1.heap.size w1 w' := fun n g7 T w1 hw hm => by
        have b7 : Blk w1 g7 107 (Cl.enc cs[k]).toArray := hw.theBlk hm
        exact indexClu_any 65 (fun x : Clu => decide (x.value = cs[k].res)) [.pointer (some ⟨g7, 0, none⟩)] B d S w1 (hw.rd rfl hB) (by omega) (fun s _ w2 h2 => zrd1_any s g7 cs[k] w2 (b7.carry h2).lt ((b7.carry h2).cell 4))
      generalize idxF (fun x : Clu => decide (x.value = cs[k].res)) S = ix at hf hfi
      rw [decide_eq_true h2, decide_eq_true h3, Bool.true_and, Bool.true_and] at hst hea
      rcases hf with ⟨e1, e2, e3⟩ | ⟨q, hq, e1, e2, e3, e4⟩
      · obtain rfl := hR1 k hkl hno (by rw [hst, decide_eq_true e2, decide_eq_true e3]; rfl)
        have hix : ix < 0 := by omega
        clear hfind hR0 hR1 hnos hno hes hst hea
        generalize earlyV cs k = EV at *
        repeat' (first | (refine GO ?_) | (refine GOE ?_; (first | (rintro _ _ ⟨rfl, rfl⟩) | (rintro _ _ ⟨g, rfl, rfl⟩) | (rintro _ _ ⟨A', c', rfl, rfl⟩))) | ((refine GO2 ?_ ?_) <;> intro h <;> (try (repeat (first | with_reducible (replace h := of_decide_eq_true h) | with_reducible (replace h := of_decide_eq_false h) | with_reducible (replace h := bnt h) | with_reducible (replace h := bnf h) | with_reducible (replace h := Int.not_lt.mp h) | with_reducible (replace h := Int.not_le.mp h) | with_reducible (replace h := band_dec h) | with_reducible (replace h := band_decF h) | with_reducible (replace h := bor_dec h) | with_reducible (replace h := bor_decF h)))) <;> (try (exfalso; first | contradiction | omega))) | ((with_reducible (first | apply TD_e2z | apply TD_e3z | apply TL_e | apply TD_e2 | apply TD_e3)); ((with_reducible apply ES_callV (f := 64) (v := .int .i64 ix)); exact rfl; (intro w1 hw; exact hfi _ _ _ w1 hw (by first | ((repeat (first | with_reducible exact List.mem_cons_self | with_reducible apply List.mem_cons_of_mem)); done) | (repeat (first | exact List.Mem.head _ | apply List.Mem.tail)))); exact rfl); (first | exact rfl | exact ⟨rfl, rfl, rfl⟩); (rintro _ _ ⟨rfl, rfl⟩); (try refine ⟨SUB, ?_⟩)) | fail)
        all_goals first
          | (((with_reducible apply At_retM Try.results36); (repeat (first | exact ResIs.nil | (apply ResIs.tmp; exact rfl) | (apply ResIs.cell; exact rfl; exact Lds.auto))); intro w' hw); exact ⟨rfl, hw.below0 rfl⟩)
          | (exfalso; omega)
      · have hns := hnos (by
          rw [hst]
          rcases e2 with e2 | e2
          · rw [decide_eq_false (show ¬ cs[k].res ≠ 0 by omega), Bool.false_and]
          · rw [decide_eq_false (show ¬ wrBy cs cs[k].res < 0 by omega), Bool.and_false])
        have hea2 : earzB cs k = decide (cs[k].to < S[q].frm) := by
          rw [hea, e4]
          by_cases h0 : cs[k].res = 0
          · rw [h0, hz, if_pos rfl]
            rcases hto with h | h
            · exact absurd h h3
            · rw [decide_eq_false (show ¬ cs[k].to < (-1 : Int) by omega)]; rfl
          · rw [if_neg h0, decide_eq_true (show 0 ≤ wrBy cs cs[k].res by omega), Bool.true_and]
        simp only [hea2, ← e3, decide_eq_true_eq] at hes
        subst e1
        obtain ⟨bs, os, rfl, _⟩ := RdE.open hB (by omega)
        have hix : ¬ ((q : Nat) : Int) < 0 := by omega
        clear hfind hR0 hR1 hnos hno hst hea hea2 e2 e3 e4 hto hrd hz
        generalize earlyV cs k = EV at *
        by_cases hc : EV.kind = 0 ∧ cs[k].to < S[q].frm
        · rw [if_pos hc] at hes
          obtain ⟨hc1, hc2⟩ := hc
          repeat' (first | (refine GG ?_) | (refine GE ?_; (first | (rintro _ _ ⟨rfl, rfl⟩) | (rintro _ _ ⟨g, rfl, rfl⟩) | (rintro _ _ ⟨A', c', rfl, rfl⟩)); (try refine ⟨SUB, ?_⟩)) | ((refine GO2 ?_ ?_) <;> intro h <;> (try (repeat (first | with_reducible (replace h := of_decide_eq_true h) | with_reducible (replace h := of_decide_eq_false h) | with_reducible (replace h := bnt h) | with_reducible (replace h := bnf h) | with_reducible (replace h := Int.not_lt.mp h) | with_reducible (replace h := Int.not_le.mp h) | with_reducible (replace h := band_dec h) | with_reducible (replace h := band_decF h) | with_reducible (replace h := bor_dec h) | with_reducible (replace h := bor_decF h)))) <;> (try (exfalso; first | contradiction | omega))) | (refine GOF ?_ ?_) | ((with_reducible apply T_draw (id := 9) 1000 (OT.seq [(0, 0), (1, 1), (0, 2), (0, 3), (0, 4), (0, 6), (0, 7), (0, 8), (0, 9), (1, 5), (1, 10), (0, 11), (0, 12)] .nil)); kernel_rfl; exact rfl; kernel_rfl; (repeat (first | with_reducible exact Blind.body | with_reducible apply Blind.seq | with_reducible apply Blind.block))) | ((with_reducible (first | apply TD_e2z | apply TD_e3z | apply TL_e | apply TD_e2 | apply TD_e3)); ((with_reducible apply ES_callV (f := 64) (v := .int .i64 (q : Nat))); exact rfl; (intro w1 hw; exact hfi _ _ _ w1 hw (by first | ((repeat (first | with_reducible exact List.mem_cons_self | with_reducible apply List.mem_cons_of_mem)); done) | (repeat (first | exact List.Mem.head _ | apply List.Mem.tail)))); exact rfl); (first | exact rfl | exact ⟨rfl, rfl, rfl⟩); (rintro _ _ ⟨rfl, rfl⟩); (try refine ⟨SUB, ?_⟩)) | fail)
          all_goals first
            | (exfalso; omega)
            | (apply At_rounds (k + 1); (case hE => (try dsimp only); (repeat (first | exact SubE.nil _ | refine SubE.cons rfl ?_))); (case hS => (try dsimp only); rw [hes]; (try dsimp only); exact fun w' hw => hw.sel (by (repeat (first | exact Sel.nil _ | (apply Sel.cons; (repeat (first | with_reducible exact Pick.here _ _ | with_reducible apply Pick.there))))))); (case hμ => (try dsimp only); omega); (case hp => exact ⟨by (try dsimp only); omega, hns⟩))
        · rw [if_neg hc] at hes
          have hc' : EV.kind = 0 → cs[k].to < S[q].frm → False := fun a b => hc ⟨a, b⟩
          repeat' (first | (refine GG ?_) | (refine GE ?_; (first | (rintro _ _ ⟨rfl, rfl⟩) | (rintro _ _ ⟨g, rfl, rfl⟩) | (rintro _ _ ⟨A', c', rfl, rfl⟩)); (try refine ⟨SUB, ?_⟩)) | ((refine GO2 ?_ ?_) <;> intro h <;> (try (repeat (first | with_reducible (replace h := of_decide_eq_true h) | with_reducible (replace h := of_decide_eq_false h) | with_reducible (replace h := bnt h) | with_reducible (replace h := bnf h) | with_reducible (replace h := Int.not_lt.mp h) | with_reducible (replace h := Int.not_le.mp h) | with_reducible (replace h := band_dec h) | with_reducible (replace h := band_decF h) | with_reducible (replace h := bor_dec h) | with_reducible (replace h := bor_decF h)))) <;> (try (exfalso; first | contradiction | omega))) | (refine GOF ?_ ?_) | ((with_reducible apply T_draw (id := 9) 1000 (OT.seq [(0, 0), (1, 1), (0, 2), (0, 3), (0, 4), (0, 6), (0, 7), (0, 8), (0, 9), (1, 5), (1, 10), (0, 11), (0, 12)] .nil)); kernel_rfl; exact rfl; kernel_rfl; (repeat (first | with_reducible exact Blind.body | with_reducible apply Blind.seq | with_reducible apply Blind.block))) | ((with_reducible (first | apply TD_e2z | apply TD_e3z | apply TL_e | apply TD_e2 | apply TD_e3)); ((with_reducible apply ES_callV (f := 64) (v := .int .i64 (q : Nat))); exact rfl; (intro w1 hw; exact hfi _ _ _ w1 hw (by first | ((repeat (first | with_reducible exact List.mem_cons_self | with_reducible apply List.mem_cons_of_mem)); done) | (repeat (first | exact List.Mem.head _ | apply List.Mem.tail)))); exact rfl); (first | exact rfl | exact ⟨rfl, rfl, rfl⟩); (rintro _ _ ⟨rfl, rfl⟩); (try refine ⟨SUB, ?_⟩)) | fail)
          all_goals first
            | (exfalso; exact hc' (by assumption) (by assumption))
            | (apply At_rounds (k + 1); (case hE => (try dsimp only); (repeat (first | exact SubE.nil _ | refine SubE.cons rfl ?_))); (case hS => (try dsimp only); rw [hes]; (try dsimp only); exact fun w' hw => hw.sel (by (repeat (first | exact Sel.nil _ | (apply Sel.cons; (repeat (first | with_reducible exact Pick.here _ _ | with_reducible apply Pick.there))))))); (case hμ => (try dsimp only); omega); (case hp => exact ⟨by (try dsimp only); omega, hns⟩))
    · have hns := hnos (by
        rw [hst]
        by_cases e : cs[k].kind = 2
        · have e3 : ¬ cs[k].to ≠ -1 := fun e3 => h2 ⟨e, e3⟩
          rw [decide_eq_false e3, Bool.false_and, Bool.and_false]
        · rw [decide_eq_false e, Bool.false_and])
      have hea2 : earzB cs k = false := by
        rw [hea]
        by_cases e : cs[k].kind = 2
        · have e3 : ¬ cs[k].to ≠ -1 := fun e3 => h2 ⟨e, e3⟩
          rw [decide_eq_false e3, Bool.false_and, Bool.and_false]
        · rw [decide_eq_false e, Bool.false_and]
      rw [hea2, if_neg (by simp)] at hes
      clear hfind hR0 hR1 hnos hno hst hea hea2 hto hrd hz
      have h2' : cs[k].kind = 2 → ¬ cs[k].to = -1 → False := fun a b => h2 ⟨a, b⟩
      generalize earlyV cs k = EV at *
      repeat' (first | (refine GG ?_) | (refine GE ?_; (first | (rintro _ _ ⟨rfl, rfl⟩) | (rintro _ _ ⟨g, rfl, rfl⟩) | (rintro _ _ ⟨A', c', rfl, rfl⟩)); (try refine ⟨SUB, ?_⟩)) | ((refine GO2 ?_ ?_) <;> intro h <;> (try (repeat (first | with_reducible (replace h := of_decide_eq_true h) | with_reducible (replace h := of_decide_eq_false h) | with_reducible (replace h := bnt h) | with_reducible (replace h := bnf h) | with_reducible (replace h := Int.not_lt.mp h) | with_reducible (replace h := Int.not_le.mp h) | with_reducible (replace h := band_dec h) | with_reducible (replace h := band_decF h) | with_reducible (replace h := bor_dec h) | with_reducible (replace h := bor_decF h)))) <;> (try (exfalso; first | contradiction | omega))) | (refine GOF ?_ ?_) | fail)
      all_goals first
        | (exfalso; exact h2' (by assumption) (by assumption))
        | (apply At_rounds (k + 1); (case hE => (try dsimp only); (repeat (first | exact SubE.nil _ | refine SubE.cons rfl ?_))); (case hS => (try dsimp only); rw [hes]; exact fun w' hw => hw.sel (by (repeat (first | exact Sel.nil _ | (apply Sel.cons; (repeat (first | with_reducible exact Pick.here _ _ | with_reducible apply Pick.there))))))); (case hμ => (try dsimp only); omega); (case hp => exact ⟨by (try dsimp only); omega, hns⟩))
        | (exfalso; simp_all; done)
  · obtain rfl : k = cs.length := by omega
    obtain rfl := hR0 hno
    generalize earlyV cs cs.length = EV at *
    obtain ⟨vk, va, vb⟩ := EV
    repeat' (first | (refine GO ?_) | (refine GOE ?_; (first | (rintro _ _ ⟨rfl, rfl⟩) | (rintro _ _ ⟨g, rfl, rfl⟩) | (rintro _ _ ⟨A', c', rfl, rfl⟩))) | ((refine GO2 ?_ ?_) <;> intro h <;> (try (repeat (first | with_reducible (replace h := of_decide_eq_true h) | with_reducible (replace h := of_decide_eq_false h) | with_reducible (replace h := bnt h) | with_reducible (replace h := bnf h) | with_reducible (replace h := Int.not_lt.mp h) | with_reducible (replace h := Int.not_le.mp h) | with_reducible (replace h := band_dec h) | with_reducible (replace h := band_decF h) | with_reducible (replace h := bor_dec h) | with_reducible (replace h := bor_decF h)))) <;> (try (exfalso; first | contradiction | omega))) | fail)
    ((with_reducible apply At_retM Try.results36); (repeat (first | exact ResIs.nil | (apply ResIs.tmp; exact rfl) | (apply ResIs.cell; exact rfl; exact Lds.auto))); intro w' hw)
    exact ⟨rfl, hw.below0 rfl⟩
end
end Go.Proofs.Ytaonijdhmgcbjaa
