/- Lemmas for the walks (Rw6, CtSpn). No condition. -/
import Derived.Test.YtbhjljnbjomnhaaG12
import Derived.Test.YtbhjljnbjomnhaaG09
set_option linter.unusedSimpArgs false
set_option linter.unusedVariables false
set_option linter.unusedSectionVars false
set_option linter.unnecessarySimpa false
namespace Go.Proofs.Ytbhjljnbjomnhaa
open Go.RowKit

theorem firstN_congr {n : Nat} {P Q : Nat → Bool} (h : ∀ i, i < n → P i = Q i) : firstN n P = firstN n Q := by
  cases e : firstN n Q with
  | none => exact firstN_none fun i hi => by rw [h i hi]; exact firstN_no e i hi
  | some k =>
    obtain ⟨h1, h2, h3⟩ := firstN_some e
    exact firstN_at h1 (fun j hj => by rw [h j (by omega)]; exact h3 j hj) (by rw [h k h1]; exact h2)
theorem each_is {n : Nat} {P Q : Nat → Bool} {F G : Nat → Bd} (h : ∀ i, i < n → P i = Q i) (hG : ∀ i, i < n → P i = true → G i = F i) : (match firstN n P with | some k => G k | none => ⟨0, 0, 0⟩) = (match firstN n Q with | some k => F k | none => (⟨0, 0, 0⟩ : Bd)) := by
  rw [← firstN_congr h]
  cases e : firstN n P with
  | none => rfl
  | some k =>
    obtain ⟨h1, h2, _⟩ := firstN_some e
    exact hG k h1 h2
theorem res_pos {cs : List Cl} (hok : QuOk cs) {k : Nat} (hk : k < cs.length) (h4 : (clK cs k).kind = 4) : (clK cs k).res ≠ -1 ↔ 0 < (clK cs k).res := by
  have := (hok.got k hk h4).2
  omega
theorem straV_is {cs : List Cl} (hok : QuOk cs) : straV cs = match firstN cs.length (fun i => decide ((clK cs i).kind = 4) && (decide ((clK cs i).res ≠ -1) && decide ((strayF cs i).kind ≠ 0))) with | some i => strayF cs i | none => ⟨0, 0, 0⟩ := by
  unfold straV
  refine each_is (fun i hi => ?_) (fun i hi hP => ?_)
  · unfold straB strayF
    by_cases h4 : (clK cs i).kind = 4
    · have := res_pos hok hi h4
      rw [decide_eq_decide.2 this]
      congr 2
      split <;> rename_i e <;> simp [e]
    · simp [h4]
  · unfold straB at hP
    simp only [Bool.and_eq_true, decide_eq_true_eq] at hP
    unfold strayF
    rw [if_pos hP.2.2]
/-- no value that nobody put -/
theorem straV_no {cs : List Cl} (hok : QuOk cs) (h : (straV cs).kind = 0) : ∀ i, i < cs.length → (clK cs i).kind = 4 → (clK cs i).res ≠ -1 → 0 ≤ putBy cs (clK cs i).res := by
  intro i hi h4 hr
  unfold straV at h
  cases e : firstN cs.length (straB cs) with
  | some k => rw [e] at h; cases h
  | none =>
    have h2 := firstN_no e i hi
    have h3 := (res_pos hok hi h4).1 hr
    unfold straB at h2
    rw [decide_eq_true h4, decide_eq_true h3, Bool.true_and, Bool.true_and, decide_eq_false_iff_not] at h2
    omega
theorem gotBy_le {cs : List Cl} {i : Nat} (hi : i < cs.length) (h4 : (clK cs i).kind = 4) : 0 ≤ gotBy cs (clK cs i).res ∧ gotBy cs (clK cs i).res ≤ i :=
  ixN_of hi (by unfold isGot; simp [h4])
theorem tweV_is {cs : List Cl} (hok : QuOk cs) : tweV cs = match firstN cs.length (fun i => decide ((clK cs i).kind = 4) && (decide ((clK cs i).res ≠ -1) && decide ((twiceF cs i).kind ≠ 0))) with | some i => twiceF cs i | none => ⟨0, 0, 0⟩ := by
  unfold tweV
  refine each_is (fun i hi => ?_) (fun i hi hP => ?_)
  · unfold tweB twiceF
    by_cases h4 : (clK cs i).kind = 4
    · have := res_pos hok hi h4
      have hg := gotBy_le hi h4
      rw [decide_eq_decide.2 this]
      congr 2
      split <;> rename_i e
      · simp [e]
      · simp; omega
    · simp [h4]
  · unfold tweB at hP
    simp only [Bool.and_eq_true, decide_eq_true_eq] at hP
    unfold twiceF
    rw [if_neg (by omega)]
theorem earV_is {cs : List Cl} (hok : QuOk cs) : earV cs = match firstN cs.length (fun i => decide ((clK cs i).kind = 4) && (decide ((clK cs i).res ≠ -1) && decide ((earlyF cs i).kind ≠ 0))) with | some i => earlyF cs i | none => ⟨0, 0, 0⟩ := by
  unfold earV
  refine each_is (fun i hi => ?_) (fun i hi hP => ?_)
  · unfold earB earlyF
    by_cases h4 : (clK cs i).kind = 4
    · have := res_pos hok hi h4
      rw [decide_eq_decide.2 this]
      congr 2
      split <;> rename_i e <;> simp [e]
    · simp [h4]
  · unfold earB at hP
    simp only [Bool.and_eq_true, decide_eq_true_eq] at hP
    unfold earlyF
    rw [if_pos hP.2.2]
section
variable (gl : Nat) (A V : Option Addr) (ca cv : Nat) (cs : List Cl) (w : World) (hL : Blk w gl 220 #[.slice A cs.length ca, .slice V (valL cs cs.length).length cv]) (hA : RdE Cl.enc 7 w A cs) (hV : RdE Rvl.enc 3 w V (valL cs cs.length)) (hok : QuOk cs)
include hL hA hV hok
set_option maxRecDepth 100000 in
theorem stray_any : Calls Try.prog 67 #[.pointer (some ⟨gl, 0, none⟩)] w fun e w' => e = .returned (.agg (Bd.enc (straV cs)).toArray) ∧ Below w.heap.size w w' := by
  have hea : ∀ (g1 : Nat) (S : List Ent) (w1 : World), Mem ⟨6, [], w⟩ w1 S → entBlk g1 131 #[.pointer (some ⟨gl, 0, none⟩)] ∈ S → Calls Try.prog 118 #[.pointer (some ⟨gl, 0, none⟩), .func (.func 119) #[] [.pointer (some ⟨g1, 0, none⟩)].toArray] w1 fun e w' => e = .returned (.agg (Bd.enc (straV cs)).toArray) ∧ Below w1.heap.size w1 w' := fun g1 S w1 hw hm => by
    have b1 : Blk w1 g1 131 #[.pointer (some ⟨gl, 0, none⟩)] := hw.theBlk hm
    exact each_any gl A V ca cv cs w1 (hL.carry (hw.below0 rfl)) (hw.rd rfl hA) hok 119 [.pointer (some ⟨g1, 0, none⟩)] (strayF cs) (straV cs) (fun i hi _ _ w2 hb => stray1_any gl A V ca cv cs w2 ((hL.carry (hw.below0 rfl)).carry hb) (RdE.below (hw.rd rfl hA) hb) (RdE.below (hw.rd rfl hV) hb) hok g1 (b1.carry hb).lt ((b1.carry hb).cell 0) i hi) (straV_is hok)
  generalize straV cs = R at *
  obtain ⟨vk, va, vb⟩ := R
  rw [show Bd.enc ⟨vk, va, vb⟩ = [.int .i64 vk, .int .i64 va, .int .i64 vb] from rfl] at *
  refine calls_T (S := []) [] Try.func67 rfl Try.ntmps67 (by simp) (Mem.nil _) ?_
  repeat' (first | ((first | with_reducible (first | apply TL_q | apply TD_q0 | apply TD_q1 | apply TD_q2 | apply TD_q3) | ((with_reducible (first | apply TD_q0y | apply TD_q1y)); exact rfl; exact rfl; (with_reducible exact rfl))); (first | ((with_reducible apply QS_load); exact rfl; (apply Lds.old; assumption; simp; assumption)) | ((with_reducible apply QS_neqPS); exact rfl; exact rfl) | ((with_reducible apply QS_neqPZ); exact rfl; exact rfl) | ((with_reducible apply QS_eqlPS); exact rfl; exact rfl) | ((with_reducible apply QS_eqlPZ); exact rfl; exact rfl) | exact QS.auto); exact rfl) | (refine GO ?_) | (refine GOE ?_; (first | (rintro _ _ ⟨rfl, rfl⟩) | (rintro _ _ ⟨g, rfl, rfl⟩) | (rintro _ _ ⟨A', c', rfl, rfl⟩))) | ((refine GO2 ?_ ?_) <;> intro h <;> (try (repeat (first | with_reducible (replace h := of_decide_eq_true h) | with_reducible (replace h := of_decide_eq_false h) | with_reducible (replace h := bnt h) | with_reducible (replace h := bnf h) | with_reducible (replace h := Int.not_lt.mp h) | with_reducible (replace h := Int.not_le.mp h) | with_reducible (replace h := band_dec h) | with_reducible (replace h := band_decF h) | with_reducible (replace h := bor_dec h) | with_reducible (replace h := bor_decF h)))) <;> (try (exfalso; first | contradiction | omega))) | ((with_reducible (first | apply TD_e2z | apply TD_e3z | apply TL_e | apply TD_e2 | apply TD_e3)); ((with_reducible apply ES_callV (f := 118)); exact rfl; (intro w1 hw; exact hea _ _ w1 hw (by first | ((repeat (first | with_reducible exact List.mem_cons_self | with_reducible apply List.mem_cons_of_mem)); done) | (repeat (first | exact List.Mem.head _ | apply List.Mem.tail)))); exact rfl); (first | exact rfl | exact ⟨rfl, rfl, rfl⟩); (rintro _ _ ⟨rfl, rfl⟩); (try refine ⟨SUB, ?_⟩)) | fail)
  ((with_reducible apply At_retM Try.results67); (repeat (first | exact ResIs.nil | (apply ResIs.tmp; exact rfl) | (apply ResIs.cell; exact rfl; exact Lds.auto))); intro w' hw)
  exact ⟨rfl, hw.below0 rfl⟩
set_option maxRecDepth 100000 in
theorem twice_any (hst : (straV cs).kind = 0) : Calls Try.prog 68 #[.pointer (some ⟨gl, 0, none⟩)] w fun e w' => e = .returned (.agg (Bd.enc (tweV cs)).toArray) ∧ Below w.heap.size w w' := by
  have hput := straV_no hok hst
  have hea : ∀ (g1 : Nat) (S : List Ent) (w1 : World), Mem ⟨6, [], w⟩ w1 S → entBlk g1 131 #[.pointer (some ⟨gl, 0, none⟩)] ∈ S → Calls Try.prog 118 #[.pointer (some ⟨gl, 0, none⟩), .func (.func 120) #[] [.pointer (some ⟨g1, 0, none⟩)].toArray] w1 fun e w' => e = .returned (.agg (Bd.enc (tweV cs)).toArray) ∧ Below w1.heap.size w1 w' := fun g1 S w1 hw hm => by
    have b1 : Blk w1 g1 131 #[.pointer (some ⟨gl, 0, none⟩)] := hw.theBlk hm
    exact each_any gl A V ca cv cs w1 (hL.carry (hw.below0 rfl)) (hw.rd rfl hA) hok 120 [.pointer (some ⟨g1, 0, none⟩)] (twiceF cs) (tweV cs) (fun i hi h4 hr w2 hb => twice1_any gl A V ca cv cs w2 ((hL.carry (hw.below0 rfl)).carry hb) (RdE.below (hw.rd rfl hA) hb) (RdE.below (hw.rd rfl hV) hb) hok g1 (b1.carry hb).lt ((b1.carry hb).cell 0) i hi (by have := hput i hi; rw [clK_eq hi] at this; exact this h4 hr)) (tweV_is hok)
  generalize tweV cs = R at *
  obtain ⟨vk, va, vb⟩ := R
  rw [show Bd.enc ⟨vk, va, vb⟩ = [.int .i64 vk, .int .i64 va, .int .i64 vb] from rfl] at *
  refine calls_T (S := []) [] Try.func68 rfl Try.ntmps68 (by simp) (Mem.nil _) ?_
  repeat' (first | ((first | with_reducible (first | apply TL_q | apply TD_q0 | apply TD_q1 | apply TD_q2 | apply TD_q3) | ((with_reducible (first | apply TD_q0y | apply TD_q1y)); exact rfl; exact rfl; (with_reducible exact rfl))); (first | ((with_reducible apply QS_load); exact rfl; (apply Lds.old; assumption; simp; assumption)) | ((with_reducible apply QS_neqPS); exact rfl; exact rfl) | ((with_reducible apply QS_neqPZ); exact rfl; exact rfl) | ((with_reducible apply QS_eqlPS); exact rfl; exact rfl) | ((with_reducible apply QS_eqlPZ); exact rfl; exact rfl) | exact QS.auto); exact rfl) | (refine GO ?_) | (refine GOE ?_; (first | (rintro _ _ ⟨rfl, rfl⟩) | (rintro _ _ ⟨g, rfl, rfl⟩) | (rintro _ _ ⟨A', c', rfl, rfl⟩))) | ((refine GO2 ?_ ?_) <;> intro h <;> (try (repeat (first | with_reducible (replace h := of_decide_eq_true h) | with_reducible (replace h := of_decide_eq_false h) | with_reducible (replace h := bnt h) | with_reducible (replace h := bnf h) | with_reducible (replace h := Int.not_lt.mp h) | with_reducible (replace h := Int.not_le.mp h) | with_reducible (replace h := band_dec h) | with_reducible (replace h := band_decF h) | with_reducible (replace h := bor_dec h) | with_reducible (replace h := bor_decF h)))) <;> (try (exfalso; first | contradiction | omega))) | ((with_reducible (first | apply TD_e2z | apply TD_e3z | apply TL_e | apply TD_e2 | apply TD_e3)); ((with_reducible apply ES_callV (f := 118)); exact rfl; (intro w1 hw; exact hea _ _ w1 hw (by first | ((repeat (first | with_reducible exact List.mem_cons_self | with_reducible apply List.mem_cons_of_mem)); done) | (repeat (first | exact List.Mem.head _ | apply List.Mem.tail)))); exact rfl); (first | exact rfl | exact ⟨rfl, rfl, rfl⟩); (rintro _ _ ⟨rfl, rfl⟩); (try refine ⟨SUB, ?_⟩)) | fail)
  ((with_reducible apply At_retM Try.results68); (repeat (first | exact ResIs.nil | (apply ResIs.tmp; exact rfl) | (apply ResIs.cell; exact rfl; exact Lds.auto))); intro w' hw)
  exact ⟨rfl, hw.below0 rfl⟩
set_option maxRecDepth 100000 in
theorem early_any (hst : (straV cs).kind = 0) : Calls Try.prog 69 #[.pointer (some ⟨gl, 0, none⟩)] w fun e w' => e = .returned (.agg (Bd.enc (earV cs)).toArray) ∧ Below w.heap.size w w' := by
  have hput := straV_no hok hst
  have hea : ∀ (g1 : Nat) (S : List Ent) (w1 : World), Mem ⟨6, [], w⟩ w1 S → entBlk g1 131 #[.pointer (some ⟨gl, 0, none⟩)] ∈ S → Calls Try.prog 118 #[.pointer (some ⟨gl, 0, none⟩), .func (.func 121) #[] [.pointer (some ⟨g1, 0, none⟩)].toArray] w1 fun e w' => e = .returned (.agg (Bd.enc (earV cs)).toArray) ∧ Below w1.heap.size w1 w' := fun g1 S w1 hw hm => by
    have b1 : Blk w1 g1 131 #[.pointer (some ⟨gl, 0, none⟩)] := hw.theBlk hm
    exact each_any gl A V ca cv cs w1 (hL.carry (hw.below0 rfl)) (hw.rd rfl hA) hok 121 [.pointer (some ⟨g1, 0, none⟩)] (earlyF cs) (earV cs) (fun i hi h4 hr w2 hb => early1_any gl A V ca cv cs w2 ((hL.carry (hw.below0 rfl)).carry hb) (RdE.below (hw.rd rfl hA) hb) (RdE.below (hw.rd rfl hV) hb) hok g1 (b1.carry hb).lt ((b1.carry hb).cell 0) i hi (by have := hput i hi; rw [clK_eq hi] at this; exact this h4 hr)) (earV_is hok)
  generalize earV cs = R at *
  obtain ⟨vk, va, vb⟩ := R
  rw [show Bd.enc ⟨vk, va, vb⟩ = [.int .i64 vk, .int .i64 va, .int .i64 vb] from rfl] at *
  refine calls_T (S := []) [] Try.func69 rfl Try.ntmps69 (by simp) (Mem.nil _) ?_
  repeat' (first | ((first | with_reducible (first | apply TL_q | apply TD_q0 | apply TD_q1 | apply TD_q2 | apply TD_q3) | ((with_reducible (first | apply TD_q0y | apply TD_q1y)); exact rfl; exact rfl; (with_reducible exact rfl))); (first | ((with_reducible apply QS_load); exact rfl; (apply Lds.old; assumption; simp; assumption)) | ((with_reducible apply QS_neqPS); exact rfl; exact rfl) | ((with_reducible apply QS_neqPZ); exact rfl; exact rfl) | ((with_reducible apply QS_eqlPS); exact rfl; exact rfl) | ((with_reducible apply QS_eqlPZ); exact rfl; exact rfl) | exact QS.auto); exact rfl) | (refine GO ?_) | (refine GOE ?_; (first | (rintro _ _ ⟨rfl, rfl⟩) | (rintro _ _ ⟨g, rfl, rfl⟩) | (rintro _ _ ⟨A', c', rfl, rfl⟩))) | ((refine GO2 ?_ ?_) <;> intro h <;> (try (repeat (first | with_reducible (replace h := of_decide_eq_true h) | with_reducible (replace h := of_decide_eq_false h) | with_reducible (replace h := bnt h) | with_reducible (replace h := bnf h) | with_reducible (replace h := Int.not_lt.mp h) | with_reducible (replace h := Int.not_le.mp h) | with_reducible (replace h := band_dec h) | with_reducible (replace h := band_decF h) | with_reducible (replace h := bor_dec h) | with_reducible (replace h := bor_decF h)))) <;> (try (exfalso; first | contradiction | omega))) | ((with_reducible (first | apply TD_e2z | apply TD_e3z | apply TL_e | apply TD_e2 | apply TD_e3)); ((with_reducible apply ES_callV (f := 118)); exact rfl; (intro w1 hw; exact hea _ _ w1 hw (by first | ((repeat (first | with_reducible exact List.mem_cons_self | with_reducible apply List.mem_cons_of_mem)); done) | (repeat (first | exact List.Mem.head _ | apply List.Mem.tail)))); exact rfl); (first | exact rfl | exact ⟨rfl, rfl, rfl⟩); (rintro _ _ ⟨rfl, rfl⟩); (try refine ⟨SUB, ?_⟩)) | fail)
  ((with_reducible apply At_retM Try.results69); (repeat (first | exact ResIs.nil | (apply ResIs.tmp; exact rfl) | (apply ResIs.cell; exact rfl; exact Lds.auto))); intro w' hw)
  exact ⟨rfl, hw.below0 rfl⟩
end
/-- is one answered ahead of the other one's call -/
def ahdB (cs : List Cl) (a b : Int) : Bool := decide ((clK cs a.toNat).to ≠ -1) && decide ((clK cs a.toNat).to < (clK cs b.toNat).from_)
theorem fifB_is {cs : List Cl} (hok : QuOk cs) {a b : Nat} (ha : 0 ≤ putBy cs a) (hb : 0 ≤ putBy cs b) : fifB cs a b = (ahdB cs (putBy cs a) (putBy cs b) && (decide (0 ≤ gotBy cs b) && (decide (gotBy cs a < 0) || ahdB cs (gotBy cs b) (gotBy cs a)))) := by
  obtain ⟨p, hp, hpl, _, _⟩ := putBy_at ha
  obtain ⟨q, hq, hql, _, _⟩ := putBy_at hb
  have hne := hok.ne p q hpl hql
  unfold fifB ahdB
  rw [hp, hq, Int.toNat_natCast, Int.toNat_natCast, decide_eq_true (show (0 : Int) ≤ (p : Nat) by omega), decide_eq_true (show (0 : Int) ≤ (q : Nat) by omega), Bool.true_and, Bool.true_and]
  congr 1
  · congr 1
    exact decide_eq_decide.2 (by omega)
  · by_cases hg : 0 ≤ gotBy cs b
    · obtain ⟨k, hk, hkl, hk4, _⟩ := gotK_at hg
      have hto := (hok.got k hkl hk4).1
      have hk : gotBy cs b = (k : Nat) := hk
      rw [hk, Int.toNat_natCast, decide_eq_true (show (clK cs k).to ≠ -1 from hto), Bool.true_and]
    · simp [hg]
section
variable (gl : Nat) (A V : Option Addr) (ca cv : Nat) (cs : List Cl) (w : World) (hL : Blk w gl 220 #[.slice A cs.length ca, .slice V (valL cs cs.length).length cv]) (hA : RdE Cl.enc 7 w A cs) (hV : RdE Rvl.enc 3 w V (valL cs cs.length)) (hok : QuOk cs)
include hL hA hok
set_option maxRecDepth 100000 in
set_option maxHeartbeats 4000000 in
theorem ahead1_any (b2 : Nat) (h2 : b2 < w.heap.size) (hc2 : w.cell? ⟨b2, 0, none⟩ = some (.pointer (some ⟨gl, 0, none⟩))) (a b : Int) (ha : 0 ≤ a ∧ a < cs.length) (hb : 0 ≤ b ∧ b < cs.length) :
    Calls Try.prog 122 #[.int .i64 a, .int .i64 b, .pointer (some ⟨b2, 0, none⟩)] w fun e w' => e = .returned (.bool (ahdB cs a b)) ∧ Below w.heap.size w w' := by
  have hl := hL.lt
  have hl0 : w.cell? ⟨gl, 0, none⟩ = some (.slice A cs.length ca) := hL.cell 0
  obtain ⟨bC, oC, rfl, _⟩ := RdE.open hA (by omega)
  have h3 : ahdB cs a b = (decide (cs[a.toNat].to ≠ -1) && decide (cs[a.toNat].to < cs[b.toNat].from_)) := by unfold ahdB; rw [clK_eq (by omega), clK_eq (by omega)]
  rw [h3]
  clear h3
  refine calls_T (S := []) [] Try.func122 rfl Try.ntmps122 (by simp) (Mem.nil _) ?_
  repeat' (first | ((first | with_reducible (first | apply TL_q | apply TD_q0 | apply TD_q1 | apply TD_q2 | apply TD_q3) | ((with_reducible (first | apply TD_q0y | apply TD_q1y)); exact rfl; exact rfl; (with_reducible exact rfl))); (first | ((with_reducible apply QS_load); exact rfl; (apply Lds.old; assumption; simp; assumption)) | ((with_reducible apply QS_neqPS); exact rfl; exact rfl) | ((with_reducible apply QS_neqPZ); exact rfl; exact rfl) | ((with_reducible apply QS_eqlPS); exact rfl; exact rfl) | ((with_reducible apply QS_eqlPZ); exact rfl; exact rfl) | exact QS.auto); exact rfl) | (refine GG ?_) | (refine GE ?_; (first | (rintro _ _ ⟨rfl, rfl⟩) | (rintro _ _ ⟨g, rfl, rfl⟩) | (rintro _ _ ⟨A', c', rfl, rfl⟩)); (try refine ⟨SUB, ?_⟩)) | ((refine GO2 ?_ ?_) <;> intro h <;> (try (repeat (first | with_reducible (replace h := of_decide_eq_true h) | with_reducible (replace h := of_decide_eq_false h) | with_reducible (replace h := bnt h) | with_reducible (replace h := bnf h) | with_reducible (replace h := Int.not_lt.mp h) | with_reducible (replace h := Int.not_le.mp h) | with_reducible (replace h := band_dec h) | with_reducible (replace h := band_decF h) | with_reducible (replace h := bor_dec h) | with_reducible (replace h := bor_decF h)))) <;> (try (exfalso; first | contradiction | omega))) | (refine GOF ?_ ?_) | ((with_reducible apply T_draw (id := 1) 1000 (OT.seq [(0, 4), (1, 0), (0, 1), (0, 2), (1, 3), (0, 5), (0, 6), (1, 7), (0, 8), (0, 9), (0, 14), (0, 22), (1, 10), (0, 11), (0, 12), (1, 13), (0, 15), (0, 16), (1, 17), (1, 18), (0, 19), (0, 20), (1, 21), (0, 23), (0, 24), (1, 25), (0, 26), (0, 27), (0, 28)] .nil)); kernel_rfl; exact rfl; kernel_rfl; (repeat (first | with_reducible exact Blind.body | with_reducible apply Blind.seq | with_reducible apply Blind.block))) | fail)
  all_goals
    refine At_ret Try.results122 rfl (fun w' hw => ?_)
    refine ⟨?_, hw.below0 rfl⟩
    congr 2
    first | (simp [*, resVal]; done) | (simp [*, resVal]; omega)
include hV
set_option maxRecDepth 100000 in
set_option maxHeartbeats 8000000 in
theorem order_any : Calls Try.prog 70 #[.pointer (some ⟨gl, 0, none⟩)] w fun e w' => e = .returned (.agg (Bd.enc (fifV cs)).toArray) ∧ Below w.heap.size w w' := by
  have hl := hL.lt
  have hl0 : w.cell? ⟨gl, 0, none⟩ = some (.slice A cs.length ca) := hL.cell 0
  have hl1 : w.cell? ⟨gl, 1, none⟩ = some (.slice V (valL cs cs.length).length cv) := hL.cell 1
  have hfew := hok.few
  have hkq := keyQ_len hok
  have hvl := valL_len cs cs.length
  have hvo := fun k (hk : k < (valL cs cs.length).length) => valL_ok (Nat.le_refl _) hk
  have hR : fifV cs = match pairL (keyQ cs) (fifB cs) with | some (a, b) => ⟨6, (a : Nat), (b : Nat)⟩ | none => ⟨0, 0, 0⟩ := by unfold fifV; rw [fif_keys]; cases pairL (keyQ cs) (fifB cs) <;> rfl
  have hfb : ∀ i k (hi : i < (valL cs cs.length).length) (hk : k < (valL cs cs.length).length) (hi2 : i < (keyQ cs).length) (hk2 : k < (keyQ cs).length), fifB cs (keyQ cs)[i] (keyQ cs)[k] = (ahdB cs (valL cs cs.length)[i].enq (valL cs cs.length)[k].enq && (decide (0 ≤ (valL cs cs.length)[k].deq) && (decide ((valL cs cs.length)[i].deq < 0) || ahdB cs (valL cs cs.length)[k].deq (valL cs cs.length)[i].deq))) := fun i k hi hk hi2 hk2 => by
    rw [fifB_is hok (keyQ_mem.1 (List.getElem_mem _)).2 (keyQ_mem.1 (List.getElem_mem _)).2, valL_get hi, valL_get hk]
    rfl
  have hvn : ∀ i (hi : i < (valL cs cs.length).length) (hi2 : i < (keyQ cs).length), (valL cs cs.length)[i].n = ((keyQ cs)[i] : Nat) := fun i hi hi2 => by rw [valL_get hi]; rfl
  have hah : ∀ (a b : Int) (g1 : Nat) (S : List Ent) (w1 : World), Mem ⟨59, [], w⟩ w1 S → entBlk g1 131 #[.pointer (some ⟨gl, 0, none⟩)] ∈ S → (0 ≤ a ∧ a < cs.length) → (0 ≤ b ∧ b < cs.length) → Calls Try.prog 122 [.int .i64 a, .int .i64 b, .pointer (some ⟨g1, 0, none⟩)].toArray w1 fun e w' => e = .returned (.bool (ahdB cs a b)) ∧ Below w1.heap.size w1 w' := fun a b g1 S w1 hw hm ha hb => by
    have b1 : Blk w1 g1 131 #[.pointer (some ⟨gl, 0, none⟩)] := hw.theBlk hm
    exact ahead1_any gl A V ca cv cs w1 (hL.carry (hw.below0 rfl)) (hw.rd rfl hA) hok g1 b1.lt (b1.cell 0) a b ha hb
  generalize fifV cs = R at *
  generalize valL cs cs.length = vs at *
  refine calls_T (S := []) [] Try.func70 rfl Try.ntmps70 (by simp) (Mem.nil _) ?_
  repeat' (first | ((first | with_reducible (first | apply TL_q | apply TD_q0 | apply TD_q1 | apply TD_q2 | apply TD_q3) | ((with_reducible (first | apply TD_q0y | apply TD_q1y)); exact rfl; exact rfl; (with_reducible exact rfl))); (first | ((with_reducible apply QS_load); exact rfl; (apply Lds.old; assumption; simp; assumption)) | ((with_reducible apply QS_neqPS); exact rfl; exact rfl) | ((with_reducible apply QS_neqPZ); exact rfl; exact rfl) | ((with_reducible apply QS_eqlPS); exact rfl; exact rfl) | ((with_reducible apply QS_eqlPZ); exact rfl; exact rfl) | exact QS.auto); exact rfl) | (refine GO ?_) | (refine GOE ?_; (first | (rintro _ _ ⟨rfl, rfl⟩) | (rintro _ _ ⟨g, rfl, rfl⟩) | (rintro _ _ ⟨A', c', rfl, rfl⟩))) | ((refine GO2 ?_ ?_) <;> intro h <;> (try (repeat (first | with_reducible (replace h := of_decide_eq_true h) | with_reducible (replace h := of_decide_eq_false h) | with_reducible (replace h := bnt h) | with_reducible (replace h := bnf h) | with_reducible (replace h := Int.not_lt.mp h) | with_reducible (replace h := Int.not_le.mp h) | with_reducible (replace h := band_dec h) | with_reducible (replace h := band_decF h) | with_reducible (replace h := bor_dec h) | with_reducible (replace h := bor_decF h)))) <;> (try (exfalso; first | contradiction | omega))) | fail)
  obtain ⟨gb, rfl⟩ : ∃ x, x = g := ⟨_, rfl⟩
  obtain ⟨g1, rfl⟩ : ∃ x, x = g := ⟨_, rfl⟩
  refine T_loop (X := Nat) (fun i => [(14, .int .i64 (i : Nat)), (13, .int .i64 vs.length), (12, .slice V vs.length cv), (3, .func (.func 122) #[] [.pointer (some ⟨g1, 0, none⟩)].toArray), (2, .pointer (some ⟨gb, 0, none⟩)), (1, .pointer (some ⟨g1, 0, none⟩))]) (fun _ => [entBlk gb 48 #[.int .i64 0, .int .i64 0, .int .i64 0], entBlk g1 131 #[.pointer (some ⟨gl, 0, none⟩)]])
    (fun i => i ≤ vs.length ∧ ∀ j (hj : j < i) (hj2 : j < (keyQ cs).length) q (hq : q < (keyQ cs).length), fifB cs (keyQ cs)[j] (keyQ cs)[q] = false) (fun i => vs.length - i) 0 ⟨by omega, fun j hj => by omega⟩ (by (repeat (first | exact SubE.nil _ | refine SubE.cons rfl ?_))) (by exact SUBS) ?_
  rintro i ⟨hi, hno⟩
  by_cases hil : i < vs.length
  · obtain ⟨bV, oV, rfl, _⟩ := RdE.open hV (by omega)
    obtain ⟨hi0, hi1, hi2, hi3⟩ := hvo i hil
    repeat' (first | ((first | with_reducible (first | apply TL_q | apply TD_q0 | apply TD_q1 | apply TD_q2 | apply TD_q3) | ((with_reducible (first | apply TD_q0y | apply TD_q1y)); exact rfl; exact rfl; (with_reducible exact rfl))); (first | ((with_reducible apply QS_load); exact rfl; (apply Lds.old; assumption; simp; assumption)) | ((with_reducible apply QS_neqPS); exact rfl; exact rfl) | ((with_reducible apply QS_neqPZ); exact rfl; exact rfl) | ((with_reducible apply QS_eqlPS); exact rfl; exact rfl) | ((with_reducible apply QS_eqlPZ); exact rfl; exact rfl) | exact QS.auto); exact rfl) | (refine GO ?_) | (refine GOE ?_; (first | (rintro _ _ ⟨rfl, rfl⟩) | (rintro _ _ ⟨g, rfl, rfl⟩) | (rintro _ _ ⟨A', c', rfl, rfl⟩))) | ((refine GO2 ?_ ?_) <;> intro h <;> (try (repeat (first | with_reducible (replace h := of_decide_eq_true h) | with_reducible (replace h := of_decide_eq_false h) | with_reducible (replace h := bnt h) | with_reducible (replace h := bnf h) | with_reducible (replace h := Int.not_lt.mp h) | with_reducible (replace h := Int.not_le.mp h) | with_reducible (replace h := band_dec h) | with_reducible (replace h := band_decF h) | with_reducible (replace h := bor_dec h) | with_reducible (replace h := bor_decF h)))) <;> (try (exfalso; first | contradiction | omega))) | fail)
    obtain ⟨g5, rfl⟩ : ∃ x, x = g := ⟨_, rfl⟩
    refine T_loop (X := Nat) (fun k => [(23, .int .i64 (k : Nat)), (22, .int .i64 vs.length), (21, .slice (some ⟨bV, oV, none⟩) vs.length cv), (5, .pointer (some ⟨g5, 0, none⟩)), (14, .int .i64 (i : Nat)), (13, .int .i64 vs.length), (12, .slice (some ⟨bV, oV, none⟩) vs.length cv), (3, .func (.func 122) #[] [.pointer (some ⟨g1, 0, none⟩)].toArray), (2, .pointer (some ⟨gb, 0, none⟩)), (1, .pointer (some ⟨g1, 0, none⟩))]) (fun _ => [entBlk g5 224 (Rvl.enc vs[i]).toArray, entBlk gb 48 #[.int .i64 0, .int .i64 0, .int .i64 0], entBlk g1 131 #[.pointer (some ⟨gl, 0, none⟩)]])
      (fun k => k ≤ vs.length ∧ ∀ q (hq : q < k) (hq2 : q < (keyQ cs).length), fifB cs ((keyQ cs)[i]'(by omega)) (keyQ cs)[q] = false) (fun k => vs.length - k) 0 ⟨by omega, fun q hq => by omega⟩ (by (repeat (first | exact SubE.nil _ | refine SubE.cons rfl ?_))) (by exact SUBS) ?_
    rintro k ⟨hk, hno2⟩
    by_cases hkl : k < vs.length
    · obtain ⟨hk0, hk1, hk2, hk3⟩ := hvo k hkl
      have hf := hfb i k hil hkl (by omega) (by omega)
      repeat' (first | ((first | with_reducible (first | apply TL_q | apply TD_q0 | apply TD_q1 | apply TD_q2 | apply TD_q3) | ((with_reducible (first | apply TD_q0y | apply TD_q1y)); exact rfl; exact rfl; (with_reducible exact rfl))); (first | ((with_reducible apply QS_load); exact rfl; (apply Lds.old; assumption; simp; assumption)) | ((with_reducible apply QS_neqPS); exact rfl; exact rfl) | ((with_reducible apply QS_neqPZ); exact rfl; exact rfl) | ((with_reducible apply QS_eqlPS); exact rfl; exact rfl) | ((with_reducible apply QS_eqlPZ); exact rfl; exact rfl) | exact QS.auto); exact rfl) | (refine GO ?_) | (refine GOE ?_; (first | (rintro _ _ ⟨rfl, rfl⟩) | (rintro _ _ ⟨g, rfl, rfl⟩) | (rintro _ _ ⟨A', c', rfl, rfl⟩))) | ((refine GO2 ?_ ?_) <;> intro h <;> (try (repeat (first | with_reducible (replace h := of_decide_eq_true h) | with_reducible (replace h := of_decide_eq_false h) | with_reducible (replace h := bnt h) | with_reducible (replace h := bnf h) | with_reducible (replace h := Int.not_lt.mp h) | with_reducible (replace h := Int.not_le.mp h) | with_reducible (replace h := band_dec h) | with_reducible (replace h := band_decF h) | with_reducible (replace h := bor_dec h) | with_reducible (replace h := bor_decF h)))) <;> (try (exfalso; first | contradiction | omega))) | ((with_reducible (first | apply TD_e2z | apply TD_e3z | apply TL_e | apply TD_e2 | apply TD_e3)); ((with_reducible apply ES_callFV (f := 122) (us := []) (cs := [.pointer (some ⟨g1, 0, none⟩)]) (vs := [.int .i64 vs[i].enq, .int .i64 vs[k].enq]) (v := .bool (ahdB cs vs[i].enq vs[k].enq))); exact rfl; exact rfl; (intro w' hw; exact hah vs[i].enq vs[k].enq _ _ w' hw (by first | ((repeat (first | with_reducible exact List.mem_cons_self | with_reducible apply List.mem_cons_of_mem)); done) | (repeat (first | exact List.Mem.head _ | apply List.Mem.tail))) (by omega) (by omega)); exact rfl); (first | exact rfl | exact ⟨rfl, rfl, rfl⟩); (rintro _ _ ⟨rfl, rfl⟩); (try refine ⟨SUB, ?_⟩)) | ((with_reducible (first | apply TD_e2z | apply TD_e3z | apply TL_e | apply TD_e2 | apply TD_e3)); ((with_reducible apply ES_callFV (f := 122) (us := []) (cs := [.pointer (some ⟨g1, 0, none⟩)]) (vs := [.int .i64 vs[k].deq, .int .i64 vs[i].deq]) (v := .bool (ahdB cs vs[k].deq vs[i].deq))); exact rfl; exact rfl; (intro w' hw; exact hah vs[k].deq vs[i].deq _ _ w' hw (by first | ((repeat (first | with_reducible exact List.mem_cons_self | with_reducible apply List.mem_cons_of_mem)); done) | (repeat (first | exact List.Mem.head _ | apply List.Mem.tail))) (by omega) (by omega)); exact rfl); (first | exact rfl | exact ⟨rfl, rfl, rfl⟩); (rintro _ _ ⟨rfl, rfl⟩); (try refine ⟨SUB, ?_⟩)) | fail)
      all_goals
        first
          | (((with_reducible apply At_retM Try.results70); (repeat (first | exact ResIs.nil | (apply ResIs.tmp; exact rfl) | (apply ResIs.cell; exact rfl; exact Lds.auto))); intro w' hw); have hb : fifB cs ((keyQ cs)[i]'(by omega)) ((keyQ cs)[k]'(by omega)) = true := (by rw [hf]; simp only [Bool.and_eq_true, Bool.or_eq_true, decide_eq_true_eq]; exact ⟨by assumption, by assumption, by first | exact .inl (by assumption) | exact .inr (by assumption)⟩); rw [pairL_at (by omega) (by omega) (fun j hj q hq => hno j hj (by omega) q hq) (fun q hq => hno2 q hq (by omega)) hb] at hR; dsimp only at hR; rw [← hvn i hil (by omega), ← hvn k hkl (by omega)] at hR; subst hR; exact ⟨rfl, hw.below0 rfl⟩)
          | (have hb : fifB cs ((keyQ cs)[i]'(by omega)) ((keyQ cs)[k]'(by omega)) = false := (by
              rw [hf, Bool.eq_false_iff]
              intro e
              simp only [Bool.and_eq_true, Bool.or_eq_true, decide_eq_true_eq] at e
              obtain ⟨e1, e2, e3⟩ := e
              rcases e3 with e3 | e3 <;> first | omega | (simp_all; done))
             exact At_rounds (k + 1) ⟨hkl, fun q hq hq2 => (Nat.lt_succ_iff_lt_or_eq.1 hq).elim (fun e => hno2 q e hq2) (fun e => by subst e; exact hb)⟩ (by omega) (by (repeat (first | exact SubE.nil _ | refine SubE.cons rfl ?_))) (by exact SUBS))
    · obtain rfl : k = vs.length := by omega
      repeat' (first | ((first | with_reducible (first | apply TL_q | apply TD_q0 | apply TD_q1 | apply TD_q2 | apply TD_q3) | ((with_reducible (first | apply TD_q0y | apply TD_q1y)); exact rfl; exact rfl; (with_reducible exact rfl))); (first | ((with_reducible apply QS_load); exact rfl; (apply Lds.old; assumption; simp; assumption)) | ((with_reducible apply QS_neqPS); exact rfl; exact rfl) | ((with_reducible apply QS_neqPZ); exact rfl; exact rfl) | ((with_reducible apply QS_eqlPS); exact rfl; exact rfl) | ((with_reducible apply QS_eqlPZ); exact rfl; exact rfl) | exact QS.auto); exact rfl) | (refine GO ?_) | (refine GOE ?_; (first | (rintro _ _ ⟨rfl, rfl⟩) | (rintro _ _ ⟨g, rfl, rfl⟩) | (rintro _ _ ⟨A', c', rfl, rfl⟩))) | ((refine GO2 ?_ ?_) <;> intro h <;> (try (repeat (first | with_reducible (replace h := of_decide_eq_true h) | with_reducible (replace h := of_decide_eq_false h) | with_reducible (replace h := bnt h) | with_reducible (replace h := bnf h) | with_reducible (replace h := Int.not_lt.mp h) | with_reducible (replace h := Int.not_le.mp h) | with_reducible (replace h := band_dec h) | with_reducible (replace h := band_decF h) | with_reducible (replace h := bor_dec h) | with_reducible (replace h := bor_decF h)))) <;> (try (exfalso; first | contradiction | omega))) | fail)
      exact At_rounds (i + 1) ⟨hil, fun j hj hj2 q hq => (Nat.lt_succ_iff_lt_or_eq.1 hj).elim (fun e => hno j e hj2 q hq) (fun e => by subst e; exact hno2 q (by omega) hq)⟩ (by omega) (by (repeat (first | exact SubE.nil _ | refine SubE.cons rfl ?_))) (by exact SUBS)
  · obtain rfl : i = vs.length := by omega
    rw [pairL_none fun j hj q hq => hno j (by omega) hj q hq] at hR
    subst hR
    repeat' (first | ((first | with_reducible (first | apply TL_q | apply TD_q0 | apply TD_q1 | apply TD_q2 | apply TD_q3) | ((with_reducible (first | apply TD_q0y | apply TD_q1y)); exact rfl; exact rfl; (with_reducible exact rfl))); (first | ((with_reducible apply QS_load); exact rfl; (apply Lds.old; assumption; simp; assumption)) | ((with_reducible apply QS_neqPS); exact rfl; exact rfl) | ((with_reducible apply QS_neqPZ); exact rfl; exact rfl) | ((with_reducible apply QS_eqlPS); exact rfl; exact rfl) | ((with_reducible apply QS_eqlPZ); exact rfl; exact rfl) | exact QS.auto); exact rfl) | (refine GO ?_) | (refine GOE ?_; (first | (rintro _ _ ⟨rfl, rfl⟩) | (rintro _ _ ⟨g, rfl, rfl⟩) | (rintro _ _ ⟨A', c', rfl, rfl⟩))) | ((refine GO2 ?_ ?_) <;> intro h <;> (try (repeat (first | with_reducible (replace h := of_decide_eq_true h) | with_reducible (replace h := of_decide_eq_false h) | with_reducible (replace h := bnt h) | with_reducible (replace h := bnf h) | with_reducible (replace h := Int.not_lt.mp h) | with_reducible (replace h := Int.not_le.mp h) | with_reducible (replace h := band_dec h) | with_reducible (replace h := band_decF h) | with_reducible (replace h := bor_dec h) | with_reducible (replace h := bor_decF h)))) <;> (try (exfalso; first | contradiction | omega))) | fail)
    ((with_reducible apply At_retM Try.results70); (repeat (first | exact ResIs.nil | (apply ResIs.tmp; exact rfl) | (apply ResIs.cell; exact rfl; exact Lds.auto))); intro w' hw)
    exact ⟨rfl, hw.below0 rfl⟩
end
end Go.Proofs.Ytbhjljnbjomnhaa

namespace Go.Proofs.Ytbhjljnbjomnhaa
open Go.RowKit

section
variable (fn : Nat) [IsFn Try.prog fn] (p : Spn → Bool) (cvs : List Value) (A : Option Addr) (c : Nat) (l : List Spn) (w : World) (hA : RdE Spn.enc 2 w A l) (hl : l.length ≤ 9223372036854775807)
variable (hp : ∀ s ∈ l, ∀ w', Below w.heap.size w w' → Calls Try.prog fn (.agg (Spn.enc s).toArray :: cvs).toArray w' fun e w2 => e = .returned (.bool (p s)) ∧ Below w'.heap.size w' w2)
include hA hl hp
set_option maxRecDepth 100000 in
theorem indexSpn_any : Calls Try.prog 166 #[.slice A l.length c, .func (.func fn) #[] cvs.toArray] w fun e w' => e = .returned (.int .i64 (idxF p l)) ∧ Below w.heap.size w w' := by
  refine calls_T (S := []) [] Try.func166 rfl Try.ntmps166 (by simp) (Mem.nil _) ?_
  repeat' (first | (refine GO ?_) | (refine GOE ?_; (first | (rintro _ _ ⟨rfl, rfl⟩) | (rintro _ _ ⟨g, rfl, rfl⟩) | (rintro _ _ ⟨A', c', rfl, rfl⟩))) | ((refine GO2 ?_ ?_) <;> intro h <;> (try (repeat (first | with_reducible (replace h := of_decide_eq_true h) | with_reducible (replace h := of_decide_eq_false h) | with_reducible (replace h := bnt h) | with_reducible (replace h := bnf h) | with_reducible (replace h := Int.not_lt.mp h) | with_reducible (replace h := Int.not_le.mp h) | with_reducible (replace h := band_dec h) | with_reducible (replace h := band_decF h) | with_reducible (replace h := bor_dec h) | with_reducible (replace h := bor_decF h)))) <;> (try (exfalso; first | contradiction | omega))) | fail)
  refine T_loop (X := Nat) (fun k => [(8, .int .i64 (k : Nat)), (7, .int .i64 (l.length : Nat)), (1, .func (.func fn) #[] cvs.toArray), (0, .slice A l.length c)]) (fun _ => [])
    (fun k => k ≤ l.length ∧ (l.take k).any p = false) (fun k => l.length - k) 0 ⟨by omega, by simp⟩ (by (repeat (first | exact SubE.nil _ | refine SubE.cons rfl ?_))) (by exact SUBS) ?_
  rintro k ⟨hk, hno⟩
  by_cases hkl : k < l.length
  · obtain ⟨b, o, rfl, _⟩ := RdE.open hA (by omega)
    have hb := fun w' hb => hp l[k] (List.getElem_mem _) w' hb
    generalize hz : p l[k] = z at hb
    repeat' (first | (refine GO ?_) | (refine GOE ?_; (first | (rintro _ _ ⟨rfl, rfl⟩) | (rintro _ _ ⟨g, rfl, rfl⟩) | (rintro _ _ ⟨A', c', rfl, rfl⟩))) | ((refine GO2 ?_ ?_) <;> intro h <;> (try (repeat (first | with_reducible (replace h := of_decide_eq_true h) | with_reducible (replace h := of_decide_eq_false h) | with_reducible (replace h := bnt h) | with_reducible (replace h := bnf h) | with_reducible (replace h := Int.not_lt.mp h) | with_reducible (replace h := Int.not_le.mp h) | with_reducible (replace h := band_dec h) | with_reducible (replace h := band_decF h) | with_reducible (replace h := bor_dec h) | with_reducible (replace h := bor_decF h)))) <;> (try (exfalso; first | contradiction | omega))) | ((with_reducible (first | apply TD_e2z | apply TD_e3z | apply TL_e | apply TD_e2 | apply TD_e3)); ((with_reducible apply ES_callFV (f := fn) (us := []) (cs := cvs) (v := .bool z)); exact rfl; exact rfl; (intro w' hw; exact hb w' (hw.below0 rfl)); exact rfl); (first | exact rfl | exact ⟨rfl, rfl, rfl⟩); (rintro _ _ ⟨rfl, rfl⟩); (try refine ⟨SUB, ?_⟩)) | fail)
    · (refine At_ret Try.results166 rfl (fun w' hw => ?_))
      exact ⟨by rw [idxF_at hkl hno (by rw [hz]; assumption)]; rfl, hw.below0 rfl⟩
    · refine At_rounds (k + 1) ⟨hkl, any_take_not hkl hno (by rw [hz]; assumption)⟩ (by omega) (by (repeat (first | exact SubE.nil _ | refine SubE.cons rfl ?_))) (by exact SUBS)
  · obtain rfl : k = l.length := by omega
    rw [List.take_length] at hno
    repeat' (first | (refine GO ?_) | (refine GOE ?_; (first | (rintro _ _ ⟨rfl, rfl⟩) | (rintro _ _ ⟨g, rfl, rfl⟩) | (rintro _ _ ⟨A', c', rfl, rfl⟩))) | ((refine GO2 ?_ ?_) <;> intro h <;> (try (repeat (first | with_reducible (replace h := of_decide_eq_true h) | with_reducible (replace h := of_decide_eq_false h) | with_reducible (replace h := bnt h) | with_reducible (replace h := bnf h) | with_reducible (replace h := Int.not_lt.mp h) | with_reducible (replace h := Int.not_le.mp h) | with_reducible (replace h := band_dec h) | with_reducible (replace h := band_decF h) | with_reducible (replace h := bor_dec h) | with_reducible (replace h := bor_decF h)))) <;> (try (exfalso; first | contradiction | omega))) | fail)
    (refine At_ret Try.results166 rfl (fun w' hw => ?_))
    exact ⟨by rw [idxF_no hno]; rfl, hw.below0 rfl⟩
set_option maxRecDepth 100000 in
theorem contSpn_any : Calls Try.prog 123 #[.slice A l.length c, .func (.func fn) #[] cvs.toArray] w fun e w' => e = .returned (.bool (l.any p)) ∧ Below w.heap.size w w' := by
  have hi := fun w' (hb : Below w.heap.size w w') => indexSpn_any fn p cvs A c l w' (RdE.below hA hb) hl (fun s hs w2 h2 => hp s hs w2 (bel_trans hb h2))
  have hz := idxF_any p l
  generalize idxF p l = z at *
  generalize l.any p = q at *
  subst hz
  refine calls_T (S := []) [] Try.func123 rfl Try.ntmps123 (by simp) (Mem.nil _) ?_
  repeat' (first | (refine GO ?_) | (refine GOE ?_; (first | (rintro _ _ ⟨rfl, rfl⟩) | (rintro _ _ ⟨g, rfl, rfl⟩) | (rintro _ _ ⟨A', c', rfl, rfl⟩))) | ((refine GO2 ?_ ?_) <;> intro h <;> (try (repeat (first | with_reducible (replace h := of_decide_eq_true h) | with_reducible (replace h := of_decide_eq_false h) | with_reducible (replace h := bnt h) | with_reducible (replace h := bnf h) | with_reducible (replace h := Int.not_lt.mp h) | with_reducible (replace h := Int.not_le.mp h) | with_reducible (replace h := band_dec h) | with_reducible (replace h := band_decF h) | with_reducible (replace h := bor_dec h) | with_reducible (replace h := bor_decF h)))) <;> (try (exfalso; first | contradiction | omega))) | ((with_reducible (first | apply TD_e2z | apply TD_e3z | apply TL_e | apply TD_e2 | apply TD_e3)); ((with_reducible apply ES_callV (f := 166)); exact rfl; (intro w hw; exact hi w (hw.below0 rfl)); exact rfl); (first | exact rfl | exact ⟨rfl, rfl, rfl⟩); (rintro _ _ ⟨rfl, rfl⟩); (try refine ⟨SUB, ?_⟩)) | fail)
  (refine At_ret Try.results123 rfl (fun w' hw => ?_))
  exact ⟨rfl, hw.below0 rfl⟩
end
end Go.Proofs.Ytbhjljnbjomnhaa
