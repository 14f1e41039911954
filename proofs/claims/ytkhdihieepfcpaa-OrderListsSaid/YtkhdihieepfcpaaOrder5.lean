/- alibref.Reaches: what can be reached by at least one step. -/
import Derived.Test.YtkhdihieepfcpaaE
import Derived.Test.YtkhdihieepfcpaaTy
import Derived.Test.YtkhdihieepfcpaaReach
import Derived.Test.YtkhdihieepfcpaaOrder4
namespace Go.Proofs.Ytkhdihieepfcpaa
open Go.RowKit

/-- the search: who was seen, who is still to do, who is under way (up to q) -/
structure RInv (n : Nat) (f : Nat → Nat) (i j : Nat) (x : Option Nat) (q : Nat) (seen : List Bool) (todo : List Nat) : Prop where
  len : seen.length = n
  lt : ∀ m ∈ todo, m < n
  sound : ∀ m, (seen[m]? = some true ∨ m ∈ todo ∨ x = some m) → m = i ∨ Rch (bitR f) i m
  cover : ∀ p, (p = i ∨ seen[p]? = some true) → p ∈ todo ∨ x = some p ∨ ∀ m, bitR f p m → m ≠ j ∧ seen[m]? = some true
  part : ∀ k, x = some k → k < n ∧ ∀ m, m < q → bitR f k m → m ≠ j ∧ seen[m]? = some true
section
variable {n : Nat} {f : Nat → Nat} {i j k q : Nat} {x : Option Nat} {seen : List Bool} {todo : List Nat}
theorem RInv.start (hi : i < n) : RInv n f i j none 0 (List.replicate n false) [i] where
  len := by simp
  lt := by simpa using hi
  sound := fun m h => by
    rcases h with h | h | h
    · rw [List.getElem?_replicate] at h; split at h <;> cases h
    · left; simpa using h
    · cases h
  cover := fun p h => by
    rcases h with h | h
    · left; simp [h]
    · rw [List.getElem?_replicate] at h; split at h <;> cases h
  part := fun k h => by cases h
theorem RInv.pop (h : RInv n f i j none 0 seen (k :: todo)) : RInv n f i j (some k) 0 seen todo where
  len := h.len
  lt := fun m hm => h.lt m (by simp [hm])
  sound := fun m hm => h.sound m (by
    rcases hm with h | h | h
    · exact .inl h
    · exact .inr (.inl (by simp [h]))
    · cases h; exact .inr (.inl (by simp)))
  cover := fun p hp => by
    rcases h.cover p hp with h | h | h
    · rcases List.mem_cons.1 h with rfl | h
      · exact .inr (.inl rfl)
      · exact .inl h
    · cases h
    · exact .inr (.inr h)
  part := fun k' hk => by cases hk; exact ⟨h.lt _ (by simp), fun m hm => by omega⟩
theorem RInv.done (hf : ∀ i, i < n → f i < 2 ^ n) (h : RInv n f i j (some k) n seen todo) : RInv n f i j none 0 seen todo where
  len := h.len
  lt := h.lt
  sound := fun m hm => h.sound m (by
    rcases hm with h | h | h
    · exact .inl h
    · exact .inr (.inl h)
    · cases h)
  cover := fun p hp => by
    rcases h.cover p hp with h1 | h1 | h1
    · exact .inl h1
    · cases h1
      right; right
      intro m hm
      have hk := h.part k rfl
      refine hk.2 m ?_ hm
      rcases Nat.lt_or_ge m n with h' | h'
      · exact h'
      · have : (f k).testBit m = false := Nat.testBit_lt_two_pow (Nat.lt_of_lt_of_le (hf k hk.1) (Nat.pow_le_pow_right (by decide) h'))
        rw [bitR, this] at hm; cases hm
    · exact .inr (.inr h1)
  part := fun k' hk => by cases hk
theorem RInv.no (h : RInv n f i j (some k) q seen todo) (hb : (f k).testBit q = false) : RInv n f i j (some k) (q + 1) seen todo :=
  ⟨h.len, h.lt, h.sound, h.cover, fun k' hk => by
      obtain ⟨h1, h2⟩ := h.part k' hk
      refine ⟨h1, fun m hm hb' => ?_⟩
      by_cases e : m = q
      · subst e; cases hk; rw [bitR, hb] at hb'; cases hb'
      · exact h2 m (by omega) hb'⟩
theorem RInv.old (h : RInv n f i j (some k) q seen todo) (hj : q ≠ j) (hs : seen[q]? = some true) : RInv n f i j (some k) (q + 1) seen todo :=
  ⟨h.len, h.lt, h.sound, h.cover, fun k' hk => by
      obtain ⟨h1, h2⟩ := h.part k' hk
      refine ⟨h1, fun m hm hb' => ?_⟩
      by_cases e : m = q
      · subst e; exact ⟨hj, hs⟩
      · exact h2 m (by omega) hb'⟩
theorem set_true {m : Nat} (q : Nat) (h : seen[m]? = some true) : (seen.set q true)[m]? = some true := by
  rw [List.getElem?_set]
  split
  · rename_i e
    subst e
    have := (List.getElem?_eq_some_iff.1 h).1
    rw [if_pos this]
  · exact h
theorem RInv.new (h : RInv n f i j (some k) q seen todo) (hq : q < n) (hb : (f k).testBit q = true) (hj : q ≠ j) : RInv n f i j (some k) (q + 1) (seen.set q true) (todo ++ [q]) := by
  have hq' : q < seen.length := by rw [h.len]; exact hq
  refine ⟨by simpa using h.len, fun m hm => ?_, fun m hm => ?_, fun p hp => ?_, fun k' hk => ?_⟩
  · rcases List.mem_append.1 hm with hm | hm
    · exact h.lt m hm
    · simp only [List.mem_singleton] at hm; omega
  · have hkr := h.sound k (.inr (.inr rfl))
    have new : q = i ∨ Rch (bitR f) i q := .inr (by
      rcases hkr with rfl | hkr
      · exact .one hb
      · exact hkr.trans (.one hb))
    rcases hm with hm | hm | hm
    · rw [List.getElem?_set] at hm
      split at hm
      · rename_i e; subst e; exact new
      · exact h.sound m (.inl hm)
    · rcases List.mem_append.1 hm with hm | hm
      · exact h.sound m (.inr (.inl hm))
      · simp only [List.mem_singleton] at hm; subst hm; exact new
    · exact h.sound m (.inr (.inr hm))
  · by_cases e : p = q
    · left; simp [e]
    · have hp' : p = i ∨ seen[p]? = some true := by
        rcases hp with hp | hp
        · exact .inl hp
        · rw [List.getElem?_set_ne (fun h => e h.symm)] at hp; exact .inr hp
      rcases h.cover p hp' with h1 | h1 | h1
      · exact .inl (by simp [h1])
      · exact .inr (.inl h1)
      · exact .inr (.inr fun m hm => ⟨(h1 m hm).1, set_true q (h1 m hm).2⟩)
  · obtain ⟨h1, h2⟩ := h.part k' hk
    refine ⟨h1, fun m hm hb' => ?_⟩
    by_cases e : m = q
    · subst e; exact ⟨hj, by rw [List.getElem?_set_self hq']⟩
    · exact ⟨(h2 m (by omega) hb').1, set_true q (h2 m (by omega) hb').2⟩
theorem RInv.end_ (h : RInv n f i j none 0 seen []) : ¬ Rch (bitR f) i j := by
  have key : ∀ p, (p = i ∨ seen[p]? = some true) → ∀ m, bitR f p m → m ≠ j ∧ seen[m]? = some true := fun p hp => by
    rcases h.cover p hp with h | h | h
    · cases h
    · cases h
    · exact h
  have : ∀ {p m}, Rch (bitR f) p m → (p = i ∨ seen[p]? = some true) → m ≠ j := by
    intro p m hr
    induction hr with
    | one h1 => exact fun hp => (key _ hp _ h1).1
    | step h1 _ ih => exact fun hp => ih (.inr (key _ hp _ h1).2)
  exact fun hr => this hr (.inl rfl) rfl
theorem RInv.found (h : RInv n f i j (some k) q seen todo) (hb : (f k).testBit j = true) : Rch (bitR f) i j := by
  rcases h.sound k (.inr (.inr rfl)) with rfl | hkr
  · exact .one hb
  · exact hkr.trans (.one hb)
end
def unseen (seen : List Bool) : Nat := seen.countP (fun b => !b)
theorem unseen_set {seen : List Bool} {q : Nat} (hq : q < seen.length) (h : seen[q] = false) : unseen (seen.set q true) + 1 = unseen seen := by
  have h1 := List.countP_set (p := fun b : Bool => !b) (l := seen) (i := q) (a := true) hq
  have h2 : 0 < seen.countP (fun b : Bool => !b) := List.countP_pos_iff.2 ⟨seen[q], List.getElem_mem _, by simp [h]⟩
  simp only [h, Bool.not_false, if_true, Bool.not_true, Bool.false_eq_true, if_false] at h1
  simp only [unseen]
  omega

structure RS where
  g : Nat
  p : Nat
  c : Nat
  o : Nat
  n : Nat
  k : Nat
  ls : List Nat
  seen : List Bool
structure RS.Ok (x : RS) (n : Nat) : Prop where
  hn : x.n = x.ls.length - x.o
  hk : x.k = x.c - x.o
  ho : x.o ≤ x.ls.length
  hp : x.o < x.c → x.p = x.o
  hl : x.n + unseen x.seen ≤ n + 1
set_option maxRecDepth 100000 in
set_option maxHeartbeats 4000000 in
theorem reaches_any (n : Nat) (f : Nat → Nat) (i j : Nat) (w : World) (hn : n ≤ 12) (hf : ∀ i, i < n → f i < 2 ^ n) (hi : i < n) (hj : j < n) :
    Calls Try.prog 77 #[.agg (relCells n f), .int .i64 i, .int .i64 j] w fun e w' => e = .returned (.bool ((closedF n f i).testBit j)) ∧ Below w.heap.size w w' := by
  refine calls_T (S := []) [] Try.func77 rfl Try.ntmps77 (by simp) (Mem.nil _) ?_
  repeat' (first | first | with_reducible apply T_seq | with_reducible apply T_region | with_reducible apply TL_nil | with_reducible apply At_then | with_reducible apply T_block | with_reducible apply At_block | with_reducible apply T_skip | with_reducible apply T_exit | with_reducible apply At_then_exit | with_reducible apply At_block_exit | ((with_reducible apply At_block_past); exact rfl) | with_reducible apply T_ret | with_reducible apply At_then_ret | with_reducible apply At_block_ret | with_reducible apply TD_nil | with_reducible apply TD_fork | ((with_reducible apply TL_q); exact QS.auto; exact rfl) | ((with_reducible apply TL_e); exact ES.auto; exact rfl; (first | (rintro _ _ ⟨rfl, rfl⟩) | (rintro _ _ ⟨g, rfl, rfl⟩) | (rintro _ _ ⟨A', c', rfl, rfl⟩))) | (first | ((with_reducible apply TL_yes); exact rfl; exact rfl; (with_reducible exact rfl)) | ((with_reducible apply TL_no); exact rfl; exact rfl; (first | with_reducible exact Bool.not_true.symm | with_reducible exact Bool.not_false.symm); exact rfl) | ((with_reducible apply TL_no_undef); exact rfl; exact rfl; exact rfl) | (((with_reducible apply TL_guard); exact rfl; exact rfl; (fail_if_success (with_reducible refine imp_lit1 ?_)); (fail_if_success (with_reducible refine imp_lit0))) <;> intro h <;> (try (repeat (first | with_reducible (replace h := of_decide_eq_true h) | with_reducible (replace h := of_decide_eq_false h) | with_reducible (replace h := bnt h) | with_reducible (replace h := bnf h) | with_reducible (replace h := Int.not_lt.mp h) | with_reducible (replace h := Int.not_le.mp h) | with_reducible (replace h := band_dec h) | with_reducible (replace h := band_decF h) | with_reducible (replace h := bor_dec h) | with_reducible (replace h := bor_decF h)))) <;> (try (exfalso; first | contradiction | omega))) | (((with_reducible apply TD_guard); exact rfl; exact rfl; (fail_if_success (with_reducible refine imp_lit1 ?_)); (fail_if_success (with_reducible refine imp_lit0))) <;> intro h <;> (try (repeat (first | with_reducible (replace h := of_decide_eq_true h) | with_reducible (replace h := of_decide_eq_false h) | with_reducible (replace h := bnt h) | with_reducible (replace h := bnf h) | with_reducible (replace h := Int.not_lt.mp h) | with_reducible (replace h := Int.not_le.mp h) | with_reducible (replace h := band_dec h) | with_reducible (replace h := band_decF h) | with_reducible (replace h := bor_dec h) | with_reducible (replace h := bor_decF h)))) <;> (try (exfalso; first | contradiction | omega)))) | (((with_reducible apply T_cond); exact rfl) <;> intro h <;> (try (repeat (first | with_reducible (replace h := of_decide_eq_true h) | with_reducible (replace h := of_decide_eq_false h) | with_reducible (replace h := bnt h) | with_reducible (replace h := bnf h) | with_reducible (replace h := Int.not_lt.mp h) | with_reducible (replace h := Int.not_le.mp h) | with_reducible (replace h := band_dec h) | with_reducible (replace h := band_decF h) | with_reducible (replace h := bor_dec h) | with_reducible (replace h := bor_decF h)))) <;> (try (exfalso; first | contradiction | omega))))
  rename_i gr gs
  refine T_mem (fun w hw => Mem.asOwn (enc := natEnc) (M := 1) [i] (by first | ((repeat (first | with_reducible exact Upd.here _ _ _ | with_reducible apply Upd.there)); done) | (repeat (first | exact Upd.here _ _ _ | apply Upd.there))) rfl (fun _ => rfl) (by simp [maxLen]) hw) ?_
  refine T_loop (X := RS)
    (fun x => [(8, .slice (some ⟨x.g, x.p, none⟩) x.n x.k), (7, .slice (some ⟨gs, 0, none⟩) n n), (3, .pointer (some ⟨gr, 0, none⟩)), (2, .int .i64 (j : Nat))])
    (fun x => [entOwn natEnc 1 3 (some ⟨x.g, 0, none⟩) x.c x.ls, entOwn boolEnc 1 4 (some ⟨gs, 0, none⟩) n x.seen, entBlk gr 37 (relCells n f)])
    (fun x => x.Ok n ∧ RInv n f i j none 0 x.seen (x.ls.drop x.o))
    (fun x => x.n + 2 * unseen x.seen) ⟨g, 0, 1, 0, 1, 1, [i], List.replicate n false⟩ ⟨⟨by simp, by simp, by simp, by simp, by simp [unseen, List.countP_replicate]; omega⟩, RInv.start hi⟩ (by (repeat (first | exact SubE.nil _ | refine SubE.cons rfl ?_))) (fun w hw => hw) ?_
  clear g
  rintro ⟨b, p, c, o, n1, k1, ls, seen⟩ ⟨⟨h1, h2, h3, h4, h5⟩, hI⟩
  dsimp only at h1 h2 h3 h4 h5 hI ⊢
  refine T_ownLe (by first | ((repeat (first | with_reducible exact List.mem_cons_self | with_reducible apply List.mem_cons_of_mem)); done) | (repeat (first | exact List.Mem.head _ | apply List.Mem.tail))) (fun hle => ?_)
  by_cases hz : o < ls.length
  · obtain rfl : p = o := h4 (by omega)
    have hdrop : ls.drop p = ls[p] :: ls.drop (p + 1) := List.drop_eq_getElem_cons hz
    rw [hdrop] at hI
    have hI := hI.pop
    have hk := (hI.part _ rfl).1
    have h6 : 1 ≤ n1 := by omega
    repeat' (first | first | with_reducible apply T_seq | with_reducible apply T_region | with_reducible apply TL_nil | with_reducible apply At_then | with_reducible apply T_block | with_reducible apply At_block | with_reducible apply T_skip | with_reducible apply T_exit | with_reducible apply At_then_exit | with_reducible apply At_block_exit | ((with_reducible apply At_block_past); exact rfl) | with_reducible apply T_ret | with_reducible apply At_then_ret | with_reducible apply At_block_ret | with_reducible apply TD_nil | with_reducible apply TD_fork | ((with_reducible apply TL_q); exact QS.auto; exact rfl) | ((with_reducible apply TL_e); exact ES.auto; exact rfl; (first | (rintro _ _ ⟨rfl, rfl⟩) | (rintro _ _ ⟨g, rfl, rfl⟩) | (rintro _ _ ⟨A', c', rfl, rfl⟩))) | (first | ((with_reducible apply TL_yes); exact rfl; exact rfl; (with_reducible exact rfl)) | ((with_reducible apply TL_no); exact rfl; exact rfl; (first | with_reducible exact Bool.not_true.symm | with_reducible exact Bool.not_false.symm); exact rfl) | ((with_reducible apply TL_no_undef); exact rfl; exact rfl; exact rfl) | (((with_reducible apply TL_guard); exact rfl; exact rfl; (fail_if_success (with_reducible refine imp_lit1 ?_)); (fail_if_success (with_reducible refine imp_lit0))) <;> intro h <;> (try (repeat (first | with_reducible (replace h := of_decide_eq_true h) | with_reducible (replace h := of_decide_eq_false h) | with_reducible (replace h := bnt h) | with_reducible (replace h := bnf h) | with_reducible (replace h := Int.not_lt.mp h) | with_reducible (replace h := Int.not_le.mp h) | with_reducible (replace h := band_dec h) | with_reducible (replace h := band_decF h) | with_reducible (replace h := bor_dec h) | with_reducible (replace h := bor_decF h)))) <;> (try (exfalso; first | contradiction | omega))) | (((with_reducible apply TD_guard); exact rfl; exact rfl; (fail_if_success (with_reducible refine imp_lit1 ?_)); (fail_if_success (with_reducible refine imp_lit0))) <;> intro h <;> (try (repeat (first | with_reducible (replace h := of_decide_eq_true h) | with_reducible (replace h := of_decide_eq_false h) | with_reducible (replace h := bnt h) | with_reducible (replace h := bnf h) | with_reducible (replace h := Int.not_lt.mp h) | with_reducible (replace h := Int.not_le.mp h) | with_reducible (replace h := band_dec h) | with_reducible (replace h := band_decF h) | with_reducible (replace h := bor_dec h) | with_reducible (replace h := bor_decF h)))) <;> (try (exfalso; first | contradiction | omega)))) | (((with_reducible apply T_cond); exact rfl) <;> intro h <;> (try (repeat (first | with_reducible (replace h := of_decide_eq_true h) | with_reducible (replace h := of_decide_eq_false h) | with_reducible (replace h := bnt h) | with_reducible (replace h := bnf h) | with_reducible (replace h := Int.not_lt.mp h) | with_reducible (replace h := Int.not_le.mp h) | with_reducible (replace h := band_dec h) | with_reducible (replace h := band_decF h) | with_reducible (replace h := bor_dec h) | with_reducible (replace h := bor_decF h)))) <;> (try (exfalso; first | contradiction | omega))))
    refine T_loop (X := RS × Nat)
      (fun x => [(26, .int .i64 (x.2 : Nat)), (25, .int .i64 (n : Nat)), (9, .int .i64 (ls[p] : Nat)), (8, .slice (some ⟨x.1.g, x.1.p, none⟩) x.1.n x.1.k), (7, .slice (some ⟨gs, 0, none⟩) n n), (3, .pointer (some ⟨gr, 0, none⟩)), (2, .int .i64 (j : Nat))])
      (fun x => [entOwn natEnc 1 3 (some ⟨x.1.g, 0, none⟩) x.1.c x.1.ls, entOwn boolEnc 1 4 (some ⟨gs, 0, none⟩) n x.1.seen, entBlk gr 37 (relCells n f)])
      (fun x => x.1.Ok n ∧ RInv n f i j (some ls[p]) x.2 x.1.seen (x.1.ls.drop x.1.o) ∧ x.2 ≤ n ∧ x.1.n + 2 * unseen x.1.seen < n1 + 2 * unseen seen)
      (fun x => n - x.2) (⟨b, if k1 = 1 then p else p + 1 * 1, c, p + 1, n1 - 1, k1 - 1, ls, seen⟩, 0) ⟨⟨by simp; omega, by simp; omega, by simp; omega, ?_, by simp; omega⟩, hI, by omega, by simp; omega⟩ (by (repeat (first | exact SubE.nil _ | refine SubE.cons rfl ?_))) (fun w hw => hw) ?_
    · intro h
      dsimp only at h ⊢
      rw [if_neg (by omega)]
    clear hI hdrop
    rintro ⟨⟨b2, p2, c2, o2, n2, k2, ls2, seen2⟩, q⟩ ⟨⟨e1, e2, e3, e4, e5⟩, hI, hq, hm⟩
    dsimp only at e1 e2 e3 e4 e5 hI hq hm ⊢
    by_cases hqn : q < n
    · have hlen := hI.len
      have hs : seen2[q]? = some seen2[q] := by simp [hlen, hqn]
      repeat' (first
        | first | with_reducible apply T_seq | with_reducible apply T_region | with_reducible apply TL_nil | with_reducible apply At_then | with_reducible apply T_block | with_reducible apply At_block | with_reducible apply T_skip | with_reducible apply T_exit | with_reducible apply At_then_exit | with_reducible apply At_block_exit | ((with_reducible apply At_block_past); exact rfl) | with_reducible apply T_ret | with_reducible apply At_then_ret | with_reducible apply At_block_ret | with_reducible apply TD_nil | with_reducible apply TD_fork | ((with_reducible apply TL_q); exact QS.auto; exact rfl) | ((with_reducible apply TL_e); exact ES.auto; exact rfl; (first | (rintro _ _ ⟨rfl, rfl⟩) | (rintro _ _ ⟨g, rfl, rfl⟩) | (rintro _ _ ⟨A', c', rfl, rfl⟩))) | (first | ((with_reducible apply TL_yes); exact rfl; exact rfl; (with_reducible exact rfl)) | ((with_reducible apply TL_no); exact rfl; exact rfl; (first | with_reducible exact Bool.not_true.symm | with_reducible exact Bool.not_false.symm); exact rfl) | ((with_reducible apply TL_no_undef); exact rfl; exact rfl; exact rfl) | (((with_reducible apply TL_guard); exact rfl; exact rfl; (fail_if_success (with_reducible refine imp_lit1 ?_)); (fail_if_success (with_reducible refine imp_lit0))) <;> intro h <;> (try (repeat (first | with_reducible (replace h := of_decide_eq_true h) | with_reducible (replace h := of_decide_eq_false h) | with_reducible (replace h := bnt h) | with_reducible (replace h := bnf h) | with_reducible (replace h := Int.not_lt.mp h) | with_reducible (replace h := Int.not_le.mp h) | with_reducible (replace h := band_dec h) | with_reducible (replace h := band_decF h) | with_reducible (replace h := bor_dec h) | with_reducible (replace h := bor_decF h)))) <;> (try (exfalso; first | contradiction | omega))) | (((with_reducible apply TD_guard); exact rfl; exact rfl; (fail_if_success (with_reducible refine imp_lit1 ?_)); (fail_if_success (with_reducible refine imp_lit0))) <;> intro h <;> (try (repeat (first | with_reducible (replace h := of_decide_eq_true h) | with_reducible (replace h := of_decide_eq_false h) | with_reducible (replace h := bnt h) | with_reducible (replace h := bnf h) | with_reducible (replace h := Int.not_lt.mp h) | with_reducible (replace h := Int.not_le.mp h) | with_reducible (replace h := band_dec h) | with_reducible (replace h := band_decF h) | with_reducible (replace h := bor_dec h) | with_reducible (replace h := bor_decF h)))) <;> (try (exfalso; first | contradiction | omega)))) | (((with_reducible apply T_cond); exact rfl) <;> intro h <;> (try (repeat (first | with_reducible (replace h := of_decide_eq_true h) | with_reducible (replace h := of_decide_eq_false h) | with_reducible (replace h := bnt h) | with_reducible (replace h := bnf h) | with_reducible (replace h := Int.not_lt.mp h) | with_reducible (replace h := Int.not_le.mp h) | with_reducible (replace h := band_dec h) | with_reducible (replace h := band_decF h) | with_reducible (replace h := bor_dec h) | with_reducible (replace h := bor_decF h)))) <;> (try (exfalso; first | contradiction | omega))) | first | ((with_reducible apply TL_e); ((with_reducible apply ES_callV); exact rfl; (intro w hw; exact ahead_any n f ls[p] q w (by omega) (by omega)); exact rfl); exact rfl; (rintro _ _ ⟨rfl, rfl⟩)) | ((with_reducible apply TD_e2); ((with_reducible apply ES_callV); exact rfl; (intro w hw; exact ahead_any n f ls[p] q w (by omega) (by omega)); exact rfl); exact rfl; (rintro _ _ ⟨rfl, rfl⟩); refine ⟨by (repeat (first | with_reducible exact List.nil_sublist _ | with_reducible exact List.Sublist.refl _ | with_reducible apply List.Sublist.cons_cons | with_reducible apply List.Sublist.cons)), ?_⟩) | ((with_reducible apply TD_e3); ((with_reducible apply ES_callV); exact rfl; (intro w hw; exact ahead_any n f ls[p] q w (by omega) (by omega)); exact rfl); exact rfl; (rintro _ _ ⟨rfl, rfl⟩)) | ((with_reducible apply TD_e2y); exact rfl; exact rfl; (with_reducible exact rfl); ((with_reducible apply ES_callV); exact rfl; (intro w hw; exact ahead_any n f ls[p] q w (by omega) (by omega)); exact rfl); (rintro _ _ ⟨rfl, rfl⟩); refine ⟨by (repeat (first | with_reducible exact List.nil_sublist _ | with_reducible exact List.Sublist.refl _ | with_reducible apply List.Sublist.cons_cons | with_reducible apply List.Sublist.cons)), ?_⟩) | ((with_reducible apply TD_e3y); exact rfl; exact rfl; (with_reducible exact rfl); ((with_reducible apply ES_callV); exact rfl; (intro w hw; exact ahead_any n f ls[p] q w (by omega) (by omega)); exact rfl); (rintro _ _ ⟨rfl, rfl⟩))
        | ((with_reducible apply TL_e); exact ES_appendOff (enc := natEnc) (xs := [q]) (o := o2) rfl rfl e1 e2 e3 (by simpa using e4) (Lies.blk (by first | ((repeat (first | with_reducible exact List.mem_cons_self | with_reducible apply List.mem_cons_of_mem)); done) | (repeat (first | exact List.Mem.head _ | apply List.Mem.tail)))) (by simp) (fun _ => rfl) (fun _ => rfl) (by intro g' c' ls'; first | ((repeat (first | with_reducible exact Upd.here _ _ _ | with_reducible apply Upd.there)); done) | (repeat (first | exact Upd.here _ _ _ | apply Upd.there))) (by simp; omega) (by decide) rfl; exact rfl; rintro _ _ ⟨g', p', c', o', ls', q1, q2, q3, q4, rfl, rfl⟩)
        | fail)
      · have hb : (f ls[p]).testBit q = true := by assumption
        have hqj : q = j := by omega
        subst hqj
        (refine At_ret Try.results77 rfl (fun w' hw => ?_))
        refine ⟨?_, hw.below0 rfl⟩
        simp only [resVal]
        rw [(closedF_rch hf hi).2 (hI.found hb)]
      · have hb : (f ls[p]).testBit q = true := by assumption
        have hs0 : seen2[q] = false := by assumption
        have hu := unseen_set (show q < seen2.length by omega) hs0
        have hnew := hI.new hqn hb (by omega)
        rw [← q1] at hnew
        (refine At_rounds ((⟨g', p', c', o', n2 + 1, c' - o', ls', seen2.set q true⟩, q + 1)) ?_ ?_ ?_ ?_; (exact ⟨⟨by simp at q4 ⊢; omega, rfl, q2, by simpa using q3, by simp; omega⟩, hnew, by omega, by simp; omega⟩); ((simp; omega)); ((repeat (first | exact SubE.nil _ | refine SubE.cons rfl ?_))); ((intro w hw; exact hw.sub (by first | ((repeat (first | with_reducible exact List.nil_sublist _ | with_reducible exact List.Sublist.refl _ | with_reducible apply List.Sublist.cons_cons | with_reducible apply List.Sublist.cons)); done) | (repeat (first | exact List.nil_sublist _ | exact List.Sublist.refl _ | apply List.Sublist.cons_cons | apply List.Sublist.cons))))))
      · have hs0 : seen2[q] = true := by assumption
        rw [hs0] at hs
        (refine At_rounds ((⟨b2, p2, c2, o2, n2, k2, ls2, seen2⟩, q + 1)) ?_ ?_ ?_ ?_; (exact ⟨⟨e1, e2, e3, e4, e5⟩, hI.old (by omega) hs, by omega, hm⟩); ((simp; omega)); ((repeat (first | exact SubE.nil _ | refine SubE.cons rfl ?_))); ((intro w hw; exact hw.sub (by first | ((repeat (first | with_reducible exact List.nil_sublist _ | with_reducible exact List.Sublist.refl _ | with_reducible apply List.Sublist.cons_cons | with_reducible apply List.Sublist.cons)); done) | (repeat (first | exact List.nil_sublist _ | exact List.Sublist.refl _ | apply List.Sublist.cons_cons | apply List.Sublist.cons))))))
      · (refine At_rounds ((⟨b2, p2, c2, o2, n2, k2, ls2, seen2⟩, q + 1)) ?_ ?_ ?_ ?_; (exact ⟨⟨e1, e2, e3, e4, e5⟩, hI.no (by assumption), by omega, hm⟩); ((simp; omega)); ((repeat (first | exact SubE.nil _ | refine SubE.cons rfl ?_))); ((intro w hw; exact hw.sub (by first | ((repeat (first | with_reducible exact List.nil_sublist _ | with_reducible exact List.Sublist.refl _ | with_reducible apply List.Sublist.cons_cons | with_reducible apply List.Sublist.cons)); done) | (repeat (first | exact List.nil_sublist _ | exact List.Sublist.refl _ | apply List.Sublist.cons_cons | apply List.Sublist.cons))))))
    · obtain rfl : q = n := by omega
      repeat' (first | first | with_reducible apply T_seq | with_reducible apply T_region | with_reducible apply TL_nil | with_reducible apply At_then | with_reducible apply T_block | with_reducible apply At_block | with_reducible apply T_skip | with_reducible apply T_exit | with_reducible apply At_then_exit | with_reducible apply At_block_exit | ((with_reducible apply At_block_past); exact rfl) | with_reducible apply T_ret | with_reducible apply At_then_ret | with_reducible apply At_block_ret | with_reducible apply TD_nil | with_reducible apply TD_fork | ((with_reducible apply TL_q); exact QS.auto; exact rfl) | ((with_reducible apply TL_e); exact ES.auto; exact rfl; (first | (rintro _ _ ⟨rfl, rfl⟩) | (rintro _ _ ⟨g, rfl, rfl⟩) | (rintro _ _ ⟨A', c', rfl, rfl⟩))) | (first | ((with_reducible apply TL_yes); exact rfl; exact rfl; (with_reducible exact rfl)) | ((with_reducible apply TL_no); exact rfl; exact rfl; (first | with_reducible exact Bool.not_true.symm | with_reducible exact Bool.not_false.symm); exact rfl) | ((with_reducible apply TL_no_undef); exact rfl; exact rfl; exact rfl) | (((with_reducible apply TL_guard); exact rfl; exact rfl; (fail_if_success (with_reducible refine imp_lit1 ?_)); (fail_if_success (with_reducible refine imp_lit0))) <;> intro h <;> (try (repeat (first | with_reducible (replace h := of_decide_eq_true h) | with_reducible (replace h := of_decide_eq_false h) | with_reducible (replace h := bnt h) | with_reducible (replace h := bnf h) | with_reducible (replace h := Int.not_lt.mp h) | with_reducible (replace h := Int.not_le.mp h) | with_reducible (replace h := band_dec h) | with_reducible (replace h := band_decF h) | with_reducible (replace h := bor_dec h) | with_reducible (replace h := bor_decF h)))) <;> (try (exfalso; first | contradiction | omega))) | (((with_reducible apply TD_guard); exact rfl; exact rfl; (fail_if_success (with_reducible refine imp_lit1 ?_)); (fail_if_success (with_reducible refine imp_lit0))) <;> intro h <;> (try (repeat (first | with_reducible (replace h := of_decide_eq_true h) | with_reducible (replace h := of_decide_eq_false h) | with_reducible (replace h := bnt h) | with_reducible (replace h := bnf h) | with_reducible (replace h := Int.not_lt.mp h) | with_reducible (replace h := Int.not_le.mp h) | with_reducible (replace h := band_dec h) | with_reducible (replace h := band_decF h) | with_reducible (replace h := bor_dec h) | with_reducible (replace h := bor_decF h)))) <;> (try (exfalso; first | contradiction | omega)))) | (((with_reducible apply T_cond); exact rfl) <;> intro h <;> (try (repeat (first | with_reducible (replace h := of_decide_eq_true h) | with_reducible (replace h := of_decide_eq_false h) | with_reducible (replace h := bnt h) | with_reducible (replace h := bnf h) | with_reducible (replace h := Int.not_lt.mp h) | with_reducible (replace h := Int.not_le.mp h) | with_reducible (replace h := band_dec h) | with_reducible (replace h := band_decF h) | with_reducible (replace h := bor_dec h) | with_reducible (replace h := bor_decF h)))) <;> (try (exfalso; first | contradiction | omega))))
      (refine At_rounds ((⟨b2, p2, c2, o2, n2, k2, ls2, seen2⟩)) ?_ ?_ ?_ ?_; (exact ⟨⟨e1, e2, e3, e4, e5⟩, hI.done hf⟩); ((simp; omega)); ((repeat (first | exact SubE.nil _ | refine SubE.cons rfl ?_))); ((intro w hw; exact hw.sub (by first | ((repeat (first | with_reducible exact List.nil_sublist _ | with_reducible exact List.Sublist.refl _ | with_reducible apply List.Sublist.cons_cons | with_reducible apply List.Sublist.cons)); done) | (repeat (first | exact List.nil_sublist _ | exact List.Sublist.refl _ | apply List.Sublist.cons_cons | apply List.Sublist.cons))))))
  · repeat' (first | first | with_reducible apply T_seq | with_reducible apply T_region | with_reducible apply TL_nil | with_reducible apply At_then | with_reducible apply T_block | with_reducible apply At_block | with_reducible apply T_skip | with_reducible apply T_exit | with_reducible apply At_then_exit | with_reducible apply At_block_exit | ((with_reducible apply At_block_past); exact rfl) | with_reducible apply T_ret | with_reducible apply At_then_ret | with_reducible apply At_block_ret | with_reducible apply TD_nil | with_reducible apply TD_fork | ((with_reducible apply TL_q); exact QS.auto; exact rfl) | ((with_reducible apply TL_e); exact ES.auto; exact rfl; (first | (rintro _ _ ⟨rfl, rfl⟩) | (rintro _ _ ⟨g, rfl, rfl⟩) | (rintro _ _ ⟨A', c', rfl, rfl⟩))) | (first | ((with_reducible apply TL_yes); exact rfl; exact rfl; (with_reducible exact rfl)) | ((with_reducible apply TL_no); exact rfl; exact rfl; (first | with_reducible exact Bool.not_true.symm | with_reducible exact Bool.not_false.symm); exact rfl) | ((with_reducible apply TL_no_undef); exact rfl; exact rfl; exact rfl) | (((with_reducible apply TL_guard); exact rfl; exact rfl; (fail_if_success (with_reducible refine imp_lit1 ?_)); (fail_if_success (with_reducible refine imp_lit0))) <;> intro h <;> (try (repeat (first | with_reducible (replace h := of_decide_eq_true h) | with_reducible (replace h := of_decide_eq_false h) | with_reducible (replace h := bnt h) | with_reducible (replace h := bnf h) | with_reducible (replace h := Int.not_lt.mp h) | with_reducible (replace h := Int.not_le.mp h) | with_reducible (replace h := band_dec h) | with_reducible (replace h := band_decF h) | with_reducible (replace h := bor_dec h) | with_reducible (replace h := bor_decF h)))) <;> (try (exfalso; first | contradiction | omega))) | (((with_reducible apply TD_guard); exact rfl; exact rfl; (fail_if_success (with_reducible refine imp_lit1 ?_)); (fail_if_success (with_reducible refine imp_lit0))) <;> intro h <;> (try (repeat (first | with_reducible (replace h := of_decide_eq_true h) | with_reducible (replace h := of_decide_eq_false h) | with_reducible (replace h := bnt h) | with_reducible (replace h := bnf h) | with_reducible (replace h := Int.not_lt.mp h) | with_reducible (replace h := Int.not_le.mp h) | with_reducible (replace h := band_dec h) | with_reducible (replace h := band_decF h) | with_reducible (replace h := bor_dec h) | with_reducible (replace h := bor_decF h)))) <;> (try (exfalso; first | contradiction | omega)))) | (((with_reducible apply T_cond); exact rfl) <;> intro h <;> (try (repeat (first | with_reducible (replace h := of_decide_eq_true h) | with_reducible (replace h := of_decide_eq_false h) | with_reducible (replace h := bnt h) | with_reducible (replace h := bnf h) | with_reducible (replace h := Int.not_lt.mp h) | with_reducible (replace h := Int.not_le.mp h) | with_reducible (replace h := band_dec h) | with_reducible (replace h := band_decF h) | with_reducible (replace h := bor_dec h) | with_reducible (replace h := bor_decF h)))) <;> (try (exfalso; first | contradiction | omega))))
    (refine At_ret Try.results77 rfl (fun w' hw => ?_))
    refine ⟨?_, hw.below0 rfl⟩
    have hnil : ls.drop o = [] := List.drop_eq_nil_of_le (by omega)
    rw [hnil] at hI
    have := hI.end_
    rw [← closedF_rch hf hi] at this
    simp only [resVal]
    rw [Bool.eq_false_iff.2 this]
end Go.Proofs.Ytkhdihieepfcpaa
