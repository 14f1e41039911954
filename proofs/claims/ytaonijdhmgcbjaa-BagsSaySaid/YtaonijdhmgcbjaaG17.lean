/- Lemmas for the walks (Row, Sea3). No condition. -/
import Derived.Test.YtaonijdhmgcbjaaG16
import Derived.Test.YtaonijdhmgcbjaaG08
import Derived.Test.YtaonijdhmgcbjaaG07
set_option linter.unusedSimpArgs false
set_option linter.unusedVariables false
set_option linter.unusedSectionVars false
set_option linter.unnecessarySimpa false
namespace Go.Proofs.Ytaonijdhmgcbjaa
open Go.RowKit

theorem TL_fact {P : Program} {C : Ctx} {Q : Exit → Act → World → Prop} {E : Slots} {S : List Ent} {l rest : List Oper} {p : Prop} (hS : ∀ w, Mem C w S → p) (h : p → TL P C l Q rest E S) : TL P C l Q rest E S :=
  ⟨fun a w ha hw => (h (hS w hw)).run a w ha hw⟩
def hd0 : Hd := ⟨none, 0, 0⟩
theorem All2.set {α β : Type} {R : α → β → Prop} {a : α} {b : β} (h : R a b) : ∀ {l : List α} {m : List β} (j : Nat), All2 R l m → All2 R (l.set j a) (m.set j b)
  | _, _, _, .nil => by simpa using All2.nil
  | _, _, 0, .cons _ t => .cons h t
  | _, _, j + 1, .cons h' t => .cons h' (All2.set h j t)
theorem pairwise_set {α : Type} {R : α → α → Prop} {a : α} : ∀ {l : List α} (j : Nat), l.Pairwise R → (∀ x ∈ l, R a x) → (∀ x ∈ l, R x a) → (l.set j a).Pairwise R
  | [], _, _, _, _ => by simp
  | x :: l, 0, h, h1, _ => by
    rw [List.set_cons_zero, List.pairwise_cons]
    exact ⟨fun y hy => h1 y (by simp [hy]), (List.pairwise_cons.1 h).2⟩
  | x :: l, j + 1, h, h1, h2 => by
    rw [List.set_cons_succ, List.pairwise_cons]
    obtain ⟨q1, q2⟩ := List.pairwise_cons.1 h
    refine ⟨fun y hy => ?_, pairwise_set j q2 (fun y hy => h1 y (by simp [hy])) (fun y hy => h2 y (by simp [hy]))⟩
    rcases List.mem_or_eq_of_mem_set hy with hy | rfl
    · exact q1 y hy
    · exact h2 x (by simp)
section
variable {C : Ctx} {w : World} {S S1 S' : List Ent} {α : Type} {enc : α → List Value} {M e : Nat} {hs : List Hd} {rows : List (List α)} {l : List α} {A : Option Addr} {c j : Nat}
theorem hd0_blk : hd0.v.ownBlock = none := rfl
theorem set_has {k : Nat} {h : Hd} (hm : ∃ g ∈ hs.set j h, g.v.ownBlock = some k) : h.v.ownBlock = some k ∨ ∃ i, i ≠ j ∧ ∃ hi : i < hs.length, hs[i].v.ownBlock = some k := by
  obtain ⟨g, hg, hk⟩ := hm
  obtain ⟨i, hi, rfl⟩ := List.mem_iff_getElem.1 hg
  rw [List.length_set] at hi
  by_cases e : i = j
  · subst e
    rw [List.getElem_set_self] at hk; exact .inl hk
  · rw [List.getElem_set_ne (fun e' => e e'.symm)] at hk
    exact .inr ⟨i, e, hi, hk⟩
/-- a row is taken out -/
theorem Mem.takeRow (hj : j < hs.length) (hj' : j < rows.length) (hu : Upd S (entInner enc M e hs rows) (entInner enc M e (hs.set j hd0) (rows.set j [])) S') (hw : Mem C w S) : Mem C w (entOwn enc M e hs[j].a hs[j].c rows[j] :: S') := by
  obtain ⟨X, Y, rfl, rfl⟩ := hu.form
  have hap := hw.apart
  rw [List.pairwise_append, List.pairwise_cons] at hap
  obtain ⟨hX, ⟨hY1, hY⟩, hXY⟩ := hap
  have hin := hw.holds (entInner enc M e hs rows) (by simp)
  have hrow := forall2_at hin.1.1 j hj hj'
  have hv : hs[j].v = .slice hs[j].a rows[j].length hs[j].c := by rw [← hrow.1]; rfl
  have hsub : ∀ k, (entInner enc M e (hs.set j hd0) (rows.set j [])).has k → (entInner enc M e hs rows).has k ∧ hs[j].v.ownBlock ≠ some k := by
    intro k hk
    rcases set_has hk with h | ⟨i, hi, hil, h⟩
    · rw [hd0_blk] at h; cases h
    · refine ⟨⟨_, List.getElem_mem hil, h⟩, fun hk' => ?_⟩
      have hp := List.pairwise_iff_getElem.1 hin.1.2
      rcases Nat.lt_or_gt_of_ne hi with hlt | hlt
      · exact hp i j hil hj hlt k h hk'
      · exact hp j i hj hil hlt k hk' h
  have hown : ∀ k, (entOwn enc M e hs[j].a hs[j].c rows[j]).has k → (entInner enc M e hs rows).has k := by
    intro k hk
    refine ⟨hs[j], List.getElem_mem hj, ?_⟩
    rw [hv]; exact hk
  have hnew : Inner enc M e w (hs.set j hd0) (rows.set j []) := by
    refine ⟨All2.set ⟨rfl, Own.nil w 0⟩ j hin.1.1, pairwise_set j hin.1.2 (fun x _ k hk => ?_) (fun x _ k _ => ?_)⟩
    · rw [hd0_blk] at hk; cases hk
    · rw [hd0_blk]; simp
  refine ⟨hw.keeps, fun f hf => ?_, ?_⟩
  · rcases List.mem_cons.1 hf with rfl | hf
    · refine ⟨?_, fun k hk => hin.2 k (hown k hk)⟩
      show Own enc M e w 0 (.slice hs[j].a rows[j].length hs[j].c) rows[j]
      rw [← hv]; exact hrow.2
    · rcases List.mem_append.1 hf with hf | hf
      · exact hw.holds f (by simp [hf])
      · rcases List.mem_cons.1 hf with rfl | hf
        · exact ⟨hnew, fun k hk => hin.2 k (hsub k hk).1⟩
        · exact hw.holds f (by simp [hf])
  · refine List.pairwise_cons.2 ⟨fun f hf k hk => ?_, ?_⟩
    · rcases List.mem_append.1 hf with hf | hf
      · exact fun hk' => hXY f hf (entInner enc M e hs rows) List.mem_cons_self k hk' (hown k hk)
      · rcases List.mem_cons.1 hf with rfl | hf
        · intro hk'
          refine (hsub k hk').2 ?_
          rw [hv]; exact hk
        · exact hY1 f hf k (hown k hk)
    · rw [List.pairwise_append, List.pairwise_cons]
      refine ⟨hX, ⟨fun f hf k hk => hY1 f hf k (hsub k hk).1, hY⟩, fun f hf g hg k hk => ?_⟩
      rcases List.mem_cons.1 hg with rfl | hg
      · exact fun hk' => hXY f hf (entInner enc M e hs rows) List.mem_cons_self k hk (hsub k hk').1
      · exact hXY f hf g (by simp [hg]) k hk
/-- a row is put in the place of another one -/
theorem Mem.putRow (hp : Pick S (entOwn enc M e A c l) S1) (hu : Upd S1 (entInner enc M e hs rows) (entInner enc M e (hs.set j ⟨A, l.length, c⟩) (rows.set j l)) S') (hw : Mem C w S) : Mem C w S' := by
  have h1 := hw.pick hp
  obtain ⟨X, Y, rfl, rfl⟩ := hu.form
  have hap := List.pairwise_cons.1 h1.apart
  have hap2 := hap.2
  rw [List.pairwise_append, List.pairwise_cons] at hap2
  obtain ⟨hX, ⟨hY1, hY⟩, hXY⟩ := hap2
  have ho := h1.holds _ List.mem_cons_self
  have hin := h1.holds (entInner enc M e hs rows) (by simp)
  have hfar : ∀ k, (∃ h ∈ hs, h.v.ownBlock = some k) → (Value.slice A l.length c).ownBlock ≠ some k := fun k hk hk' => hap.1 (entInner enc M e hs rows) (by simp) k hk' hk
  have hhas : ∀ k, (entInner enc M e (hs.set j ⟨A, l.length, c⟩) (rows.set j l)).has k → (entInner enc M e hs rows).has k ∨ (entOwn enc M e A c l).has k := by
    intro k hk
    rcases set_has hk with h | ⟨i, _, hil, h⟩
    · exact .inr h
    · exact .inl ⟨_, List.getElem_mem hil, h⟩
  have hnew : Inner enc M e w (hs.set j ⟨A, l.length, c⟩) (rows.set j l) := by
    refine ⟨All2.set ⟨rfl, ho.1⟩ j hin.1.1, pairwise_set j hin.1.2 (fun x hx k hk hk' => hfar k ⟨x, hx, hk'⟩ hk) (fun x hx k hk => hfar k ⟨x, hx, hk⟩)⟩
  refine ⟨h1.keeps, fun f hf => ?_, ?_⟩
  · rcases List.mem_append.1 hf with hf | hf
    · exact h1.holds f (by simp [hf])
    · rcases List.mem_cons.1 hf with rfl | hf
      · refine ⟨hnew, fun k hk => ?_⟩
        rcases hhas k hk with h | h
        · exact hin.2 k h
        · exact ho.2 k h
      · exact h1.holds f (by simp [hf])
  · rw [List.pairwise_append, List.pairwise_cons]
    refine ⟨hX, ⟨fun f hf k hk => ?_, hY⟩, fun f hf g hg k hk => ?_⟩
    · rcases hhas k hk with h | h
      · exact hY1 f hf k h
      · exact hap.1 f (by simp [hf]) k h
    · rcases List.mem_cons.1 hg with rfl | hg
      · intro hk'
        rcases hhas k hk' with h | h
        · exact hXY f hf _ List.mem_cons_self k hk h
        · exact hap.1 f (by simp [hf]) k h hk
      · exact hXY f hf g (by simp [hg]) k hk
theorem Mem.newBlkF {b : Nat} {R : List Ent} (hw : Mem C w (S1 ++ R)) (hF : b ∉ C.F) (hb : b < C.w0.heap.size) : b ∉ blks S1 := fun hm => by
  obtain ⟨e, he, hg⟩ := mem_blks.1 hm
  rcases ((hw.holds e (by simp [he])).2 b hg).2 with h | h
  · exact hF h
  · omega
theorem Mem.rdAwayF {A : Option Addr} {ls : List α} (hw : Mem C w S) (h : RdE enc M C.w0 A ls) (hF : ∀ b o, A = some ⟨b, o, Option.none⟩ → b ∉ C.F) : RdE enc M w A ls := by
  intro j x hj
  obtain ⟨b, o, h1, h2, h3⟩ := h j x hj
  exact ⟨b, o, h1, Nat.lt_of_lt_of_le h2 hw.keeps.size, fun k v hk => hw.old h2 (hF b o h1) (h3 k v hk)⟩
/-- the last item is left off -/
theorem Mem.ownLast {g et : Nat} {ls : List α} {x : α} (hu : Upd S (entOwn enc M et (some ⟨g, 0, Option.none⟩) c (ls ++ [x])) (entOwn enc M et (some ⟨g, 0, Option.none⟩) c ls) S') (hM : ∀ x, (enc x).length = M) (hw : Mem C w S) : Mem C w S' := by
  have ho := hw.holds _ hu.mem
  have h : Own enc M et w 0 (.slice (some ⟨g, 0, Option.none⟩) (ls ++ [x]).length c) (ls ++ [x]) := ho.1
  refine hw.upd hu (Keeps.refl [] w) (by simp) (fun k hk => ?_) ?_
  · have : some g = some k := hk
    cases this
    exact ⟨(ho.2 g rfl).1, .inl rfl⟩
  · obtain ⟨g', cap, cur, hv, hbb, hg, hnc, hcm, hcs, htake⟩ := h.2.resolve_left (by simp)
    simp only [Value.slice.injEq, Option.some.injEq, Addr.mk.injEq, and_true, true_and] at hv
    obtain ⟨rfl, rfl⟩ := hv
    rw [List.length_append, List.length_singleton] at hnc
    refine ⟨flat_len hM _, .inr ⟨g, c, cur, rfl, hbb, hg, by omega, hcm, hcs, ?_⟩⟩
    have e1 : (ls ++ [x]).flatMap enc = ls.flatMap enc ++ enc x := by rw [List.flatMap_append]; simp
    rw [e1, List.length_append, List.length_singleton] at htake
    have h2 := congrArg (List.take (ls.length * M)) htake
    rw [List.take_take, List.take_append_of_le_length (by rw [flat_len hM]; omega)] at h2
    rw [List.take_of_length_le (l := ls.flatMap enc) (by rw [flat_len hM]; omega)] at h2
    rw [← h2, Nat.min_eq_left]
    rw [Nat.add_mul]; omega
end
end Go.Proofs.Ytaonijdhmgcbjaa

namespace Go.Proofs.Ytaonijdhmgcbjaa
open Go.RowKit

instance : MapStr Try.prog 176 9 4 := ⟨Try.underlying176, Try.underlying9⟩
theorem bitZ (m i : Nat) : ((((m >>> i) &&& 1 : Nat) : Int) = 0) ↔ m.testBit i = false := by
  rw [Int.natCast_eq_zero, ← Nat.and_comm]; simp [Nat.testBit]
theorem bitO (m i : Nat) : ((((m >>> i) &&& 1 : Nat) : Int) = 1) ↔ m.testBit i = true := by
  have h : (m >>> i) &&& 1 < 2 := Nat.lt_of_le_of_lt Nat.and_le_right (by decide)
  have hz := bitZ m i
  constructor
  · intro e
    cases hb : m.testBit i with
    | true => rfl
    | false => rw [hz.2 hb] at e; cases e
  · intro hb
    have : ¬ ((((m >>> i) &&& 1 : Nat) : Int) = 0) := fun e => by rw [hz.1 e] at hb; cases hb
    omega
section
variable {P : Program} {C : Ctx} {E : Slots} {S : List Ent} {ty ty2 ty3 : Nat} {x y : Operand}
theorem QS_toByte {s t : Nat} {k0 k1 : IntKind} {n : Int} [IntOf P s k0] [IntOf P t .u8] (hx : evo E x = some (.int k1 n)) : QS P C E S (.convert s t x) ty (.int .u8 ((byteL n : Nat) : Int)) := by
  have h := QS_convertW (P := P) (C := C) (S := S) (s := s) (t := t) (k := .u8) (ty := ty) hx
  have e : IntKind.u8.wrap n = ((byteL n : Nat) : Int) := by
    rw [IntKind.wrap_u8]; unfold byteL; omega
  rwa [e] at h
theorem QS_shr8I {k : IntKind} {n : Int} (hx : evo E x = some (.int .i64 n)) (hy : evo E y = some (.int k 8)) (h : 0 ≤ n ∧ n ≤ 1000) : QS P C E S (.binOp .shr ty2 x y ty3) ty (.int .i64 (n / 256)) := by
  have e1 : n = ((n.toNat : Nat) : Int) := by omega
  have e2 : ((n.toNat >>> 8 : Nat) : Int) = n / 256 := by rw [Nat.shiftRight_eq_div_pow]; omega
  have h := QS_shr64 (P := P) (C := C) (S := S) (ty := ty) (ty2 := ty2) (ty3 := ty3) (a := n.toNat) (b := 8) (by rw [hx, ← e1]) hy (by omega)
  rwa [e2] at h
theorem QS_bytesStr {s t e g c : Nat} {l : List Nat} [hs : SliceOf P s e 1] [he : IntOf P e .u8] (ht : P.underlying t = some .string) (hx : evo E x = some (.slice (some ⟨g, 0, none⟩) l.length c))
    (hm : entOwn byEnc 1 e (some ⟨g, 0, none⟩) c l ∈ S) : QS P C E S (.convert s t x) ty (.string (bytesOf l)) :=
  QS.of (fun a w ha hw => by
    have ho : Own byEnc 1 e w 0 (.slice (some ⟨g, 0, none⟩) l.length c) l := (hw.holds _ hm).1
    have hl : (loadCells ⟨g, 0, none⟩ l.length).run P w = .ok ((l.map fun n : Nat => (n : Int)).map (Value.int .u8)).toArray w := by
      have h1 := run_loadCells_list (P := P) (w := w) ⟨g, 0, none⟩ (l.map fun n : Nat => Value.int .u8 (n : Int)) (fun j v hv => by
        rw [List.getElem?_map] at hv
        obtain ⟨n, hn, rfl⟩ := Option.map_eq_some_iff.1 hv
        obtain ⟨hj, rfl⟩ := List.getElem?_eq_some_iff.1 hn
        have := ho.cellAt (j := j) (off := 0) (v := .int .u8 (l[j] : Nat)) (fun _ => rfl) hj rfl
        rw [add_mk]; simpa using this)
      rw [List.length_map] at h1
      rw [List.map_map]
      exact h1
    have hr := run_bytesToString (P := P) w ⟨g, 0, none⟩ l.length c (l.map fun n : Nat => (n : Int)) hl
    have hc := run_convert_bytes_string (P := P) w s t e (some ⟨g, 0, none⟩) l.length c hs.und he.und ht
    rw [hr] at hc
    have e1 : (l.map fun n : Nat => (n : Int)).foldl (fun r n => r.push (UInt8.ofNat n.toNat)) ByteArray.empty = bytesOf l := by
      rw [List.foldl_map]; rfl
    rw [e1] at hc
    simp [execOp, ha.evo hx, hc])
end
/-! the finder -/
@[reducible] def finC (tv cv : Value) (n : Int) (f : Nat → Nat) (hv : Value) (m : Nat) (ov : Value) (gm : Nat) : Array Value :=
  #[tv, cv, .int .i64 n, .int .u16 (f 0), .int .u16 (f 1), .int .u16 (f 2), .int .u16 (f 3), .int .u16 (f 4), .int .u16 (f 5), .int .u16 (f 6), .int .u16 (f 7), .int .u16 (f 8), .int .u16 (f 9), .int .u16 (f 10), .int .u16 (f 11), hv, .int .u16 (m : Nat), ov, .map (some gm)]
theorem fin_after {tv cv hv ov : Value} {n : Int} {f : Nat → Nat} {m gm i : Nat} (h : i < 12) : nthV (finC tv cv n f hv m ov gm).toList (3 + i) = some (.int .u16 (f i)) := by
  have : i = 0 ∨ i = 1 ∨ i = 2 ∨ i = 3 ∨ i = 4 ∨ i = 5 ∨ i = 6 ∨ i = 7 ∨ i = 8 ∨ i = 9 ∨ i = 10 ∨ i = 11 := by omega
  rcases this with rfl | rfl | rfl | rfl | rfl | rfl | rfl | rfl | rfl | rfl | rfl | rfl <;> rfl
theorem callAt_eq {cs : List Cl} {i : Nat} (h : i < cs.length) : callAt cs i = cs[i] := by simp [callAt, List.getD_eq_getElem?_getD, h]
section
variable (B : Option Addr) (d : Nat) (cs : List Cl) (gf m : Nat) (w : World)
set_option maxRecDepth 100000 in
theorem complete_any (hlt : gf < w.heap.size) (h1 : w.cell? ⟨gf, 1, none⟩ = some (.slice B cs.length d)) (h16 : w.cell? ⟨gf, 16, none⟩ = some (.int .u16 (m : Nat))) (hB : RdCl w B cs) (hm : m < 65536) (hl : cs.length ≤ 16) :
    Calls Try.prog 115 #[.pointer (some ⟨gf, 0, none⟩)] w fun e w' => e = .returned (.bool (compM cs m)) ∧ Below w.heap.size w w' := by
  refine calls_T (S := []) [] Try.func115 rfl Try.ntmps115 (by simp) (Mem.nil _) ?_
  repeat' (first | ((first | with_reducible (first | apply TL_q | apply TD_q0 | apply TD_q1 | apply TD_q2 | apply TD_q3) | ((with_reducible (first | apply TD_q0y | apply TD_q1y)); exact rfl; exact rfl; (with_reducible exact rfl))); (first | ((with_reducible apply QS_load); exact rfl; exact Lds.rd1 (enc := hdEnc) hH (by simp) hkl hv) | ((with_reducible apply QS_toByte); exact rfl) | exact QS.auto | ((with_reducible apply QS_load); exact rfl; exact Lds.old hlt (by simp) (by assumption)) | ((with_reducible apply QS_toByte); exact rfl) | ((with_reducible apply QS_shr8I); exact rfl; exact rfl; assumption)); exact rfl) | (refine GO ?_) | (refine GOE ?_; (first | (rintro _ _ ⟨rfl, rfl⟩) | (rintro _ _ ⟨g, rfl, rfl⟩) | (rintro _ _ ⟨A', c', rfl, rfl⟩))) | ((refine GO2 ?_ ?_) <;> intro h <;> (try (repeat (first | with_reducible (replace h := of_decide_eq_true h) | with_reducible (replace h := of_decide_eq_false h) | with_reducible (replace h := bnt h) | with_reducible (replace h := bnf h) | with_reducible (replace h := Int.not_lt.mp h) | with_reducible (replace h := Int.not_le.mp h) | with_reducible (replace h := band_dec h) | with_reducible (replace h := band_decF h) | with_reducible (replace h := bor_dec h) | with_reducible (replace h := bor_decF h)))) <;> (try (exfalso; first | contradiction | omega))) | fail)
  refine T_loop (X := Nat) (fun k => [(10, .int .i64 (k : Nat)), (9, .int .i64 cs.length), (8, .slice B cs.length d), (0, .pointer (some ⟨gf, 0, none⟩))]) (fun _ => [])
    (fun k => k ≤ cs.length ∧ ∀ i, i < k → (callAt cs i).to ≠ -1 → m.testBit i = true) (fun k => cs.length - k) 0 ⟨by omega, fun i hi => by omega⟩ (by (repeat (first | exact SubE.nil _ | refine SubE.cons rfl ?_))) (by exact SUBS) ?_
  rintro k ⟨hk, hno⟩
  by_cases hkl : k < cs.length
  · obtain ⟨b, o, rfl, _⟩ := RdE.open hB (by omega)
    have hc := callAt_eq hkl
    have hz := bitZ m k
    repeat' (first | ((first | with_reducible (first | apply TL_q | apply TD_q0 | apply TD_q1 | apply TD_q2 | apply TD_q3) | ((with_reducible (first | apply TD_q0y | apply TD_q1y)); exact rfl; exact rfl; (with_reducible exact rfl))); (first | ((with_reducible apply QS_load); exact rfl; exact Lds.rd1 (enc := hdEnc) hH (by simp) hkl hv) | ((with_reducible apply QS_toByte); exact rfl) | exact QS.auto | ((with_reducible apply QS_load); exact rfl; exact Lds.old hlt (by simp) (by assumption)) | ((with_reducible apply QS_toByte); exact rfl) | ((with_reducible apply QS_shr8I); exact rfl; exact rfl; assumption)); exact rfl) | (refine GO ?_) | (refine GOE ?_; (first | (rintro _ _ ⟨rfl, rfl⟩) | (rintro _ _ ⟨g, rfl, rfl⟩) | (rintro _ _ ⟨A', c', rfl, rfl⟩))) | ((refine GO2 ?_ ?_) <;> intro h <;> (try (repeat (first | with_reducible (replace h := of_decide_eq_true h) | with_reducible (replace h := of_decide_eq_false h) | with_reducible (replace h := bnt h) | with_reducible (replace h := bnf h) | with_reducible (replace h := Int.not_lt.mp h) | with_reducible (replace h := Int.not_le.mp h) | with_reducible (replace h := band_dec h) | with_reducible (replace h := band_decF h) | with_reducible (replace h := bor_dec h) | with_reducible (replace h := bor_decF h)))) <;> (try (exfalso; first | contradiction | omega))) | fail)
    · (refine At_ret Try.results115 rfl (fun w' hw => ?_))
      have hb := hz.1 (by assumption)
      have : compM cs m = false := by
        rw [Bool.eq_false_iff]
        intro h
        have := compM_iff.1 h k hkl (by rw [hc]; assumption)
        rw [hb] at this; cases this
      exact ⟨by rw [this]; rfl, hw.below0 rfl⟩
    · refine At_rounds (k + 1) ⟨hkl, fun i hi ht => ?_⟩ (by omega) (by (repeat (first | exact SubE.nil _ | refine SubE.cons rfl ?_))) (by exact SUBS)
      by_cases e : i = k
      · subst e
        cases hb : m.testBit i with
        | true => rfl
        | false => exact absurd (hz.2 hb) (by assumption)
      · exact hno i (by omega) ht
    · refine At_rounds (k + 1) ⟨hkl, fun i hi ht => ?_⟩ (by omega) (by (repeat (first | exact SubE.nil _ | refine SubE.cons rfl ?_))) (by exact SUBS)
      by_cases e : i = k
      · subst e; exact absurd (by rw [hc]; assumption) ht
      · exact hno i (by omega) ht
  · obtain rfl : k = cs.length := by omega
    repeat' (first | ((first | with_reducible (first | apply TL_q | apply TD_q0 | apply TD_q1 | apply TD_q2 | apply TD_q3) | ((with_reducible (first | apply TD_q0y | apply TD_q1y)); exact rfl; exact rfl; (with_reducible exact rfl))); (first | ((with_reducible apply QS_load); exact rfl; exact Lds.rd1 (enc := hdEnc) hH (by simp) hkl hv) | ((with_reducible apply QS_toByte); exact rfl) | exact QS.auto | ((with_reducible apply QS_load); exact rfl; exact Lds.old hlt (by simp) (by assumption)) | ((with_reducible apply QS_toByte); exact rfl) | ((with_reducible apply QS_shr8I); exact rfl; exact rfl; assumption)); exact rfl) | (refine GO ?_) | (refine GOE ?_; (first | (rintro _ _ ⟨rfl, rfl⟩) | (rintro _ _ ⟨g, rfl, rfl⟩) | (rintro _ _ ⟨A', c', rfl, rfl⟩))) | ((refine GO2 ?_ ?_) <;> intro h <;> (try (repeat (first | with_reducible (replace h := of_decide_eq_true h) | with_reducible (replace h := of_decide_eq_false h) | with_reducible (replace h := bnt h) | with_reducible (replace h := bnf h) | with_reducible (replace h := Int.not_lt.mp h) | with_reducible (replace h := Int.not_le.mp h) | with_reducible (replace h := band_dec h) | with_reducible (replace h := band_decF h) | with_reducible (replace h := bor_dec h) | with_reducible (replace h := bor_decF h)))) <;> (try (exfalso; first | contradiction | omega))) | fail)
    (refine At_ret Try.results115 rfl (fun w' hw => ?_))
    exact ⟨by rw [compM_iff.2 hno]; rfl, hw.below0 rfl⟩
end
/-- what is told of a row so far -/
def keyP (m : Nat) (sts : List (List Int)) (k : Nat) : List Nat := keyL m (sts.take k)
def rowP (s : List Int) (q : Nat) : List Nat := byteL s.length :: (s.take q).flatMap fun n => [byteL n, byteL (n / 256)]
theorem rowP_succ {s : List Int} {q : Nat} (h : q < s.length) : rowP s q ++ [byteL s[q], byteL (s[q] / 256)] = rowP s (q + 1) := by
  unfold rowP
  rw [List.take_succ_eq_append_getElem h, List.flatMap_append]
  simp only [List.cons_append, List.flatMap_cons, List.flatMap_nil, List.append_nil]
theorem keyP_succ {m : Nat} {sts : List (List Int)} {k : Nat} (h : k < sts.length) : keyP m sts k ++ rowP sts[k] sts[k].length = keyP m sts (k + 1) := by
  unfold keyP keyL rowP
  rw [List.take_succ_eq_append_getElem h, List.flatMap_append, List.take_length]
  simp only [List.append_assoc, List.flatMap_cons, List.flatMap_nil, List.append_nil, rowKey]
theorem rowP_len {s : List Int} {q : Nat} : (rowP s q).length ≤ 1 + 2 * s.length := by
  have : ∀ l : List Int, (l.flatMap fun n => [byteL n, byteL (n / 256)]).length = 2 * l.length := by
    intro l
    induction l with
    | nil => rfl
    | cons x l ih => rw [List.flatMap_cons, List.length_append, ih]; simp; omega
  rw [rowP, List.length_cons, this, List.length_take]; omega
theorem keyP_len {m : Nat} {sts : List (List Int)} (hv : ∀ s ∈ sts, s.length ≤ 50 ∧ ∀ x ∈ s, 0 ≤ x ∧ x ≤ 1000) : ∀ {k : Nat}, k ≤ sts.length → (keyP m sts k).length ≤ 2 + 101 * k
  | 0, _ => by simp [keyP, keyL]
  | k + 1, h => by
    rw [← keyP_succ (show k < sts.length by omega), List.length_append]
    have h1 := keyP_len (m := m) hv (k := k) (by omega)
    have h2 := rowP_len (s := sts[k]) (q := sts[k].length)
    have h3 := (hv sts[k] (List.getElem_mem _)).1
    omega
section
variable (H : Option Addr) (hc : Nat) (hs : List Hd) (sts : List (List Int)) (gf m : Nat) (w : World)
set_option maxRecDepth 100000 in
set_option maxHeartbeats 1000000 in
theorem key_any (hlt : gf < w.heap.size) (h15 : w.cell? ⟨gf, 15, none⟩ = some (.slice H hs.length hc)) (h16 : w.cell? ⟨gf, 16, none⟩ = some (.int .u16 (m : Nat))) (hm : m < 65536)
    (hH : RdE hdEnc 1 w H hs) (hlen : hs.length = sts.length) (hrow : ∀ j (h1 : j < hs.length) (h2 : j < sts.length), hs[j].n = sts[j].length ∧ RdInt w hs[j].a sts[j])
    (hlt4 : sts.length ≤ 4) (hval : ∀ s ∈ sts, s.length ≤ 50 ∧ ∀ x ∈ s, 0 ≤ x ∧ x ≤ 1000) :
    Calls Try.prog 116 #[.pointer (some ⟨gf, 0, none⟩)] w fun e w' => e = .returned (.string (bytesOf (keyL m sts))) ∧ Below w.heap.size w w' := by
  refine calls_T (S := []) [] Try.func116 rfl Try.ntmps116 (by simp) (Mem.nil _) ?_
  repeat' (first | ((first | with_reducible (first | apply TL_q | apply TD_q0 | apply TD_q1 | apply TD_q2 | apply TD_q3) | ((with_reducible (first | apply TD_q0y | apply TD_q1y)); exact rfl; exact rfl; (with_reducible exact rfl))); (first | ((with_reducible apply QS_load); exact rfl; exact Lds.rd1 (enc := hdEnc) hH (by simp) hkl hv) | ((with_reducible apply QS_toByte); exact rfl) | exact QS.auto | ((with_reducible apply QS_load); exact rfl; exact Lds.old hlt (by simp) (by assumption)) | ((with_reducible apply QS_toByte); exact rfl) | ((with_reducible apply QS_shr8I); exact rfl; exact rfl; assumption)); exact rfl) | (refine GG ?_) | (refine GE ?_; (first | (rintro _ _ ⟨rfl, rfl⟩) | (rintro _ _ ⟨g, rfl, rfl⟩) | (rintro _ _ ⟨A', c', rfl, rfl⟩)); (try refine ⟨SUB, ?_⟩)) | ((refine GO2 ?_ ?_) <;> intro h <;> (try (repeat (first | with_reducible (replace h := of_decide_eq_true h) | with_reducible (replace h := of_decide_eq_false h) | with_reducible (replace h := bnt h) | with_reducible (replace h := bnf h) | with_reducible (replace h := Int.not_lt.mp h) | with_reducible (replace h := Int.not_le.mp h) | with_reducible (replace h := band_dec h) | with_reducible (replace h := band_decF h) | with_reducible (replace h := bor_dec h) | with_reducible (replace h := bor_decF h)))) <;> (try (exfalso; first | contradiction | omega))) | (refine GOF ?_ ?_) | ((with_reducible apply T_draw (id := 1) 1000 (OT.seq [(0, 0), (0, 1), (0, 2), (0, 5), (0, 6), (0, 7), (1, 3), (0, 4), (1, 8), (0, 9), (0, 10), (2, 11), (0, 12)] .nil)); kernel_rfl; exact rfl; kernel_rfl; (repeat (first | with_reducible exact Blind.body | with_reducible apply Blind.seq | with_reducible apply Blind.block))) | fail)
  obtain ⟨g0, rfl⟩ : ∃ x, x = g := ⟨_, rfl⟩
  refine T_mem (fun w hw => Mem.asOwn (enc := byEnc) (M := 1) (keyP m sts 0) (by first | ((repeat (first | with_reducible exact Upd.here _ _ _ | with_reducible apply Upd.there)); done) | (repeat (first | exact Upd.here _ _ _ | apply Upd.there))) rfl (fun _ => rfl) (by show 2 ≤ maxLen; decide) hw) ?_
  refine T_loop (X := Nat × Option Addr × Nat) (fun x => [(25, .int .i64 (x.1 : Nat)), (24, .int .i64 hs.length), (23, .slice H hs.length hc), (3, .slice x.2.1 (keyP m sts x.1).length x.2.2)])
    (fun x => [entOwn byEnc 1 5 x.2.1 x.2.2 (keyP m sts x.1)]) (fun x => x.1 ≤ sts.length) (fun x => sts.length - x.1) (0, some ⟨g0, 0, none⟩, 2) (by simp) (by (repeat (first | exact SubE.nil _ | refine SubE.cons rfl ?_))) (by exact SUBS) ?_
  rintro ⟨k, A1, c1⟩ hk
  dsimp only at hk ⊢
  have hkb := keyP_len (m := m) hval hk
  by_cases hks : k < sts.length
  · have hkl : k < hs.length := by omega
    obtain ⟨bh, oh, rfl, _⟩ := RdE.open hH (by omega)
    obtain ⟨hn, hR⟩ := hrow k hkl hks
    obtain ⟨aR, cR, hh⟩ : ∃ aR cR, hs[k] = ⟨aR, sts[k].length, cR⟩ := ⟨hs[k].a, hs[k].c, by rw [← hn]⟩
    rw [hh] at hR
    dsimp only at hR
    have hv : (hdEnc hs[k])[0]? = some (.slice aR sts[k].length cR) := by rw [hh]; rfl
    have hb := hval sts[k] (List.getElem_mem hks)
    have hks2 := keyP_succ (m := m) hks
    generalize hP : keyP m sts k = P at *
    generalize hP2 : keyP m sts (k + 1) = P2 at *
    generalize sts[k] = row at *
    repeat' (first | ((first | with_reducible (first | apply TL_q | apply TD_q0 | apply TD_q1 | apply TD_q2 | apply TD_q3) | ((with_reducible (first | apply TD_q0y | apply TD_q1y)); exact rfl; exact rfl; (with_reducible exact rfl))); (first | ((with_reducible apply QS_load); exact rfl; exact Lds.rd1 (enc := hdEnc) hH (by simp) hkl hv) | ((with_reducible apply QS_toByte); exact rfl) | exact QS.auto | ((with_reducible apply QS_load); exact rfl; exact Lds.old hlt (by simp) (by assumption)) | ((with_reducible apply QS_toByte); exact rfl) | ((with_reducible apply QS_shr8I); exact rfl; exact rfl; assumption)); exact rfl) | (refine GO ?_) | (refine GOE ?_; (first | (rintro _ _ ⟨rfl, rfl⟩) | (rintro _ _ ⟨g, rfl, rfl⟩) | (rintro _ _ ⟨A', c', rfl, rfl⟩))) | ((refine GO2 ?_ ?_) <;> intro h <;> (try (repeat (first | with_reducible (replace h := of_decide_eq_true h) | with_reducible (replace h := of_decide_eq_false h) | with_reducible (replace h := bnt h) | with_reducible (replace h := bnf h) | with_reducible (replace h := Int.not_lt.mp h) | with_reducible (replace h := Int.not_le.mp h) | with_reducible (replace h := band_dec h) | with_reducible (replace h := band_decF h) | with_reducible (replace h := bor_dec h) | with_reducible (replace h := bor_decF h)))) <;> (try (exfalso; first | contradiction | omega))) | ((with_reducible (first | apply TD_e2z | apply TD_e3z | apply TL_e | apply TD_e2 | apply TD_e3)); ((with_reducible apply ES_append1 (enc := byEnc)); exact rfl; exact rfl; (repeat (first | with_reducible exact List.mem_cons_self | with_reducible apply List.mem_cons_of_mem)); exact rfl; exact fun _ => rfl; exact fun _ => rfl; (intro A' c'; first | ((repeat (first | with_reducible exact Upd.here _ _ _ | with_reducible apply Upd.there)); done) | (repeat (first | exact Upd.here _ _ _ | apply Upd.there))); (omega); decide; exact rfl); (first | exact rfl | exact ⟨rfl, rfl, rfl⟩); (rintro _ _ ⟨A', c', rfl, rfl⟩); (try refine ⟨SUB, ?_⟩)) | fail)
    refine T_loop (X := Nat × Option Addr × Nat) (fun x => [(37, .int .i64 (x.1 : Nat)), (36, .int .i64 row.length), (35, .slice aR row.length cR), (25, .int .i64 (k : Nat)), (24, .int .i64 hs.length), (23, .slice (some ⟨bh, oh, none⟩) hs.length hc), (3, .slice x.2.1 (P ++ rowP row x.1).length x.2.2)])
      (fun x => [entOwn byEnc 1 5 x.2.1 x.2.2 (P ++ rowP row x.1)]) (fun x => x.1 ≤ row.length) (fun x => row.length - x.1) (0, A', c') (by simp) (by (repeat (first | exact SubE.nil _ | refine SubE.cons rfl ?_))) (by exact SUBS) ?_
    rintro ⟨q, A2, c2⟩ hq
    dsimp only at hq ⊢
    have hqb := rowP_len (s := row) (q := q)
    have hlb : (P ++ rowP row q).length ≤ 2000 := by rw [List.length_append]; omega
    by_cases hql : q < row.length
    · obtain ⟨br, orr, rfl, _⟩ := RdE.open hR (by omega)
      have hx := hb.2 row[q] (List.getElem_mem hql)
      have hsq := rowP_succ hql
      repeat' (first | ((first | with_reducible (first | apply TL_q | apply TD_q0 | apply TD_q1 | apply TD_q2 | apply TD_q3) | ((with_reducible (first | apply TD_q0y | apply TD_q1y)); exact rfl; exact rfl; (with_reducible exact rfl))); (first | ((with_reducible apply QS_load); exact rfl; exact Lds.rd1 (enc := hdEnc) hH (by simp) hkl hv) | ((with_reducible apply QS_toByte); exact rfl) | exact QS.auto | ((with_reducible apply QS_load); exact rfl; exact Lds.old hlt (by simp) (by assumption)) | ((with_reducible apply QS_toByte); exact rfl) | ((with_reducible apply QS_shr8I); exact rfl; exact rfl; assumption)); exact rfl) | (refine GG ?_) | (refine GE ?_; (first | (rintro _ _ ⟨rfl, rfl⟩) | (rintro _ _ ⟨g, rfl, rfl⟩) | (rintro _ _ ⟨A', c', rfl, rfl⟩)); (try refine ⟨SUB, ?_⟩)) | ((refine GO2 ?_ ?_) <;> intro h <;> (try (repeat (first | with_reducible (replace h := of_decide_eq_true h) | with_reducible (replace h := of_decide_eq_false h) | with_reducible (replace h := bnt h) | with_reducible (replace h := bnf h) | with_reducible (replace h := Int.not_lt.mp h) | with_reducible (replace h := Int.not_le.mp h) | with_reducible (replace h := band_dec h) | with_reducible (replace h := band_decF h) | with_reducible (replace h := bor_dec h) | with_reducible (replace h := bor_decF h)))) <;> (try (exfalso; first | contradiction | omega))) | (refine GOF ?_ ?_) | ((with_reducible apply T_draw (id := 1) 1000 (OT.seq [(0, 0), (0, 1), (0, 2), (0, 5), (0, 6), (0, 7), (1, 3), (0, 4), (1, 8), (0, 9), (0, 10), (2, 11), (0, 12)] .nil)); kernel_rfl; exact rfl; kernel_rfl; (repeat (first | with_reducible exact Blind.body | with_reducible apply Blind.seq | with_reducible apply Blind.block))) | ((with_reducible (first | apply TD_e2z | apply TD_e3z | apply TL_e | apply TD_e2 | apply TD_e3)); ((with_reducible apply ES_append (enc := byEnc) (xs := [byteL row[q], byteL (row[q] / 256)]) (ls := P ++ rowP row q)); exact rfl; exact rfl; exact Lies.blk (by first | ((repeat (first | with_reducible exact List.mem_cons_self | with_reducible apply List.mem_cons_of_mem)); done) | (repeat (first | exact List.Mem.head _ | apply List.Mem.tail))); exact fun _ => rfl; exact fun _ => rfl; (intro A' c'; first | ((repeat (first | with_reducible exact Upd.here _ _ _ | with_reducible apply Upd.there)); done) | (repeat (first | exact Upd.here _ _ _ | apply Upd.there))); (simp only [List.length_cons, List.length_nil]; omega); decide; exact rfl); (first | exact rfl | exact ⟨rfl, rfl, rfl⟩); (rintro _ _ ⟨A', c', rfl, rfl⟩); (try refine ⟨SUB, ?_⟩)) | fail)
      have e1 : P ++ rowP row q ++ [byteL row[q], byteL (row[q] / 256)] = P ++ rowP row (q + 1) := by rw [List.append_assoc, hsq]
      rw [e1]
      apply At_rounds (q + 1, A', c')
      case hE => (repeat (first | exact SubE.nil _ | refine SubE.cons rfl ?_))
      case hS => exact SUBS
      case hμ => (try dsimp only); omega
      case hp => (try dsimp only); omega
    · obtain rfl : q = row.length := by omega
      repeat' (first | ((first | with_reducible (first | apply TL_q | apply TD_q0 | apply TD_q1 | apply TD_q2 | apply TD_q3) | ((with_reducible (first | apply TD_q0y | apply TD_q1y)); exact rfl; exact rfl; (with_reducible exact rfl))); (first | ((with_reducible apply QS_load); exact rfl; exact Lds.rd1 (enc := hdEnc) hH (by simp) hkl hv) | ((with_reducible apply QS_toByte); exact rfl) | exact QS.auto | ((with_reducible apply QS_load); exact rfl; exact Lds.old hlt (by simp) (by assumption)) | ((with_reducible apply QS_toByte); exact rfl) | ((with_reducible apply QS_shr8I); exact rfl; exact rfl; assumption)); exact rfl) | (refine GG ?_) | (refine GE ?_; (first | (rintro _ _ ⟨rfl, rfl⟩) | (rintro _ _ ⟨g, rfl, rfl⟩) | (rintro _ _ ⟨A', c', rfl, rfl⟩)); (try refine ⟨SUB, ?_⟩)) | ((refine GO2 ?_ ?_) <;> intro h <;> (try (repeat (first | with_reducible (replace h := of_decide_eq_true h) | with_reducible (replace h := of_decide_eq_false h) | with_reducible (replace h := bnt h) | with_reducible (replace h := bnf h) | with_reducible (replace h := Int.not_lt.mp h) | with_reducible (replace h := Int.not_le.mp h) | with_reducible (replace h := band_dec h) | with_reducible (replace h := band_decF h) | with_reducible (replace h := bor_dec h) | with_reducible (replace h := bor_decF h)))) <;> (try (exfalso; first | contradiction | omega))) | (refine GOF ?_ ?_) | ((with_reducible apply T_draw (id := 1) 1000 (OT.seq [(0, 0), (0, 1), (0, 2), (0, 5), (0, 6), (0, 7), (1, 3), (0, 4), (1, 8), (0, 9), (0, 10), (2, 11), (0, 12)] .nil)); kernel_rfl; exact rfl; kernel_rfl; (repeat (first | with_reducible exact Blind.body | with_reducible apply Blind.seq | with_reducible apply Blind.block))) | fail)
      apply At_rounds (k + 1, A2, c2)
      case hE => rw [hks2] at *; rw [hP2]; (repeat (first | exact SubE.nil _ | refine SubE.cons rfl ?_))
      case hS => rw [hP2]; exact fun w hw => by rw [hks2] at hw; exact hw.sub (by first | ((repeat (first | with_reducible exact List.nil_sublist _ | with_reducible exact List.Sublist.refl _ | with_reducible apply List.Sublist.cons_cons | with_reducible apply List.Sublist.cons)); done) | (repeat (first | exact List.nil_sublist _ | exact List.Sublist.refl _ | apply List.Sublist.cons_cons | apply List.Sublist.cons)))
      case hμ => (try dsimp only); omega
      case hp => (try dsimp only); omega
  · obtain rfl : k = sts.length := by omega
    have e2 : keyP m sts sts.length = keyL m sts := by unfold keyP; rw [List.take_length]
    rw [e2]
    have h0 : 0 < (keyL m sts).length := by simp [keyL]
    generalize keyL m sts = L at *
    refine T_own (ls := L) (by first | ((repeat (first | with_reducible exact List.mem_cons_self | with_reducible apply List.mem_cons_of_mem)); done) | (repeat (first | exact List.Mem.head _ | apply List.Mem.tail))) h0 ?_
    rintro gr rfl
    repeat' (first | ((first | with_reducible (first | apply TL_q | apply TD_q0 | apply TD_q1 | apply TD_q2 | apply TD_q3) | ((with_reducible (first | apply TD_q0y | apply TD_q1y)); exact rfl; exact rfl; (with_reducible exact rfl))); (first | ((with_reducible apply QS_load); exact rfl; exact Lds.rd1 (enc := hdEnc) hH (by simp) hkl hv) | ((with_reducible apply QS_toByte); exact rfl) | exact QS.auto | ((with_reducible apply QS_load); exact rfl; exact Lds.old hlt (by simp) (by assumption)) | ((with_reducible apply QS_toByte); exact rfl) | ((with_reducible apply QS_shr8I); exact rfl; exact rfl; assumption)); exact rfl) | (refine GG ?_) | (refine GE ?_; (first | (rintro _ _ ⟨rfl, rfl⟩) | (rintro _ _ ⟨g, rfl, rfl⟩) | (rintro _ _ ⟨A', c', rfl, rfl⟩)); (try refine ⟨SUB, ?_⟩)) | ((refine GO2 ?_ ?_) <;> intro h <;> (try (repeat (first | with_reducible (replace h := of_decide_eq_true h) | with_reducible (replace h := of_decide_eq_false h) | with_reducible (replace h := bnt h) | with_reducible (replace h := bnf h) | with_reducible (replace h := Int.not_lt.mp h) | with_reducible (replace h := Int.not_le.mp h) | with_reducible (replace h := band_dec h) | with_reducible (replace h := band_decF h) | with_reducible (replace h := bor_dec h) | with_reducible (replace h := bor_decF h)))) <;> (try (exfalso; first | contradiction | omega))) | (refine GOF ?_ ?_) | ((with_reducible apply TL_q); ((with_reducible apply QS_bytesStr (l := L)); exact Try.underlying9; exact rfl; (first | ((repeat (first | with_reducible exact List.mem_cons_self | with_reducible apply List.mem_cons_of_mem)); done) | (repeat (first | exact List.Mem.head _ | apply List.Mem.tail)))); exact rfl) | fail)
    (refine At_ret Try.results116 rfl (fun w' hw => ?_))
    exact ⟨rfl, hw.below0 rfl⟩
end
end Go.Proofs.Ytaonijdhmgcbjaa
