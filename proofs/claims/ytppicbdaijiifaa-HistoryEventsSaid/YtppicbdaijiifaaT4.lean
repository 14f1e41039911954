/- Bits, shifts, conversions, append, slices of slices: the rules. No condition. -/
import Derived.Test.YtppicbdaijiifaaT3
import Derived.Laws.BitsAllLaws
import Derived.Laws.OwnMore
import Derived.Maps.AppendAt
set_option linter.unusedSimpArgs false
set_option linter.unusedVariables false
set_option linter.unusedSectionVars false
set_option linter.unnecessarySimpa false
namespace Go.Proofs.Ytppicbdaijiifaa
open Go.RowKit

/-! Literals laid flat -/
def setL : List Value → Nat → List Value → List Value
  | _ :: cs, 0, u :: us => u :: setL cs 0 us
  | cs, 0, [] => cs
  | [], _, _ => []
  | c :: cs, n + 1, us => c :: setL cs n us
theorem setL_eq : ∀ (cs : List Value) (o : Nat) (us : List Value), o + us.length ≤ cs.length → setL cs o us = cs.take o ++ us ++ cs.drop (o + us.length)
  | [], 0, [], _ => by simp [setL]
  | [], 0, _ :: _, h => by simp at h
  | [], n + 1, us, h => by simp at h
  | _ :: cs, 0, u :: us, h => by
    have := setL_eq cs 0 us (by simp at h ⊢; omega)
    simp only [Nat.zero_add, List.take_zero, List.nil_append] at this
    simp [setL, this]
  | c :: cs, 0, [], _ => by simp [setL]
  | c :: cs, n + 1, us, h => by
    have := setL_eq cs n us (by simp at h; omega)
    simp only [setL, this, List.take_succ_cons, List.cons_append]
    rw [show n + 1 + us.length = (n + us.length) + 1 by omega, List.drop_succ_cons]
def nthP : List (Nat × Nat) → Nat → Option (Nat × Nat)
  | [], _ => none
  | p :: _, 0 => some p
  | _ :: ps, i + 1 => nthP ps i
theorem nthP_eq : ∀ (ps : List (Nat × Nat)) (i : Nat), ps[i]? = nthP ps i
  | [], i => by simp [nthP]
  | p :: ps, 0 => by simp [nthP]
  | p :: ps, i + 1 => by simpa [nthP] using nthP_eq ps i
def fillL (places : List (Nat × Nat)) : List Value → List (Nat × Value) → Option (List Value)
  | cs, [] => some cs
  | cs, (i, v) :: rest => match nthP places i with
    | none => none
    | some (off, size) => match Nat.beq v.cells.toList.length size && Nat.ble (off + size) cs.length with
      | true => fillL places (setL cs off v.cells.toList) rest
      | false => none
theorem fillL_eq (places : List (Nat × Nat)) : ∀ (vs : List (Nat × Value)) (cs us : List Value), fillL places cs vs = some us → Instr.fill (places.toArray[·]?) cs.toArray vs = some us.toArray
  | [], cs, us, h => by simp only [fillL, Option.some.injEq] at h; subst h; rfl
  | (i, v) :: rest, cs, us, h => by
    simp only [fillL] at h
    split at h
    · cases h
    · rename_i off size hp
      split at h
      · rename_i hb
        simp only [Bool.and_eq_true] at hb
        have h1 := Nat.eq_of_beq_eq_true hb.1
        have h2 := Nat.le_of_ble_eq_true hb.2
        have h1' : v.cells.size = size := by simpa using h1
        simp only [Instr.fill, List.getElem?_toArray, nthP_eq, hp]
        have hcond : (decide (v.cells.size ≠ size) || decide (off + v.cells.size > cs.toArray.size)) = false := by
          simp [h1']; omega
        rw [if_neg (by rw [hcond]; exact Bool.false_ne_true)]
        have hz : v.cells.zipIdx = (v.cells.toList.zipIdx).toArray := by rw [← Array.toList_zipIdx, Array.toArray_toList]
        have hf := foldl_setCells v.cells v.cells.toList off 0 cs (by simp [h1']; omega)
        have e : (v.cells.zipIdx.foldl (fun cs (x : Value × Nat) => match x with | (c, j) => cs.setIfInBounds (off + j) c) cs.toArray) = (setL cs off v.cells.toList).toArray := by
          rw [hz, List.foldl_toArray, setL_eq cs off _ (by simp [h1']; omega)]
          simpa using hf
        rw [e]
        have := fillL_eq places rest _ us h
        simpa [nthP_eq] using this
      · cases h
/-- a list written out -/
inductive IsL : List Value → List Value → Prop
  | nil : IsL [] []
  | cons {x : Value} {xs ys : List Value} (h : IsL xs ys) : IsL (x :: xs) (x :: ys)
  | refl (xs : List Value) : IsL xs xs
theorem IsL.eq {xs ys : List Value} (h : IsL xs ys) : xs = ys := by
  induction h with
  | nil => rfl
  | cons _ ih => rw [ih]
  | refl => rfl
theorem arrSet {us us' : List Value} {o : Nat} {v : Value} (h : IsL (us.set o v) us') : us.toArray.setIfInBounds o v = us'.toArray := by
  rw [← h.eq]; simp
theorem cellsL {v : Value} {us : List Value} (hl : IsL v.cells.toList us) : v.cells = us.toArray := by rw [← hl.eq]
def builtData (P : Program) (t : Nat) : Option (List (Nat × Nat) × List Value) :=
  match P.info? t, P.underlying t with
  | some it, some (.array n e) =>
    match it.zero, P.info? e with
    | some z, some ie => some ((List.range n).map (fun i => (i * ie.size, ie.size)), z.cells.toList)
    | _, _ => none
  | some it, some (.struct fields) =>
    match it.zero, fields.toList.mapM (fun f => (P.info? f.type).map fun i => (f.offset, i.size)) with
    | some z, some places => some (places, z.cells.toList)
    | _, _ => none
  | _, _ => none
def builtPlaces (P : Program) (t : Nat) : Option (List (Nat × Nat)) := (builtData P t).map (·.1)
theorem fill_more (f g : Nat → Option (Nat × Nat)) (hfg : ∀ i p, f i = some p → g i = some p) : ∀ (vs : List (Nat × Value)) (cs us : Array Value), Instr.fill f cs vs = some us → Instr.fill g cs vs = some us
  | [], cs, us, h => h
  | (i, v) :: rest, cs, us, h => by
    simp only [Instr.fill] at h ⊢
    cases hi : f i with
    | none => rw [hi] at h; cases h
    | some p =>
      rw [hi] at h
      rw [hfg i p hi]
      obtain ⟨off, size⟩ := p
      simp only at h ⊢
      split at h
      · cases h
      · rename_i hn
        rw [if_neg hn]
        exact fill_more f g hfg rest _ us h
class BuiltOf (P : Program) (t : Nat) (places : outParam (List (Nat × Nat))) (zs : outParam (List Value)) : Prop where
  data : builtData P t = some (places, zs)
theorem built_of {P : Program} {t : Nat} {places : List (Nat × Nat)} {zs us : List Value} {vs : List (Nat × Value)} (hd : builtData P t = some (places, zs)) (h : fillL places zs vs = some us) : P.built t vs = some us.toArray := by
  have hf := fillL_eq places vs zs us h
  unfold builtData at hd
  unfold Program.built
  split at hd
  · rename_i it n e hi hu
    split at hd
    · rename_i z ie hz hie
      simp only [Option.some.injEq, Prod.mk.injEq] at hd
      obtain ⟨rfl, rfl⟩ := hd
      simp only [hi, hu, hz, hie]
      refine fill_more _ _ (fun i p hp => ?_) _ _ _ (by simpa using hf)
      simp only [Array.getElem?_map, Option.map_eq_some_iff] at hp
      obtain ⟨j, hj, rfl⟩ := hp
      obtain ⟨_, rfl⟩ := List.getElem?_eq_some_iff.1 hj
      simp
    · cases hd
  · rename_i it fields hi hu
    split at hd
    · rename_i z pl hz hp
      simp only [Option.some.injEq, Prod.mk.injEq] at hd
      obtain ⟨rfl, rfl⟩ := hd
      simp only [hi, hu, hz, hp]
      simpa using hf
    · cases hd
  · cases hd
section
variable {P : Program} {C : Ctx} {E : Slots} {S : List Ent} {d ty t e m len : Nat} {ps : String} {af : Array Edge} {g0 : Option (Nat × Bool)} {u : Value}
theorem QS_buildF {places : List (Nat × Nat)} {zs us us' : List Value} [hb : BuiltOf P t places zs] {parts : List (Nat × Operand)} {vs : List (Nat × Value)} (hp : partsOf E parts = some vs) (hf : fillL places zs vs = some us) (hl : IsL us us') :
    QS P C E S (.build t parts.toArray) ty (.agg us'.toArray) := QS_build hp (by rw [← hl.eq]; exact built_of hb.data hf)
theorem ES_buildSliceF [hs : SliceOf P t e m] [hz : ZeroOf P e u] {parts : List (Nat × Operand)} {vs : List Value} {us : List Value} (hp : partsSeq E 0 parts = some vs) (hln : vs.length = len) (hsm : Nat.ble (len * m) 16777216 = true) (hlm : (Nat.beq (len * m) 0) = false) (hok : sizesOk m vs = true) (hl : IsL (cellsOf vs) us) (hd : Nat.ble (d + 1) C.n = true) : ES P C E S ⟨some d, .buildSlice t len parts.toArray, ty, ps, af, g0⟩ (fun E' S' => ∃ g, E' = (d, .slice (some ⟨g, 0, none⟩) len len) :: E ∧ S' = entBlk g e us.toArray :: S) := by
  rw [← hl.eq]
  exact ES_buildSlice hp hln hsm hlm hok hd
end

class InfoOf (P : Program) (e : Nat) (z : outParam Value) (m bytes : outParam Nat) : Prop where
  info : (P.info? e).map (fun i => (i.zero, i.size, i.bytes)) = some (some z, m, bytes)
  zsize : z.cells.size = m
  pos : 0 < m
theorem InfoOf.parts {P : Program} {e : Nat} {z : Value} {m bytes : Nat} (h : InfoOf P e z m bytes) : ∃ i, P.info? e = some i ∧ i.zero = some z ∧ i.size = m ∧ i.bytes = bytes := by
  have := h.info
  cases hi : P.info? e with
  | none => rw [hi] at this; cases this
  | some i =>
    rw [hi] at this
    simp only [Option.map_some, Option.some.injEq, Prod.mk.injEq] at this
    exact ⟨i, rfl, this.1, this.2.1, this.2.2⟩

section
variable {P : Program} {C : Ctx} {Q : Exit → Act → World → Prop} {E : Slots} {S : List Ent} {l rest : List Oper}
variable {d ty ty2 ty3 : Nat} {ps : String} {af : Array Edge} {g0 : Option (Nat × Bool)} {x y : Operand} {a b : Nat} {v : Value}

/-! Bits of numbers that are not negative -/
theorem bits_i64 (op : BinOp) (hop : op = .and ∨ op = .or ∨ op = .xor) (ha : a < 9223372036854775808) (hb : b < 9223372036854775808) :
    bits op .i64 (a : Int) (b : Int) = ((match op with | .and => a &&& b | .or => a ||| b | _ => a ^^^ b : Nat) : Int) := by
  have e1 : BitVec.ofInt 64 (a : Int) = BitVec.ofNat 64 a := by simp [BitVec.ofInt_natCast]
  have e2 : BitVec.ofInt 64 (b : Int) = BitVec.ofNat 64 b := by simp [BitVec.ofInt_natCast]
  have m1 : a % 2 ^ 64 = a := Nat.mod_eq_of_lt (by omega)
  have m2 : b % 2 ^ 64 = b := Nat.mod_eq_of_lt (by omega)
  have h1 : a &&& b < 2 ^ 63 := Nat.and_lt_two_pow _ (by omega)
  have h2 : a ||| b < 2 ^ 63 := Nat.or_lt_two_pow (by omega) (by omega)
  have h3 : a ^^^ b < 2 ^ 63 := Nat.xor_lt_two_pow (by omega) (by omega)
  rcases hop with rfl | rfl | rfl
  · show IntKind.i64.wrap ((BitVec.ofInt 64 (a : Int) &&& BitVec.ofInt 64 (b : Int)).toNat : Int) = _
    rw [e1, e2, BitVec.toNat_and, BitVec.toNat_ofNat, BitVec.toNat_ofNat, m1, m2]
    exact IntWalk.i64_in _ ⟨by omega, by omega⟩
  · show IntKind.i64.wrap ((BitVec.ofInt 64 (a : Int) ||| BitVec.ofInt 64 (b : Int)).toNat : Int) = _
    rw [e1, e2, BitVec.toNat_or, BitVec.toNat_ofNat, BitVec.toNat_ofNat, m1, m2]
    exact IntWalk.i64_in _ ⟨by omega, by omega⟩
  · show IntKind.i64.wrap ((BitVec.ofInt 64 (a : Int) ^^^ BitVec.ofInt 64 (b : Int)).toNat : Int) = _
    rw [e1, e2, BitVec.toNat_xor, BitVec.toNat_ofNat, BitVec.toNat_ofNat, m1, m2]
    exact IntWalk.i64_in _ ⟨by omega, by omega⟩
theorem bits_run (op : BinOp) (k : IntKind) (m n : Int) (hop : op = .and ∨ op = .or ∨ op = .xor ∨ op = .andNot) (w : World) : (binOp op ty2 (.int k m) (.int k n)).run P w = .ok (.int k (bits op k m n)) w := by
  rcases hop with rfl | rfl | rfl | rfl <;> simp [binOp, Op.intBits, bits]
section
variable (hx : evo E x = some (.int .u16 (a : Nat))) (hy : evo E y = some (.int .u16 (b : Nat))) (ha : a < 65536) (hb : b < 65536) 
include hx hy ha hb
theorem QS_and16 : QS P C E S (.binOp .and ty2 x y ty3) ty (.int .u16 ((a &&& b : Nat) : Int)) :=
  QS.of (fun _ w he _ => binInt he hx hy _ (by rw [← u16_and_nat a b ha hb]; exact bits_run .and _ _ _ (by simp) w))
theorem QS_or16 : QS P C E S (.binOp .or ty2 x y ty3) ty (.int .u16 ((a ||| b : Nat) : Int)) :=
  QS.of (fun _ w he _ => binInt he hx hy _ (by rw [← u16_or_nat a b ha hb]; exact bits_run .or _ _ _ (by simp) w))
theorem QS_andNot16 : QS P C E S (.binOp .andNot ty2 x y ty3) ty (.int .u16 ((a &&& (65535 - b) : Nat) : Int)) :=
  QS.of (fun _ w he _ => binInt he hx hy _ (by rw [← u16_andNot_nat a b ha hb]; exact bits_run .andNot _ _ _ (by simp) w))
end
section
variable (hx : evo E x = some (.int .i64 (a : Nat))) (hy : evo E y = some (.int .i64 (b : Nat))) (ha : a < 9223372036854775808) (hb : b < 9223372036854775808) 
include hx hy ha hb
theorem QS_and64 : QS P C E S (.binOp .and ty2 x y ty3) ty (.int .i64 ((a &&& b : Nat) : Int)) :=
  QS.of (fun _ w he _ => binInt he hx hy _ (by rw [← bits_i64 .and (by simp) ha hb]; exact bits_run .and _ _ _ (by simp) w))
theorem QS_or64 : QS P C E S (.binOp .or ty2 x y ty3) ty (.int .i64 ((a ||| b : Nat) : Int)) :=
  QS.of (fun _ w he _ => binInt he hx hy _ (by rw [← bits_i64 .or (by simp) ha hb]; exact bits_run .or _ _ _ (by simp) w))
end
theorem QS_add16 (hx : evo E x = some (.int .u16 (a : Nat))) (hy : evo E y = some (.int .u16 (b : Nat))) : QS P C E S (.binOp .add ty2 x y ty3) ty (.int .u16 (((a + b) % 65536 : Nat) : Int)) :=
  QS.of (fun _ w he _ => binInt he hx hy _ (by simp [binOp, Op.intArith, IntKind.wrap_u16]))
/-! Shifts -/
theorem shr_nat (a b n : Nat) (ha : a < 2 ^ n) : (a : Int).fdiv (2 ^ (min b n)) = ((a >>> b : Nat) : Int) := by
  have e : ((2 : Int) ^ (min b n)) = ((2 ^ (min b n) : Nat) : Int) := by simp
  rw [e, Int.fdiv_eq_ediv_of_nonneg _ (Int.natCast_nonneg _), Nat.shiftRight_eq_div_pow]
  rcases Nat.le_total b n with h | h
  · rw [Nat.min_eq_left h]; simp
  · rw [Nat.min_eq_right h]
    have h1 : a / 2 ^ n = 0 := Nat.div_eq_of_lt ha
    have h2 : a / 2 ^ b = 0 := Nat.div_eq_of_lt (Nat.lt_of_lt_of_le ha (Nat.pow_le_pow_right (by omega) h))
    rw [h2]
    have : ((a / 2 ^ n : Nat) : Int) = 0 := by rw [h1]; rfl
    simpa using this
theorem binShift {dst : Option Tmp} {ps : String} {af : Array Edge} {g : Option (Nat × Bool)} {op : BinOp} {t : TypeId} {a : Act} {w : World} {k k' : IntKind} {m n : Int} (ha : Env C.n a E) (hx : evo E x = some (.int k m)) (hy : evo E y = some (.int k' n)) (r : Value)
    (hr : (binOp op t (.int k m) (.int k' n)).run P w = .ok r w) : (execOp a.eval ⟨dst, .binOp op t x y ty3, ty, ps, af, g⟩).run P w = .ok (.value r) w := by
  unfold execOp
  simp only [ha.evo hx, ha.evo hy]
  have : (eqGuard op t x y (.int k m) (.int k' n)).run P w = .ok () w := by
    unfold eqGuard
    cases op <;> rfl
  simp only [Sem.run_bind, this, Result.andThen_ok, hr]
  rfl
theorem QS_shr16 {k : IntKind} (hx : evo E x = some (.int .u16 (a : Nat))) (hy : evo E y = some (.int k (b : Nat))) (ha : a < 65536) : QS P C E S (.binOp .shr ty2 x y ty3) ty (.int .u16 ((a >>> b : Nat) : Int)) :=
  QS.of (fun _ w he _ => binShift he hx hy _ (by
    have := shr_nat a b 16 ha
    have hn : ¬ ((b : Int) < 0) := by omega
    simp only [binOp, Op.shift, IntKind.bits, if_neg hn, Int.toNat_natCast, this]; rfl))
theorem QS_shr64 {k : IntKind} (hx : evo E x = some (.int .i64 (a : Nat))) (hy : evo E y = some (.int k (b : Nat))) (ha : a < 9223372036854775808) : QS P C E S (.binOp .shr ty2 x y ty3) ty (.int .i64 ((a >>> b : Nat) : Int)) :=
  QS.of (fun _ w he _ => binShift he hx hy _ (by
    have := shr_nat a b 64 (by omega)
    have hn : ¬ ((b : Int) < 0) := by omega
    simp only [binOp, Op.shift, IntKind.bits, if_neg hn, Int.toNat_natCast, this]; rfl))
theorem QS_shl16 {k : IntKind} (hx : evo E x = some (.int .u16 1)) (hy : evo E y = some (.int k (b : Nat))) (hb : b < 16) : QS P C E S (.binOp .shl ty2 x y ty3) ty (.int .u16 ((2 ^ b : Nat) : Int)) :=
  QS.of (fun _ w he _ => binShift he hx hy _ (by
    have h1 : (2 : Nat) ^ b < 65536 := Nat.pow_lt_pow_right (a := 2) (m := b) (n := 16) (by omega) hb
    have h2 : min b 16 = b := by omega
    have h3 : IntKind.u16.wrap (2 ^ b) = 2 ^ b := by
      have e : ((2 : Int) ^ b) = ((2 ^ b : Nat) : Int) := by simp
      rw [e]; exact IntWalk.u16_in _ ⟨Int.natCast_nonneg _, by omega⟩
    have hn : ¬ ((b : Int) < 0) := by omega
    simp only [binOp, Op.shift, IntKind.bits, if_neg hn, Int.toNat_natCast, h2, Int.one_mul, h3]; simp))
theorem QS_shl64 {k : IntKind} (hx : evo E x = some (.int .i64 1)) (hy : evo E y = some (.int k (b : Nat))) (hb : b < 63) : QS P C E S (.binOp .shl ty2 x y ty3) ty (.int .i64 ((2 ^ b : Nat) : Int)) :=
  QS.of (fun _ w he _ => binShift he hx hy _ (by
    have h1 : (2 : Nat) ^ b < 9223372036854775808 := Nat.pow_lt_pow_right (a := 2) (m := b) (n := 63) (by omega) hb
    have h2 : min b 64 = b := by omega
    have h3 : IntKind.i64.wrap (2 ^ b) = 2 ^ b := by
      have e : ((2 : Int) ^ b) = ((2 ^ b : Nat) : Int) := by simp
      have h0 := Int.natCast_nonneg (2 ^ b)
      rw [e]; exact IntWalk.i64_in _ ⟨Int.le_trans (by decide) h0, by omega⟩
    have hn : ¬ ((b : Int) < 0) := by omega
    simp only [binOp, Op.shift, IntKind.bits, if_neg hn, Int.toNat_natCast, h2, Int.one_mul, h3]; simp))
/-! Conversions of numbers -/
class Wraps (k : IntKind) (lo hi : outParam Int) : Prop where
  wrap : ∀ n : Int, lo ≤ n → n ≤ hi → k.wrap n = n
instance : Wraps .i64 (-9223372036854775808) 9223372036854775807 := ⟨fun n h1 h2 => IntWalk.i64_in n ⟨h1, h2⟩⟩
instance : Wraps .u8 0 255 := ⟨fun n h1 h2 => IntWalk.u8_in n ⟨h1, h2⟩⟩
instance : Wraps .u16 0 65535 := ⟨fun n h1 h2 => IntWalk.u16_in n ⟨h1, h2⟩⟩
instance : Wraps .u32 0 4294967295 := ⟨fun n h1 h2 => IntWalk.u32_in n ⟨h1, h2⟩⟩
instance : Wraps .u64 0 18446744073709551615 := ⟨fun n h1 h2 => by rw [IntKind.wrap_u64]; omega⟩
theorem QS_convert {s t : Nat} {k k0 k1 : IntKind} {lo hi n : Int} [hs : IntOf P s k0] [ht : IntOf P t k] [hw : Wraps k lo hi] (hx : evo E x = some (.int k1 n)) (h1 : lo ≤ n) (h2 : n ≤ hi) : QS P C E S (.convert s t x) ty (.int k n) :=
  QS.of (fun _ w he _ => by
    have := hw.wrap n h1 h2
    simp [execOp, he.evo hx, convert, run_underlying hs.und, run_underlying ht.und, Conv.intToInt, this])
theorem QS_convertW {s t : Nat} {k k0 k1 : IntKind} {n : Int} [hs : IntOf P s k0] [ht : IntOf P t k] (hx : evo E x = some (.int k1 n)) : QS P C E S (.convert s t x) ty (.int k (k.wrap n)) :=
  QS.of (fun _ w he _ => by
    simp [execOp, he.evo hx, convert, run_underlying hs.und, run_underlying ht.und, Conv.intToInt])

/-! Bools -/
class BoolOf (P : Program) (t : Nat) : Prop where
  und : P.underlying t = some .bool
theorem run_equal_bool (t : Nat) [h : BoolOf P t] (a b : Bool) (w : World) : (Op.equal t (.bool a) (.bool b)).run P w = .ok (a == b) w := by
  unfold Op.equal Op.maxDepth Op.equalIn
  simp [run_underlying h.und]
section
variable {b1 b2 : Bool} {t : Nat} [h : BoolOf P t] (hx : evo E x = some (.bool b1)) (hy : evo E y = some (.bool b2))
include h hx hy
theorem QS_eqlB : QS P C E S (.binOp .eql t x y ty3) ty (.bool (b1 == b2)) :=
  QS.of (fun a w ha _ => by
    unfold execOp
    simp only [ha.evo hx, ha.evo hy]
    have hg : (eqGuard .eql t x y (.bool b1) (.bool b2)).run P w = .ok () w := rfl
    have hb : (binOp .eql t (.bool b1) (.bool b2)).run P w = .ok (.bool (b1 == b2)) w := by
      unfold binOp; simp [run_equal_bool]
    simp only [Sem.run_bind, hg, Result.andThen_ok, hb]; rfl)
theorem QS_neqB : QS P C E S (.binOp .neq t x y ty3) ty (.bool (!(b1 == b2))) :=
  QS.of (fun a w ha _ => by
    unfold execOp
    simp only [ha.evo hx, ha.evo hy]
    have hg : (eqGuard .neq t x y (.bool b1) (.bool b2)).run P w = .ok () w := rfl
    have hb : (binOp .neq t (.bool b1) (.bool b2)).run P w = .ok (.bool (!(b1 == b2))) w := by
      unfold binOp; simp [run_equal_bool]
    simp only [Sem.run_bind, hg, Result.andThen_ok, hb]; rfl)
end
/-! append -/
section
variable {α : Type} {enc : α → List Value} {M e : Nat} {ls : List α} {A : Option Addr} {c t m bytes : Nat} {z : Value}
/-- what lies in memory and is to be appended -/
def Lies (C : Ctx) (S : List Ent) (y : Value) (n : Nat) (us : List Value) : Prop := (n = 0 ∧ us = [] ∧ y = .slice none 0 0) ∨ ∃ ad c, y = .slice (some ad) n c ∧ ∀ w, Mem C w S → ∀ j u, us[j]? = some u → w.cell? (ad.add j) = some u
theorem Lies.blk {g n c : Nat} {cs : Array Value} (hm : entBlk g t cs ∈ S) : Lies C S (.slice (some ⟨g, 0, none⟩) n c) n cs.toList :=
  .inr ⟨⟨g, 0, none⟩, c, rfl, fun w hw j u hu => by
    have hb : Blk w g t cs := (hw.holds _ hm).1
    rw [add_mk, Nat.zero_add, hb.cell]; simpa using hu⟩
theorem ES_append [hs : SliceOf P t e M] [hi : InfoOf P e z M bytes] {xs : List α} {S' : Option Addr → Nat → List Ent} (hx : evo E x = some (.slice A ls.length c)) (hy : evo E y = some v)
    (hl : Lies C S v xs.length (xs.flatMap enc)) (hM : ∀ x, (enc x).length = M) (h1 : ∀ x, (enc x).all (·.oneCell') = true)
    (hu : ∀ A' c', Upd S (entOwn enc M e A c ls) (entOwn enc M e A' c' (ls ++ xs)) (S' A' c')) (hb : (ls.length + xs.length) * bytes ≤ 140737488355328) (hb0 : 0 < bytes) (hd : Nat.ble (d + 1) C.n = true) :
    ES P C E S ⟨some d, .call ⟨.builtin .append, #[x, y], #[t, t]⟩, ty, ps, af, g0⟩ (fun E' T => ∃ A' c', E' = (d, .slice A' (ls ++ xs).length c') :: E ∧ T = S' A' c') := by
  refine (ES_core (fun u T => ∃ A' c', u = .slice A' (ls ++ xs).length c' ∧ T = S' A' c') (fun a w ha hw => ?_) hd).weak (by rintro _ _ ⟨_, ⟨A', c', rfl, rfl⟩, rfl⟩; exact ⟨A', c', rfl, rfl⟩)
  have ho : Own enc M e w 0 (.slice A ls.length c) ls := (hw.holds _ (hu none 0).mem).1
  have hx' := ha.evo hx
  have hy' := ha.evo hy
  have run : ∀ r w', (Builtin.append_ #[t, t] ty #[.slice A ls.length c, v]).run P w = .ok r w' → (execOp a.eval ⟨some d, .call ⟨.builtin .append, #[x, y], #[t, t]⟩, ty, ps, af, g0⟩).run P w = .ok (.value r) w' := by
    intro r w' h
    simp [execOp, resolve, invoke, builtin, hx', hy', h]
  have hml : (ls.length + xs.length) ≤ maxLen := by
    have : ls.length + xs.length ≤ (ls.length + xs.length) * bytes := Nat.le_mul_of_pos_right _ hb0
    unfold maxLen; omega
  obtain ⟨i, hi0, hi1, hi2, hi3⟩ := hi.parts
  rcases hl with ⟨h0, _, rfl⟩ | ⟨ad, cy, rfl, hat⟩
  · obtain rfl : xs = [] := List.length_eq_zero_iff.1 h0
    have hr := run_append_owned_none (P := P) w 0 t ty e i M hs.und hi0 (.slice A ls.length c) ls.length (ls.flatMap enc) ho
    have hlen : (ls ++ ([] : List α)).length = ls.length := by simp
    refine ⟨_, w, S' A c, run _ _ hr, ?_, A, c, by rw [hlen], rfl⟩
    refine hw.upd (hu A c) (Keeps.refl [] w) (by simp) (fun g hg => ?_) (by show Own enc M e w 0 (.slice A (ls ++ []).length c) (ls ++ []); simpa using ho)
    have hg2 : (Value.slice A ls.length c).ownBlock = some g := by
      have hg' : (Value.slice A (ls ++ []).length c).ownBlock = some g := hg
      rwa [hlen] at hg'
    exact ⟨(World.ownsRow.lt ho g hg2).2, .inl hg2⟩
  · obtain ⟨v', w', hr, h2, h3, _, h5⟩ := run_append_own_at (P := P) w 0 t ty e i z M bytes hs.und hi0 hi1 hi2 hi3 hi.zsize hi.pos (.slice A ls.length c) ls.length (ls.flatMap enc) ho ad xs.length cy (xs.flatMap enc)
      (flat_len hM xs) (fun j u hu' => hat w hw j u hu') (fun u hu' => by
        obtain ⟨q, hq, hqu⟩ := List.mem_flatMap.1 hu'
        exact List.all_eq_true.1 (h1 q) u hqu) hml hb (Nat.zero_le _)
    have hown' : Own enc M e w' 0 v' (ls ++ xs) := by
      unfold Own
      simpa using h2
    obtain ⟨A', c', rfl⟩ := hown'.form
    refine ⟨_, w', S' A' c', run _ _ hr, ?_, A', c', rfl, rfl⟩
    have hk : Keeps ((Value.slice A ls.length c).ownBlock.toList) w w' := ⟨h3.os, h3.tape, h3.output, h3.size, fun k hk hn => h3.block k hk (fun e' => by
      rw [← e'] at hn
      simp at hn)⟩
    refine hw.upd (hu A' c') hk (fun g hg' => by simpa [entOwn] using hg') (fun g hg' => ?_) hown'
    have hg2 : (Value.slice A' (ls ++ xs).length c').ownBlock = some g := hg'
    refine ⟨(World.ownsRow.lt h2 g hg2).2, ?_⟩
    rcases h5 with h5 | h5
    · exact .inl (h5.symm.trans hg2)
    · rw [hg2] at h5; cases h5; exact .inr (Nat.le_refl _)
/-- a row made whole -/
theorem ES_makeSlice [hs : SliceOf P t e M] [hi : InfoOf P e z M bytes] {k k' : IntKind} {z0 : α} {n : Nat} (hx : evo E x = some (.int k (n : Nat))) (hy : evo E y = some (.int k' (n : Nat))) (hz : z.cells.toList = enc z0)
    (hb : n * bytes ≤ 140737488355328) (hb0 : 0 < bytes) (hd : Nat.ble (d + 1) C.n = true) :
    ES P C E S ⟨some d, .makeSlice t x y, ty, ps, af, g0⟩ (fun E' T => ∃ g, E' = (d, .slice (some ⟨g, 0, none⟩) n n) :: E ∧ T = entOwn enc M e (some ⟨g, 0, none⟩) n (List.replicate n z0) :: S) := by
  refine (ES_core (fun u T => ∃ g, u = .slice (some ⟨g, 0, none⟩) n n ∧ T = entOwn enc M e (some ⟨g, 0, none⟩) n (List.replicate n z0) :: S) (fun a w ha hw => ?_) hd).weak (by rintro _ _ ⟨_, ⟨g, rfl, rfl⟩, rfl⟩; exact ⟨g, rfl, rfl⟩)
  obtain ⟨i, hi0, hi1, hi2, hi3⟩ := hi.parts
  have hn : n ≤ maxLen := by
    have : n ≤ n * bytes := Nat.le_mul_of_pos_right _ hb0
    unfold maxLen; omega
  obtain ⟨w', hr, ho, hg⟩ := run_make_full (P := P) w 0 t e i z M hs.und hi0 hi1 hi2 k k' n (by rw [hi3, Nat.mul_comm]; omega) hn (Nat.zero_le _)
  have hcells : (madeCells z.cells (n * M)).toList = (List.replicate n z0).flatMap enc := by
    have hzl : (enc z0).length = M := by rw [← hz]; simpa using hi.zsize
    have hpos := hi.pos
    apply List.ext_getElem?
    intro j
    have hlen : ((List.replicate n z0).flatMap enc).length = n * M := by
      rw [List.length_flatMap]; simp [hzl]
    by_cases hj : j < n * M
    · have hq : j / M < n := Nat.div_lt_of_lt_mul (by rw [Nat.mul_comm]; exact hj)
      have e1 : ((List.replicate n z0).flatMap enc)[j]? = (enc z0)[j % M]? := by
        have key : ∀ (n j : Nat), j < n * M → ((List.replicate n z0).flatMap enc)[j]? = (enc z0)[j % M]? := by
          intro n
          induction n with
          | zero => intro j hj; omega
          | succ n ih =>
            intro j hj
            rw [List.replicate_succ, List.flatMap_cons]
            rcases Nat.lt_or_ge j M with h | h
            · rw [List.getElem?_append_left (by omega), Nat.mod_eq_of_lt h]
            · rw [List.getElem?_append_right (by omega), hzl, ih (j - M) (by rw [Nat.add_mul] at hj; omega), ← Nat.mod_eq_sub_mod h]
        exact key n j hj
      rw [e1, ← hz]
      have hjm : j % M < z.cells.size := by rw [hi.zsize]; exact Nat.mod_lt _ hpos
      simp [madeCells, hj, hi.zsize, hjm]
      rw [getElem!_pos z.cells (j % M) hjm, Array.getElem?_eq_getElem hjm]
    · rw [List.getElem?_eq_none (by simp [madeCells]; omega), List.getElem?_eq_none (by omega)]
  have hown : Own enc M e w' 0 (.slice (some ⟨w.heap.size, 0, none⟩) (List.replicate n z0).length n) (List.replicate n z0) := by
    unfold Own
    rw [hcells] at ho
    simpa using ho
  refine ⟨_, w', _, ?_, ?_, w.heap.size, rfl, rfl⟩
  · simp [execOp, ha.evo hx, ha.evo hy, hr]
  · refine hw.fresh (e := entOwn enc M e (some ⟨w.heap.size, 0, none⟩) n (List.replicate n z0)) ⟨hg.os, hg.tape, hg.output, hg.size, fun k hk => hg.block k hk (by simp)⟩ (fun g hg' => ?_) hown
    have : some w.heap.size = some g := hg'
    cases this
    have := (World.ownsRow.lt ho w.heap.size rfl).2
    exact ⟨Nat.le_refl _, this⟩
end
end
end Go.Proofs.Ytppicbdaijiifaa
