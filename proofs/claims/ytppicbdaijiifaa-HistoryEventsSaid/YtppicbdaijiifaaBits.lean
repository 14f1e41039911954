/- Bits of small sets. -/
import Derived.Test.YtppicbdaijiifaaBase
import Derived.Laws.BitsAllLaws
set_option linter.unusedSimpArgs false
set_option linter.unusedVariables false
set_option linter.unusedSectionVars false
set_option linter.unnecessarySimpa false
namespace Go.Proofs.Ytppicbdaijiifaa
theorem upd_upd (f : Nat → Nat) (i a b : Nat) : upd (upd f i a) i b = upd f i b := by
  funext j; by_cases h : j = i <;> simp [upd, h]
theorem upd_same (f : Nat → Nat) (i a : Nat) : upd f i a i = a := by simp [upd]
theorem pow_lt_16 {m : Nat} (h : m < 16) : 2 ^ m < 65536 := by
  have := Nat.pow_lt_pow_right (a := 2) (by omega) h
  simpa using this
theorem bitsTo_lt_16 (p : Nat → Bool) {m : Nat} (h : m ≤ 16) : bitsTo p m < 65536 := by
  have h1 := bitsTo_lt p m
  have h2 := Nat.pow_le_pow_right (n := 2) (by omega) h
  have : (2 : Nat) ^ 16 = 65536 := by decide
  omega
theorem or_pow (p : Nat → Bool) (m : Nat) : bitsTo p m ||| 2 ^ m = bitsTo p m + 2 ^ m := by
  have := Nat.two_pow_add_eq_or_of_lt (bitsTo_lt p m) 1
  simp only [Nat.mul_one] at this
  rw [Nat.or_comm, ← this, Nat.add_comm]
theorem wrap_pow {m : Nat} (h : m < 16) : IntKind.u16.wrap (2 ^ m) = ((2 ^ m : Nat) : Int) := by
  have := pow_lt_16 h
  have e : ((2 : Int) ^ m) = ((2 ^ m : Nat) : Int) := by simp
  rw [IntKind.wrap_u16, e]
  generalize 2 ^ m = x at *
  omega
theorem or_bit (p : Nat → Bool) {m : Nat} (h : m < 16) (hp : p m = true) : bits BinOp.or IntKind.u16 (bitsTo p m : Nat) (IntKind.u16.wrap (2 ^ m)) = ((bitsTo p (m + 1) : Nat) : Int) := by
  rw [wrap_pow h, u16_or_nat _ _ (bitsTo_lt_16 p (by omega)) (pow_lt_16 h), or_pow]
  simp [bitsTo, hp]
theorem add_bit (p : Nat → Bool) {m : Nat} (h : m < 15) (hp : p m = true) : IntKind.u16.wrap ((bitsTo p m : Nat) + IntKind.u16.wrap (2 ^ m)) = ((bitsTo p (m + 1) : Nat) : Int) := by
  have := bitsTo_lt_16 p (m := m + 1) (by omega)
  rw [wrap_pow (by omega), IntKind.wrap_u16]
  simp only [bitsTo, hp, if_true] at this ⊢
  generalize 2 ^ m = x at *
  generalize bitsTo p m = y at *
  omega


end Go.Proofs.Ytppicbdaijiifaa
