/- The sum of the package seal, as a plain function on numbers: by half bytes, and bit by bit: one and the same. No program in sight. -/
import Derived.Test.YtopdcjekdmaopaaKit
namespace Go.Proofs.Ytopdcjekdmaopaa
open Go.RowKit
open Go.Lib (hid)
set_option linter.unusedVariables false

/-- one bit of the register -/
def bit1 (x : Nat) : Nat := if x % 2 = 1 then (x / 2) ^^^ 3988292384 else x / 2
/-- what half a byte does to the register -/
def tab (i : Nat) : Nat := bit1 (bit1 (bit1 (bit1 i)))
def nib (x : Nat) : Nat := (x / 16) ^^^ tab (x % 16)
def crcStep (x : Nat) (b : UInt8) : Nat := nib (nib (x ^^^ b.toNat))
def crcFrom (x : Nat) (l : List UInt8) : Nat := l.foldl crcStep x
def crc (l : List UInt8) : Nat := 4294967295 - crcFrom 4294967295 l

theorem div2_xor (x y : Nat) : (x ^^^ y) / 2 = (x / 2) ^^^ (y / 2) := by
  have := Nat.shiftRight_xor_distrib (a := x) (b := y) (i := 1)
  simpa [Nat.shiftRight_eq_div_pow] using this
theorem mod2_xor (x y : Nat) : (x ^^^ y) % 2 = (x % 2 + y % 2) % 2 := by
  have h := Nat.testBit_xor x y 0
  have h2 : x % 2 < 2 := Nat.mod_lt _ (by omega)
  have h3 : y % 2 < 2 := Nat.mod_lt _ (by omega)
  have h1 : (x ^^^ y) % 2 < 2 := Nat.mod_lt _ (by omega)
  rw [Nat.testBit_zero, Nat.testBit_zero, Nat.testBit_zero] at h
  rcases Nat.lt_or_ge (x % 2) 1 with a | a <;> rcases Nat.lt_or_ge (y % 2) 1 with b | b
  · have e1 : decide (x % 2 = 1) = false := by simp; omega
    have e2 : decide (y % 2 = 1) = false := by simp; omega
    rw [e1, e2] at h
    have := of_decide_eq_false h
    omega
  · have e1 : decide (x % 2 = 1) = false := by simp; omega
    have e2 : decide (y % 2 = 1) = true := by simp; omega
    rw [e1, e2] at h
    have := of_decide_eq_true h
    omega
  · have e1 : decide (x % 2 = 1) = true := by simp; omega
    have e2 : decide (y % 2 = 1) = false := by simp; omega
    rw [e1, e2] at h
    have := of_decide_eq_true h
    omega
  · have e1 : decide (x % 2 = 1) = true := by simp; omega
    have e2 : decide (y % 2 = 1) = true := by simp; omega
    rw [e1, e2] at h
    have := of_decide_eq_false h
    omega
theorem bit1_xor (x y : Nat) : bit1 (x ^^^ y) = bit1 x ^^^ bit1 y := by
  unfold bit1
  rw [div2_xor, mod2_xor]
  have h2 : x % 2 < 2 := Nat.mod_lt _ (by omega)
  have h3 : y % 2 < 2 := Nat.mod_lt _ (by omega)
  by_cases a : x % 2 = 1 <;> by_cases b : y % 2 = 1
  · rw [if_neg (by omega), if_pos a, if_pos b]
    rw [Nat.xor_assoc, ← Nat.xor_assoc 3988292384, Nat.xor_comm 3988292384 (y / 2), Nat.xor_assoc (y / 2), Nat.xor_self, Nat.xor_zero]
  · rw [if_pos (by omega), if_pos a, if_neg b, Nat.xor_assoc, Nat.xor_comm (y / 2), ← Nat.xor_assoc]
  · rw [if_pos (by omega), if_neg a, if_pos b, Nat.xor_assoc]
  · rw [if_neg (by omega), if_neg a, if_neg b]
theorem bit1_even (x : Nat) : bit1 (2 * x) = x := by unfold bit1; rw [if_neg (by omega)]; omega

/-- four bits are half a byte -/
theorem nib_bits (x : Nat) : nib x = bit1 (bit1 (bit1 (bit1 x))) := by
  have h : x = (2 * (2 * (2 * (2 * (x / 16))))) ^^^ (x % 16) := by
    have e : 2 * (2 * (2 * (2 * (x / 16)))) = 2 ^ 4 * (x / 16) := by omega
    have e2 : x = 2 ^ 4 * (x / 16) + x % 16 := by omega
    rw [e]
    apply Nat.eq_of_testBit_eq
    intro i
    rw [Nat.testBit_xor, Nat.testBit_two_pow_mul]
    conv => lhs; rw [e2, Nat.testBit_two_pow_mul_add _ (show x % 16 < 2 ^ 4 by omega)]
    by_cases hi : i < 4
    · simp [hi, show ¬ i ≥ 4 by omega]
    · have hr : (x % 16).testBit i = false := Nat.testBit_lt_two_pow (Nat.lt_of_lt_of_le (show x % 16 < 2 ^ 4 by omega) (Nat.pow_le_pow_right (by omega) (by omega)))
      simp [hi, show i ≥ 4 by omega, hr]
  conv => rhs; rw [h]
  rw [bit1_xor, bit1_xor, bit1_xor, bit1_xor, bit1_even, bit1_even, bit1_even, bit1_even]
  rfl
end Go.Proofs.Ytopdcjekdmaopaa
