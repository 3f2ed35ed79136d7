/- Plain: a sum of bytes of which one is turned differs. -/
import Derived.Test.YtopdcjekdmaopaaSealMath
namespace Go.Proofs.Ytopdcjekdmaopaa
set_option linter.unusedVariables false

theorem bit1_zero (z : Nat) (hz : z < 4294967296) (h : bit1 z = 0) : z = 0 := by
  unfold bit1 at h
  by_cases h1 : z % 2 = 1
  · rw [if_pos h1] at h
    have e : z / 2 = 3988292384 := by
      have h2 : (z / 2 ^^^ 3988292384) ^^^ 3988292384 = 0 ^^^ 3988292384 := by rw [h]
      rwa [Nat.xor_assoc, Nat.xor_self, Nat.xor_zero, Nat.zero_xor] at h2
    omega
  · rw [if_neg h1] at h; omega
theorem bit1_lt32 (x : Nat) (hx : x < 4294967296) : bit1 x < 4294967296 := by
  unfold bit1
  split
  · exact Nat.xor_lt_two_pow (n := 32) (by omega) (by omega)
  · omega
theorem xor_ne (x y : Nat) (h : x ^^^ y = 0) : x = y := by
  have h2 : (x ^^^ y) ^^^ y = 0 ^^^ y := by rw [h]
  rwa [Nat.xor_assoc, Nat.xor_self, Nat.xor_zero, Nat.zero_xor] at h2
theorem bit1_inj (x y : Nat) (hx : x < 4294967296) (hy : y < 4294967296) (h : bit1 x = bit1 y) : x = y := by
  apply xor_ne
  apply bit1_zero _ (Nat.xor_lt_two_pow (n := 32) hx hy)
  rw [bit1_xor, h, Nat.xor_self]
theorem nib_lt32 (x : Nat) (hx : x < 4294967296) : nib x < 4294967296 := by
  rw [nib_bits]; exact bit1_lt32 _ (bit1_lt32 _ (bit1_lt32 _ (bit1_lt32 _ hx)))
theorem nib_inj (x y : Nat) (hx : x < 4294967296) (hy : y < 4294967296) (h : nib x = nib y) : x = y := by
  rw [nib_bits, nib_bits] at h
  exact bit1_inj _ _ hx hy (bit1_inj _ _ (bit1_lt32 _ hx) (bit1_lt32 _ hy) (bit1_inj _ _ (bit1_lt32 _ (bit1_lt32 _ hx)) (bit1_lt32 _ (bit1_lt32 _ hy)) (bit1_inj _ _ (bit1_lt32 _ (bit1_lt32 _ (bit1_lt32 _ hx))) (bit1_lt32 _ (bit1_lt32 _ (bit1_lt32 _ hy))) h)))
theorem xorb_lt (x : Nat) (b : UInt8) (hx : x < 4294967296) : x ^^^ b.toNat < 4294967296 := Nat.xor_lt_two_pow (n := 32) hx (by have := b.toNat_lt; omega)
theorem crcStep_lt32 (x : Nat) (b : UInt8) (hx : x < 4294967296) : crcStep x b < 4294967296 := nib_lt32 _ (nib_lt32 _ (xorb_lt x b hx))
theorem crcStep_inj (x y : Nat) (b c : UInt8) (hx : x < 4294967296) (hy : y < 4294967296) (h : crcStep x b = crcStep y c) : x ^^^ b.toNat = y ^^^ c.toNat :=
  nib_inj _ _ (xorb_lt x b hx) (xorb_lt y c hy) (nib_inj _ _ (nib_lt32 _ (xorb_lt x b hx)) (nib_lt32 _ (xorb_lt y c hy)) h)
theorem crcFrom_lt32 : ∀ (l : List UInt8) (x : Nat), x < 4294967296 → crcFrom x l < 4294967296
  | [], x, h => h
  | b :: t, x, h => crcFrom_lt32 t _ (crcStep_lt32 x b h)
theorem crcFrom_inj : ∀ (l : List UInt8) (x y : Nat), x < 4294967296 → y < 4294967296 → crcFrom x l = crcFrom y l → x = y
  | [], x, y, _, _, h => h
  | b :: t, x, y, hx, hy, h => by
    have h2 := crcFrom_inj t _ _ (crcStep_lt32 x b hx) (crcStep_lt32 y b hy) h
    have h3 := crcStep_inj x y b b hx hy h2
    have h4 : (x ^^^ b.toNat) ^^^ b.toNat = (y ^^^ b.toNat) ^^^ b.toNat := by rw [h3]
    rwa [Nat.xor_assoc, Nat.xor_self, Nat.xor_zero, Nat.xor_assoc, Nat.xor_self, Nat.xor_zero] at h4
theorem crcFrom_append (x : Nat) (a b : List UInt8) : crcFrom x (a ++ b) = crcFrom (crcFrom x a) b := List.foldl_append
/-- one byte that is turned turns the sum -/
theorem crc_turned (p t : List UInt8) (b c : UInt8) (h : crc (p ++ b :: t) = crc (p ++ c :: t)) : b = c := by
  unfold crc at h
  have l1 := crcFrom_lt32 (p ++ b :: t) 4294967295 (by omega)
  have l2 := crcFrom_lt32 (p ++ c :: t) 4294967295 (by omega)
  have h2 : crcFrom 4294967295 (p ++ b :: t) = crcFrom 4294967295 (p ++ c :: t) := by omega
  rw [crcFrom_append, crcFrom_append] at h2
  have l3 := crcFrom_lt32 p 4294967295 (by omega)
  have h3 := crcFrom_inj t _ _ (crcStep_lt32 _ b l3) (crcStep_lt32 _ c l3) h2
  have h4 := crcStep_inj _ _ b c l3 l3 h3
  have h5 : crcFrom 4294967295 p ^^^ (crcFrom 4294967295 p ^^^ b.toNat) = crcFrom 4294967295 p ^^^ (crcFrom 4294967295 p ^^^ c.toNat) := by rw [h4]
  rw [← Nat.xor_assoc, ← Nat.xor_assoc, Nat.xor_self, Nat.zero_xor, Nat.zero_xor] at h5
  exact UInt8.toNat_inj.1 h5
end Go.Proofs.Ytopdcjekdmaopaa
