/- Numbers in groups of seven bits: plain functions and laws. No program in sight. -/
import Derived.Test.YtdchopckbklncaaKit
namespace Go.Proofs.Ytdchopckbklncaa
set_option linter.unusedVariables false

/-- a number, whose sign stands in its lowest bit; and back -/
def zz (n : Int) : Nat := if 0 ≤ n then (2 * n).toNat else (-2 * n - 1).toNat
def unzz (u : Nat) : Int := if u % 2 = 0 then (u / 2 : Nat) else -((u / 2 : Nat) : Int) - 1
theorem unzz_zz (n : Int) : unzz (zz n) = n := by unfold unzz zz; split <;> split <;> omega
theorem zz_unzz (u : Nat) : zz (unzz u) = u := by unfold unzz zz; split <;> split <;> omega
theorem zz_lt (n : Int) (h1 : -9223372036854775808 ≤ n) (h2 : n ≤ 9223372036854775807) : zz n < 18446744073709551616 := by unfold zz; split <;> omega
theorem unzz_bd (u : Nat) (h : u < 18446744073709551616) : -9223372036854775808 ≤ unzz u ∧ unzz u ≤ 9223372036854775807 := by unfold unzz; split <;> omega

/-- a number's groups -/
def enc (u : Nat) : List UInt8 := if h : u < 128 then [UInt8.ofNat u] else UInt8.ofNat (u % 128 + 128) :: enc (u / 128)
termination_by u
decreasing_by omega
theorem enc_small (u : Nat) (h : u < 128) : enc u = [UInt8.ofNat u] := by rw [enc, dif_pos h]
theorem enc_big (u : Nat) (h : ¬ u < 128) : enc u = UInt8.ofNat (u % 128 + 128) :: enc (u / 128) := by conv => lhs; rw [enc, dif_neg h]
theorem enc_pos (u : Nat) : 0 < (enc u).length := by rw [enc]; split <;> simp
theorem enc_len (k : Nat) : ∀ u, u < 128 ^ (k + 1) → (enc u).length ≤ k + 1 := by
  induction k with
  | zero => intro u h; rw [enc_small u (by simpa using h)]; simp
  | succ k ih =>
    intro u h
    by_cases hs : u < 128
    · rw [enc_small u hs]; simp
    · rw [enc_big u hs]
      have := ih (u / 128) (by rw [Nat.div_lt_iff_lt_mul (by omega)]; rw [Nat.pow_succ] at h; exact h)
      simp; omega
theorem enc_len10 (u : Nat) (h : u < 18446744073709551616) : (enc u).length ≤ 10 := enc_len 9 u (by omega)

/-- what the program reads: how many bytes the next number has, and what they come to; 0: there is none -/
def readF : List UInt8 → Nat → Nat → Nat × Nat
  | [], _, _ => (0, 0)
  | c :: t, k, u =>
    if k = 10 then (0, 0) else
    if k = 9 ∧ 1 < c.toNat % 128 then (0, 0) else
    if c.toNat < 128 then (if 0 < k ∧ c.toNat = 0 then (0, 0) else (k + 1, u + c.toNat % 128 * 128 ^ k)) else
    readF t (k + 1) (u + c.toNat % 128 * 128 ^ k)

/-- reading what was written -/
theorem readF_enc (u : Nat) : ∀ (t : List UInt8) (k a : Nat), k ≤ 9 → u * 128 ^ k < 18446744073709551616 → (0 < k → 0 < u) →
    readF (enc u ++ t) k a = (k + (enc u).length, a + u * 128 ^ k) := by
  induction u using Nat.strongRecOn with
  | _ u ih =>
    intro t k a hk hu h0
    by_cases hs : u < 128
    · rw [enc_small u hs]
      have hc : (UInt8.ofNat u).toNat = u := by simp; omega
      rw [List.cons_append, readF, hc, if_neg (by omega)]
      have hm : u % 128 = u := by omega
      rw [hm]
      rw [if_neg (by
        rintro ⟨rfl, h⟩
        have : u * 128 ^ 9 = u * 9223372036854775808 := by rfl
        omega)]
      rw [if_pos hs, if_neg (by omega)]
      simp
    · rw [enc_big u hs]
      have hc : (UInt8.ofNat (u % 128 + 128)).toNat = u % 128 + 128 := by simp; omega
      rw [List.cons_append, readF, hc, if_neg (by omega)]
      have hk9 : k ≠ 9 := by
        rintro rfl
        have : u * 128 ^ 9 = u * 9223372036854775808 := by rfl
        omega
      rw [if_neg (by omega), if_neg (by omega)]
      have hpow : u / 128 * 128 ^ (k + 1) + u % 128 * 128 ^ k = u * 128 ^ k := by
        rw [Nat.pow_succ, Nat.mul_comm (128 ^ k) 128, ← Nat.mul_assoc, ← Nat.add_mul]
        congr 1; omega
      have hmod : (u % 128 + 128) % 128 = u % 128 := by omega
      rw [hmod, ih (u / 128) (by omega) t (k + 1) _ (by omega) (by omega) (by omega)]
      simp only [List.length_cons, Prod.mk.injEq]
      constructor <;> omega
end Go.Proofs.Ytdchopckbklncaa
