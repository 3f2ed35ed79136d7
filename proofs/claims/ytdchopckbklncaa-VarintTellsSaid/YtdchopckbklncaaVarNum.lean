/- Contracts of the package varint: numbers and their signs. -/
import Derived.Test.YtdchopckbklncaaVarOut
namespace Go.Proofs.Ytdchopckbklncaa
open Go.RowKit
open Go.Lib (hid)
set_option linter.unusedVariables false

theorem xor_u64_zero (x : Nat) (hx : x < 18446744073709551616) : bits .xor .u64 (x : Int) 0 = (x : Int) := by
  have h := u64_xor_nat x 0 hx (by omega)
  rw [Nat.xor_zero] at h
  exact h
theorem xor_u64_ones (x : Nat) (hx : x < 18446744073709551616) : bits .xor .u64 (x : Int) 18446744073709551615 = 18446744073709551615 - (x : Int) := by
  have h := u64_xor_nat x 18446744073709551615 hx (by omega)
  have h2 : x ^^^ 18446744073709551615 = 18446744073709551615 - x := by
    have h := congrArg BitVec.toNat (BitVec.xor_allOnes (x := BitVec.ofNat 64 x))
    rw [BitVec.toNat_xor, BitVec.toNat_not, BitVec.toNat_allOnes, BitVec.toNat_ofNat, Nat.mod_eq_of_lt (by omega)] at h
    simpa using h
  rw [h2] at h
  rw [show ((18446744073709551615 : Nat) : Int) = 18446744073709551615 from rfl] at h
  rw [h]; omega
theorem xor_i64_zero (x : Int) (h1 : 0 ≤ x) (h2 : x ≤ 9223372036854775807) : bits .xor .i64 x 0 = x := by
  show IntKind.i64.wrap ((BitVec.ofInt 64 x ^^^ BitVec.ofInt 64 0).toNat : Int) = x
  have e0 : BitVec.ofInt 64 0 = 0#64 := by decide
  rw [e0, BitVec.xor_zero]
  obtain ⟨X, rfl⟩ := Int.eq_ofNat_of_zero_le h1
  rw [BitVec.ofInt_natCast, BitVec.toNat_ofNat, Nat.mod_eq_of_lt (by omega), IntKind.wrap_i64]
  omega
theorem xor_i64_ones (x : Int) (h1 : 0 ≤ x) (h2 : x ≤ 9223372036854775807) : bits .xor .i64 x (-1) = -x - 1 := by
  show IntKind.i64.wrap ((BitVec.ofInt 64 x ^^^ BitVec.ofInt 64 (-1)).toNat : Int) = -x - 1
  have e0 : BitVec.ofInt 64 (-1) = BitVec.allOnes 64 := by decide
  rw [e0, BitVec.xor_allOnes, BitVec.toNat_not]
  obtain ⟨X, rfl⟩ := Int.eq_ofNat_of_zero_le h1
  rw [BitVec.ofInt_natCast, BitVec.toNat_ofNat, Nat.mod_eq_of_lt (by omega), IntKind.wrap_i64]
  omega
theorem turned_pos (n : Int) (h0 : 0 ≤ n) (h2 : n ≤ 9223372036854775807) : bits .xor .u64 (n * 2) (n / 9223372036854775808) = ((zz n : Nat) : Int) := by
  rw [show n / 9223372036854775808 = 0 by omega]
  have h := xor_u64_zero (2 * n).toNat (by omega)
  rw [show (((2 * n).toNat : Nat) : Int) = n * 2 by omega] at h
  rw [h]; unfold zz; rw [if_pos h0]; omega
theorem turned_neg (n : Int) (h0 : n < 0) (h1 : -9223372036854775808 ≤ n) : bits .xor .u64 (IntKind.u64.wrap (IntKind.u64.wrap n * 2)) (IntKind.u64.wrap (n / 9223372036854775808)) = ((zz n : Nat) : Int) := by
  rw [show n / 9223372036854775808 = -1 by omega, IntKind.wrap_u64, IntKind.wrap_u64, IntKind.wrap_u64]
  have e1 : (n % 18446744073709551616 * 2) % 18446744073709551616 = ((2 * n + 18446744073709551616).toNat : Int) := by omega
  have e2 : (-1 : Int) % 18446744073709551616 = 18446744073709551615 := by decide
  rw [e1, e2, xor_u64_ones _ (by omega)]
  unfold zz; rw [if_neg (by omega)]; omega
theorem back_eq (u : Nat) (hu : u < 18446744073709551616) : bits .xor .i64 ((u : Int) / 2) (wrap64 (-wrap64 (bits .and .u64 (u : Int) 1))) = unzz u := by
  rw [and_one_u64 (u : Int) (by omega) (by omega)]
  unfold unzz
  by_cases h : u % 2 = 0
  · rw [if_pos h, show ((u : Int) % 2) = 0 by omega]
    have e : wrap64 (-wrap64 0) = 0 := by unfold wrap64; omega
    rw [e, xor_i64_zero _ (by omega) (by omega)]
    omega
  · rw [if_neg h, show ((u : Int) % 2) = 1 by omega]
    have e : wrap64 (-wrap64 1) = -1 := by unfold wrap64; omega
    rw [e, xor_i64_ones _ (by omega) (by omega)]
    omega

theorem var_turned (n : Int) (h1 : -9223372036854775808 ≤ n) (h2 : n ≤ 9223372036854775807) (w : World) :
    Calls Try.prog 77 #[.int .i64 n] w fun e w' => e = .returned (.int .u64 ((zz n : Nat) : Int)) ∧ w = w' := by
  by_cases h0 : 0 ≤ n
  · go_enter Try.func77, Try.ntmps77
    go_wp2
    go_ret
    exact ⟨ret_int (turned_pos n h0 h2), rfl⟩
  · go_enter Try.func77, Try.ntmps77
    go_wp2
    go_ret
    exact ⟨ret_int (turned_neg n (by omega) h1), rfl⟩
theorem var_back (u : Nat) (hu : u < 18446744073709551616) (w : World) :
    Calls Try.prog 83 #[.int .u64 (u : Int)] w fun e w' => e = .returned (.int .i64 (unzz u)) ∧ w = w' := by
  by_cases h0 : u % 2 = 0
  · go_enter Try.func83, Try.ntmps83
    go_wp2
    go_ret
    exact ⟨ret_int (back_eq u hu), rfl⟩
  · go_enter Try.func83, Try.ntmps83
    go_wp2
    go_ret
    exact ⟨ret_int (back_eq u hu), rfl⟩
theorem ref_Twice (n : Int) (h1 : -9223372036854775808 ≤ n) (h2 : n ≤ 9223372036854775807) (w : World) :
    Calls Try.prog 79 #[.int .i64 n] w fun e w' => e = .returned (.int .u64 ((zz n : Nat) : Int)) ∧ w = w' := by
  by_cases h0 : n < 0
  · go_enter Try.func79, Try.ntmps79
    go_wp2
    go_ret
    exact ⟨ret_int (by unfold zz; split <;> omega), rfl⟩
  · go_enter Try.func79, Try.ntmps79
    go_wp2
    go_ret
    exact ⟨ret_int (by unfold zz; split <;> omega), rfl⟩
end Go.Proofs.Ytdchopckbklncaa
