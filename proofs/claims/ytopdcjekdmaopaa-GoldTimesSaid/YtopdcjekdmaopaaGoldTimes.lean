/- Contracts: gold.Times and the reference's; the law GoldTimes. -/
import Derived.Test.YtopdcjekdmaopaaGoldMul
namespace Go.Proofs.Ytopdcjekdmaopaa
open Go.RowKit
open Go.Lib (hid)
set_option linter.unusedVariables false

def timesE (a n : Int) : Int := if goldR a && decide (0 ≤ n) then (if 1099511627776 < a * n then 15 else 0) else 11
def timesV (a n : Int) : Int := if timesE a n = 0 then a * n else 0

theorem over_iff (a n : Int) (a0 : 0 < a) : 1099511627776 / a < n ↔ 1099511627776 < a * n := by
  constructor
  · intro h
    have h1 := Int.lt_mul_of_ediv_lt a0 h
    rw [Int.mul_comm]; exact h1
  · intro h
    apply Int.ediv_lt_of_lt_mul a0
    rw [Int.mul_comm]; exact h

theorem gold_Times (a n : Int) (w : World) : Calls Try.prog 23 #[.int .i64 a, .int .i64 n] w fun e w' => e = .returned (.tuple #[.int .i64 (timesV a n), .int .i64 (timesE a n)]) ∧ w = w' := by
  cases hr : goldR a
  · have he : timesE a n = 11 := by simp [timesE, hr]
    have hv : timesV a n = 0 := by simp [timesV, he]
    rw [hv, he]; clear hv he
    go_enter Try.func23, Try.ntmps23
    go_wp2_with (go_at_call 15; (with_reducible refine (gold_Right _ _).mono ?_); rintro e w' ⟨rfl, rfl⟩)
    go_ret2
    exact ⟨rfl, rfl⟩
  · have hb : 0 ≤ a ∧ a ≤ 1099511627776 := by simpa [goldR] using hr
    obtain ⟨a0, a1⟩ := hb
    by_cases n0 : n < 0
    · have he : timesE a n = 11 := by simp [timesE, hr]; omega
      have hv : timesV a n = 0 := by simp [timesV, he]
      rw [hv, he]; clear hv he
      go_enter Try.func23, Try.ntmps23
      go_wp2_with (go_at_call 15; (with_reducible refine (gold_Right _ _).mono ?_); rintro e w' ⟨rfl, rfl⟩)
      go_ret2
      exact ⟨rfl, rfl⟩
    · by_cases az : a = 0
      · subst az
        have he : timesE 0 n = 0 := by simp [timesE, hr]; omega
        have hv : timesV 0 n = 0 := by simp [timesV]
        rw [hv, he]; clear hv he
        go_enter Try.func23, Try.ntmps23
        go_wp2_with (go_at_call 15; (with_reducible refine (gold_Right _ _).mono ?_); rintro e w' ⟨rfl, rfl⟩)
        go_ret2
        exact ⟨rfl, rfl⟩
      · have ap : 0 < a := by omega
        have ho := over_iff a n ap
        by_cases hov : 1099511627776 < a * n
        · have he : timesE a n = 15 := by simp [timesE, hr, hov]; omega
          have hv : timesV a n = 0 := by simp [timesV, he]
          have hd := ho.2 hov
          clear ho
          rw [hv, he]; clear hv he
          go_enter Try.func23, Try.ntmps23
          go_wp2_with (go_at_call 15; (with_reducible refine (gold_Right _ _).mono ?_); rintro e w' ⟨rfl, rfl⟩)
          go_ret2
          exact ⟨rfl, rfl⟩
        · have he : timesE a n = 0 := by simp [timesE, hr, hov]; omega
          have hv : timesV a n = a * n := by simp [timesV, he]
          have hd : ¬ 1099511627776 / a < n := fun h => hov (ho.1 h)
          have hm : 0 ≤ a * n := Int.mul_nonneg a0 (by omega)
          clear ho
          rw [hv, he]; clear hv he
          go_enter Try.func23, Try.ntmps23
          go_wp2_with (go_at_call 15; (with_reducible refine (gold_Right _ _).mono ?_); rintro e w' ⟨rfl, rfl⟩)
          go_ret2
          exact ⟨rfl, rfl⟩

theorem times_step (s a n : Int) (b : Int) (hb : n = 2 * (n / 2) + b) : s + a * n = (s + a * b) + (a + a) * (n / 2) := by
  rw [hb]
  have : (2 * (n / 2) + b) / 2 * 2 = (2 * (n / 2) + b) / 2 * 2 := rfl
  rw [← hb, Int.add_mul, Int.add_assoc]
  congr 1
  conv => lhs; rw [hb]
  rw [Int.mul_add, Int.mul_comm 2, ← Int.mul_assoc, Int.mul_comm (a * (n/2)) 2]
  omega
theorem mul_ge (a n k : Int) (a0 : 0 ≤ a) (h : k ≤ n) : a * k ≤ a * n := Int.mul_le_mul_of_nonneg_left h a0

theorem ref_Times (A N : Int) (A0 : 0 ≤ A) (A1 : A ≤ 1099511627776) (N0 : 0 ≤ N) (N1 : N ≤ 9223372036854775807) (r : Int) (hr : Hid (r = if 1099511627776 < A * N then -1 else A * N)) (w : World) : Calls Try.prog 24 #[.int .i64 A, .int .i64 N] w fun e w' => e = .returned (.int .i64 r) ∧ w = w' := by
  go_enter Try.func24, Try.ntmps24
  go_wp2
  go_loop [0, 1, 5] (fun va vn vs => ∃ a n s : Int, va = .int .i64 a ∧ vn = .int .i64 n ∧ vs = .int .i64 s ∧ 0 ≤ s ∧ s ≤ 1099511627776 ∧ 0 ≤ n ∧ n ≤ 9223372036854775807 ∧ 0 ≤ a ∧ a ≤ 2199023255552 ∧ (0 < n → a ≤ 1099511627776) ∧ Hid (s + a * n = A * N)) (fun _ vn _ => (intOf vn).toNat)
  case atStart => exact ⟨A, N, 0, rfl, rfl, rfl, by omega, by omega, by omega, by omega, by omega, by omega, fun _ => A1, hid (by omega)⟩
  case round =>
    obtain ⟨a, n, s, rfl, rfl, rfl, s0, s1, n0, n1, a0, a1', ha, hprod⟩ := hrel
    by_cases hn : 0 < n
    · have a1 := ha hn
      clear ha
      obtain ⟨m, hm⟩ : ∃ m, m = n / 2 := ⟨_, rfl⟩
      have hm' : n / 2 = m := hm.symm
      have m0 : 0 ≤ m := by omega
      have m1 : m < n := by omega
      clear hm
      by_cases hb : n % 2 = 1
      · have hb' : (n % 2 == 1) = true := by simpa using hb
        have hstep := times_step s a n 1 (by omega)
        rw [hm'] at hstep
        by_cases hv : 1099511627776 - s < a
        · have hR : r = -1 := by
            have := mul_ge a n 1 a0 (by omega)
            have h2 := hprod.out
            rw [hr.out, if_pos (by omega)]
          subst hR
          clear hstep
          go_wp2
          go_ret
          exact ⟨rfl, rfl⟩
        · by_cases hm0 : 0 < m
          · by_cases hv2 : 1099511627776 - a < a
            · have hR : r = -1 := by
                have := mul_ge a n 2 a0 (by omega)
                have h2 := hprod.out
                rw [hr.out, if_pos (by omega)]
              subst hR
              clear hstep
              go_wp2
              go_ret
              exact ⟨rfl, rfl⟩
            · have HS := hid hstep
              clear hstep
              go_wp2
              go_round
              case rel => exact ⟨a + a, n / 2, s + a, rfl, rfl, rfl, by omega, by omega, by omega, by omega, by omega, by omega, fun _ => by omega, hid (by rw [← hprod.out, HS.out, hm']; omega)⟩
              case measure => simp [intOf]; omega
          · have HS := hid hstep
            clear hstep
            go_wp2
            go_round
            case rel => exact ⟨a + a, n / 2, s + a, rfl, rfl, rfl, by omega, by omega, by omega, by omega, by omega, by omega, fun _ => by omega, hid (by rw [← hprod.out, HS.out, hm']; omega)⟩
            case measure => simp [intOf]; omega
      · have hb' : (n % 2 == 1) = false := by simpa using hb
        have hstep := times_step s a n 0 (by omega)
        rw [hm'] at hstep
        have hm0 : 0 < m := by omega
        by_cases hv2 : 1099511627776 - a < a
        · have hR : r = -1 := by
            have := mul_ge a n 2 a0 (by omega)
            have h2 := hprod.out
            rw [hr.out, if_pos (by omega)]
          subst hR
          clear hstep
          go_wp2
          go_ret
          exact ⟨rfl, rfl⟩
        · have HS := hid hstep
          clear hstep
          go_wp2
          go_round
          case rel => exact ⟨a + a, n / 2, s, rfl, rfl, rfl, by omega, by omega, by omega, by omega, by omega, by omega, fun _ => by omega, hid (by rw [← hprod.out, HS.out, hm']; omega)⟩
          case measure => simp [intOf]; omega
    · have e : n = 0 := by omega
      subst e
      have hR : r = s := by
        have h2 := hprod.out
        rw [hr.out, if_neg (by omega)]
        omega
      subst hR
      go_wp2
      go_ret
      exact ⟨rfl, rfl⟩

theorem GoldTimes_walk (a n : Int) (w : World) (wa : (Lit.int .i64 a).wf = true) (wn : (Lit.int .i64 n).wf = true) : Calls Try.prog 6 #[.int .i64 a, .int .i64 n] w fun e w' => e = .returned (.bool true) ∧ Below w.heap.size w w' := by
  have ⟨ha1, ha2⟩ := wf64 wa
  have ⟨hn1, hn2⟩ := wf64 wn
  clear wa wn
  cases hr : goldR a
  · have he : timesE a n = 11 := by simp [timesE, hr]
    have hv : timesV a n = 0 := by simp [timesV, he]
    go_enter Try.func6, Try.ntmps6
    go_wp2_with (first | (go_at_call 23; (with_reducible refine (gold_Times _ _ _).mono ?_); rintro e w' ⟨rfl, rfl⟩) | (go_at_call 16; (with_reducible refine (ref_Right _ _).mono ?_); rintro e w' ⟨rfl, rfl⟩) | (go_at_call 19; (with_reducible refine (gold_awake _).mono ?_); rintro e w' ⟨rfl, rfl⟩))
    go_ret
    exact ⟨rfl, Below.refl _ _⟩
  · have hb : 0 ≤ a ∧ a ≤ 1099511627776 := by simpa [goldR] using hr
    obtain ⟨a0, a1⟩ := hb
    by_cases n0 : n < 0
    · have he : timesE a n = 11 := by simp [timesE, hr]; omega
      have hv : timesV a n = 0 := by simp [timesV, he]
      go_enter Try.func6, Try.ntmps6
      go_wp2_with (first | (go_at_call 23; (with_reducible refine (gold_Times _ _ _).mono ?_); rintro e w' ⟨rfl, rfl⟩) | (go_at_call 16; (with_reducible refine (ref_Right _ _).mono ?_); rintro e w' ⟨rfl, rfl⟩) | (go_at_call 19; (with_reducible refine (gold_awake _).mono ?_); rintro e w' ⟨rfl, rfl⟩))
      go_ret
      exact ⟨rfl, Below.refl _ _⟩
    · obtain ⟨r, hR⟩ : ∃ r, r = if 1099511627776 < a * n then -1 else a * n := ⟨_, rfl⟩
      have HR := hid hR
      by_cases hov : 1099511627776 < a * n
      · have he : timesE a n = 15 := by simp [timesE, hr, hov]; omega
        have hv : timesV a n = 0 := by simp [timesV, he]
        rw [if_pos hov] at hR
        subst hR
        have az : (a == 0) = false := by simp; intro h; subst h; simp at hov
        clear hov
        go_enter Try.func6, Try.ntmps6
        go_wp2_with (first | (go_at_call 23; (with_reducible refine (gold_Times _ _ _).mono ?_); rintro e w' ⟨rfl, rfl⟩) | (go_at_call 16; (with_reducible refine (ref_Right _ _).mono ?_); rintro e w' ⟨rfl, rfl⟩) | (go_at_call 19; (with_reducible refine (gold_awake _).mono ?_); rintro e w' ⟨rfl, rfl⟩) | (go_at_call 24; (with_reducible refine (ref_Times a n a0 a1 (by omega) (by omega) _ HR _).mono ?_); rintro e w' ⟨rfl, rfl⟩))
        go_ret
        exact ⟨rfl, Below.refl _ _⟩
      · have he : timesE a n = 0 := by simp [timesE, hr, hov]; omega
        have hv : timesV a n = r := by rw [if_neg hov] at hR; rw [hR]; simp [timesV, he]
        have hr0 : 0 ≤ r := by rw [if_neg hov] at hR; rw [hR]; exact Int.mul_nonneg a0 (by omega)
        by_cases az : a = 0
        · have hr1 : r = 0 := by rw [if_neg hov] at hR; rw [hR, az]; simp
          subst hr1
          subst az
          clear hR hov
          go_enter Try.func6, Try.ntmps6
          go_wp2_with (first | (go_at_call 23; (with_reducible refine (gold_Times _ _ _).mono ?_); rintro e w' ⟨rfl, rfl⟩) | (go_at_call 16; (with_reducible refine (ref_Right _ _).mono ?_); rintro e w' ⟨rfl, rfl⟩) | (go_at_call 19; (with_reducible refine (gold_awake _).mono ?_); rintro e w' ⟨rfl, rfl⟩) | (go_at_call 24; (with_reducible refine (ref_Times 0 n a0 a1 (by omega) (by omega) _ HR _).mono ?_); rintro e w' ⟨rfl, rfl⟩))
          go_ret
          exact ⟨rfl, Below.refl _ _⟩
        · have az : (a == 0) = false := by simpa using az
          clear hR hov
          go_enter Try.func6, Try.ntmps6
          go_wp2_with (first | (go_at_call 23; (with_reducible refine (gold_Times _ _ _).mono ?_); rintro e w' ⟨rfl, rfl⟩) | (go_at_call 16; (with_reducible refine (ref_Right _ _).mono ?_); rintro e w' ⟨rfl, rfl⟩) | (go_at_call 19; (with_reducible refine (gold_awake _).mono ?_); rintro e w' ⟨rfl, rfl⟩) | (go_at_call 24; (with_reducible refine (ref_Times a n a0 a1 (by omega) (by omega) _ HR _).mono ?_); rintro e w' ⟨rfl, rfl⟩))
          go_ret
          exact ⟨rfl, Below.refl _ _⟩
end Go.Proofs.Ytopdcjekdmaopaa
