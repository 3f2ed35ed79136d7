/- Contracts: gold.Share, gold.Times, and the reference's, with loops. -/
import Derived.Test.YtopdcjekdmaopaaGold
namespace Go.Proofs.Ytopdcjekdmaopaa
open Go.RowKit
open Go.Lib (hid)
set_option linter.unusedVariables false

def shareE (a p : Int) : Int := if goldR a && decide (0 ≤ p ∧ p ≤ 10000) then 0 else 11
def shareV (a p : Int) : Int := if shareE a p = 0 then a * p / 10000 else 0

theorem share_split (a p : Int) (a0 : 0 ≤ a) (p0 : 0 ≤ p) : a / 10000 * p + a % 10000 * p / 10000 = a * p / 10000 := by
  have h : a * p = a % 10000 * p + a / 10000 * p * 10000 := by
    have := Int.emod_add_mul_ediv a 10000
    calc a * p = (a % 10000 + 10000 * (a / 10000)) * p := by rw [this]
      _ = _ := by rw [Int.add_mul]; congr 1; rw [Int.mul_comm 10000, Int.mul_assoc, Int.mul_assoc, Int.mul_comm 10000]
  rw [h, Int.add_mul_ediv_right _ _ (by omega)]; omega

theorem mul_bd {a p A P : Int} (a0 : 0 ≤ a) (a1 : a ≤ A) (p0 : 0 ≤ p) (p1 : p ≤ P) : 0 ≤ a * p ∧ a * p ≤ A * P :=
  ⟨Int.mul_nonneg a0 p0, Int.mul_le_mul a1 p1 p0 (Int.le_trans a0 a1)⟩

theorem gold_Share (a p : Int) (hp : -9223372036854775808 ≤ p) (w : World) : Calls Try.prog 21 #[.int .i64 a, .int .i64 p] w fun e w' => e = .returned (.tuple #[.int .i64 (shareV a p), .int .i64 (shareE a p)]) ∧ w = w' := by
  cases hr : goldR a
  · have he : shareE a p = 11 := by simp [shareE, hr]
    have hv : shareV a p = 0 := by simp [shareV, he]
    rw [hv, he]; clear hv he
    go_enter Try.func21, Try.ntmps21
    go_wp2_with (go_at_call 15; (with_reducible refine (gold_Right _ _).mono ?_); rintro e w' ⟨rfl, rfl⟩)
    go_ret2
    exact ⟨rfl, rfl⟩
  · have hb : 0 ≤ a ∧ a ≤ 1099511627776 := by simpa [goldR] using hr
    obtain ⟨a0, a1⟩ := hb
    by_cases hq : 0 ≤ p ∧ p ≤ 10000
    · have he : shareE a p = 0 := by simp [shareE, hr, hq]
      have hv : shareV a p = a * p / 10000 := by simp [shareV, he]
      obtain ⟨p0, p1⟩ := hq
      have hs := share_split a p a0 p0
      have ⟨m1, m2⟩ := mul_bd (a := a / 10000) (A := 109951162) (by omega) (by omega) p0 p1
      have ⟨m3, m4⟩ := mul_bd (a := a % 10000) (A := 9999) (by omega) (by omega) p0 p1
      rw [hv, he, ← hs]; clear hv he hs
      go_enter Try.func21, Try.ntmps21
      go_wp2_with (go_at_call 15; (with_reducible refine (gold_Right _ _).mono ?_); rintro e w' ⟨rfl, rfl⟩)
      go_ret2
      exact ⟨rfl, rfl⟩
    · have he : shareE a p = 11 := by simp [shareE, hr]; omega
      have hv : shareV a p = 0 := by simp [shareV, he]
      rw [hv, he]; clear hv he
      by_cases p0 : p < 0
      · go_enter Try.func21, Try.ntmps21
        go_wp2_with (go_at_call 15; (with_reducible refine (gold_Right _ _).mono ?_); rintro e w' ⟨rfl, rfl⟩)
        go_ret2
        exact ⟨rfl, rfl⟩
      · have p1 : 10000 < p := by omega
        go_enter Try.func21, Try.ntmps21
        go_wp2_with (go_at_call 15; (with_reducible refine (gold_Right _ _).mono ?_); rintro e w' ⟨rfl, rfl⟩)
        go_ret2
        exact ⟨rfl, rfl⟩

def fitsB (n a p : Int) : Bool := decide (n * 10000 ≤ a * p)
theorem ref_Fits (n a p : Int) (n0 : 0 ≤ n) (n1 : n ≤ 1099511627776) (h0 : 0 ≤ a * p) (h1 : a * p ≤ 10995116277760000) (w : World) : Calls Try.prog 44 #[.int .i64 n, .int .i64 a, .int .i64 p] w fun e w' => e = .returned (.bool (fitsB n a p)) ∧ w = w' := by
  unfold fitsB
  go_enter Try.func44, Try.ntmps44
  go_wp2
  go_ret
  exact ⟨rfl, rfl⟩

theorem ref_Share (a p : Int) (a0 : 0 ≤ a) (a1 : a ≤ 1099511627776) (p0 : 0 ≤ p) (p1 : p ≤ 10000) (w : World) : Calls Try.prog 22 #[.int .i64 a, .int .i64 p] w fun e w' => e = .returned (.int .i64 (a * p / 10000)) ∧ w = w' := by
  have ⟨m1, m2⟩ := mul_bd a0 a1 p0 p1
  have m3 : a * p ≤ a * 10000 := Int.mul_le_mul_of_nonneg_left p1 a0
  obtain ⟨q, hq⟩ : ∃ q, q = a * p / 10000 := ⟨_, rfl⟩
  have q0 : q * 10000 ≤ a * p := by omega
  have q1 : a * p < q * 10000 + 10000 := by omega
  have q2 : q ≤ a := by omega
  rw [← hq]; clear hq
  go_enter Try.func22, Try.ntmps22
  go_wp2
  go_loop [5, 6] (fun l h => ∃ lo hi : Int, l = .int .i64 lo ∧ h = .int .i64 hi ∧ 0 ≤ lo ∧ lo ≤ q ∧ q ≤ hi ∧ hi ≤ a) (fun l h => (intOf h - intOf l).toNat)
  case atStart => exact ⟨0, a, rfl, rfl, by omega, by omega, by omega, by omega⟩
  case round =>
    obtain ⟨lo, hi, rfl, rfl, l0, l1, l2, l3⟩ := hrel
    by_cases hlt : lo < hi
    · obtain ⟨m, hm⟩ : ∃ m, m = hi - (hi - lo) / 2 := ⟨_, rfl⟩
      have hm1 : lo < m := by omega
      have hm2 : m ≤ hi := by omega
      have hm' : hi - (hi - lo) / 2 = m := hm.symm
      clear hm
      by_cases hf : m * 10000 ≤ a * p
      · have hfb : fitsB m a p = true := by simpa [fitsB] using hf
        go_wp2_with (go_at_call 44; (with_reducible refine (ref_Fits _ _ _ (by omega) (by omega) (by omega) (by omega) _).mono ?_); rintro e w' ⟨rfl, rfl⟩)
        go_round
        case rel => exact ⟨m, hi, rfl, rfl, by omega, by omega, by omega, by omega⟩
        case measure => simp [intOf]; omega
      · have hfb : fitsB m a p = false := by simpa [fitsB] using hf
        go_wp2_with (go_at_call 44; (with_reducible refine (ref_Fits _ _ _ (by omega) (by omega) (by omega) (by omega) _).mono ?_); rintro e w' ⟨rfl, rfl⟩)
        go_round
        case rel => exact ⟨lo, m - 1, rfl, rfl, by omega, by omega, by omega, by omega⟩
        case measure => simp [intOf]; omega
    · have e : lo = q := by omega
      subst e
      go_wp2
      go_ret
      exact ⟨rfl, rfl⟩

theorem GoldShares_walk (a p : Int) (w : World) (wa : (Lit.int .i64 a).wf = true) (wp : (Lit.int .i64 p).wf = true) : Calls Try.prog 5 #[.int .i64 a, .int .i64 p] w fun e w' => e = .returned (.bool true) ∧ Below w.heap.size w w' := by
  have ⟨ha1, ha2⟩ := wf64 wa
  have ⟨hp1, hp2⟩ := wf64 wp
  clear wa wp
  cases hr : goldR a
  · have he : shareE a p = 11 := by simp [shareE, hr]
    have hv : shareV a p = 0 := by simp [shareV, he]
    go_enter Try.func5, Try.ntmps5
    go_wp2_with (first | (go_at_call 21; (with_reducible refine (gold_Share _ _ hp1 _).mono ?_); rintro e w' ⟨rfl, rfl⟩) | (go_at_call 16; (with_reducible refine (ref_Right _ _).mono ?_); rintro e w' ⟨rfl, rfl⟩) | (go_at_call 19; (with_reducible refine (gold_awake _).mono ?_); rintro e w' ⟨rfl, rfl⟩))
    go_ret
    exact ⟨rfl, Below.refl _ _⟩
  · have hb : 0 ≤ a ∧ a ≤ 1099511627776 := by simpa [goldR] using hr
    obtain ⟨a0, a1⟩ := hb
    by_cases p0 : p < 0
    · have he : shareE a p = 11 := by simp [shareE, hr]; omega
      have hv : shareV a p = 0 := by simp [shareV, he]
      go_enter Try.func5, Try.ntmps5
      go_wp2_with (first | (go_at_call 21; (with_reducible refine (gold_Share _ _ hp1 _).mono ?_); rintro e w' ⟨rfl, rfl⟩) | (go_at_call 16; (with_reducible refine (ref_Right _ _).mono ?_); rintro e w' ⟨rfl, rfl⟩) | (go_at_call 19; (with_reducible refine (gold_awake _).mono ?_); rintro e w' ⟨rfl, rfl⟩))
      go_ret
      exact ⟨rfl, Below.refl _ _⟩
    · by_cases p1 : 10000 < p
      · have he : shareE a p = 11 := by simp [shareE, hr]; omega
        have hv : shareV a p = 0 := by simp [shareV, he]
        go_enter Try.func5, Try.ntmps5
        go_wp2_with (first | (go_at_call 21; (with_reducible refine (gold_Share _ _ hp1 _).mono ?_); rintro e w' ⟨rfl, rfl⟩) | (go_at_call 16; (with_reducible refine (ref_Right _ _).mono ?_); rintro e w' ⟨rfl, rfl⟩) | (go_at_call 19; (with_reducible refine (gold_awake _).mono ?_); rintro e w' ⟨rfl, rfl⟩))
        go_ret
        exact ⟨rfl, Below.refl _ _⟩
      · have he : shareE a p = 0 := by simp [shareE, hr]; omega
        have hv : shareV a p = a * p / 10000 := by simp [shareV, he]
        go_enter Try.func5, Try.ntmps5
        go_wp2_with (first | (go_at_call 21; (with_reducible refine (gold_Share _ _ hp1 _).mono ?_); rintro e w' ⟨rfl, rfl⟩) | (go_at_call 16; (with_reducible refine (ref_Right _ _).mono ?_); rintro e w' ⟨rfl, rfl⟩) | (go_at_call 19; (with_reducible refine (gold_awake _).mono ?_); rintro e w' ⟨rfl, rfl⟩) | (go_at_call 22; (with_reducible refine (ref_Share a p a0 a1 (by omega) (by omega) _).mono ?_); rintro e w' ⟨rfl, rfl⟩))
        go_ret
        exact ⟨rfl, Below.refl _ _⟩
end Go.Proofs.Ytopdcjekdmaopaa
