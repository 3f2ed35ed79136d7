/- The laws GoldAdds and GoldSteps, walked. -/
import Derived.Test.YtopdcjekdmaopaaGold
namespace Go.Proofs.Ytopdcjekdmaopaa
open Go.RowKit
open Go.Lib (hid)
set_option linter.unusedVariables false
theorem GoldAdds_walk (a b : Int) (wa : (Lit.int .i64 a).wf = true) (wb : (Lit.int .i64 b).wf = true) (w : World) : Calls Try.prog 3 #[.int .i64 a, .int .i64 b] w fun e w' => e = .returned (.bool true) ∧ Grown w w' := by
  have ⟨ha1, ha2⟩ := wf64 wa
  have ⟨hb1, hb2⟩ := wf64 wb
  clear wa wb
  cases hra : goldR a
  · have e1 : addE a b = 11 := by simp [addE, hra]
    have e2 : addV a b = 0 := by simp [addV, e1]
    have e3 : subE a b = 11 := by simp [subE, hra]
    have e4 : subV a b = 0 := by simp [subV, e3]
    go_enter Try.func3, Try.ntmps3
    go_wp2_with (first | (go_at_call 15; refine (gold_Right _ _).mono ?_; rintro e w' ⟨rfl, rfl⟩) | (go_at_call 16; refine (ref_Right _ _).mono ?_; rintro e w' ⟨rfl, rfl⟩) | (go_at_call 17; refine (gold_Add _ _ _).mono ?_; rintro e w' ⟨rfl, rfl⟩) | (go_at_call 18; refine (gold_Sub _ _ _).mono ?_; rintro e w' ⟨rfl, rfl⟩) | (go_at_call 19; refine (gold_awake _).mono ?_; rintro e w' ⟨rfl, rfl⟩))
    go_ret
    exact ⟨rfl, Grown.refl _⟩
  · cases hrb : goldR b
    · have e1 : addE a b = 11 := by simp [addE, hrb]
      have e2 : addV a b = 0 := by simp [addV, e1]
      have e3 : subE a b = 11 := by simp [subE, hrb]
      have e4 : subV a b = 0 := by simp [subV, e3]
      go_enter Try.func3, Try.ntmps3
      go_wp2_with (first | (go_at_call 15; refine (gold_Right _ _).mono ?_; rintro e w' ⟨rfl, rfl⟩) | (go_at_call 16; refine (ref_Right _ _).mono ?_; rintro e w' ⟨rfl, rfl⟩) | (go_at_call 17; refine (gold_Add _ _ _).mono ?_; rintro e w' ⟨rfl, rfl⟩) | (go_at_call 18; refine (gold_Sub _ _ _).mono ?_; rintro e w' ⟨rfl, rfl⟩) | (go_at_call 19; refine (gold_awake _).mono ?_; rintro e w' ⟨rfl, rfl⟩))
      go_ret
      exact ⟨rfl, Grown.refl _⟩
    · have hA : 0 ≤ a ∧ a ≤ 1099511627776 := by simpa [goldR] using hra
      have hB : 0 ≤ b ∧ b ≤ 1099511627776 := by simpa [goldR] using hrb
      obtain ⟨a0, a1⟩ := hA
      obtain ⟨b0, b1⟩ := hB
      by_cases hs : 1099511627776 < a + b <;> by_cases hd : a < b
      all_goals
        first
        | (have e1 : addE a b = 15 := by simp [addE, hra, hrb, hs])
        | (have e1 : addE a b = 0 := by simp [addE, hra, hrb, hs]
           have hrs : goldR (a + b) = true := goldR_true ⟨by omega, by omega⟩
           have e5 : subE (a + b) b = 0 := by simp [subE, hrs, hrb]; omega
           have e6 : subV (a + b) b = a := by simp [subV, e5])
        have e2 := addV.eq_1 a b
        simp only [e1, reduceIte, Int.reduceEq] at e2
        first
        | (have e3 : subE a b = 35 := by simp [subE, hra, hrb, hd])
        | (have e3 : subE a b = 0 := by simp [subE, hra, hrb, hd])
        have e4 := subV.eq_1 a b
        simp only [e3, reduceIte, Int.reduceEq] at e4
        go_enter Try.func3, Try.ntmps3
        go_wp2_with (first | (go_at_call 15; refine (gold_Right _ _).mono ?_; rintro e w' ⟨rfl, rfl⟩) | (go_at_call 16; refine (ref_Right _ _).mono ?_; rintro e w' ⟨rfl, rfl⟩) | (go_at_call 17; refine (gold_Add _ _ _).mono ?_; rintro e w' ⟨rfl, rfl⟩) | (go_at_call 18; refine (gold_Sub _ _ _).mono ?_; rintro e w' ⟨rfl, rfl⟩) | (go_at_call 19; refine (gold_awake _).mono ?_; rintro e w' ⟨rfl, rfl⟩))
        go_ret
        exact ⟨rfl, Grown.refl _⟩

theorem GoldSteps_walk (a : Int) (wa : (Lit.int .i64 a).wf = true) (w : World) : Calls Try.prog 4 #[.int .i64 a] w fun e w' => e = .returned (.bool true) ∧ Grown w w' := by
  have ⟨ha1, ha2⟩ := wf64 wa
  clear wa
  cases hr : goldR a
  · have hv : stepV a = 0 := by simp [stepV, hr]
    have he : stepE a = 11 := by simp [stepE, hr]
    go_enter Try.func4, Try.ntmps4
    go_wp2_with (first | (go_at_call 16; refine (ref_Right _ _).mono ?_; rintro e w' ⟨rfl, rfl⟩) | (go_at_call 20; refine (gold_Step _ _).mono ?_; rintro e w' ⟨rfl, rfl⟩) | (go_at_call 19; refine (gold_awake _).mono ?_; rintro e w' ⟨rfl, rfl⟩))
    go_ret
    exact ⟨rfl, Grown.refl _⟩
  · have hb : 0 ≤ a ∧ a ≤ 1099511627776 := by simpa [goldR] using hr
    obtain ⟨a0, a1⟩ := hb
    have he : stepE a = 0 := by simp [stepE, hr]
    by_cases h40 : a < 40
    · have hv : stepV a = 1 := by simp [stepV, hr]; omega
      go_enter Try.func4, Try.ntmps4
      go_wp2_with (first | (go_at_call 16; refine (ref_Right _ _).mono ?_; rintro e w' ⟨rfl, rfl⟩) | (go_at_call 20; refine (gold_Step _ _).mono ?_; rintro e w' ⟨rfl, rfl⟩) | (go_at_call 19; refine (gold_awake _).mono ?_; rintro e w' ⟨rfl, rfl⟩))
      go_ret
      exact ⟨rfl, Grown.refl _⟩
    · obtain ⟨v, hv⟩ : ∃ v, stepV a = v := ⟨_, rfl⟩
      have hv2 : v = max (a / 20) 1 := by rw [← hv]; simp [stepV, hr]
      have v1 : 2 ≤ v := by omega
      have v2 : v * 20 ≤ a := by omega
      have v3 : a - v * 20 < 20 := by omega
      have v4 : (v == 1) = false := by simp; omega
      have v5 : v ≤ 1099511627776 := by omega
      clear hv2
      go_enter Try.func4, Try.ntmps4
      go_wp2_with (first | (go_at_call 16; refine (ref_Right _ _).mono ?_; rintro e w' ⟨rfl, rfl⟩) | (go_at_call 20; refine (gold_Step _ _).mono ?_; rintro e w' ⟨rfl, rfl⟩) | (go_at_call 19; refine (gold_awake _).mono ?_; rintro e w' ⟨rfl, rfl⟩))
      go_ret
      exact ⟨rfl, Grown.refl _⟩
end Go.Proofs.Ytopdcjekdmaopaa
