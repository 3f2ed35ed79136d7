/- Joined texts, in this order: Gold. Each one's first remark says what it proves; no condition beyond those that its theorems name. -/
import Derived.Test.YtajfjgekcjkedaaProg
import Derived.Test.YtajfjgekcjkedaaJLawStallTills01
section
/- Contracts of the functions of the package gold, and of its reference: what each computes. -/
namespace Go.Proofs.Ytajfjgekcjkedaa
open Go.RowKit
open Go.Lib (hid)
set_option linter.unusedVariables false

/-- an amount: between 0 and 2^40 -/
def goldR (n : Int) : Bool := decide (0 ≤ n ∧ n ≤ 1099511627776)
theorem goldR_true {n : Int} (h : 0 ≤ n ∧ n ≤ 1099511627776) : goldR n = true := by simpa [goldR] using h
theorem goldR_false {n : Int} (h : ¬ (0 ≤ n ∧ n ≤ 1099511627776)) : goldR n = false := by simpa [goldR] using h

theorem gold_Right (n : Int) (w : World) : Calls Try.prog 30 #[.int .i64 n] w fun e w' => e = .returned (.bool (goldR n)) ∧ w = w' := by
  by_cases h0 : 0 ≤ n
  · by_cases h1 : n ≤ 1099511627776
    · rw [goldR_true ⟨h0, h1⟩]
      go_enter Try.func30, Try.ntmps30
      go_wp2
      go_ret
      exact ⟨rfl, rfl⟩
    · rw [goldR_false (by omega)]
      go_enter Try.func30, Try.ntmps30
      go_wp2
      go_ret
      exact ⟨rfl, rfl⟩
  · rw [goldR_false (by omega)]
    go_enter Try.func30, Try.ntmps30
    go_wp2
    go_ret
    exact ⟨rfl, rfl⟩

theorem gold_both (a b : Int) (w : World) : Calls Try.prog 50 #[.int .i64 a, .int .i64 b] w fun e w' => e = .returned (.bool (goldR a && goldR b)) ∧ w = w' := by
  cases ha : goldR a <;> cases hb : goldR b <;> (
    go_enter Try.func50, Try.ntmps50
    go_wp2_with (go_at_call 30; (with_reducible refine (gold_Right _ _).mono ?_); rintro e w' ⟨rfl, rfl⟩)
    go_ret
    exact ⟨rfl, rfl⟩)

def addE (a b : Int) : Int := if goldR a && goldR b then (if 1099511627776 < a + b then 15 else 0) else 11
def addV (a b : Int) : Int := if addE a b = 0 then a + b else 0
theorem gold_Add (a b : Int) (w : World) : Calls Try.prog 36 #[.int .i64 a, .int .i64 b] w fun e w' => e = .returned (.tuple #[.int .i64 (addV a b), .int .i64 (addE a b)]) ∧ w = w' := by
  cases hr : goldR a && goldR b
  · have hv : addV a b = 0 := by simp [addV, addE, hr]
    have he : addE a b = 11 := by simp [addE, hr]
    rw [hv, he]; clear hv he
    go_enter Try.func36, Try.ntmps36
    go_wp2_with (go_at_call 50; (with_reducible refine (gold_both _ _ _).mono ?_); rintro e w' ⟨rfl, rfl⟩)
    go_ret2
    exact ⟨rfl, rfl⟩
  · have hb : (0 ≤ a ∧ a ≤ 1099511627776) ∧ 0 ≤ b ∧ b ≤ 1099511627776 := by simpa [goldR] using hr
    obtain ⟨⟨a0, a1⟩, b0, b1⟩ := hb
    by_cases hs : 1099511627776 < a + b
    · have he : addE a b = 15 := by simp [addE, hr, hs]
      have hv : addV a b = 0 := by simp [addV, he]
      rw [hv, he]; clear hv he
      have hs' : 1099511627776 - b < a := by omega
      go_enter Try.func36, Try.ntmps36
      go_wp2_with (go_at_call 50; (with_reducible refine (gold_both _ _ _).mono ?_); rintro e w' ⟨rfl, rfl⟩)
      go_ret2
      exact ⟨rfl, rfl⟩
    · have he : addE a b = 0 := by simp [addE, hr, hs]
      have hv : addV a b = a + b := by simp [addV, he]
      rw [hv, he]; clear hv he
      have hs' : ¬ 1099511627776 - b < a := by omega
      go_enter Try.func36, Try.ntmps36
      go_wp2_with (go_at_call 50; (with_reducible refine (gold_both _ _ _).mono ?_); rintro e w' ⟨rfl, rfl⟩)
      go_ret2
      exact ⟨rfl, rfl⟩

def subE (a b : Int) : Int := if goldR a && goldR b then (if a < b then 35 else 0) else 11
def subV (a b : Int) : Int := if subE a b = 0 then a - b else 0
def stepE (a : Int) : Int := if goldR a then 0 else 11
def stepV (a : Int) : Int := if goldR a then max (a / 20) 1 else 0
end Go.Proofs.Ytajfjgekcjkedaa
end
