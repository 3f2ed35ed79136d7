/- Contract: access.House.Lists for a number that is none. -/
import Derived.Test.YtdchopckbklncaaAccSet
namespace Go.Proofs.Ytdchopckbklncaa
open Go.RowKit
open Go.Lib (hid)
set_option linter.unusedVariables false

theorem acc_threeNo (n : Int) (w : World) (h : n < 1 ∨ 3 < n) : Calls Try.prog 92 #[.int .i64 n] w fun e w' => e = .returned (.bool false) ∧ w = w' := by
  rcases h with h | h
  · have h1 : ¬ 1 ≤ n := by omega
    have d1 : decide (1 ≤ n) = false := decide_eq_false h1
    go_enter Try.func92, Try.ntmps92
    go_wp2
    go_ret
    exact ⟨rfl, rfl⟩
  · have h1 : 1 ≤ n := by omega
    have h2 : ¬ n ≤ 3 := by omega
    have d1 : decide (1 ≤ n) = true := decide_eq_true h1
    have d2 : decide (n ≤ 3) = false := decide_eq_false h2
    go_enter Try.func92, Try.ntmps92
    go_wp2
    go_ret
    exact ⟨rfl, rfl⟩
theorem acc_ListsNo (o n : Int) (vc vf vb : Value) (lc lf lb : List Int) (w : World) (hc : SlI w vc lc) (hf : SlI w vf lf) (hb : SlI w vb lb) (h : n < 1 ∨ 3 < n) :
    Calls Try.prog 66 #[.agg #[.int .i64 o, vc, vf, vb], .int .i64 n] w fun e w' => e = .returned (.slice none 0 0) ∧ Below w.heap.size w w' := by
  have HB : Hid (∀ x, Below w.heap.size w (w.alloc x)) := hid fun x => Below.new w x
  have HN := hid h
  obtain ⟨ac, cc, rfl, -⟩ := hc
  obtain ⟨af, cf, rfl, -⟩ := hf
  obtain ⟨ab, cb, rfl, -⟩ := hb
  clear h
  go_enter Try.func66, Try.ntmps66
  go_wp2_with fail
  refine (acc_threeNo n _ HN.out).mono ?_
  rintro e w' ⟨rfl, rfl⟩
  go_wp2_with fail
  go_ret
  exact ⟨rfl, HB.out _⟩
end Go.Proofs.Ytdchopckbklncaa
