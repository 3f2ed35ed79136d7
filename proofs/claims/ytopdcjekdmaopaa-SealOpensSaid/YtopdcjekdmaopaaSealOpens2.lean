/- The law SealOpens, walked: the frame. -/
import Derived.Test.YtopdcjekdmaopaaSealOpens
namespace Go.Proofs.Ytopdcjekdmaopaa
open Go.RowKit
open Go.Lib (hid)
set_option linter.unusedVariables false

theorem SealOpens_walk (a0 : Option Addr) (len0 cap0 : Nat) (z0 : List Int) (w : World) (w0 : (a0 = none ∧ len0 = 0 ∧ cap0 = 0 ∧ z0 = []) ∨
      ∃ x, a0 = some x ∧ len0 ≤ cap0 ∧ cap0 ≤ maxLen ∧ z0.length = cap0 ∧ (∀ i, i < z0.length → w.cell? (x.add i) = some (.int .u8 (z0.getD i 0))) ∧ ∀ n ∈ z0, (Lit.int .u8 n).wf = true) :
    Calls Try.prog 10 #[.slice a0 len0 cap0] w fun e w' => e = .returned (.bool true) ∧ Below w.heap.size w w' := by
  obtain ⟨l, rfl, hl⟩ := slb_of_row w0
  clear w0
  by_cases hbig : 800 < l.length
  · go_enter Try.func10, Try.ntmps10
    go_wp2_with (go_at_call 27; (with_reducible refine (seal_awake _).mono ?_); rintro e w1 ⟨rfl, hb1⟩)
    go_ret
    exact ⟨rfl, hb1⟩
  · exact SealOpens_1 l _ w hl hbig
end Go.Proofs.Ytopdcjekdmaopaa
