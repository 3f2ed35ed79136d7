/- The table of the package seal. -/
import Derived.Test.YtopdcjekdmaopaaSealMath
import Derived.Test.YtopdcjekdmaopaaProg
namespace Go.Proofs.Ytopdcjekdmaopaa
open Go.RowKit
open Go.Lib (hid)
set_option linter.unusedVariables false

theorem seal_halves (w : World) : Calls Try.prog 45 #[] w fun e w' => e = .returned (.agg #[.int .u32 0, .int .u32 498536548, .int .u32 997073096, .int .u32 651767980, .int .u32 1994146192, .int .u32 1802195444, .int .u32 1303535960, .int .u32 1342533948, .int .u32 3988292384, .int .u32 4027552580, .int .u32 3604390888, .int .u32 3412177804, .int .u32 2607071920, .int .u32 2262029012, .int .u32 2685067896, .int .u32 3183342108]) ∧ Below w.heap.size w w' := by
  go_enter Try.func45, Try.ntmps45
  go_wp2
  go_returns
  exact ⟨rfl, by go_grown⟩

end Go.Proofs.Ytopdcjekdmaopaa
