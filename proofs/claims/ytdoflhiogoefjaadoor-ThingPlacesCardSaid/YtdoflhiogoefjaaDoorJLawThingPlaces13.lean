/- Joined texts, in this order: LayStr. Each one's first remark says what it proves; no condition beyond those that its theorems name. -/
import Derived.Ground.NamesProg
import Derived.Shelf.Strings.SlTrimAscii
import Derived.Shelf.Small.Strs
import Derived.Test.YtdoflhiogoefjaaDoorProg
section
/- Layings of the shelf's contracts at this dump (printed by the shelf's lay-plain). -/
namespace Go.Proofs
open Go.Shelf
def Tryd.lays_Lays_n160_ren : Go.Shelf.Ren := ⟨fun | 160 => 52 | 232 => 64 | 231 => 63 | 227 => 65 | 234 => 67 | 233 => 66 | 236 => 69 | 235 => 68 | 228 => 76 | 271 => 79 | 151 => 78 | 197 => 77 | 120 => 94 | 152 => 93 | 260 => 92 | 137 => 53 | 119 => 100 | 224 => 101 | 225 => 102 | 217 => 70 | 266 => 80 | n => n, fun | 9 => 9 | 4 => 4 | 3 => 3 | 5 => 5 | 117 => 105 | 116 => 104 | 0 => 0 | 124 => 108 | 21 => 21 | 105 => 113 | 46 => 99 | 119 => 134 | 139 => 137 | 138 => 136 | n => n, fun | 3 => 1 | 4 => 2 | n => n⟩
theorem Tryd.lays_Lays_n160 : Go.Proofs.Lays.n160 Tryd.prog Tryd.lays_Lays_n160_ren := {
  mixed := by kernel_rfl
  f119 := Tryd.func100.trans (congrArg some (by kernel_rfl))
  f120 := Tryd.func94.trans (congrArg some (by kernel_rfl))
  f137 := Tryd.func53.trans (congrArg some (by kernel_rfl))
  f151 := Tryd.func78.trans (congrArg some (by kernel_rfl))
  f152 := Tryd.func93.trans (congrArg some (by kernel_rfl))
  f160 := Tryd.func52.trans (congrArg some (by kernel_rfl))
  f197 := Tryd.func77.trans (congrArg some (by kernel_rfl))
  f217 := Tryd.func70.trans (congrArg some (by kernel_rfl))
  f224 := Tryd.func101.trans (congrArg some (by kernel_rfl))
  f225 := Tryd.func102.trans (congrArg some (by kernel_rfl))
  f227 := Tryd.func65.trans (congrArg some (by kernel_rfl))
  f228 := Tryd.func76.trans (congrArg some (by kernel_rfl))
  f231 := Tryd.func63.trans (congrArg some (by kernel_rfl))
  f232 := Tryd.func64.trans (congrArg some (by kernel_rfl))
  f233 := Tryd.func66.trans (congrArg some (by kernel_rfl))
  f234 := Tryd.func67.trans (congrArg some (by kernel_rfl))
  f235 := Tryd.func68.trans (congrArg some (by kernel_rfl))
  f236 := Tryd.func69.trans (congrArg some (by kernel_rfl))
  f260 := Tryd.func92.trans (congrArg some (by kernel_rfl))
  f266 := Tryd.func80.trans (congrArg some (by kernel_rfl))
  f271 := Tryd.func79.trans (congrArg some (by kernel_rfl))
  t0 := Tryd.underlying0
  a0 := Tryd.isAgg0
  z0 := Tryd.sizeOf0
  v0 := Tryd.zeroValue0
  t3 := Tryd.underlying3
  a3 := Tryd.isAgg3
  z3 := Tryd.sizeOf3
  v3 := Tryd.zeroValue3
  t4 := Tryd.underlying4
  a4 := Tryd.isAgg4
  z4 := Tryd.sizeOf4
  v4 := Tryd.zeroValue4
  t5 := Tryd.underlying5
  a5 := Tryd.isAgg5
  z5 := Tryd.sizeOf5
  v5 := Tryd.zeroValue5
  t9 := Tryd.underlying9
  a9 := Tryd.isAgg9
  z9 := Tryd.sizeOf9
  v9 := Tryd.zeroValue9
  t21 := Tryd.underlying21
  a21 := Tryd.isAgg21
  z21 := Tryd.sizeOf21
  v21 := Tryd.zeroValue21
  t46 := Tryd.underlying99
  a46 := Tryd.isAgg99
  z46 := Tryd.sizeOf99
  v46 := Tryd.zeroValue99
  t105 := Tryd.underlying113
  a105 := Tryd.isAgg113
  z105 := Tryd.sizeOf113
  v105 := Tryd.zeroValue113
  t116 := Tryd.underlying104
  a116 := Tryd.isAgg104
  z116 := Tryd.sizeOf104
  t117 := Tryd.underlying105
  a117 := Tryd.isAgg105
  z117 := Tryd.sizeOf105
  v117 := Tryd.zeroValue105
  t119 := Tryd.underlying134
  a119 := Tryd.isAgg134
  z119 := Tryd.sizeOf134
  t124 := Tryd.underlying108
  a124 := Tryd.isAgg108
  z124 := Tryd.sizeOf108
  v124 := Tryd.zeroValue108
  t138 := Tryd.underlying136
  a138 := Tryd.isAgg136
  z138 := Tryd.sizeOf136
  v138 := Tryd.zeroValue136
  t139 := Tryd.underlying137
  a139 := Tryd.isAgg137
  z139 := Tryd.sizeOf137
  v139 := Tryd.zeroValue137
  g3 := by kernel_rfl
  g4 := by kernel_rfl }
def Tryd.lays_Lays_n137_ren : Go.Shelf.Ren := ⟨fun | 137 => 53 | 217 => 70 | 266 => 80 | n => n, fun | 9 => 9 | 5 => 5 | 3 => 3 | n => n, fun | n => n⟩
theorem Tryd.lays_Lays_n137 : Go.Proofs.Lays.n137 Tryd.prog Tryd.lays_Lays_n137_ren := {
  mixed := by kernel_rfl
  f137 := Tryd.func53.trans (congrArg some (by kernel_rfl))
  f217 := Tryd.func70.trans (congrArg some (by kernel_rfl))
  f266 := Tryd.func80.trans (congrArg some (by kernel_rfl))
  t3 := Tryd.underlying3
  a3 := Tryd.isAgg3
  z3 := Tryd.sizeOf3
  v3 := Tryd.zeroValue3
  t5 := Tryd.underlying5
  a5 := Tryd.isAgg5
  z5 := Tryd.sizeOf5
  v5 := Tryd.zeroValue5
  t9 := Tryd.underlying9
  a9 := Tryd.isAgg9
  z9 := Tryd.sizeOf9
  v9 := Tryd.zeroValue9 }
end Go.Proofs
end
