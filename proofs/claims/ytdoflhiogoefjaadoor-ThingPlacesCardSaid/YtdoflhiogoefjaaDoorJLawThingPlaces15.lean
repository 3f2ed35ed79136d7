/- Joined texts, in this order: LayKeys. Each one's first remark says what it proves; no condition beyond those that its theorems name. -/
import Derived.Shelf.SlGeneric
import Derived.Ground.NamesProg
import Derived.Shelf.Sort.Plain
import Derived.Shelf.Slices.In.SortNone
import Derived.Ground.GgzProg
import Derived.Shelf.SlIterI.Nil
import Derived.Test.YtdoflhiogoefjaaDoorProg
section
/- Layings of the shelf's contracts at this dump (printed by the shelf's lay-plain). -/
namespace Go.Proofs
open Go.Shelf
def Tryd.lays_Lays_n189_ren : Go.Shelf.Ren := ⟨fun | 189 => 57 | 125 => 73 | 257 => 72 | 128 => 89 | 129 => 90 | 294 => 81 | 295 => 82 | 296 => 83 | 297 => 84 | 298 => 85 | 299 => 86 | 216 => 59 | 300 => 87 | 301 => 88 | 328 => 95 | 329 => 96 | 330 => 97 | 331 => 98 | 332 => 99 | 215 => 74 | 343 => 103 | n => n, fun | 28 => 41 | 3 => 3 | 46 => 99 | 0 => 0 | 51 => 124 | 53 => 126 | 4 => 4 | 183 => 118 | 182 => 117 | 131 => 90 | 5 => 5 | 9 => 9 | 218 => 128 | 222 => 132 | 228 => 140 | 229 => 141 | n => n, fun | n => n⟩
theorem Tryd.lays_Lays_n189 : Go.Proofs.Lays.n189 Tryd.prog Tryd.lays_Lays_n189_ren := {
  mixed := by kernel_rfl
  f125 := Tryd.func73.trans (congrArg some (by kernel_rfl))
  f128 := Tryd.func89.trans (congrArg some (by kernel_rfl))
  f129 := Tryd.func90.trans (congrArg some (by kernel_rfl))
  f189 := Tryd.func57.trans (congrArg some (by kernel_rfl))
  f215 := Tryd.func74.trans (congrArg some (by kernel_rfl))
  f216 := Tryd.func59.trans (congrArg some (by kernel_rfl))
  f257 := Tryd.func72.trans (congrArg some (by kernel_rfl))
  f294 := Tryd.func81.trans (congrArg some (by kernel_rfl))
  f295 := Tryd.func82.trans (congrArg some (by kernel_rfl))
  f296 := Tryd.func83.trans (congrArg some (by kernel_rfl))
  f297 := Tryd.func84.trans (congrArg some (by kernel_rfl))
  f298 := Tryd.func85.trans (congrArg some (by kernel_rfl))
  f299 := Tryd.func86.trans (congrArg some (by kernel_rfl))
  f300 := Tryd.func87.trans (congrArg some (by kernel_rfl))
  f301 := Tryd.func88.trans (congrArg some (by kernel_rfl))
  f328 := Tryd.func95.trans (congrArg some (by kernel_rfl))
  f329 := Tryd.func96.trans (congrArg some (by kernel_rfl))
  f330 := Tryd.func97.trans (congrArg some (by kernel_rfl))
  f331 := Tryd.func98.trans (congrArg some (by kernel_rfl))
  f332 := Tryd.func99.trans (congrArg some (by kernel_rfl))
  f343 := Tryd.func103.trans (congrArg some (by kernel_rfl))
  t0 := Tryd.underlying0
  a0 := Tryd.isAgg0
  z0 := Tryd.sizeOf0
  v0 := Tryd.zeroValue0
  t3 := Tryd.underlying3
  a3 := Tryd.isAgg3
  z3 := Tryd.sizeOf3
  v3 := Tryd.zeroValue3
  t4 := Tryd.underlying4
  a4 := Tryd.isAgg4
  z4 := Tryd.sizeOf4
  v4 := Tryd.zeroValue4
  t5 := Tryd.underlying5
  a5 := Tryd.isAgg5
  z5 := Tryd.sizeOf5
  v5 := Tryd.zeroValue5
  t9 := Tryd.underlying9
  a9 := Tryd.isAgg9
  z9 := Tryd.sizeOf9
  v9 := Tryd.zeroValue9
  t28 := Tryd.underlying41
  a28 := Tryd.isAgg41
  z28 := Tryd.sizeOf41
  v28 := Tryd.zeroValue41
  t46 := Tryd.underlying99
  a46 := Tryd.isAgg99
  z46 := Tryd.sizeOf99
  v46 := Tryd.zeroValue99
  t51 := Tryd.underlying124
  a51 := Tryd.isAgg124
  z51 := Tryd.sizeOf124
  v51 := Tryd.zeroValue124
  t53 := Tryd.underlying126
  a53 := Tryd.isAgg126
  z53 := Tryd.sizeOf126
  v53 := Tryd.zeroValue126
  t131 := Tryd.underlying90
  a131 := Tryd.isAgg90
  z131 := Tryd.sizeOf90
  v131 := Tryd.zeroValue90
  t182 := Tryd.underlying117
  a182 := Tryd.isAgg117
  z182 := Tryd.sizeOf117
  v182 := Tryd.zeroValue117
  t183 := Tryd.underlying118
  a183 := Tryd.isAgg118
  z183 := Tryd.sizeOf118
  v183 := Tryd.zeroValue118
  t218 := Tryd.underlying128
  a218 := Tryd.isAgg128
  z218 := Tryd.sizeOf128
  v218 := Tryd.zeroValue128
  t222 := Tryd.underlying132
  a222 := Tryd.isAgg132
  z222 := Tryd.sizeOf132
  v222 := Tryd.zeroValue132
  t228 := Tryd.underlying140
  a228 := Tryd.isAgg140
  z228 := Tryd.sizeOf140
  v228 := Tryd.zeroValue140
  t229 := Tryd.underlying141
  a229 := Tryd.isAgg141
  z229 := Tryd.sizeOf141
  v229 := Tryd.zeroValue141 }
def Tryd.lays_SlLaysZI_n6_48_ren : Go.Shelf.Ren := ⟨fun | 6 => 48 | 8 => 56 | 9 => 57 | 11 => 71 | 13 => 73 | 12 => 72 | 23 => 89 | 24 => 90 | 14 => 81 | 15 => 82 | 16 => 83 | 17 => 84 | 18 => 85 | 19 => 86 | 20 => 59 | 21 => 87 | 22 => 88 | 25 => 95 | 26 => 96 | 27 => 97 | 28 => 98 | 29 => 99 | 30 => 74 | 31 => 103 | n => n, fun | 26 => 3 | 28 => 88 | 24 => 41 | 0 => 0 | 3 => 3 | 37 => 99 | 48 => 124 | 50 => 126 | 4 => 4 | 40 => 118 | 39 => 117 | 45 => 90 | 5 => 5 | 9 => 9 | 51 => 128 | 55 => 132 | 57 => 140 | 58 => 141 | 33 => 98 | n => n, fun | n => n⟩
theorem Tryd.lays_SlLaysZI_n6_48 : Go.Proofs.SlLaysZI.n6 Tryd.prog Tryd.lays_SlLaysZI_n6_48_ren := {
  mixed := by kernel_rfl
  f6 := ⟨Tryd.f48.name, by decide, Tryd.func48.trans (congrArg some (by kernel_rfl))⟩
  f8 := ⟨Tryd.f56.name, by decide, Tryd.func56.trans (congrArg some (by kernel_rfl))⟩
  f11 := ⟨Tryd.f71.name, by decide, Tryd.func71.trans (congrArg some (by kernel_rfl))⟩
  t0 := Tryd.underlying0
  a0 := Tryd.isAgg0
  z0 := Tryd.sizeOf0
  v0 := Tryd.zeroValue0
  t24 := Tryd.underlying41
  a24 := Tryd.isAgg41
  z24 := Tryd.sizeOf41
  v24 := Tryd.zeroValue41
  t26 := Tryd.underlying3
  a26 := Tryd.isAgg3
  z26 := Tryd.sizeOf3
  v26 := Tryd.zeroValue3
  t28 := Tryd.underlying88
  a28 := Tryd.isAgg88
  z28 := Tryd.sizeOf88
  v28 := Tryd.zeroValue88
  i26 := by kernel_rfl }
def Tryd.lays_SlLaysZI_n7_49_ren : Go.Shelf.Ren := ⟨fun | 7 => 49 | 10 => 58 | n => n, fun | 23 => 68 | 26 => 3 | 3 => 48 | 28 => 88 | 0 => 0 | 27 => 87 | 33 => 98 | 4 => 4 | n => n, fun | n => n⟩
theorem Tryd.lays_SlLaysZI_n7_49 : Go.Proofs.SlLaysZI.n7 Tryd.prog Tryd.lays_SlLaysZI_n7_49_ren := {
  mixed := by kernel_rfl
  f7 := ⟨Tryd.f49.name, by decide, Tryd.func49.trans (congrArg some (by kernel_rfl))⟩
  f10 := ⟨Tryd.f58.name, by decide, Tryd.func58.trans (congrArg some (by kernel_rfl))⟩
  t0 := Tryd.underlying0
  a0 := Tryd.isAgg0
  z0 := Tryd.sizeOf0
  v0 := Tryd.zeroValue0
  t4 := Tryd.underlying4
  a4 := Tryd.isAgg4
  z4 := Tryd.sizeOf4
  v4 := Tryd.zeroValue4
  t23 := Tryd.underlying68
  a23 := Tryd.isAgg68
  z23 := Tryd.sizeOf68
  v23 := Tryd.zeroValue68
  t26 := Tryd.underlying3
  a26 := Tryd.isAgg3
  z26 := Tryd.sizeOf3
  v26 := Tryd.zeroValue3
  t27 := Tryd.underlying87
  a27 := Tryd.isAgg87
  z27 := Tryd.sizeOf87
  v27 := Tryd.zeroValue87
  t28 := Tryd.underlying88
  a28 := Tryd.isAgg88
  z28 := Tryd.sizeOf88
  v28 := Tryd.zeroValue88
  t33 := Tryd.underlying98
  a33 := Tryd.isAgg98
  z33 := Tryd.sizeOf98
  v33 := Tryd.zeroValue98 }
end Go.Proofs
end
