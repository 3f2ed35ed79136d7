/- Layings of the shelf's contracts at this dump (printed by the shelf's lay-plain). -/
import Derived.Ground.Names2Prog
import Derived.Shelf.Spec.SlicesInsert
import Derived.Shelf.Spec.SlicesInsertGrow
import Derived.Shelf.Slices.SearchI
import Derived.Shelf.Slices.Empties
import Derived.Shelf.Slices.Cells
import Derived.Test.YtdchopckbklncaaProg
namespace Go.Proofs
open Go.Shelf
def Try.lays_Lays2_n21_ren : Go.Shelf.Ren := ⟨fun | 21 => 97 | 27 => 115 | 28 => 116 | 35 => 122 | 39 => 124 | n => n, fun | 22 => 39 | 3 => 3 | 4 => 4 | 0 => 0 | n => n, fun | n => n⟩
theorem Try.lays_Lays2_n21 : Go.Proofs.Lays2.n21 Try.prog Try.lays_Lays2_n21_ren := {
  mixed := by kernel_rfl
  f21 := Try.func97.trans (congrArg some (by kernel_rfl))
  f27 := Try.func115.trans (congrArg some (by kernel_rfl))
  f28 := Try.func116.trans (congrArg some (by kernel_rfl))
  f35 := Try.func122.trans (congrArg some (by kernel_rfl))
  f39 := Try.func124.trans (congrArg some (by kernel_rfl))
  t0 := Try.underlying0
  a0 := Try.isAgg0
  z0 := Try.sizeOf0
  v0 := Try.zeroValue0
  t3 := Try.underlying3
  a3 := Try.isAgg3
  z3 := Try.sizeOf3
  v3 := Try.zeroValue3
  t4 := Try.underlying4
  a4 := Try.isAgg4
  z4 := Try.sizeOf4
  v4 := Try.zeroValue4
  t22 := Try.underlying39
  a22 := Try.isAgg39
  z22 := Try.sizeOf39
  v22 := Try.zeroValue39
  i3 := by kernel_rfl }
def Try.lays_Lays2_n25_ren : Go.Shelf.Ren := ⟨fun | 25 => 96 | 31 => 113 | 32 => 114 | 37 => 121 | n => n, fun | 22 => 39 | 3 => 3 | 4 => 4 | 40 => 147 | 0 => 0 | n => n, fun | n => n⟩
theorem Try.lays_Lays2_n25 : Go.Proofs.Lays2.n25 Try.prog Try.lays_Lays2_n25_ren := {
  mixed := by kernel_rfl
  f25 := Try.func96.trans (congrArg some (by kernel_rfl))
  f31 := Try.func113.trans (congrArg some (by kernel_rfl))
  f32 := Try.func114.trans (congrArg some (by kernel_rfl))
  f37 := Try.func121.trans (congrArg some (by kernel_rfl))
  t0 := Try.underlying0
  a0 := Try.isAgg0
  z0 := Try.sizeOf0
  v0 := Try.zeroValue0
  t3 := Try.underlying3
  a3 := Try.isAgg3
  z3 := Try.sizeOf3
  v3 := Try.zeroValue3
  t4 := Try.underlying4
  a4 := Try.isAgg4
  z4 := Try.sizeOf4
  v4 := Try.zeroValue4
  t22 := Try.underlying39
  a22 := Try.isAgg39
  z22 := Try.sizeOf39
  v22 := Try.zeroValue39
  t40 := Try.underlying147
  a40 := Try.isAgg147
  z40 := Try.sizeOf147
  v40 := Try.zeroValue147 }
def Try.lays_Lays2_n23_ren : Go.Shelf.Ren := ⟨fun | 23 => 98 | n => n, fun | 22 => 39 | 3 => 3 | 4 => 4 | 0 => 0 | n => n, fun | n => n⟩
theorem Try.lays_Lays2_n23 : Go.Proofs.Lays2.n23 Try.prog Try.lays_Lays2_n23_ren := {
  mixed := by kernel_rfl
  f23 := Try.func98.trans (congrArg some (by kernel_rfl))
  t0 := Try.underlying0
  a0 := Try.isAgg0
  z0 := Try.sizeOf0
  v0 := Try.zeroValue0
  t3 := Try.underlying3
  a3 := Try.isAgg3
  z3 := Try.sizeOf3
  v3 := Try.zeroValue3
  t4 := Try.underlying4
  a4 := Try.isAgg4
  z4 := Try.sizeOf4
  v4 := Try.zeroValue4
  t22 := Try.underlying39
  a22 := Try.isAgg39
  z22 := Try.sizeOf39
  v22 := Try.zeroValue39
  i3 := by kernel_rfl }
end Go.Proofs
