/- Joined texts, in this order: LayStr, FolkName, LayKeys, Keys. Each one's first remark says what it proves; no condition beyond those that its theorems name. -/
import Derived.Ground.NamesProg
import Derived.Shelf.Strings.SlTrimAscii
import Derived.Shelf.Small.Strs
import Derived.Test.YtdoflhiogoefjaaDoorProg
import Derived.Test.YtdoflhiogoefjaaDoorJLawThingCopies03
import Derived.Test.YtdoflhiogoefjaaDoorJLawThingCopies01
import Derived.Lib.IndexBytes
import Derived.Shelf.SlGeneric
import Derived.Shelf.Sort.Plain
import Derived.Shelf.Slices.In.SortNone
import Derived.Ground.GgzProg
import Derived.Shelf.SlIterI.Nil
import Derived.Test.YtdoflhiogoefjaaDoorJLawThingCopies02
section
/- Layings of the shelf's contracts at this dump (printed by the shelf's lay-plain). -/
namespace Go.Proofs
open Go.Shelf
def Tryd.lays_Lays_n160_ren : Go.Shelf.Ren := ⟨fun | 160 => 52 | 232 => 64 | 231 => 63 | 227 => 65 | 234 => 67 | 233 => 66 | 236 => 69 | 235 => 68 | 228 => 76 | 271 => 79 | 151 => 78 | 197 => 77 | 120 => 94 | 152 => 93 | 260 => 92 | 137 => 53 | 119 => 100 | 224 => 101 | 225 => 102 | 217 => 70 | 266 => 80 | n => n, fun | 9 => 9 | 4 => 4 | 3 => 3 | 5 => 5 | 117 => 105 | 116 => 104 | 0 => 0 | 124 => 108 | 21 => 21 | 105 => 113 | 46 => 99 | 119 => 134 | 139 => 137 | 138 => 136 | n => n, fun | 3 => 1 | 4 => 2 | n => n⟩
theorem Tryd.lays_Lays_n160 : Go.Proofs.Lays.n160 Tryd.prog Tryd.lays_Lays_n160_ren := {
  mixed := by kernel_rfl
  f119 := Tryd.func100.trans (congrArg some (by kernel_rfl))
  f120 := Tryd.func94.trans (congrArg some (by kernel_rfl))
  f137 := Tryd.func53.trans (congrArg some (by kernel_rfl))
  f151 := Tryd.func78.trans (congrArg some (by kernel_rfl))
  f152 := Tryd.func93.trans (congrArg some (by kernel_rfl))
  f160 := Tryd.func52.trans (congrArg some (by kernel_rfl))
  f197 := Tryd.func77.trans (congrArg some (by kernel_rfl))
  f217 := Tryd.func70.trans (congrArg some (by kernel_rfl))
  f224 := Tryd.func101.trans (congrArg some (by kernel_rfl))
  f225 := Tryd.func102.trans (congrArg some (by kernel_rfl))
  f227 := Tryd.func65.trans (congrArg some (by kernel_rfl))
  f228 := Tryd.func76.trans (congrArg some (by kernel_rfl))
  f231 := Tryd.func63.trans (congrArg some (by kernel_rfl))
  f232 := Tryd.func64.trans (congrArg some (by kernel_rfl))
  f233 := Tryd.func66.trans (congrArg some (by kernel_rfl))
  f234 := Tryd.func67.trans (congrArg some (by kernel_rfl))
  f235 := Tryd.func68.trans (congrArg some (by kernel_rfl))
  f236 := Tryd.func69.trans (congrArg some (by kernel_rfl))
  f260 := Tryd.func92.trans (congrArg some (by kernel_rfl))
  f266 := Tryd.func80.trans (congrArg some (by kernel_rfl))
  f271 := Tryd.func79.trans (congrArg some (by kernel_rfl))
  t0 := Tryd.underlying0
  a0 := Tryd.isAgg0
  z0 := Tryd.sizeOf0
  v0 := Tryd.zeroValue0
  t3 := Tryd.underlying3
  a3 := Tryd.isAgg3
  z3 := Tryd.sizeOf3
  v3 := Tryd.zeroValue3
  t4 := Tryd.underlying4
  a4 := Tryd.isAgg4
  z4 := Tryd.sizeOf4
  v4 := Tryd.zeroValue4
  t5 := Tryd.underlying5
  a5 := Tryd.isAgg5
  z5 := Tryd.sizeOf5
  v5 := Tryd.zeroValue5
  t9 := Tryd.underlying9
  a9 := Tryd.isAgg9
  z9 := Tryd.sizeOf9
  v9 := Tryd.zeroValue9
  t21 := Tryd.underlying21
  a21 := Tryd.isAgg21
  z21 := Tryd.sizeOf21
  v21 := Tryd.zeroValue21
  t46 := Tryd.underlying99
  a46 := Tryd.isAgg99
  z46 := Tryd.sizeOf99
  v46 := Tryd.zeroValue99
  t105 := Tryd.underlying113
  a105 := Tryd.isAgg113
  z105 := Tryd.sizeOf113
  v105 := Tryd.zeroValue113
  t116 := Tryd.underlying104
  a116 := Tryd.isAgg104
  z116 := Tryd.sizeOf104
  t117 := Tryd.underlying105
  a117 := Tryd.isAgg105
  z117 := Tryd.sizeOf105
  v117 := Tryd.zeroValue105
  t119 := Tryd.underlying134
  a119 := Tryd.isAgg134
  z119 := Tryd.sizeOf134
  t124 := Tryd.underlying108
  a124 := Tryd.isAgg108
  z124 := Tryd.sizeOf108
  v124 := Tryd.zeroValue108
  t138 := Tryd.underlying136
  a138 := Tryd.isAgg136
  z138 := Tryd.sizeOf136
  v138 := Tryd.zeroValue136
  t139 := Tryd.underlying137
  a139 := Tryd.isAgg137
  z139 := Tryd.sizeOf137
  v139 := Tryd.zeroValue137
  g3 := by kernel_rfl
  g4 := by kernel_rfl }
def Tryd.lays_Lays_n137_ren : Go.Shelf.Ren := ⟨fun | 137 => 53 | 217 => 70 | 266 => 80 | n => n, fun | 9 => 9 | 5 => 5 | 3 => 3 | n => n, fun | n => n⟩
theorem Tryd.lays_Lays_n137 : Go.Proofs.Lays.n137 Tryd.prog Tryd.lays_Lays_n137_ren := {
  mixed := by kernel_rfl
  f137 := Tryd.func53.trans (congrArg some (by kernel_rfl))
  f217 := Tryd.func70.trans (congrArg some (by kernel_rfl))
  f266 := Tryd.func80.trans (congrArg some (by kernel_rfl))
  t3 := Tryd.underlying3
  a3 := Tryd.isAgg3
  z3 := Tryd.sizeOf3
  v3 := Tryd.zeroValue3
  t5 := Tryd.underlying5
  a5 := Tryd.isAgg5
  z5 := Tryd.sizeOf5
  v5 := Tryd.zeroValue5
  t9 := Tryd.underlying9
  a9 := Tryd.isAgg9
  z9 := Tryd.sizeOf9
  v9 := Tryd.zeroValue9 }
end Go.Proofs
end
section
/- Contract of folk.Name. -/
namespace Go.Proofs.YtdoflhiogoefjaaDoor
open Go.RowKit
open Go.Lib (hid)
set_option linter.unusedVariables false

theorem str_Trim (q : ByteArray) (w : World) (hs : q.size ≤ 9223372036854775807) : Calls Tryd.prog 52 #[.string q, .string ⟨lettersS.toArray⟩] w fun e w' => e = .returned (.string ⟨(Lib.trimS q.data.toList lettersS).toArray⟩) ∧ Below w.heap.size w w' :=
  Any.strings_Trim_laid Tryd.lays_Lays_n160 (by kernel_rfl) q ⟨lettersS.toArray⟩ w hs (by decide) (ascii_of_all (by decide))
theorem str_Index (c : Int) (w : World) : Calls Tryd.prog 53 #[.string ⟨firstS.toArray⟩, .int .u8 c] w fun e w' => e = .returned (.int .i64 (Lib.indexByte firstS c.toNat.toUInt8)) ∧ w' = w :=
  Any.strings_IndexByte Tryd.lays_Lays_n137 ⟨firstS.toArray⟩ c w
set_option maxRecDepth 100000 in
set_option maxHeartbeats 1000000 in
theorem folk_Name (q : ByteArray) (w : World) (hq : q.size ≤ 9223372036854775807) : Calls Tryd.prog 43 #[.string q] w fun e w' => e = .returned (.bool (nameB q.data.toList)) ∧ Below w.heap.size w w' := by
  have hn := nameB_eq q.data.toList
  have hlen : q.data.toList.length = q.size := by show q.data.toList.length = q.data.size; exact Array.length_toList
  rw [hlen] at hn
  obtain ⟨nb, hnb⟩ : ∃ nb, nb = nameB q.data.toList := ⟨_, rfl⟩
  rw [← hnb] at hn ⊢
  have HN := hid hn
  have HT := hid (fun w => str_Trim q w hq)
  clear hn hnb
  by_cases h0 : q.toList.isEmpty = true
  · have : nb = false := by rw [HN.out, ← Lib.toList_data, h0]; rfl
    subst this
    go_enter Tryd.func43, Tryd.ntmps43
    go_wp2_with fail
    go_ret
    exact ⟨rfl, Below.refl _ _⟩
  have h0' : q.toList.isEmpty = false := by simpa using h0
  by_cases h1 : 16 < q.size
  · have h1' : ¬ (q.size : Int) ≤ 16 := by omega
    have : nb = false := by rw [HN.out]; simp; omega
    subst this
    go_enter Tryd.func43, Tryd.ntmps43
    go_wp2_with fail
    go_ret
    exact ⟨rfl, Below.refl _ _⟩
  have h1' : (q.size : Int) ≤ 16 := by omega
  have hpos : 0 < q.size := by
    rcases Nat.eq_zero_or_pos q.size with h | h
    · exfalso
      apply h0
      rw [Lib.toList_data]
      have : q.data.toList.length = 0 := by rw [hlen]; exact h
      rw [List.eq_nil_of_length_eq_zero this]; rfl
    · exact h
  obtain ⟨r, hr⟩ : ∃ r : ByteArray, r = ⟨(Lib.trimS q.data.toList lettersS).toArray⟩ := ⟨_, rfl⟩
  have hre : r.toList.isEmpty = (Lib.trimS q.data.toList lettersS).isEmpty := by rw [hr, Lib.toList_data]
  have HRE := hid hre
  have HR := hid hr
  clear hre hr h0 h1
  go_enter Tryd.func43, Tryd.ntmps43
  go_wp2_with fail
  refine (HT.out w).mono ?_
  rintro e w1 ⟨rfl, hb1⟩
  rw [← HR.out]
  have HB1 := hid hb1
  clear hb1
  cases h2 : r.toList.isEmpty
  · have hnb : nb = false := by rw [HN.out, ← HRE.out, h2]; simp
    subst hnb
    go_wp2_with fail
    go_ret
    exact ⟨rfl, HB1.out⟩
  · have hfin : nb = decide (0 ≤ Lib.indexByte firstS q[0]) := by
      have hg : q.data.toList.getD 0 0 = q[0] := by
        rw [List.getD_eq_getElem?_getD, Lib.data_getElem? q 0 hpos]; rfl
      rw [HN.out, ← HRE.out, h2, hg, ← Lib.toList_data, h0']
      have : decide (q.size ≤ 16) = true := by simp; omega
      rw [this]
      simp
    have HFIN := hid hfin
    clear hfin
    go_wp2_with fail
    refine (str_Index _ w1).mono ?_
    rintro e w2 ⟨rfl, rfl⟩
    go_wp2_with fail
    go_ret
    refine ⟨?_, HB1.out⟩
    rw [HFIN.out]
    rfl
end Go.Proofs.YtdoflhiogoefjaaDoor
end
section
/- Layings of the shelf's contracts at this dump (printed by the shelf's lay-plain). -/
namespace Go.Proofs
open Go.Shelf
def Tryd.lays_Lays_n189_ren : Go.Shelf.Ren := ⟨fun | 189 => 57 | 125 => 73 | 257 => 72 | 128 => 89 | 129 => 90 | 294 => 81 | 295 => 82 | 296 => 83 | 297 => 84 | 298 => 85 | 299 => 86 | 216 => 59 | 300 => 87 | 301 => 88 | 328 => 95 | 329 => 96 | 330 => 97 | 331 => 98 | 332 => 99 | 215 => 74 | 343 => 103 | n => n, fun | 28 => 41 | 3 => 3 | 46 => 99 | 0 => 0 | 51 => 124 | 53 => 126 | 4 => 4 | 183 => 118 | 182 => 117 | 131 => 90 | 5 => 5 | 9 => 9 | 218 => 128 | 222 => 132 | 228 => 140 | 229 => 141 | n => n, fun | n => n⟩
theorem Tryd.lays_Lays_n189 : Go.Proofs.Lays.n189 Tryd.prog Tryd.lays_Lays_n189_ren := {
  mixed := by kernel_rfl
  f125 := Tryd.func73.trans (congrArg some (by kernel_rfl))
  f128 := Tryd.func89.trans (congrArg some (by kernel_rfl))
  f129 := Tryd.func90.trans (congrArg some (by kernel_rfl))
  f189 := Tryd.func57.trans (congrArg some (by kernel_rfl))
  f215 := Tryd.func74.trans (congrArg some (by kernel_rfl))
  f216 := Tryd.func59.trans (congrArg some (by kernel_rfl))
  f257 := Tryd.func72.trans (congrArg some (by kernel_rfl))
  f294 := Tryd.func81.trans (congrArg some (by kernel_rfl))
  f295 := Tryd.func82.trans (congrArg some (by kernel_rfl))
  f296 := Tryd.func83.trans (congrArg some (by kernel_rfl))
  f297 := Tryd.func84.trans (congrArg some (by kernel_rfl))
  f298 := Tryd.func85.trans (congrArg some (by kernel_rfl))
  f299 := Tryd.func86.trans (congrArg some (by kernel_rfl))
  f300 := Tryd.func87.trans (congrArg some (by kernel_rfl))
  f301 := Tryd.func88.trans (congrArg some (by kernel_rfl))
  f328 := Tryd.func95.trans (congrArg some (by kernel_rfl))
  f329 := Tryd.func96.trans (congrArg some (by kernel_rfl))
  f330 := Tryd.func97.trans (congrArg some (by kernel_rfl))
  f331 := Tryd.func98.trans (congrArg some (by kernel_rfl))
  f332 := Tryd.func99.trans (congrArg some (by kernel_rfl))
  f343 := Tryd.func103.trans (congrArg some (by kernel_rfl))
  t0 := Tryd.underlying0
  a0 := Tryd.isAgg0
  z0 := Tryd.sizeOf0
  v0 := Tryd.zeroValue0
  t3 := Tryd.underlying3
  a3 := Tryd.isAgg3
  z3 := Tryd.sizeOf3
  v3 := Tryd.zeroValue3
  t4 := Tryd.underlying4
  a4 := Tryd.isAgg4
  z4 := Tryd.sizeOf4
  v4 := Tryd.zeroValue4
  t5 := Tryd.underlying5
  a5 := Tryd.isAgg5
  z5 := Tryd.sizeOf5
  v5 := Tryd.zeroValue5
  t9 := Tryd.underlying9
  a9 := Tryd.isAgg9
  z9 := Tryd.sizeOf9
  v9 := Tryd.zeroValue9
  t28 := Tryd.underlying41
  a28 := Tryd.isAgg41
  z28 := Tryd.sizeOf41
  v28 := Tryd.zeroValue41
  t46 := Tryd.underlying99
  a46 := Tryd.isAgg99
  z46 := Tryd.sizeOf99
  v46 := Tryd.zeroValue99
  t51 := Tryd.underlying124
  a51 := Tryd.isAgg124
  z51 := Tryd.sizeOf124
  v51 := Tryd.zeroValue124
  t53 := Tryd.underlying126
  a53 := Tryd.isAgg126
  z53 := Tryd.sizeOf126
  v53 := Tryd.zeroValue126
  t131 := Tryd.underlying90
  a131 := Tryd.isAgg90
  z131 := Tryd.sizeOf90
  v131 := Tryd.zeroValue90
  t182 := Tryd.underlying117
  a182 := Tryd.isAgg117
  z182 := Tryd.sizeOf117
  v182 := Tryd.zeroValue117
  t183 := Tryd.underlying118
  a183 := Tryd.isAgg118
  z183 := Tryd.sizeOf118
  v183 := Tryd.zeroValue118
  t218 := Tryd.underlying128
  a218 := Tryd.isAgg128
  z218 := Tryd.sizeOf128
  v218 := Tryd.zeroValue128
  t222 := Tryd.underlying132
  a222 := Tryd.isAgg132
  z222 := Tryd.sizeOf132
  v222 := Tryd.zeroValue132
  t228 := Tryd.underlying140
  a228 := Tryd.isAgg140
  z228 := Tryd.sizeOf140
  v228 := Tryd.zeroValue140
  t229 := Tryd.underlying141
  a229 := Tryd.isAgg141
  z229 := Tryd.sizeOf141
  v229 := Tryd.zeroValue141 }
def Tryd.lays_SlLaysZI_n6_48_ren : Go.Shelf.Ren := ⟨fun | 6 => 48 | 8 => 56 | 9 => 57 | 11 => 71 | 13 => 73 | 12 => 72 | 23 => 89 | 24 => 90 | 14 => 81 | 15 => 82 | 16 => 83 | 17 => 84 | 18 => 85 | 19 => 86 | 20 => 59 | 21 => 87 | 22 => 88 | 25 => 95 | 26 => 96 | 27 => 97 | 28 => 98 | 29 => 99 | 30 => 74 | 31 => 103 | n => n, fun | 26 => 3 | 28 => 88 | 24 => 41 | 0 => 0 | 3 => 3 | 37 => 99 | 48 => 124 | 50 => 126 | 4 => 4 | 40 => 118 | 39 => 117 | 45 => 90 | 5 => 5 | 9 => 9 | 51 => 128 | 55 => 132 | 57 => 140 | 58 => 141 | 33 => 98 | n => n, fun | n => n⟩
theorem Tryd.lays_SlLaysZI_n6_48 : Go.Proofs.SlLaysZI.n6 Tryd.prog Tryd.lays_SlLaysZI_n6_48_ren := {
  mixed := by kernel_rfl
  f6 := ⟨Tryd.f48.name, by decide, Tryd.func48.trans (congrArg some (by kernel_rfl))⟩
  f8 := ⟨Tryd.f56.name, by decide, Tryd.func56.trans (congrArg some (by kernel_rfl))⟩
  f11 := ⟨Tryd.f71.name, by decide, Tryd.func71.trans (congrArg some (by kernel_rfl))⟩
  t0 := Tryd.underlying0
  a0 := Tryd.isAgg0
  z0 := Tryd.sizeOf0
  v0 := Tryd.zeroValue0
  t24 := Tryd.underlying41
  a24 := Tryd.isAgg41
  z24 := Tryd.sizeOf41
  v24 := Tryd.zeroValue41
  t26 := Tryd.underlying3
  a26 := Tryd.isAgg3
  z26 := Tryd.sizeOf3
  v26 := Tryd.zeroValue3
  t28 := Tryd.underlying88
  a28 := Tryd.isAgg88
  z28 := Tryd.sizeOf88
  v28 := Tryd.zeroValue88
  i26 := by kernel_rfl }
def Tryd.lays_SlLaysZI_n7_49_ren : Go.Shelf.Ren := ⟨fun | 7 => 49 | 10 => 58 | n => n, fun | 23 => 68 | 26 => 3 | 3 => 48 | 28 => 88 | 0 => 0 | 27 => 87 | 33 => 98 | 4 => 4 | n => n, fun | n => n⟩
theorem Tryd.lays_SlLaysZI_n7_49 : Go.Proofs.SlLaysZI.n7 Tryd.prog Tryd.lays_SlLaysZI_n7_49_ren := {
  mixed := by kernel_rfl
  f7 := ⟨Tryd.f49.name, by decide, Tryd.func49.trans (congrArg some (by kernel_rfl))⟩
  f10 := ⟨Tryd.f58.name, by decide, Tryd.func58.trans (congrArg some (by kernel_rfl))⟩
  t0 := Tryd.underlying0
  a0 := Tryd.isAgg0
  z0 := Tryd.sizeOf0
  v0 := Tryd.zeroValue0
  t4 := Tryd.underlying4
  a4 := Tryd.isAgg4
  z4 := Tryd.sizeOf4
  v4 := Tryd.zeroValue4
  t23 := Tryd.underlying68
  a23 := Tryd.isAgg68
  z23 := Tryd.sizeOf68
  v23 := Tryd.zeroValue68
  t26 := Tryd.underlying3
  a26 := Tryd.isAgg3
  z26 := Tryd.sizeOf3
  v26 := Tryd.zeroValue3
  t27 := Tryd.underlying87
  a27 := Tryd.isAgg87
  z27 := Tryd.sizeOf87
  v27 := Tryd.zeroValue87
  t28 := Tryd.underlying88
  a28 := Tryd.isAgg88
  z28 := Tryd.sizeOf88
  v28 := Tryd.zeroValue88
  t33 := Tryd.underlying98
  a33 := Tryd.isAgg98
  z33 := Tryd.sizeOf98
  v33 := Tryd.zeroValue98 }
end Go.Proofs
end
section
/- slices.Sorted(maps.Keys(m)) at maps from integers, by the shelf's contracts. -/
namespace Go.Proofs.YtdoflhiogoefjaaDoor
open Go.RowKit Go.Maps Go.Sort Go.Shelf
open Go.Lib (hid)
set_option linter.unusedVariables false

/-- the number of a key -/
def vkeyI : Value → Int
  | .int _ a => a
  | _ => 0
/-- a map's keys, rising -/
def keysL {α : Type} (m : List (Int × α)) : List Int := (m.map (·.1)).mergeSort (fun x y => decide (x ≤ y))
theorem MapE.ownsMap {P : Program} {w : World} {b : Nat} {m : List (Int × Value)} {k : TypeId} (hk : P.underlying k = some (.int .i64)) (h : MapE w b m) (hwf : ∀ p ∈ m, (Lit.int .i64 p.1).wf = true) (hm : m.length ≤ 1000000) :
    ∃ D : DataW Unit, w.ownsMap P k (fun _ => some (.nil, [])) b m.length D ∧ Maps.size D = m.length ∧ (intKeys D).Perm (m.map (·.1)) := by
  obtain ⟨es, clock, hb, hst, he⟩ := h
  have hlen : es.size = m.length := by have := congrArg List.length he; simpa using this
  have hkey : ∀ x ∈ es.toList, ∃ a : Int, x.key = .int .i64 a ∧ (Lit.int .i64 a).wf = true := by
    intro x hx
    have : (x.key, x.val) ∈ m.map (fun p => (Value.int .i64 p.1, p.2)) := by rw [← he]; exact List.mem_map.2 ⟨x, hx, rfl⟩
    obtain ⟨p, hp, h⟩ := List.mem_map.1 this
    exact ⟨p.1, (Prod.mk.inj h).1.symm, hwf p hp⟩
  have hrd : ∀ x ∈ es.toList, ∃ a : Int, x.key = .int .i64 a ∧ Go.WideElems.rd (H := Unit) P k (fun _ => some (.nil, [])) x = some (.int .i64 a, .nil) := by
    intro x hx
    obtain ⟨a, e, ha⟩ := hkey x hx
    refine ⟨a, e, ?_⟩
    unfold Go.WideElems.rd
    rw [e, Maps.keyOf_int_mk hk ha]
    rfl
  refine ⟨_, ⟨es, clock, hb, ⟨by unfold maxLen; omega, hst, fun x hx => by obtain ⟨a, -, h⟩ := hrd x hx; exact ⟨_, h⟩⟩, by omega, rfl⟩, ?_, ?_⟩
  · show ((es.toList.map (Go.WideElems.rg P k _)).foldr DataW.insert []).length = m.length
    rw [length_sorted]; simpa using hlen
  · show (((es.toList.map (Go.WideElems.rg P k _)).foldr DataW.insert []).map fun p => Go.intOf p.1).Perm _
    refine ((Go.WideShapes.sorted_perm _).map _).trans ?_
    rw [List.map_map]
    have e1 : es.toList.map ((fun p : Lit × DataW Unit => Go.intOf p.1) ∘ Go.WideElems.rg P k (fun _ => some (.nil, []))) = es.toList.map (fun x => vkeyI x.key) := by
      apply List.map_congr_left
      intro x hx
      obtain ⟨a, e, h⟩ := hrd x hx
      simp only [Function.comp, Go.WideElems.rg_of h, e]
      rfl
    have e2 : m.map (·.1) = es.toList.map (fun x => vkeyI x.key) := by
      have := congrArg (List.map fun q : Value × Value => vkeyI q.1) he
      rw [List.map_map, List.map_map] at this
      exact this.symm
    rw [e1, e2]
theorem sortsI (m : Nat) : AnyZI.SortsIn Tryd.prog Tryd.lays_SlLaysZI_n6_48_ren Fence.wide m :=
  ⟨fun blk off cap ss W hH hblk hsz => callsIn_wide.2 (Any.slices_Sort_int Tryd.lays_Lays_n189 blk off cap ss W hH hblk hsz),
   fun p cap W => callsIn_wide.2 (Any.slices_Sort_int_none Tryd.lays_Lays_n189 p cap W)⟩
theorem keys_TT (mb : Option Nat) (W : World) : Calls Tryd.prog 49 #[.map mb] W fun e w' => e = .returned (.func (.func 58) #[] #[.pointer (some ⟨W.heap.size, 0, none⟩)]) ∧ w' = W.alloc (.cells #[.map mb] 68) :=
  (callsIn_wide (n := 5)).1 (AnyZI.keys_in Tryd.lays_SlLaysZI_n7_49 Fence.wide 5 trivial rfl mb W)
set_option maxHeartbeats 1000000 in
theorem sorted_TT (b : Nat) (m : List (Int × Value)) (w : World) (h : MapE w b m) (hwf : ∀ p ∈ m, (Lit.int .i64 p.1).wf = true) (hm : m.length ≤ 1000000) :
    Calls Tryd.prog 48 #[.func (.func 58) #[] #[.pointer (some ⟨w.heap.size, 0, none⟩)]] (w.alloc (.cells #[.map (some b)] 68)) fun e w' => ∃ v, e = .returned v ∧ w'.ownsRow (w.heap.size + 1) 3 1 v (keysL m).length ((keysL m).map (.int .i64)) ∧ Below w.heap.size w w' := by
  obtain ⟨D, hown, hsz, hperm⟩ := h.ownsMap (P := Tryd.prog) Tryd.underlying3 hwf hm
  have hseq : SeqGives Fence.wide 2 Tryd.prog 58 #[.pointer (some ⟨w.heap.size, 0, none⟩)] encZ (fun ss => ss.Perm (intKeys D)) (Maps.size D) (w.alloc (.cells #[.map (some b)] 68)) :=
    AnyZI.keys_gives (ρ := Tryd.lays_SlLaysZI_n7_49_ren) { Tryd.lays_SlLaysZI_n7_49 with } Fence.wide _ trivial rfl (by omega) w.heap.size b m.length D _ (by simp) (by simp) (by
      have hbl := hown.lt
      obtain ⟨es, clock, hb, Ft, hs, hD⟩ := hown
      exact ⟨es, clock, (Below.heap_alloc _ _ b hbl).trans hb, Ft, hs, hD⟩)
  have cS := AnyZI.sorted_in Tryd.lays_SlLaysZI_n6_48 Fence.wide 5 trivial trivial trivial trivial rfl (by omega) (sortsI _) (enters_of Tryd.func57 (by kernel_rfl) rfl) 58 #[.pointer (some ⟨w.heap.size, 0, none⟩)] trivial (enters_of Tryd.func58 (by kernel_rfl) rfl) _ _ (by rw [hsz]; unfold maxLen; omega) (by rw [hsz]; omega) _ hseq
  refine ((callsIn_wide (n := 5)).1 cS).mono ?_
  rintro e w' ⟨v, ss, rfl, hS, hrow, -, hb⟩
  have hk : ss.mergeSort (fun x y => decide (x ≤ y)) = keysL m := mergeSort_of_perm_i (hS.trans hperm)
  have hl : ss.length = (keysL m).length := by rw [← hk, List.length_mergeSort]
  rw [hk, hl] at hrow
  have hz : (w.alloc (.cells #[.map (some b)] 68)).heap.size = w.heap.size + 1 := by simp
  exact ⟨v, rfl, by rw [hz] at hrow; exact hrow, ((Below.refl _ w).alloc (Nat.le_refl _) _).trans (hb.mono (by rw [hz]; omega))⟩
end Go.Proofs.YtdoflhiogoefjaaDoor
end
