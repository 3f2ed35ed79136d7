/- Joined texts, in this order: LayKeys, Keys, ThingKey, ResCell, Pairs. Each one's first remark says what it proves; no condition beyond those that its theorems name. -/
import Derived.Shelf.SlGeneric
import Derived.Ground.NamesProg
import Derived.Shelf.Sort.Plain
import Derived.Shelf.Slices.In.SortNone
import Derived.Ground.GgzProg
import Derived.Shelf.SlIterI.Nil
import Derived.Test.YtdoflhiogoefjaaDoorProg
import Derived.Test.YtdoflhiogoefjaaDoorJLawThingFinds03
import Derived.Test.YtdoflhiogoefjaaDoorJLawThingFinds06
import Derived.Test.YtdoflhiogoefjaaDoorJLawThingFinds08
import Derived.Laws.StructEq
section
/- Layings of the shelf's contracts at this dump (printed by the shelf's lay-plain). -/
namespace Go.Proofs
open Go.Shelf
def Tryd.lays_Lays_n189_ren : Go.Shelf.Ren := ⟨fun | 189 => 57 | 125 => 73 | 257 => 72 | 128 => 89 | 129 => 90 | 294 => 81 | 295 => 82 | 296 => 83 | 297 => 84 | 298 => 85 | 299 => 86 | 216 => 59 | 300 => 87 | 301 => 88 | 328 => 95 | 329 => 96 | 330 => 97 | 331 => 98 | 332 => 99 | 215 => 74 | 343 => 103 | n => n, fun | 28 => 41 | 3 => 3 | 46 => 99 | 0 => 0 | 51 => 124 | 53 => 126 | 4 => 4 | 183 => 118 | 182 => 117 | 131 => 90 | 5 => 5 | 9 => 9 | 218 => 128 | 222 => 132 | 228 => 140 | 229 => 141 | n => n, fun | n => n⟩
theorem Tryd.lays_Lays_n189 : Go.Proofs.Lays.n189 Tryd.prog Tryd.lays_Lays_n189_ren := {
  mixed := by kernel_rfl
  f125 := Tryd.func73.trans (congrArg some (by kernel_rfl))
  f128 := Tryd.func89.trans (congrArg some (by kernel_rfl))
  f129 := Tryd.func90.trans (congrArg some (by kernel_rfl))
  f189 := Tryd.func57.trans (congrArg some (by kernel_rfl))
  f215 := Tryd.func74.trans (congrArg some (by kernel_rfl))
  f216 := Tryd.func59.trans (congrArg some (by kernel_rfl))
  f257 := Tryd.func72.trans (congrArg some (by kernel_rfl))
  f294 := Tryd.func81.trans (congrArg some (by kernel_rfl))
  f295 := Tryd.func82.trans (congrArg some (by kernel_rfl))
  f296 := Tryd.func83.trans (congrArg some (by kernel_rfl))
  f297 := Tryd.func84.trans (congrArg some (by kernel_rfl))
  f298 := Tryd.func85.trans (congrArg some (by kernel_rfl))
  f299 := Tryd.func86.trans (congrArg some (by kernel_rfl))
  f300 := Tryd.func87.trans (congrArg some (by kernel_rfl))
  f301 := Tryd.func88.trans (congrArg some (by kernel_rfl))
  f328 := Tryd.func95.trans (congrArg some (by kernel_rfl))
  f329 := Tryd.func96.trans (congrArg some (by kernel_rfl))
  f330 := Tryd.func97.trans (congrArg some (by kernel_rfl))
  f331 := Tryd.func98.trans (congrArg some (by kernel_rfl))
  f332 := Tryd.func99.trans (congrArg some (by kernel_rfl))
  f343 := Tryd.func103.trans (congrArg some (by kernel_rfl))
  t0 := Tryd.underlying0
  a0 := Tryd.isAgg0
  z0 := Tryd.sizeOf0
  v0 := Tryd.zeroValue0
  t3 := Tryd.underlying3
  a3 := Tryd.isAgg3
  z3 := Tryd.sizeOf3
  v3 := Tryd.zeroValue3
  t4 := Tryd.underlying4
  a4 := Tryd.isAgg4
  z4 := Tryd.sizeOf4
  v4 := Tryd.zeroValue4
  t5 := Tryd.underlying5
  a5 := Tryd.isAgg5
  z5 := Tryd.sizeOf5
  v5 := Tryd.zeroValue5
  t9 := Tryd.underlying9
  a9 := Tryd.isAgg9
  z9 := Tryd.sizeOf9
  v9 := Tryd.zeroValue9
  t28 := Tryd.underlying41
  a28 := Tryd.isAgg41
  z28 := Tryd.sizeOf41
  v28 := Tryd.zeroValue41
  t46 := Tryd.underlying99
  a46 := Tryd.isAgg99
  z46 := Tryd.sizeOf99
  v46 := Tryd.zeroValue99
  t51 := Tryd.underlying124
  a51 := Tryd.isAgg124
  z51 := Tryd.sizeOf124
  v51 := Tryd.zeroValue124
  t53 := Tryd.underlying126
  a53 := Tryd.isAgg126
  z53 := Tryd.sizeOf126
  v53 := Tryd.zeroValue126
  t131 := Tryd.underlying90
  a131 := Tryd.isAgg90
  z131 := Tryd.sizeOf90
  v131 := Tryd.zeroValue90
  t182 := Tryd.underlying117
  a182 := Tryd.isAgg117
  z182 := Tryd.sizeOf117
  v182 := Tryd.zeroValue117
  t183 := Tryd.underlying118
  a183 := Tryd.isAgg118
  z183 := Tryd.sizeOf118
  v183 := Tryd.zeroValue118
  t218 := Tryd.underlying128
  a218 := Tryd.isAgg128
  z218 := Tryd.sizeOf128
  v218 := Tryd.zeroValue128
  t222 := Tryd.underlying132
  a222 := Tryd.isAgg132
  z222 := Tryd.sizeOf132
  v222 := Tryd.zeroValue132
  t228 := Tryd.underlying140
  a228 := Tryd.isAgg140
  z228 := Tryd.sizeOf140
  v228 := Tryd.zeroValue140
  t229 := Tryd.underlying141
  a229 := Tryd.isAgg141
  z229 := Tryd.sizeOf141
  v229 := Tryd.zeroValue141 }
def Tryd.lays_SlLaysZI_n6_48_ren : Go.Shelf.Ren := ⟨fun | 6 => 48 | 8 => 56 | 9 => 57 | 11 => 71 | 13 => 73 | 12 => 72 | 23 => 89 | 24 => 90 | 14 => 81 | 15 => 82 | 16 => 83 | 17 => 84 | 18 => 85 | 19 => 86 | 20 => 59 | 21 => 87 | 22 => 88 | 25 => 95 | 26 => 96 | 27 => 97 | 28 => 98 | 29 => 99 | 30 => 74 | 31 => 103 | n => n, fun | 26 => 3 | 28 => 88 | 24 => 41 | 0 => 0 | 3 => 3 | 37 => 99 | 48 => 124 | 50 => 126 | 4 => 4 | 40 => 118 | 39 => 117 | 45 => 90 | 5 => 5 | 9 => 9 | 51 => 128 | 55 => 132 | 57 => 140 | 58 => 141 | 33 => 98 | n => n, fun | n => n⟩
theorem Tryd.lays_SlLaysZI_n6_48 : Go.Proofs.SlLaysZI.n6 Tryd.prog Tryd.lays_SlLaysZI_n6_48_ren := {
  mixed := by kernel_rfl
  f6 := ⟨Tryd.f48.name, by decide, Tryd.func48.trans (congrArg some (by kernel_rfl))⟩
  f8 := ⟨Tryd.f56.name, by decide, Tryd.func56.trans (congrArg some (by kernel_rfl))⟩
  f11 := ⟨Tryd.f71.name, by decide, Tryd.func71.trans (congrArg some (by kernel_rfl))⟩
  t0 := Tryd.underlying0
  a0 := Tryd.isAgg0
  z0 := Tryd.sizeOf0
  v0 := Tryd.zeroValue0
  t24 := Tryd.underlying41
  a24 := Tryd.isAgg41
  z24 := Tryd.sizeOf41
  v24 := Tryd.zeroValue41
  t26 := Tryd.underlying3
  a26 := Tryd.isAgg3
  z26 := Tryd.sizeOf3
  v26 := Tryd.zeroValue3
  t28 := Tryd.underlying88
  a28 := Tryd.isAgg88
  z28 := Tryd.sizeOf88
  v28 := Tryd.zeroValue88
  i26 := by kernel_rfl }
def Tryd.lays_SlLaysZI_n7_49_ren : Go.Shelf.Ren := ⟨fun | 7 => 49 | 10 => 58 | n => n, fun | 23 => 68 | 26 => 3 | 3 => 48 | 28 => 88 | 0 => 0 | 27 => 87 | 33 => 98 | 4 => 4 | n => n, fun | n => n⟩
theorem Tryd.lays_SlLaysZI_n7_49 : Go.Proofs.SlLaysZI.n7 Tryd.prog Tryd.lays_SlLaysZI_n7_49_ren := {
  mixed := by kernel_rfl
  f7 := ⟨Tryd.f49.name, by decide, Tryd.func49.trans (congrArg some (by kernel_rfl))⟩
  f10 := ⟨Tryd.f58.name, by decide, Tryd.func58.trans (congrArg some (by kernel_rfl))⟩
  t0 := Tryd.underlying0
  a0 := Tryd.isAgg0
  z0 := Tryd.sizeOf0
  v0 := Tryd.zeroValue0
  t4 := Tryd.underlying4
  a4 := Tryd.isAgg4
  z4 := Tryd.sizeOf4
  v4 := Tryd.zeroValue4
  t23 := Tryd.underlying68
  a23 := Tryd.isAgg68
  z23 := Tryd.sizeOf68
  v23 := Tryd.zeroValue68
  t26 := Tryd.underlying3
  a26 := Tryd.isAgg3
  z26 := Tryd.sizeOf3
  v26 := Tryd.zeroValue3
  t27 := Tryd.underlying87
  a27 := Tryd.isAgg87
  z27 := Tryd.sizeOf87
  v27 := Tryd.zeroValue87
  t28 := Tryd.underlying88
  a28 := Tryd.isAgg88
  z28 := Tryd.sizeOf88
  v28 := Tryd.zeroValue88
  t33 := Tryd.underlying98
  a33 := Tryd.isAgg98
  z33 := Tryd.sizeOf98
  v33 := Tryd.zeroValue98 }
end Go.Proofs
end
section
/- slices.Sorted(maps.Keys(m)) at maps from integers, by the shelf's contracts. -/
namespace Go.Proofs.YtdoflhiogoefjaaDoor
open Go.RowKit Go.Maps Go.Sort Go.Shelf
open Go.Lib (hid)
set_option linter.unusedVariables false

/-- the number of a key -/
def vkeyI : Value → Int
  | .int _ a => a
  | _ => 0
/-- a map's keys, rising -/
def keysL {α : Type} (m : List (Int × α)) : List Int := (m.map (·.1)).mergeSort (fun x y => decide (x ≤ y))
theorem MapE.ownsMap {P : Program} {w : World} {b : Nat} {m : List (Int × Value)} {k : TypeId} (hk : P.underlying k = some (.int .i64)) (h : MapE w b m) (hwf : ∀ p ∈ m, (Lit.int .i64 p.1).wf = true) (hm : m.length ≤ 1000000) :
    ∃ D : DataW Unit, w.ownsMap P k (fun _ => some (.nil, [])) b m.length D ∧ Maps.size D = m.length ∧ (intKeys D).Perm (m.map (·.1)) := by
  obtain ⟨es, clock, hb, hst, he⟩ := h
  have hlen : es.size = m.length := by have := congrArg List.length he; simpa using this
  have hkey : ∀ x ∈ es.toList, ∃ a : Int, x.key = .int .i64 a ∧ (Lit.int .i64 a).wf = true := by
    intro x hx
    have : (x.key, x.val) ∈ m.map (fun p => (Value.int .i64 p.1, p.2)) := by rw [← he]; exact List.mem_map.2 ⟨x, hx, rfl⟩
    obtain ⟨p, hp, h⟩ := List.mem_map.1 this
    exact ⟨p.1, (Prod.mk.inj h).1.symm, hwf p hp⟩
  have hrd : ∀ x ∈ es.toList, ∃ a : Int, x.key = .int .i64 a ∧ Go.WideElems.rd (H := Unit) P k (fun _ => some (.nil, [])) x = some (.int .i64 a, .nil) := by
    intro x hx
    obtain ⟨a, e, ha⟩ := hkey x hx
    refine ⟨a, e, ?_⟩
    unfold Go.WideElems.rd
    rw [e, Maps.keyOf_int_mk hk ha]
    rfl
  refine ⟨_, ⟨es, clock, hb, ⟨by unfold maxLen; omega, hst, fun x hx => by obtain ⟨a, -, h⟩ := hrd x hx; exact ⟨_, h⟩⟩, by omega, rfl⟩, ?_, ?_⟩
  · show ((es.toList.map (Go.WideElems.rg P k _)).foldr DataW.insert []).length = m.length
    rw [length_sorted]; simpa using hlen
  · show (((es.toList.map (Go.WideElems.rg P k _)).foldr DataW.insert []).map fun p => Go.intOf p.1).Perm _
    refine ((Go.WideShapes.sorted_perm _).map _).trans ?_
    rw [List.map_map]
    have e1 : es.toList.map ((fun p : Lit × DataW Unit => Go.intOf p.1) ∘ Go.WideElems.rg P k (fun _ => some (.nil, []))) = es.toList.map (fun x => vkeyI x.key) := by
      apply List.map_congr_left
      intro x hx
      obtain ⟨a, e, h⟩ := hrd x hx
      simp only [Function.comp, Go.WideElems.rg_of h, e]
      rfl
    have e2 : m.map (·.1) = es.toList.map (fun x => vkeyI x.key) := by
      have := congrArg (List.map fun q : Value × Value => vkeyI q.1) he
      rw [List.map_map, List.map_map] at this
      exact this.symm
    rw [e1, e2]
theorem sortsI (m : Nat) : AnyZI.SortsIn Tryd.prog Tryd.lays_SlLaysZI_n6_48_ren Fence.wide m :=
  ⟨fun blk off cap ss W hH hblk hsz => callsIn_wide.2 (Any.slices_Sort_int Tryd.lays_Lays_n189 blk off cap ss W hH hblk hsz),
   fun p cap W => callsIn_wide.2 (Any.slices_Sort_int_none Tryd.lays_Lays_n189 p cap W)⟩
theorem keys_TT (mb : Option Nat) (W : World) : Calls Tryd.prog 49 #[.map mb] W fun e w' => e = .returned (.func (.func 58) #[] #[.pointer (some ⟨W.heap.size, 0, none⟩)]) ∧ w' = W.alloc (.cells #[.map mb] 68) :=
  (callsIn_wide (n := 5)).1 (AnyZI.keys_in Tryd.lays_SlLaysZI_n7_49 Fence.wide 5 trivial rfl mb W)
set_option maxHeartbeats 1000000 in
theorem sorted_TT (b : Nat) (m : List (Int × Value)) (w : World) (h : MapE w b m) (hwf : ∀ p ∈ m, (Lit.int .i64 p.1).wf = true) (hm : m.length ≤ 1000000) :
    Calls Tryd.prog 48 #[.func (.func 58) #[] #[.pointer (some ⟨w.heap.size, 0, none⟩)]] (w.alloc (.cells #[.map (some b)] 68)) fun e w' => ∃ v, e = .returned v ∧ w'.ownsRow (w.heap.size + 1) 3 1 v (keysL m).length ((keysL m).map (.int .i64)) ∧ Below w.heap.size w w' := by
  obtain ⟨D, hown, hsz, hperm⟩ := h.ownsMap (P := Tryd.prog) Tryd.underlying3 hwf hm
  have hseq : SeqGives Fence.wide 2 Tryd.prog 58 #[.pointer (some ⟨w.heap.size, 0, none⟩)] encZ (fun ss => ss.Perm (intKeys D)) (Maps.size D) (w.alloc (.cells #[.map (some b)] 68)) :=
    AnyZI.keys_gives (ρ := Tryd.lays_SlLaysZI_n7_49_ren) { Tryd.lays_SlLaysZI_n7_49 with } Fence.wide _ trivial rfl (by omega) w.heap.size b m.length D _ (by simp) (by simp) (by
      have hbl := hown.lt
      obtain ⟨es, clock, hb, Ft, hs, hD⟩ := hown
      exact ⟨es, clock, (Below.heap_alloc _ _ b hbl).trans hb, Ft, hs, hD⟩)
  have cS := AnyZI.sorted_in Tryd.lays_SlLaysZI_n6_48 Fence.wide 5 trivial trivial trivial trivial rfl (by omega) (sortsI _) (enters_of Tryd.func57 (by kernel_rfl) rfl) 58 #[.pointer (some ⟨w.heap.size, 0, none⟩)] trivial (enters_of Tryd.func58 (by kernel_rfl) rfl) _ _ (by rw [hsz]; unfold maxLen; omega) (by rw [hsz]; omega) _ hseq
  refine ((callsIn_wide (n := 5)).1 cS).mono ?_
  rintro e w' ⟨v, ss, rfl, hS, hrow, -, hb⟩
  have hk : ss.mergeSort (fun x y => decide (x ≤ y)) = keysL m := mergeSort_of_perm_i (hS.trans hperm)
  have hl : ss.length = (keysL m).length := by rw [← hk, List.length_mergeSort]
  rw [hk, hl] at hrow
  have hz : (w.alloc (.cells #[.map (some b)] 68)).heap.size = w.heap.size + 1 := by simp
  exact ⟨v, rfl, by rw [hz] at hrow; exact hrow, ((Below.refl _ w).alloc (Nat.le_refl _) _).trans (hb.mono (by rw [hz]; omega))⟩
end Go.Proofs.YtdoflhiogoefjaaDoor
end
section
/- Places as keys of maps; equality of structs of things. -/
namespace Go.Proofs.YtdoflhiogoefjaaDoor
open Go.RowKit
open Go.Lib (hid)
set_option linter.unusedVariables false

theorem placeKey : MP.KeyP Tryd.prog 23 where
  und := ⟨_, Tryd.underlying23⟩
  chk := fun e k w => by
    obtain ⟨a, b, c⟩ := k
    kernel_rfl
  eql := fun x y w => by
    have u3 := Tryd.underlying3
    have hS : Tryd.prog.underlying 23 = some (.struct (Tryd.prog.fieldsOf 23)) := by kernel_rfl
    have hp : Tryd.prog.stoodInHeld 23 = false := by kernel_rfl
    have h0 : (Op.equal 23 (MP.encP x) (MP.encP y)).run Tryd.prog w = (Op.equalIn (9999 + 1) 23 (MP.encP x) (MP.encP y)).run Tryd.prog w := rfl
    rw [h0]
    simp only [MP.encP]
    rw [run_equalIn_agg w 9999 23 _ _ hS hp]
    simp only [Program.fieldsOf, Tryd.underlying23]
    obtain ⟨x1, x2, x3⟩ := x
    obtain ⟨y1, y2, y3⟩ := y
    go_simp
    by_cases h1 : x1 = y1 <;> by_cases h2 : x2 = y2 <;> by_cases h3 : x3 = y3 <;> simp [h1, h2, h3]
end Go.Proofs.YtdoflhiogoefjaaDoor
end
section
/- Results in memory cells; blocks of seven and of nine cells. -/
namespace Go.Proofs.YtdoflhiogoefjaaDoor
open Go.RowKit
open Go.Lib (hid)
set_option linter.unusedVariables false

theorem res_cell1 {fn : Func} {a : Tmp} {t : TypeId} (h : fn.results = #[.cell a t]) (tmps : Array Value) (P : Program) (w : World) {x : Addr} {v : Value} (ha : tmps.getD a undef = .pointer (some x)) (hl : (loadVar t x).run P w = .ok v w) : (results fn tmps).run P w = .ok v w := by
  have ha' : tmps[a]?.getD undef = .pointer (some x) := by rw [← ha]; simp
  simp [results, h, ha', asAddr, hl, Result.andThen]
theorem res_cell_tmp {fn : Func} {a u : Tmp} {t : TypeId} (h : fn.results = #[.cell a t, .tmp u]) (tmps : Array Value) (P : Program) (w : World) {x : Addr} {v : Value} (ha : tmps.getD a undef = .pointer (some x)) (hl : (loadVar t x).run P w = .ok v w) : (results fn tmps).run P w = .ok (.tuple #[v, tmps.getD u undef]) w := by
  have ha' : tmps[a]?.getD undef = .pointer (some x) := by rw [← ha]; simp
  simp [results, h, ha', asAddr, hl, Result.andThen]
section
variable {w : World} {g : Nat} {c0 c1 c2 c3 c4 c5 c6 c7 c8 : Value}
theorem Blk.cells7 (h : Blk w g #[c0, c1, c2, c3, c4, c5, c6]) : w.cell? ⟨g, 0, none⟩ = some c0 ∧ w.cell? ⟨g, 1, none⟩ = some c1 ∧ w.cell? ⟨g, 2, none⟩ = some c2 ∧ w.cell? ⟨g, 3, none⟩ = some c3 ∧ w.cell? ⟨g, 4, none⟩ = some c4 ∧ w.cell? ⟨g, 5, none⟩ = some c5 ∧ w.cell? ⟨g, 6, none⟩ = some c6 :=
  ⟨by rw [h.cell]; rfl, by rw [h.cell]; rfl, by rw [h.cell]; rfl, by rw [h.cell]; rfl, by rw [h.cell]; rfl, by rw [h.cell]; rfl, by rw [h.cell]; rfl⟩
theorem Blk.cells9 (h : Blk w g #[c0, c1, c2, c3, c4, c5, c6, c7, c8]) : w.cell? ⟨g, 0, none⟩ = some c0 ∧ w.cell? ⟨g, 1, none⟩ = some c1 ∧ w.cell? ⟨g, 2, none⟩ = some c2 ∧ w.cell? ⟨g, 3, none⟩ = some c3 ∧ w.cell? ⟨g, 4, none⟩ = some c4 ∧ w.cell? ⟨g, 5, none⟩ = some c5 ∧ w.cell? ⟨g, 6, none⟩ = some c6 ∧ w.cell? ⟨g, 7, none⟩ = some c7 ∧ w.cell? ⟨g, 8, none⟩ = some c8 :=
  ⟨by rw [h.cell]; rfl, by rw [h.cell]; rfl, by rw [h.cell]; rfl, by rw [h.cell]; rfl, by rw [h.cell]; rfl, by rw [h.cell]; rfl, by rw [h.cell]; rfl, by rw [h.cell]; rfl, by rw [h.cell]; rfl⟩
theorem Blk.free7 {cs : Array Value} (h : Blk w g cs) : w.frozen? ⟨g, 0, none⟩ = false ∧ w.frozen? ⟨g, 1, none⟩ = false ∧ w.frozen? ⟨g, 2, none⟩ = false ∧ w.frozen? ⟨g, 3, none⟩ = false ∧ w.frozen? ⟨g, 4, none⟩ = false ∧ w.frozen? ⟨g, 5, none⟩ = false ∧ w.frozen? ⟨g, 6, none⟩ = false :=
  ⟨h.unfrozen _, h.unfrozen _, h.unfrozen _, h.unfrozen _, h.unfrozen _, h.unfrozen _, h.unfrozen _⟩
theorem Blk.free9 {cs : Array Value} (h : Blk w g cs) : w.frozen? ⟨g, 0, none⟩ = false ∧ w.frozen? ⟨g, 1, none⟩ = false ∧ w.frozen? ⟨g, 2, none⟩ = false ∧ w.frozen? ⟨g, 3, none⟩ = false ∧ w.frozen? ⟨g, 4, none⟩ = false ∧ w.frozen? ⟨g, 5, none⟩ = false ∧ w.frozen? ⟨g, 6, none⟩ = false ∧ w.frozen? ⟨g, 7, none⟩ = false ∧ w.frozen? ⟨g, 8, none⟩ = false :=
  ⟨h.unfrozen _, h.unfrozen _, h.unfrozen _, h.unfrozen _, h.unfrozen _, h.unfrozen _, h.unfrozen _, h.unfrozen _, h.unfrozen _⟩
theorem Upd.set2 {S : Nat → Prop} {x y : World} {g : Nat} (h : Upd S x y) (hg : S g) (i : Nat) (u : Value) : Upd S x (y.setCell ⟨g, i, none⟩ u) := h.trans (Upd.setCell y g i u) (fun k _ q => by rw [q]; exact hg)
theorem Blk.all7 (h : Blk w g #[c0, c1, c2, c3, c4, c5, c6]) (u0 u1 u2 u3 u4 u5 u6 : Value) : ∃ wz, wz = ((((((w.setCell ⟨g, 0, none⟩ u0).setCell ⟨g, 1, none⟩ u1).setCell ⟨g, 2, none⟩ u2).setCell ⟨g, 3, none⟩ u3).setCell ⟨g, 4, none⟩ u4).setCell ⟨g, 5, none⟩ u5).setCell ⟨g, 6, none⟩ u6 ∧ Blk wz g #[u0, u1, u2, u3, u4, u5, u6] ∧ Upd (fun k => k = g) w wz :=
  ⟨_, rfl, by simpa using ((((((h.set 0 u0).set 1 u1).set 2 u2).set 3 u3).set 4 u4).set 5 u5).set 6 u6, ((((((Upd.setCell w g 0 u0).set2 rfl 1 u1).set2 rfl 2 u2).set2 rfl 3 u3).set2 rfl 4 u4).set2 rfl 5 u5).set2 rfl 6 u6⟩
theorem Blk.all9 (h : Blk w g #[c0, c1, c2, c3, c4, c5, c6, c7, c8]) (u0 u1 u2 u3 u4 u5 u6 u7 u8 : Value) : ∃ wz, wz = ((((((((w.setCell ⟨g, 0, none⟩ u0).setCell ⟨g, 1, none⟩ u1).setCell ⟨g, 2, none⟩ u2).setCell ⟨g, 3, none⟩ u3).setCell ⟨g, 4, none⟩ u4).setCell ⟨g, 5, none⟩ u5).setCell ⟨g, 6, none⟩ u6).setCell ⟨g, 7, none⟩ u7).setCell ⟨g, 8, none⟩ u8 ∧ Blk wz g #[u0, u1, u2, u3, u4, u5, u6, u7, u8] ∧ Upd (fun k => k = g) w wz :=
  ⟨_, rfl, by simpa using ((((((((h.set 0 u0).set 1 u1).set 2 u2).set 3 u3).set 4 u4).set 5 u5).set 6 u6).set 7 u7).set 8 u8, ((((((((Upd.setCell w g 0 u0).set2 rfl 1 u1).set2 rfl 2 u2).set2 rfl 3 u3).set2 rfl 4 u4).set2 rfl 5 u5).set2 rfl 6 u6).set2 rfl 7 u7).set2 rfl 8 u8⟩
end
end Go.Proofs.YtdoflhiogoefjaaDoor
end
section
/- Slices of structs of two numbers. No program in sight. -/
namespace Go.Proofs.YtdoflhiogoefjaaDoor
open Go.RowKit
open Go.Lib (hid)
set_option linter.unusedVariables false

/-- the cells of a list of pairs -/
def pv (X : List (Int × Int)) : List Value := X.flatMap fun p => [Value.int .i64 p.1, .int .i64 p.2]
theorem pv_length (X : List (Int × Int)) : (pv X).length = X.length * 2 := by
  unfold pv
  induction X with
  | nil => rfl
  | cons p X ih => rw [List.flatMap_cons, List.length_append, ih]; simp; omega
theorem pv_append (X Y : List (Int × Int)) : pv (X ++ Y) = pv X ++ pv Y := by unfold pv; rw [List.flatMap_append]
theorem pv_one (p : Int × Int) : pv [p] = [.int .i64 p.1, .int .i64 p.2] := rfl
theorem pv_oneCell (X : List (Int × Int)) : ∀ u ∈ pv X, u.oneCell' = true := by
  intro u hu
  unfold pv at hu
  obtain ⟨p, -, hp⟩ := List.mem_flatMap.1 hu
  simp at hp
  rcases hp with rfl | rfl <;> rfl
theorem pv_at : ∀ (X : List (Int × Int)) (i : Nat) (p : Int × Int), X[i]? = some p → (pv X)[i * 2]? = some (.int .i64 p.1) ∧ (pv X)[i * 2 + 1]? = some (.int .i64 p.2)
  | [], i, p, h => by simp at h
  | q :: X, 0, p, h => by simp at h; subst h; exact ⟨rfl, rfl⟩
  | q :: X, i + 1, p, h => by
    simp at h
    have := pv_at X i p h
    have e : pv (q :: X) = .int .i64 q.1 :: .int .i64 q.2 :: pv X := rfl
    rw [e, show (i + 1) * 2 = i * 2 + 1 + 1 by omega]
    simpa using this
theorem pv_set2 : ∀ (X : List (Int × Int)) (j : Nat) (h x y : Int), X[j]? = some (h, x) → pv (X.set j (h, y)) = (pv X).set (j * 2 + 1) (.int .i64 y)
  | [], j, h, x, y, e => by simp at e
  | q :: X, 0, h, x, y, e => by simp at e; subst e; rfl
  | q :: X, j + 1, h, x, y, e => by
    simp at e
    have ih := pv_set2 X j h x y e
    have e1 : ∀ X : List (Int × Int), pv (q :: X) = .int .i64 q.1 :: .int .i64 q.2 :: pv X := fun _ => rfl
    rw [List.set_cons_succ, e1, e1, ih, show (j + 1) * 2 + 1 = (j * 2 + 1) + 1 + 1 by omega, List.set_cons_succ, List.set_cons_succ]
theorem Rd.pair {w : World} {a : Option Addr} {X : List (Int × Int)} (h : Rd w a (pv X)) (i : Nat) (hi : i < X.length) :
    ∃ b off x y, a = some ⟨b, off, none⟩ ∧ w.cell? ⟨b, off + i * 2, none⟩ = some (.int .i64 x) ∧ w.cell? ⟨b, off + i * 2 + 1, none⟩ = some (.int .i64 y) ∧ X[i]? = some (x, y) ∧ X.drop i = (x, y) :: X.drop (i + 1) ∧ X.take (i + 1) = X.take i ++ [(x, y)] := by
  have hx : X[i]? = some X[i] := List.getElem?_eq_getElem hi
  obtain ⟨h1, h2⟩ := pv_at X i _ hx
  obtain ⟨b, off, ha, hc⟩ := h (i * 2) (by rw [pv_length]; omega)
  obtain ⟨b', off', ha', hc'⟩ := h (i * 2 + 1) (by rw [pv_length]; omega)
  rw [ha] at ha'
  simp at ha'
  obtain ⟨rfl, rfl⟩ := ha'
  exact ⟨b, off, X[i].1, X[i].2, ha, by rw [hc, h1], by rw [Nat.add_assoc, hc', h2], hx, List.drop_eq_getElem_cons hi, by rw [List.take_succ_eq_append_getElem hi]⟩
/-- the slice reads as the list of pairs -/
def SlP (w : World) (v : Value) (X : List (Int × Int)) : Prop := ∃ a cap, v = .slice a X.length cap ∧ Rd w a (pv X) ∧ X.length ≤ cap ∧ cap ≤ 9223372036854775807 ∧ (a = none → cap = 0)
theorem SlP.nil (w : World) : SlP w (.slice none 0 0) [] := ⟨none, 0, rfl, Rd.nil _ _, by simp, by omega, fun _ => rfl⟩
theorem SlP.below {w w' : World} {v : Value} {X : List (Int × Int)} (h : SlP w v X) (hb : Below w.heap.size w w') : SlP w' v X := by
  obtain ⟨a, c, rfl, h2, h3⟩ := h
  exact ⟨a, c, rfl, h2.below' hb, h3⟩
theorem SlP.upd {S : Nat → Prop} {w w' : World} {v : Value} {X : List (Int × Int)} (h : SlP w v X) (hu : Upd S w w') (hn : ∀ k, v.ownBlock = some k → ¬ S k) : SlP w' v X := by
  obtain ⟨a, c, rfl, h2, h3⟩ := h
  exact ⟨a, c, rfl, hu.rd h2 (fun b off e => hn _ (by rw [e]; rfl)), h3⟩
theorem SlP.of_own {w : World} {base : Nat} {e : TypeId} {v : Value} {X : List (Int × Int)} (h : w.ownsRow base e 2 v X.length (pv X)) : SlP w v X := by
  obtain ⟨a, cap, rfl, h1, h2, hr, h3⟩ := ownsRow.rd h
  exact ⟨a, cap, rfl, hr, h1, by unfold maxLen at h2; omega, h3⟩
end Go.Proofs.YtdoflhiogoefjaaDoor
end
