/- Joined texts, in this order: LayKeys, Keys, DiskCached. Each one's first remark says what it proves; no condition beyond those that its theorems name. -/
import Derived.Shelf.SlGeneric
import Derived.Ground.NamesProg
import Derived.Shelf.Sort.Plain
import Derived.Shelf.Slices.In.SortNone
import Derived.Ground.GgzProg
import Derived.Shelf.SlIterI.Nil
import Derived.Test.YtohknblokejldaaProg
import Derived.Test.YtohknblokejldaaJLawDiskCopies02
import Derived.Test.YtohknblokejldaaJLawDiskCopies08
section
/- Layings of the shelf's contracts at this dump (printed by the shelf's lay-plain). -/
namespace Go.Proofs
open Go.Shelf
def Try.lays_Lays_n189_ren : Go.Shelf.Ren := ⟨fun | 189 => 108 | 125 => 117 | 257 => 116 | 128 => 127 | 129 => 128 | 294 => 118 | 295 => 119 | 296 => 120 | 297 => 121 | 298 => 122 | 299 => 123 | 216 => 124 | 300 => 125 | 301 => 126 | 328 => 129 | 329 => 130 | 330 => 131 | 331 => 132 | 332 => 133 | 215 => 134 | 343 => 135 | n => n, fun | 28 => 22 | 3 => 3 | 46 => 145 | 0 => 0 | 51 => 108 | 53 => 149 | 4 => 4 | 183 => 170 | 182 => 169 | 131 => 175 | 5 => 5 | 9 => 9 | 218 => 178 | 222 => 182 | 228 => 184 | 229 => 185 | n => n, fun | n => n⟩
theorem Try.lays_Lays_n189 : Go.Proofs.Lays.n189 Try.prog Try.lays_Lays_n189_ren := {
  mixed := by kernel_rfl
  f125 := Try.func117.trans (congrArg some (by kernel_rfl))
  f128 := Try.func127.trans (congrArg some (by kernel_rfl))
  f129 := Try.func128.trans (congrArg some (by kernel_rfl))
  f189 := Try.func108.trans (congrArg some (by kernel_rfl))
  f215 := Try.func134.trans (congrArg some (by kernel_rfl))
  f216 := Try.func124.trans (congrArg some (by kernel_rfl))
  f257 := Try.func116.trans (congrArg some (by kernel_rfl))
  f294 := Try.func118.trans (congrArg some (by kernel_rfl))
  f295 := Try.func119.trans (congrArg some (by kernel_rfl))
  f296 := Try.func120.trans (congrArg some (by kernel_rfl))
  f297 := Try.func121.trans (congrArg some (by kernel_rfl))
  f298 := Try.func122.trans (congrArg some (by kernel_rfl))
  f299 := Try.func123.trans (congrArg some (by kernel_rfl))
  f300 := Try.func125.trans (congrArg some (by kernel_rfl))
  f301 := Try.func126.trans (congrArg some (by kernel_rfl))
  f328 := Try.func129.trans (congrArg some (by kernel_rfl))
  f329 := Try.func130.trans (congrArg some (by kernel_rfl))
  f330 := Try.func131.trans (congrArg some (by kernel_rfl))
  f331 := Try.func132.trans (congrArg some (by kernel_rfl))
  f332 := Try.func133.trans (congrArg some (by kernel_rfl))
  f343 := Try.func135.trans (congrArg some (by kernel_rfl))
  t0 := Try.underlying0
  a0 := Try.isAgg0
  z0 := Try.sizeOf0
  v0 := Try.zeroValue0
  t3 := Try.underlying3
  a3 := Try.isAgg3
  z3 := Try.sizeOf3
  v3 := Try.zeroValue3
  t4 := Try.underlying4
  a4 := Try.isAgg4
  z4 := Try.sizeOf4
  v4 := Try.zeroValue4
  t5 := Try.underlying5
  a5 := Try.isAgg5
  z5 := Try.sizeOf5
  v5 := Try.zeroValue5
  t9 := Try.underlying9
  a9 := Try.isAgg9
  z9 := Try.sizeOf9
  v9 := Try.zeroValue9
  t28 := Try.underlying22
  a28 := Try.isAgg22
  z28 := Try.sizeOf22
  v28 := Try.zeroValue22
  t46 := Try.underlying145
  a46 := Try.isAgg145
  z46 := Try.sizeOf145
  v46 := Try.zeroValue145
  t51 := Try.underlying108
  a51 := Try.isAgg108
  z51 := Try.sizeOf108
  v51 := Try.zeroValue108
  t53 := Try.underlying149
  a53 := Try.isAgg149
  z53 := Try.sizeOf149
  v53 := Try.zeroValue149
  t131 := Try.underlying175
  a131 := Try.isAgg175
  z131 := Try.sizeOf175
  v131 := Try.zeroValue175
  t182 := Try.underlying169
  a182 := Try.isAgg169
  z182 := Try.sizeOf169
  v182 := Try.zeroValue169
  t183 := Try.underlying170
  a183 := Try.isAgg170
  z183 := Try.sizeOf170
  v183 := Try.zeroValue170
  t218 := Try.underlying178
  a218 := Try.isAgg178
  z218 := Try.sizeOf178
  v218 := Try.zeroValue178
  t222 := Try.underlying182
  a222 := Try.isAgg182
  z222 := Try.sizeOf182
  v222 := Try.zeroValue182
  t228 := Try.underlying184
  a228 := Try.isAgg184
  z228 := Try.sizeOf184
  v228 := Try.zeroValue184
  t229 := Try.underlying185
  a229 := Try.isAgg185
  z229 := Try.sizeOf185
  v229 := Try.zeroValue185 }
def Try.lays_SlLaysZI_n6_80_ren : Go.Shelf.Ren := ⟨fun | 6 => 80 | 8 => 107 | 9 => 108 | 11 => 115 | 13 => 117 | 12 => 116 | 23 => 127 | 24 => 128 | 14 => 118 | 15 => 119 | 16 => 120 | 17 => 121 | 18 => 122 | 19 => 123 | 20 => 124 | 21 => 125 | 22 => 126 | 25 => 129 | 26 => 130 | 27 => 131 | 28 => 132 | 29 => 133 | 30 => 134 | 31 => 135 | n => n, fun | 26 => 3 | 28 => 135 | 24 => 22 | 0 => 0 | 3 => 3 | 37 => 145 | 48 => 108 | 50 => 149 | 4 => 4 | 40 => 170 | 39 => 169 | 45 => 175 | 5 => 5 | 9 => 9 | 51 => 178 | 55 => 182 | 57 => 184 | 58 => 185 | 33 => 69 | n => n, fun | n => n⟩
theorem Try.lays_SlLaysZI_n6_80 : Go.Proofs.SlLaysZI.n6 Try.prog Try.lays_SlLaysZI_n6_80_ren := {
  mixed := by kernel_rfl
  f6 := ⟨Try.f80.name, by decide, Try.func80.trans (congrArg some (by kernel_rfl))⟩
  f8 := ⟨Try.f107.name, by decide, Try.func107.trans (congrArg some (by kernel_rfl))⟩
  f11 := ⟨Try.f115.name, by decide, Try.func115.trans (congrArg some (by kernel_rfl))⟩
  t0 := Try.underlying0
  a0 := Try.isAgg0
  z0 := Try.sizeOf0
  v0 := Try.zeroValue0
  t24 := Try.underlying22
  a24 := Try.isAgg22
  z24 := Try.sizeOf22
  v24 := Try.zeroValue22
  t26 := Try.underlying3
  a26 := Try.isAgg3
  z26 := Try.sizeOf3
  v26 := Try.zeroValue3
  t28 := Try.underlying135
  a28 := Try.isAgg135
  z28 := Try.sizeOf135
  v28 := Try.zeroValue135
  i26 := by kernel_rfl }
def Try.lays_SlLaysZI_n7_81_ren : Go.Shelf.Ren := ⟨fun | 7 => 81 | 10 => 109 | n => n, fun | 23 => 123 | 26 => 3 | 3 => 22 | 28 => 135 | 0 => 0 | 27 => 134 | 33 => 69 | 4 => 4 | n => n, fun | n => n⟩
theorem Try.lays_SlLaysZI_n7_81 : Go.Proofs.SlLaysZI.n7 Try.prog Try.lays_SlLaysZI_n7_81_ren := {
  mixed := by kernel_rfl
  f7 := ⟨Try.f81.name, by decide, Try.func81.trans (congrArg some (by kernel_rfl))⟩
  f10 := ⟨Try.f109.name, by decide, Try.func109.trans (congrArg some (by kernel_rfl))⟩
  t0 := Try.underlying0
  a0 := Try.isAgg0
  z0 := Try.sizeOf0
  v0 := Try.zeroValue0
  t4 := Try.underlying4
  a4 := Try.isAgg4
  z4 := Try.sizeOf4
  v4 := Try.zeroValue4
  t23 := Try.underlying123
  a23 := Try.isAgg123
  z23 := Try.sizeOf123
  v23 := Try.zeroValue123
  t26 := Try.underlying3
  a26 := Try.isAgg3
  z26 := Try.sizeOf3
  v26 := Try.zeroValue3
  t27 := Try.underlying134
  a27 := Try.isAgg134
  z27 := Try.sizeOf134
  v27 := Try.zeroValue134
  t28 := Try.underlying135
  a28 := Try.isAgg135
  z28 := Try.sizeOf135
  v28 := Try.zeroValue135
  t33 := Try.underlying69
  a33 := Try.isAgg69
  z33 := Try.sizeOf69
  v33 := Try.zeroValue69 }
def Try.lays_SlLaysZI_n7_85_ren : Go.Shelf.Ren := ⟨fun | 7 => 85 | 10 => 110 | n => n, fun | 23 => 115 | 26 => 3 | 3 => 27 | 28 => 135 | 0 => 0 | 27 => 134 | 33 => 69 | 4 => 4 | n => n, fun | n => n⟩
theorem Try.lays_SlLaysZI_n7_85 : Go.Proofs.SlLaysZI.n7 Try.prog Try.lays_SlLaysZI_n7_85_ren := {
  mixed := by kernel_rfl
  f7 := ⟨Try.f85.name, by decide, Try.func85.trans (congrArg some (by kernel_rfl))⟩
  f10 := ⟨Try.f110.name, by decide, Try.func110.trans (congrArg some (by kernel_rfl))⟩
  t0 := Try.underlying0
  a0 := Try.isAgg0
  z0 := Try.sizeOf0
  v0 := Try.zeroValue0
  t4 := Try.underlying4
  a4 := Try.isAgg4
  z4 := Try.sizeOf4
  v4 := Try.zeroValue4
  t23 := Try.underlying115
  a23 := Try.isAgg115
  z23 := Try.sizeOf115
  v23 := Try.zeroValue115
  t26 := Try.underlying3
  a26 := Try.isAgg3
  z26 := Try.sizeOf3
  v26 := Try.zeroValue3
  t27 := Try.underlying134
  a27 := Try.isAgg134
  z27 := Try.sizeOf134
  v27 := Try.zeroValue134
  t28 := Try.underlying135
  a28 := Try.isAgg135
  z28 := Try.sizeOf135
  v28 := Try.zeroValue135
  t33 := Try.underlying69
  a33 := Try.isAgg69
  z33 := Try.sizeOf69
  v33 := Try.zeroValue69 }
end Go.Proofs
end
section
/- slices.Sorted(maps.Keys(m)) at maps from integers, by the shelf's contracts. -/
namespace Go.Proofs.Ytohknblokejldaa
open Go.RowKit Go.Maps Go.Sort Go.Shelf
open Go.Lib (hid)
set_option linter.unusedVariables false

/-- the number of a key -/
def vkeyI : Value → Int
  | .int _ a => a
  | _ => 0
/-- a map's keys, rising -/
def keysL {α : Type} (m : List (Int × α)) : List Int := (m.map (·.1)).mergeSort (fun x y => decide (x ≤ y))
theorem MapE.ownsMap {P : Program} {w : World} {b : Nat} {m : List (Int × Value)} {k : TypeId} (hk : P.underlying k = some (.int .i64)) (h : MapE w b m) (hwf : ∀ p ∈ m, (Lit.int .i64 p.1).wf = true) (hm : m.length ≤ 1000000) :
    ∃ D : DataW Unit, w.ownsMap P k (fun _ => some (.nil, [])) b m.length D ∧ Maps.size D = m.length ∧ (intKeys D).Perm (m.map (·.1)) := by
  obtain ⟨es, clock, hb, hst, he⟩ := h
  have hlen : es.size = m.length := by have := congrArg List.length he; simpa using this
  have hkey : ∀ x ∈ es.toList, ∃ a : Int, x.key = .int .i64 a ∧ (Lit.int .i64 a).wf = true := by
    intro x hx
    have : (x.key, x.val) ∈ m.map (fun p => (Value.int .i64 p.1, p.2)) := by rw [← he]; exact List.mem_map.2 ⟨x, hx, rfl⟩
    obtain ⟨p, hp, h⟩ := List.mem_map.1 this
    exact ⟨p.1, (Prod.mk.inj h).1.symm, hwf p hp⟩
  have hrd : ∀ x ∈ es.toList, ∃ a : Int, x.key = .int .i64 a ∧ Go.WideElems.rd (H := Unit) P k (fun _ => some (.nil, [])) x = some (.int .i64 a, .nil) := by
    intro x hx
    obtain ⟨a, e, ha⟩ := hkey x hx
    refine ⟨a, e, ?_⟩
    unfold Go.WideElems.rd
    rw [e, Maps.keyOf_int_mk hk ha]
    rfl
  refine ⟨_, ⟨es, clock, hb, ⟨by unfold maxLen; omega, hst, fun x hx => by obtain ⟨a, -, h⟩ := hrd x hx; exact ⟨_, h⟩⟩, by omega, rfl⟩, ?_, ?_⟩
  · show ((es.toList.map (Go.WideElems.rg P k _)).foldr DataW.insert []).length = m.length
    rw [length_sorted]; simpa using hlen
  · show (((es.toList.map (Go.WideElems.rg P k _)).foldr DataW.insert []).map fun p => Go.intOf p.1).Perm _
    refine ((Go.WideShapes.sorted_perm _).map _).trans ?_
    rw [List.map_map]
    have e1 : es.toList.map ((fun p : Lit × DataW Unit => Go.intOf p.1) ∘ Go.WideElems.rg P k (fun _ => some (.nil, []))) = es.toList.map (fun x => vkeyI x.key) := by
      apply List.map_congr_left
      intro x hx
      obtain ⟨a, e, h⟩ := hrd x hx
      simp only [Function.comp, Go.WideElems.rg_of h, e]
      rfl
    have e2 : m.map (·.1) = es.toList.map (fun x => vkeyI x.key) := by
      have := congrArg (List.map fun q : Value × Value => vkeyI q.1) he
      rw [List.map_map, List.map_map] at this
      exact this.symm
    rw [e1, e2]
theorem sortsI (m : Nat) : AnyZI.SortsIn Try.prog Try.lays_SlLaysZI_n6_80_ren Fence.wide m :=
  ⟨fun blk off cap ss W hH hblk hsz => callsIn_wide.2 (Any.slices_Sort_int Try.lays_Lays_n189 blk off cap ss W hH hblk hsz),
   fun p cap W => callsIn_wide.2 (Any.slices_Sort_int_none Try.lays_Lays_n189 p cap W)⟩
theorem keys_CI (mb : Option Nat) (W : World) : Calls Try.prog 81 #[.map mb] W fun e w' => e = .returned (.func (.func 109) #[] #[.pointer (some ⟨W.heap.size, 0, none⟩)]) ∧ w' = W.alloc (.cells #[.map mb] 123) :=
  (callsIn_wide (n := 5)).1 (AnyZI.keys_in Try.lays_SlLaysZI_n7_81 Fence.wide 5 trivial rfl mb W)
set_option maxHeartbeats 1000000 in
theorem sorted_CI (b : Nat) (m : List (Int × Value)) (w : World) (h : MapE w b m) (hwf : ∀ p ∈ m, (Lit.int .i64 p.1).wf = true) (hm : m.length ≤ 1000000) :
    Calls Try.prog 80 #[.func (.func 109) #[] #[.pointer (some ⟨w.heap.size, 0, none⟩)]] (w.alloc (.cells #[.map (some b)] 123)) fun e w' => ∃ v, e = .returned v ∧ w'.ownsRow (w.heap.size + 1) 3 1 v (keysL m).length ((keysL m).map (.int .i64)) ∧ Below w.heap.size w w' := by
  obtain ⟨D, hown, hsz, hperm⟩ := h.ownsMap (P := Try.prog) Try.underlying3 hwf hm
  have hseq : SeqGives Fence.wide 2 Try.prog 109 #[.pointer (some ⟨w.heap.size, 0, none⟩)] encZ (fun ss => ss.Perm (intKeys D)) (Maps.size D) (w.alloc (.cells #[.map (some b)] 123)) :=
    AnyZI.keys_gives (ρ := Try.lays_SlLaysZI_n7_81_ren) { Try.lays_SlLaysZI_n7_81 with } Fence.wide _ trivial rfl (by omega) w.heap.size b m.length D _ (by simp) (by simp) (by
      have hbl := hown.lt
      obtain ⟨es, clock, hb, Ft, hs, hD⟩ := hown
      exact ⟨es, clock, (Below.heap_alloc _ _ b hbl).trans hb, Ft, hs, hD⟩)
  have cS := AnyZI.sorted_in Try.lays_SlLaysZI_n6_80 Fence.wide 5 trivial trivial trivial trivial rfl (by omega) (sortsI _) (enters_of Try.func108 (by kernel_rfl) rfl) 109 #[.pointer (some ⟨w.heap.size, 0, none⟩)] trivial (enters_of Try.func109 (by kernel_rfl) rfl) _ _ (by rw [hsz]; unfold maxLen; omega) (by rw [hsz]; omega) _ hseq
  refine ((callsIn_wide (n := 5)).1 cS).mono ?_
  rintro e w' ⟨v, ss, rfl, hS, hrow, -, hb⟩
  have hk : ss.mergeSort (fun x y => decide (x ≤ y)) = keysL m := mergeSort_of_perm_i (hS.trans hperm)
  have hl : ss.length = (keysL m).length := by rw [← hk, List.length_mergeSort]
  rw [hk, hl] at hrow
  have hz : (w.alloc (.cells #[.map (some b)] 123)).heap.size = w.heap.size + 1 := by simp
  exact ⟨v, rfl, by rw [hz] at hrow; exact hrow, ((Below.refl _ w).alloc (Nat.le_refl _) _).trans (hb.mono (by rw [hz]; omega))⟩
theorem keys_DB (mb : Option Nat) (W : World) : Calls Try.prog 85 #[.map mb] W fun e w' => e = .returned (.func (.func 110) #[] #[.pointer (some ⟨W.heap.size, 0, none⟩)]) ∧ w' = W.alloc (.cells #[.map mb] 115) :=
  (callsIn_wide (n := 5)).1 (AnyZI.keys_in Try.lays_SlLaysZI_n7_85 Fence.wide 5 trivial rfl mb W)
set_option maxHeartbeats 1000000 in
theorem sorted_DB (b : Nat) (m : List (Int × Value)) (w : World) (h : MapE w b m) (hwf : ∀ p ∈ m, (Lit.int .i64 p.1).wf = true) (hm : m.length ≤ 1000000) :
    Calls Try.prog 80 #[.func (.func 110) #[] #[.pointer (some ⟨w.heap.size, 0, none⟩)]] (w.alloc (.cells #[.map (some b)] 115)) fun e w' => ∃ v, e = .returned v ∧ w'.ownsRow (w.heap.size + 1) 3 1 v (keysL m).length ((keysL m).map (.int .i64)) ∧ Below w.heap.size w w' := by
  obtain ⟨D, hown, hsz, hperm⟩ := h.ownsMap (P := Try.prog) Try.underlying3 hwf hm
  have hseq : SeqGives Fence.wide 2 Try.prog 110 #[.pointer (some ⟨w.heap.size, 0, none⟩)] encZ (fun ss => ss.Perm (intKeys D)) (Maps.size D) (w.alloc (.cells #[.map (some b)] 115)) :=
    AnyZI.keys_gives (ρ := Try.lays_SlLaysZI_n7_85_ren) { Try.lays_SlLaysZI_n7_85 with } Fence.wide _ trivial rfl (by omega) w.heap.size b m.length D _ (by simp) (by simp) (by
      have hbl := hown.lt
      obtain ⟨es, clock, hb, Ft, hs, hD⟩ := hown
      exact ⟨es, clock, (Below.heap_alloc _ _ b hbl).trans hb, Ft, hs, hD⟩)
  have cS := AnyZI.sorted_in Try.lays_SlLaysZI_n6_80 Fence.wide 5 trivial trivial trivial trivial rfl (by omega) (sortsI _) (enters_of Try.func108 (by kernel_rfl) rfl) 110 #[.pointer (some ⟨w.heap.size, 0, none⟩)] trivial (enters_of Try.func110 (by kernel_rfl) rfl) _ _ (by rw [hsz]; unfold maxLen; omega) (by rw [hsz]; omega) _ hseq
  refine ((callsIn_wide (n := 5)).1 cS).mono ?_
  rintro e w' ⟨v, ss, rfl, hS, hrow, -, hb⟩
  have hk : ss.mergeSort (fun x y => decide (x ≤ y)) = keysL m := mergeSort_of_perm_i (hS.trans hperm)
  have hl : ss.length = (keysL m).length := by rw [← hk, List.length_mergeSort]
  rw [hk, hl] at hrow
  have hz : (w.alloc (.cells #[.map (some b)] 115)).heap.size = w.heap.size + 1 := by simp
  exact ⟨v, rfl, by rw [hz] at hrow; exact hrow, ((Below.refl _ w).alloc (Nat.le_refl _) _).trans (hb.mono (by rw [hz]; omega))⟩
end Go.Proofs.Ytohknblokejldaa
end
section
/- Contract of disk.Cached. -/
namespace Go.Proofs.Ytohknblokejldaa
open Go.RowKit
open Go.Lib (hid)
set_option linter.unusedVariables false

set_option maxRecDepth 100000 in
theorem disk_Cached (s : Dk) (hok : s.Ok) (hc : s.C.length ≤ 1000) (g : Nat) (W R : Nat → Prop) (w : World) (h : DiskIs w g W R s) :
    Calls Try.prog 39 #[.pointer (some ⟨g, 0, none⟩)] w fun e w' => ∃ v, e = .returned v ∧ w'.ownsRow w.heap.size 3 1 v (keysL s.C).length ((keysL s.C).map (.int .i64)) ∧ Below w.heap.size w w' := by
  obtain ⟨b, dv, V, M, hd⟩ := h
  have hcell : w.cell? ⟨g, 2, none⟩ = some (.map (some b)) := by rw [hd.blk.cell]; rfl
  have hmap := hd.map
  obtain ⟨vs, hvs⟩ : ∃ vs, vs = (M.map fun p => (p.1, p.2.1)) := ⟨_, rfl⟩
  rw [← hvs] at hmap
  have hkeys : vs.map (·.1) = s.C.map (·.1) := by rw [hvs, ← hd.eqC, List.map_map, List.map_map]; rfl
  have hks : keysL vs = keysL s.C := by unfold keysL; rw [hkeys]
  have hwf : ∀ p ∈ vs, (Lit.int .i64 p.1).wf = true := by
    intro p hp
    have : p.1 ∈ s.C.map (·.1) := by rw [← hkeys]; exact List.mem_map_of_mem hp
    obtain ⟨q, hq, e⟩ := List.mem_map.1 this
    have h1 := hok.key q hq
    have h2 := hok.le
    simp only [Lit.wf, Bool.and_eq_true, decide_eq_true_eq]
    rw [← e]
    exact ⟨by show (-9223372036854775808 : Int) ≤ _; omega, by show _ ≤ (9223372036854775807 : Int); omega⟩
  have hlen : vs.length ≤ 1000000 := by have := congrArg List.length hkeys; simp at this; omega
  have hso := sorted_DB b vs w hmap hwf hlen
  rw [hks] at hso
  have HSO := hid hso
  clear hd hmap hvs hkeys hks hwf hlen hso hok hc
  go_enter Try.func39, Try.ntmps39
  go_wp2_with fail
  refine (keys_DB (some b) w).mono ?_
  rintro e w' ⟨rfl, rfl⟩
  go_wp2_with fail
  refine HSO.out.mono ?_
  rintro e w1 ⟨vk, rfl, hown, hb1⟩
  have HOWN := hid hown
  have HB1 := hid hb1
  clear hown hb1 hcell
  go_wp2_with fail
  go_ret
  exact ⟨vk, rfl, ownsRow_base HOWN.out (by omega), HB1.out⟩
end Go.Proofs.Ytohknblokejldaa
end
