/- Joined texts, in this order: StallGoods, LayKeys, Keys. Each one's first remark says what it proves; no condition beyond those that its theorems name. -/
import Derived.Test.YtajfjgekcjkedaaJLawStallCopies19
import Derived.Shelf.SlGeneric
import Derived.Ground.NamesProg
import Derived.Shelf.Sort.Plain
import Derived.Shelf.Slices.In.SortNone
import Derived.Ground.GgzProg
import Derived.Shelf.SlIterI.Nil
import Derived.Test.YtajfjgekcjkedaaProg
import Derived.Test.YtajfjgekcjkedaaJLawStallCopies02
section
/- The law's own goods: are these just those? -/
namespace Go.Proofs.Ytajfjgekcjkedaa
open Go.RowKit
open Go.Lib (hid)
set_option linter.unusedVariables false

set_option maxRecDepth 100000 in
set_option maxHeartbeats 1000000 in
theorem law23_goods (w : World) {l : List (Int × Int)} {x : List G3} {v1 v2 : Value} (h1 : SlP w v1 l) (h2 : Sl3 w v2 x) (he : x.map (·.2) = l) (hl : l.length ≤ 100000) :
    Calls Try.prog 38 #[v1, v2] w (fun e w' => e = .returned (.bool true) ∧ Below w.heap.size w w') := by
  obtain ⟨a1, c1, rfl, hr1, -⟩ := id h1
  obtain ⟨a2, c2, rfl, hr2, -⟩ := id h2
  have hll : x.length = l.length := by rw [← he, List.length_map]
  have H1 := hid h1
  have H2 := hid h2
  have HE := hid he
  have hli : ((l.length : Nat) : Int) ≤ 100000 := by omega
  obtain ⟨N, hN⟩ : ∃ N, N = l.length := ⟨_, rfl⟩
  have HN := hid hN
  rw [hll] at H2 ⊢
  rw [← hN] at H1 H2 hl hli ⊢
  clear h1 h2 hr1 hr2 he hll hN
  go_enter Try.func38, Try.ntmps38
  go_upto_region 4 with fail
  go_loopw [13] (fun v13 wr => ∃ (j : Nat), v13 = .int .i64 (j : Int) ∧ j ≤ N ∧ Hid (Below w.heap.size w wr)) (fun v13 _ => N - (intOf v13).toNat)
  case atStart => exact ⟨0, rfl, by omega, hid (Below.refl _ _)⟩
  case round =>
    obtain ⟨j, rfl, hj, hb⟩ := hrel
    by_cases hlt : j < N
    · have j1 : (j : Int) < (N : Int) := by omega
      have j0 : (0 : Int) ≤ (j : Int) := by omega
      obtain ⟨a', c', e', hrd, -⟩ := H1.out.below hb.out
      rw [← HN.out] at e'
      simp only [Value.slice.injEq, true_and] at e'
      obtain ⟨rfl, rfl⟩ := e'
      obtain ⟨b0, off, t0, p0, rfl, d0, d1, hat, -, -⟩ := hrd.pair j (by rw [← HN.out]; exact hlt)
      obtain ⟨a', c', e', hrd2, -⟩ := H2.out.below hb.out
      have hxl : x.length = N := by rw [HN.out, ← HE.out, List.length_map]
      rw [hxl] at e'
      simp only [Value.slice.injEq, true_and] at e'
      obtain ⟨rfl, rfl⟩ := e'
      obtain ⟨b3, o3, h3, t3, p3, rfl, f0, f1, f2, hat3, -, -⟩ := hrd2.triple j (by rw [hxl]; exact hlt)
      have hq : l[j]? = some (t3, p3) := by rw [← HE.out, List.getElem?_map, hat3]; rfl
      rw [hat] at hq
      simp only [Option.some.injEq, Prod.mk.injEq] at hq
      obtain ⟨rfl, rfl⟩ := hq
      clear hat hat3 hrd hrd2 hxl
      go_upto_region 6 with fail
      go_quiet (fail)
      have hb3 := Below.drawn wr nq
      obtain ⟨w3, hw3⟩ : ∃ w3, w3 = wr.drewN nq := ⟨_, rfl⟩
      rw [← hw3] at hb3 ⊢
      have HB3 := hid (Below.next hb.out hb3)
      clear hb3 hw3 d0 d1 f0 f1 f2
      go_wp2
      go_roundw
      case rel => exact ⟨j + 1, by go_num, by omega, HB3⟩
      case measure => simp [intOf]; omega
    · have j1 : ¬ (j : Int) < (N : Int) := by omega
      go_wp2
      go_ret
      exact ⟨rfl, hb.out⟩
end Go.Proofs.Ytajfjgekcjkedaa
end
section
/- Layings of the shelf's contracts at this dump (printed by the shelf's lay-plain). -/
namespace Go.Proofs
open Go.Shelf
def Try.lays_Lays_n189_ren : Go.Shelf.Ren := ⟨fun | 189 => 52 | 125 => 59 | 257 => 58 | 128 => 70 | 129 => 71 | 294 => 61 | 295 => 62 | 296 => 63 | 297 => 64 | 298 => 65 | 299 => 66 | 216 => 67 | 300 => 68 | 301 => 69 | 328 => 72 | 329 => 73 | 330 => 74 | 331 => 75 | 332 => 76 | 215 => 55 | 343 => 77 | n => n, fun | 28 => 83 | 3 => 3 | 46 => 91 | 0 => 0 | 51 => 110 | 53 => 112 | 4 => 4 | 183 => 104 | 182 => 103 | 131 => 69 | 5 => 5 | 9 => 9 | 218 => 113 | 222 => 117 | 228 => 119 | 229 => 120 | n => n, fun | n => n⟩
theorem Try.lays_Lays_n189 : Go.Proofs.Lays.n189 Try.prog Try.lays_Lays_n189_ren := {
  mixed := by kernel_rfl
  f125 := Try.func59.trans (congrArg some (by kernel_rfl))
  f128 := Try.func70.trans (congrArg some (by kernel_rfl))
  f129 := Try.func71.trans (congrArg some (by kernel_rfl))
  f189 := Try.func52.trans (congrArg some (by kernel_rfl))
  f215 := Try.func55.trans (congrArg some (by kernel_rfl))
  f216 := Try.func67.trans (congrArg some (by kernel_rfl))
  f257 := Try.func58.trans (congrArg some (by kernel_rfl))
  f294 := Try.func61.trans (congrArg some (by kernel_rfl))
  f295 := Try.func62.trans (congrArg some (by kernel_rfl))
  f296 := Try.func63.trans (congrArg some (by kernel_rfl))
  f297 := Try.func64.trans (congrArg some (by kernel_rfl))
  f298 := Try.func65.trans (congrArg some (by kernel_rfl))
  f299 := Try.func66.trans (congrArg some (by kernel_rfl))
  f300 := Try.func68.trans (congrArg some (by kernel_rfl))
  f301 := Try.func69.trans (congrArg some (by kernel_rfl))
  f328 := Try.func72.trans (congrArg some (by kernel_rfl))
  f329 := Try.func73.trans (congrArg some (by kernel_rfl))
  f330 := Try.func74.trans (congrArg some (by kernel_rfl))
  f331 := Try.func75.trans (congrArg some (by kernel_rfl))
  f332 := Try.func76.trans (congrArg some (by kernel_rfl))
  f343 := Try.func77.trans (congrArg some (by kernel_rfl))
  t0 := Try.underlying0
  a0 := Try.isAgg0
  z0 := Try.sizeOf0
  v0 := Try.zeroValue0
  t3 := Try.underlying3
  a3 := Try.isAgg3
  z3 := Try.sizeOf3
  v3 := Try.zeroValue3
  t4 := Try.underlying4
  a4 := Try.isAgg4
  z4 := Try.sizeOf4
  v4 := Try.zeroValue4
  t5 := Try.underlying5
  a5 := Try.isAgg5
  z5 := Try.sizeOf5
  v5 := Try.zeroValue5
  t9 := Try.underlying9
  a9 := Try.isAgg9
  z9 := Try.sizeOf9
  v9 := Try.zeroValue9
  t28 := Try.underlying83
  a28 := Try.isAgg83
  z28 := Try.sizeOf83
  v28 := Try.zeroValue83
  t46 := Try.underlying91
  a46 := Try.isAgg91
  z46 := Try.sizeOf91
  v46 := Try.zeroValue91
  t51 := Try.underlying110
  a51 := Try.isAgg110
  z51 := Try.sizeOf110
  v51 := Try.zeroValue110
  t53 := Try.underlying112
  a53 := Try.isAgg112
  z53 := Try.sizeOf112
  v53 := Try.zeroValue112
  t131 := Try.underlying69
  a131 := Try.isAgg69
  z131 := Try.sizeOf69
  v131 := Try.zeroValue69
  t182 := Try.underlying103
  a182 := Try.isAgg103
  z182 := Try.sizeOf103
  v182 := Try.zeroValue103
  t183 := Try.underlying104
  a183 := Try.isAgg104
  z183 := Try.sizeOf104
  v183 := Try.zeroValue104
  t218 := Try.underlying113
  a218 := Try.isAgg113
  z218 := Try.sizeOf113
  v218 := Try.zeroValue113
  t222 := Try.underlying117
  a222 := Try.isAgg117
  z222 := Try.sizeOf117
  v222 := Try.zeroValue117
  t228 := Try.underlying119
  a228 := Try.isAgg119
  z228 := Try.sizeOf119
  v228 := Try.zeroValue119
  t229 := Try.underlying120
  a229 := Try.isAgg120
  z229 := Try.sizeOf120
  v229 := Try.zeroValue120 }
def Try.lays_SlLaysZI_n6_39_ren : Go.Shelf.Ren := ⟨fun | 6 => 39 | 8 => 51 | 9 => 52 | 11 => 57 | 13 => 59 | 12 => 58 | 23 => 70 | 24 => 71 | 14 => 61 | 15 => 62 | 16 => 63 | 17 => 64 | 18 => 65 | 19 => 66 | 20 => 67 | 21 => 68 | 22 => 69 | 25 => 72 | 26 => 73 | 27 => 74 | 28 => 75 | 29 => 76 | 30 => 55 | 31 => 77 | n => n, fun | 26 => 3 | 28 => 86 | 24 => 83 | 0 => 0 | 3 => 3 | 37 => 91 | 48 => 110 | 50 => 112 | 4 => 4 | 40 => 104 | 39 => 103 | 45 => 69 | 5 => 5 | 9 => 9 | 51 => 113 | 55 => 117 | 57 => 119 | 58 => 120 | 33 => 62 | n => n, fun | n => n⟩
theorem Try.lays_SlLaysZI_n6_39 : Go.Proofs.SlLaysZI.n6 Try.prog Try.lays_SlLaysZI_n6_39_ren := {
  mixed := by kernel_rfl
  f6 := ⟨Try.f39.name, by decide, Try.func39.trans (congrArg some (by kernel_rfl))⟩
  f8 := ⟨Try.f51.name, by decide, Try.func51.trans (congrArg some (by kernel_rfl))⟩
  f11 := ⟨Try.f57.name, by decide, Try.func57.trans (congrArg some (by kernel_rfl))⟩
  t0 := Try.underlying0
  a0 := Try.isAgg0
  z0 := Try.sizeOf0
  v0 := Try.zeroValue0
  t24 := Try.underlying83
  a24 := Try.isAgg83
  z24 := Try.sizeOf83
  v24 := Try.zeroValue83
  t26 := Try.underlying3
  a26 := Try.isAgg3
  z26 := Try.sizeOf3
  v26 := Try.zeroValue3
  t28 := Try.underlying86
  a28 := Try.isAgg86
  z28 := Try.sizeOf86
  v28 := Try.zeroValue86
  i26 := by kernel_rfl }
def Try.lays_SlLaysZI_n7_40_ren : Go.Shelf.Ren := ⟨fun | 7 => 40 | 10 => 53 | n => n, fun | 23 => 64 | 26 => 3 | 3 => 68 | 28 => 86 | 0 => 0 | 27 => 85 | 33 => 62 | 4 => 4 | n => n, fun | n => n⟩
theorem Try.lays_SlLaysZI_n7_40 : Go.Proofs.SlLaysZI.n7 Try.prog Try.lays_SlLaysZI_n7_40_ren := {
  mixed := by kernel_rfl
  f7 := ⟨Try.f40.name, by decide, Try.func40.trans (congrArg some (by kernel_rfl))⟩
  f10 := ⟨Try.f53.name, by decide, Try.func53.trans (congrArg some (by kernel_rfl))⟩
  t0 := Try.underlying0
  a0 := Try.isAgg0
  z0 := Try.sizeOf0
  v0 := Try.zeroValue0
  t4 := Try.underlying4
  a4 := Try.isAgg4
  z4 := Try.sizeOf4
  v4 := Try.zeroValue4
  t23 := Try.underlying64
  a23 := Try.isAgg64
  z23 := Try.sizeOf64
  v23 := Try.zeroValue64
  t26 := Try.underlying3
  a26 := Try.isAgg3
  z26 := Try.sizeOf3
  v26 := Try.zeroValue3
  t27 := Try.underlying85
  a27 := Try.isAgg85
  z27 := Try.sizeOf85
  v27 := Try.zeroValue85
  t28 := Try.underlying86
  a28 := Try.isAgg86
  z28 := Try.sizeOf86
  v28 := Try.zeroValue86
  t33 := Try.underlying62
  a33 := Try.isAgg62
  z33 := Try.sizeOf62
  v33 := Try.zeroValue62 }
end Go.Proofs
end
section
/- slices.Sorted(maps.Keys(m)) at maps from integers, by the shelf's contracts. -/
namespace Go.Proofs.Ytajfjgekcjkedaa
open Go.RowKit Go.Maps Go.Sort Go.Shelf
open Go.Lib (hid)
set_option linter.unusedVariables false

/-- the number of a key -/
def vkeyI : Value → Int
  | .int _ a => a
  | _ => 0
/-- a map's keys, rising -/
def keysL {α : Type} (m : List (Int × α)) : List Int := (m.map (·.1)).mergeSort (fun x y => decide (x ≤ y))
theorem MapE.ownsMap {P : Program} {w : World} {b : Nat} {m : List (Int × Value)} {k : TypeId} (hk : P.underlying k = some (.int .i64)) (h : MapE w b m) (hwf : ∀ p ∈ m, (Lit.int .i64 p.1).wf = true) (hm : m.length ≤ 1000000) :
    ∃ D : DataW Unit, w.ownsMap P k (fun _ => some (.nil, [])) b m.length D ∧ Maps.size D = m.length ∧ (intKeys D).Perm (m.map (·.1)) := by
  obtain ⟨es, clock, hb, hst, he⟩ := h
  have hlen : es.size = m.length := by have := congrArg List.length he; simpa using this
  have hkey : ∀ x ∈ es.toList, ∃ a : Int, x.key = .int .i64 a ∧ (Lit.int .i64 a).wf = true := by
    intro x hx
    have : (x.key, x.val) ∈ m.map (fun p => (Value.int .i64 p.1, p.2)) := by rw [← he]; exact List.mem_map.2 ⟨x, hx, rfl⟩
    obtain ⟨p, hp, h⟩ := List.mem_map.1 this
    exact ⟨p.1, (Prod.mk.inj h).1.symm, hwf p hp⟩
  have hrd : ∀ x ∈ es.toList, ∃ a : Int, x.key = .int .i64 a ∧ Go.WideElems.rd (H := Unit) P k (fun _ => some (.nil, [])) x = some (.int .i64 a, .nil) := by
    intro x hx
    obtain ⟨a, e, ha⟩ := hkey x hx
    refine ⟨a, e, ?_⟩
    unfold Go.WideElems.rd
    rw [e, Maps.keyOf_int_mk hk ha]
    rfl
  refine ⟨_, ⟨es, clock, hb, ⟨by unfold maxLen; omega, hst, fun x hx => by obtain ⟨a, -, h⟩ := hrd x hx; exact ⟨_, h⟩⟩, by omega, rfl⟩, ?_, ?_⟩
  · show ((es.toList.map (Go.WideElems.rg P k _)).foldr DataW.insert []).length = m.length
    rw [length_sorted]; simpa using hlen
  · show (((es.toList.map (Go.WideElems.rg P k _)).foldr DataW.insert []).map fun p => Go.intOf p.1).Perm _
    refine ((Go.WideShapes.sorted_perm _).map _).trans ?_
    rw [List.map_map]
    have e1 : es.toList.map ((fun p : Lit × DataW Unit => Go.intOf p.1) ∘ Go.WideElems.rg P k (fun _ => some (.nil, []))) = es.toList.map (fun x => vkeyI x.key) := by
      apply List.map_congr_left
      intro x hx
      obtain ⟨a, e, h⟩ := hrd x hx
      simp only [Function.comp, Go.WideElems.rg_of h, e]
      rfl
    have e2 : m.map (·.1) = es.toList.map (fun x => vkeyI x.key) := by
      have := congrArg (List.map fun q : Value × Value => vkeyI q.1) he
      rw [List.map_map, List.map_map] at this
      exact this.symm
    rw [e1, e2]
theorem sortsI (m : Nat) : AnyZI.SortsIn Try.prog Try.lays_SlLaysZI_n6_39_ren Fence.wide m :=
  ⟨fun blk off cap ss W hH hblk hsz => callsIn_wide.2 (Any.slices_Sort_int Try.lays_Lays_n189 blk off cap ss W hH hblk hsz),
   fun p cap W => callsIn_wide.2 (Any.slices_Sort_int_none Try.lays_Lays_n189 p cap W)⟩
theorem keys_SR (mb : Option Nat) (W : World) : Calls Try.prog 40 #[.map mb] W fun e w' => e = .returned (.func (.func 53) #[] #[.pointer (some ⟨W.heap.size, 0, none⟩)]) ∧ w' = W.alloc (.cells #[.map mb] 64) :=
  (callsIn_wide (n := 5)).1 (AnyZI.keys_in Try.lays_SlLaysZI_n7_40 Fence.wide 5 trivial rfl mb W)
set_option maxHeartbeats 1000000 in
theorem sorted_SR (b : Nat) (m : List (Int × Value)) (w : World) (h : MapE w b m) (hwf : ∀ p ∈ m, (Lit.int .i64 p.1).wf = true) (hm : m.length ≤ 1000000) :
    Calls Try.prog 39 #[.func (.func 53) #[] #[.pointer (some ⟨w.heap.size, 0, none⟩)]] (w.alloc (.cells #[.map (some b)] 64)) fun e w' => ∃ v, e = .returned v ∧ w'.ownsRow (w.heap.size + 1) 3 1 v (keysL m).length ((keysL m).map (.int .i64)) ∧ Below w.heap.size w w' := by
  obtain ⟨D, hown, hsz, hperm⟩ := h.ownsMap (P := Try.prog) Try.underlying3 hwf hm
  have hseq : SeqGives Fence.wide 2 Try.prog 53 #[.pointer (some ⟨w.heap.size, 0, none⟩)] encZ (fun ss => ss.Perm (intKeys D)) (Maps.size D) (w.alloc (.cells #[.map (some b)] 64)) :=
    AnyZI.keys_gives (ρ := Try.lays_SlLaysZI_n7_40_ren) { Try.lays_SlLaysZI_n7_40 with } Fence.wide _ trivial rfl (by omega) w.heap.size b m.length D _ (by simp) (by simp) (by
      have hbl := hown.lt
      obtain ⟨es, clock, hb, Ft, hs, hD⟩ := hown
      exact ⟨es, clock, (Below.heap_alloc _ _ b hbl).trans hb, Ft, hs, hD⟩)
  have cS := AnyZI.sorted_in Try.lays_SlLaysZI_n6_39 Fence.wide 5 trivial trivial trivial trivial rfl (by omega) (sortsI _) (enters_of Try.func52 (by kernel_rfl) rfl) 53 #[.pointer (some ⟨w.heap.size, 0, none⟩)] trivial (enters_of Try.func53 (by kernel_rfl) rfl) _ _ (by rw [hsz]; unfold maxLen; omega) (by rw [hsz]; omega) _ hseq
  refine ((callsIn_wide (n := 5)).1 cS).mono ?_
  rintro e w' ⟨v, ss, rfl, hS, hrow, -, hb⟩
  have hk : ss.mergeSort (fun x y => decide (x ≤ y)) = keysL m := mergeSort_of_perm_i (hS.trans hperm)
  have hl : ss.length = (keysL m).length := by rw [← hk, List.length_mergeSort]
  rw [hk, hl] at hrow
  have hz : (w.alloc (.cells #[.map (some b)] 64)).heap.size = w.heap.size + 1 := by simp
  exact ⟨v, rfl, by rw [hz] at hrow; exact hrow, ((Below.refl _ w).alloc (Nat.le_refl _) _).trans (hb.mono (by rw [hz]; omega))⟩
end Go.Proofs.Ytajfjgekcjkedaa
end
