/- Joined texts, in this order: LayKeys, Keys, StallRows, OpenE. Each one's first remark says what it proves; no condition beyond those that its theorems name. -/
import Derived.Shelf.SlGeneric
import Derived.Ground.NamesProg
import Derived.Shelf.Sort.Plain
import Derived.Shelf.Slices.In.SortNone
import Derived.Ground.GgzProg
import Derived.Shelf.SlIterI.Nil
import Derived.Test.YtajfjgekcjkedaaProg
import Derived.Test.YtajfjgekcjkedaaJLawStallRestores02
import Derived.Test.YtajfjgekcjkedaaJLawStallRestores16
import Derived.Test.YtajfjgekcjkedaaJLawStallRestores01
import Derived.Test.YtajfjgekcjkedaaJLawStallRestores05
import Derived.Deep.Slices
import Derived.Deep.Fields
import Derived.ChangeSame
import Derived.OpenShut
section
/- Layings of the shelf's contracts at this dump (printed by the shelf's lay-plain). -/
namespace Go.Proofs
open Go.Shelf
def Try.lays_Lays_n189_ren : Go.Shelf.Ren := ⟨fun | 189 => 52 | 125 => 59 | 257 => 58 | 128 => 70 | 129 => 71 | 294 => 61 | 295 => 62 | 296 => 63 | 297 => 64 | 298 => 65 | 299 => 66 | 216 => 67 | 300 => 68 | 301 => 69 | 328 => 72 | 329 => 73 | 330 => 74 | 331 => 75 | 332 => 76 | 215 => 55 | 343 => 77 | n => n, fun | 28 => 83 | 3 => 3 | 46 => 91 | 0 => 0 | 51 => 110 | 53 => 112 | 4 => 4 | 183 => 104 | 182 => 103 | 131 => 69 | 5 => 5 | 9 => 9 | 218 => 113 | 222 => 117 | 228 => 119 | 229 => 120 | n => n, fun | n => n⟩
theorem Try.lays_Lays_n189 : Go.Proofs.Lays.n189 Try.prog Try.lays_Lays_n189_ren := {
  mixed := by kernel_rfl
  f125 := Try.func59.trans (congrArg some (by kernel_rfl))
  f128 := Try.func70.trans (congrArg some (by kernel_rfl))
  f129 := Try.func71.trans (congrArg some (by kernel_rfl))
  f189 := Try.func52.trans (congrArg some (by kernel_rfl))
  f215 := Try.func55.trans (congrArg some (by kernel_rfl))
  f216 := Try.func67.trans (congrArg some (by kernel_rfl))
  f257 := Try.func58.trans (congrArg some (by kernel_rfl))
  f294 := Try.func61.trans (congrArg some (by kernel_rfl))
  f295 := Try.func62.trans (congrArg some (by kernel_rfl))
  f296 := Try.func63.trans (congrArg some (by kernel_rfl))
  f297 := Try.func64.trans (congrArg some (by kernel_rfl))
  f298 := Try.func65.trans (congrArg some (by kernel_rfl))
  f299 := Try.func66.trans (congrArg some (by kernel_rfl))
  f300 := Try.func68.trans (congrArg some (by kernel_rfl))
  f301 := Try.func69.trans (congrArg some (by kernel_rfl))
  f328 := Try.func72.trans (congrArg some (by kernel_rfl))
  f329 := Try.func73.trans (congrArg some (by kernel_rfl))
  f330 := Try.func74.trans (congrArg some (by kernel_rfl))
  f331 := Try.func75.trans (congrArg some (by kernel_rfl))
  f332 := Try.func76.trans (congrArg some (by kernel_rfl))
  f343 := Try.func77.trans (congrArg some (by kernel_rfl))
  t0 := Try.underlying0
  a0 := Try.isAgg0
  z0 := Try.sizeOf0
  v0 := Try.zeroValue0
  t3 := Try.underlying3
  a3 := Try.isAgg3
  z3 := Try.sizeOf3
  v3 := Try.zeroValue3
  t4 := Try.underlying4
  a4 := Try.isAgg4
  z4 := Try.sizeOf4
  v4 := Try.zeroValue4
  t5 := Try.underlying5
  a5 := Try.isAgg5
  z5 := Try.sizeOf5
  v5 := Try.zeroValue5
  t9 := Try.underlying9
  a9 := Try.isAgg9
  z9 := Try.sizeOf9
  v9 := Try.zeroValue9
  t28 := Try.underlying83
  a28 := Try.isAgg83
  z28 := Try.sizeOf83
  v28 := Try.zeroValue83
  t46 := Try.underlying91
  a46 := Try.isAgg91
  z46 := Try.sizeOf91
  v46 := Try.zeroValue91
  t51 := Try.underlying110
  a51 := Try.isAgg110
  z51 := Try.sizeOf110
  v51 := Try.zeroValue110
  t53 := Try.underlying112
  a53 := Try.isAgg112
  z53 := Try.sizeOf112
  v53 := Try.zeroValue112
  t131 := Try.underlying69
  a131 := Try.isAgg69
  z131 := Try.sizeOf69
  v131 := Try.zeroValue69
  t182 := Try.underlying103
  a182 := Try.isAgg103
  z182 := Try.sizeOf103
  v182 := Try.zeroValue103
  t183 := Try.underlying104
  a183 := Try.isAgg104
  z183 := Try.sizeOf104
  v183 := Try.zeroValue104
  t218 := Try.underlying113
  a218 := Try.isAgg113
  z218 := Try.sizeOf113
  v218 := Try.zeroValue113
  t222 := Try.underlying117
  a222 := Try.isAgg117
  z222 := Try.sizeOf117
  v222 := Try.zeroValue117
  t228 := Try.underlying119
  a228 := Try.isAgg119
  z228 := Try.sizeOf119
  v228 := Try.zeroValue119
  t229 := Try.underlying120
  a229 := Try.isAgg120
  z229 := Try.sizeOf120
  v229 := Try.zeroValue120 }
def Try.lays_SlLaysZI_n6_39_ren : Go.Shelf.Ren := ⟨fun | 6 => 39 | 8 => 51 | 9 => 52 | 11 => 57 | 13 => 59 | 12 => 58 | 23 => 70 | 24 => 71 | 14 => 61 | 15 => 62 | 16 => 63 | 17 => 64 | 18 => 65 | 19 => 66 | 20 => 67 | 21 => 68 | 22 => 69 | 25 => 72 | 26 => 73 | 27 => 74 | 28 => 75 | 29 => 76 | 30 => 55 | 31 => 77 | n => n, fun | 26 => 3 | 28 => 86 | 24 => 83 | 0 => 0 | 3 => 3 | 37 => 91 | 48 => 110 | 50 => 112 | 4 => 4 | 40 => 104 | 39 => 103 | 45 => 69 | 5 => 5 | 9 => 9 | 51 => 113 | 55 => 117 | 57 => 119 | 58 => 120 | 33 => 62 | n => n, fun | n => n⟩
theorem Try.lays_SlLaysZI_n6_39 : Go.Proofs.SlLaysZI.n6 Try.prog Try.lays_SlLaysZI_n6_39_ren := {
  mixed := by kernel_rfl
  f6 := ⟨Try.f39.name, by decide, Try.func39.trans (congrArg some (by kernel_rfl))⟩
  f8 := ⟨Try.f51.name, by decide, Try.func51.trans (congrArg some (by kernel_rfl))⟩
  f11 := ⟨Try.f57.name, by decide, Try.func57.trans (congrArg some (by kernel_rfl))⟩
  t0 := Try.underlying0
  a0 := Try.isAgg0
  z0 := Try.sizeOf0
  v0 := Try.zeroValue0
  t24 := Try.underlying83
  a24 := Try.isAgg83
  z24 := Try.sizeOf83
  v24 := Try.zeroValue83
  t26 := Try.underlying3
  a26 := Try.isAgg3
  z26 := Try.sizeOf3
  v26 := Try.zeroValue3
  t28 := Try.underlying86
  a28 := Try.isAgg86
  z28 := Try.sizeOf86
  v28 := Try.zeroValue86
  i26 := by kernel_rfl }
def Try.lays_SlLaysZI_n7_40_ren : Go.Shelf.Ren := ⟨fun | 7 => 40 | 10 => 53 | n => n, fun | 23 => 64 | 26 => 3 | 3 => 68 | 28 => 86 | 0 => 0 | 27 => 85 | 33 => 62 | 4 => 4 | n => n, fun | n => n⟩
theorem Try.lays_SlLaysZI_n7_40 : Go.Proofs.SlLaysZI.n7 Try.prog Try.lays_SlLaysZI_n7_40_ren := {
  mixed := by kernel_rfl
  f7 := ⟨Try.f40.name, by decide, Try.func40.trans (congrArg some (by kernel_rfl))⟩
  f10 := ⟨Try.f53.name, by decide, Try.func53.trans (congrArg some (by kernel_rfl))⟩
  t0 := Try.underlying0
  a0 := Try.isAgg0
  z0 := Try.sizeOf0
  v0 := Try.zeroValue0
  t4 := Try.underlying4
  a4 := Try.isAgg4
  z4 := Try.sizeOf4
  v4 := Try.zeroValue4
  t23 := Try.underlying64
  a23 := Try.isAgg64
  z23 := Try.sizeOf64
  v23 := Try.zeroValue64
  t26 := Try.underlying3
  a26 := Try.isAgg3
  z26 := Try.sizeOf3
  v26 := Try.zeroValue3
  t27 := Try.underlying85
  a27 := Try.isAgg85
  z27 := Try.sizeOf85
  v27 := Try.zeroValue85
  t28 := Try.underlying86
  a28 := Try.isAgg86
  z28 := Try.sizeOf86
  v28 := Try.zeroValue86
  t33 := Try.underlying62
  a33 := Try.isAgg62
  z33 := Try.sizeOf62
  v33 := Try.zeroValue62 }
end Go.Proofs
end
section
/- slices.Sorted(maps.Keys(m)) at maps from integers, by the shelf's contracts. -/
namespace Go.Proofs.Ytajfjgekcjkedaa
open Go.RowKit Go.Maps Go.Sort Go.Shelf
open Go.Lib (hid)
set_option linter.unusedVariables false

/-- the number of a key -/
def vkeyI : Value → Int
  | .int _ a => a
  | _ => 0
/-- a map's keys, rising -/
def keysL {α : Type} (m : List (Int × α)) : List Int := (m.map (·.1)).mergeSort (fun x y => decide (x ≤ y))
theorem MapE.ownsMap {P : Program} {w : World} {b : Nat} {m : List (Int × Value)} {k : TypeId} (hk : P.underlying k = some (.int .i64)) (h : MapE w b m) (hwf : ∀ p ∈ m, (Lit.int .i64 p.1).wf = true) (hm : m.length ≤ 1000000) :
    ∃ D : DataW Unit, w.ownsMap P k (fun _ => some (.nil, [])) b m.length D ∧ Maps.size D = m.length ∧ (intKeys D).Perm (m.map (·.1)) := by
  obtain ⟨es, clock, hb, hst, he⟩ := h
  have hlen : es.size = m.length := by have := congrArg List.length he; simpa using this
  have hkey : ∀ x ∈ es.toList, ∃ a : Int, x.key = .int .i64 a ∧ (Lit.int .i64 a).wf = true := by
    intro x hx
    have : (x.key, x.val) ∈ m.map (fun p => (Value.int .i64 p.1, p.2)) := by rw [← he]; exact List.mem_map.2 ⟨x, hx, rfl⟩
    obtain ⟨p, hp, h⟩ := List.mem_map.1 this
    exact ⟨p.1, (Prod.mk.inj h).1.symm, hwf p hp⟩
  have hrd : ∀ x ∈ es.toList, ∃ a : Int, x.key = .int .i64 a ∧ Go.WideElems.rd (H := Unit) P k (fun _ => some (.nil, [])) x = some (.int .i64 a, .nil) := by
    intro x hx
    obtain ⟨a, e, ha⟩ := hkey x hx
    refine ⟨a, e, ?_⟩
    unfold Go.WideElems.rd
    rw [e, Maps.keyOf_int_mk hk ha]
    rfl
  refine ⟨_, ⟨es, clock, hb, ⟨by unfold maxLen; omega, hst, fun x hx => by obtain ⟨a, -, h⟩ := hrd x hx; exact ⟨_, h⟩⟩, by omega, rfl⟩, ?_, ?_⟩
  · show ((es.toList.map (Go.WideElems.rg P k _)).foldr DataW.insert []).length = m.length
    rw [length_sorted]; simpa using hlen
  · show (((es.toList.map (Go.WideElems.rg P k _)).foldr DataW.insert []).map fun p => Go.intOf p.1).Perm _
    refine ((Go.WideShapes.sorted_perm _).map _).trans ?_
    rw [List.map_map]
    have e1 : es.toList.map ((fun p : Lit × DataW Unit => Go.intOf p.1) ∘ Go.WideElems.rg P k (fun _ => some (.nil, []))) = es.toList.map (fun x => vkeyI x.key) := by
      apply List.map_congr_left
      intro x hx
      obtain ⟨a, e, h⟩ := hrd x hx
      simp only [Function.comp, Go.WideElems.rg_of h, e]
      rfl
    have e2 : m.map (·.1) = es.toList.map (fun x => vkeyI x.key) := by
      have := congrArg (List.map fun q : Value × Value => vkeyI q.1) he
      rw [List.map_map, List.map_map] at this
      exact this.symm
    rw [e1, e2]
theorem sortsI (m : Nat) : AnyZI.SortsIn Try.prog Try.lays_SlLaysZI_n6_39_ren Fence.wide m :=
  ⟨fun blk off cap ss W hH hblk hsz => callsIn_wide.2 (Any.slices_Sort_int Try.lays_Lays_n189 blk off cap ss W hH hblk hsz),
   fun p cap W => callsIn_wide.2 (Any.slices_Sort_int_none Try.lays_Lays_n189 p cap W)⟩
theorem keys_SR (mb : Option Nat) (W : World) : Calls Try.prog 40 #[.map mb] W fun e w' => e = .returned (.func (.func 53) #[] #[.pointer (some ⟨W.heap.size, 0, none⟩)]) ∧ w' = W.alloc (.cells #[.map mb] 64) :=
  (callsIn_wide (n := 5)).1 (AnyZI.keys_in Try.lays_SlLaysZI_n7_40 Fence.wide 5 trivial rfl mb W)
set_option maxHeartbeats 1000000 in
theorem sorted_SR (b : Nat) (m : List (Int × Value)) (w : World) (h : MapE w b m) (hwf : ∀ p ∈ m, (Lit.int .i64 p.1).wf = true) (hm : m.length ≤ 1000000) :
    Calls Try.prog 39 #[.func (.func 53) #[] #[.pointer (some ⟨w.heap.size, 0, none⟩)]] (w.alloc (.cells #[.map (some b)] 64)) fun e w' => ∃ v, e = .returned v ∧ w'.ownsRow (w.heap.size + 1) 3 1 v (keysL m).length ((keysL m).map (.int .i64)) ∧ Below w.heap.size w w' := by
  obtain ⟨D, hown, hsz, hperm⟩ := h.ownsMap (P := Try.prog) Try.underlying3 hwf hm
  have hseq : SeqGives Fence.wide 2 Try.prog 53 #[.pointer (some ⟨w.heap.size, 0, none⟩)] encZ (fun ss => ss.Perm (intKeys D)) (Maps.size D) (w.alloc (.cells #[.map (some b)] 64)) :=
    AnyZI.keys_gives (ρ := Try.lays_SlLaysZI_n7_40_ren) { Try.lays_SlLaysZI_n7_40 with } Fence.wide _ trivial rfl (by omega) w.heap.size b m.length D _ (by simp) (by simp) (by
      have hbl := hown.lt
      obtain ⟨es, clock, hb, Ft, hs, hD⟩ := hown
      exact ⟨es, clock, (Below.heap_alloc _ _ b hbl).trans hb, Ft, hs, hD⟩)
  have cS := AnyZI.sorted_in Try.lays_SlLaysZI_n6_39 Fence.wide 5 trivial trivial trivial trivial rfl (by omega) (sortsI _) (enters_of Try.func52 (by kernel_rfl) rfl) 53 #[.pointer (some ⟨w.heap.size, 0, none⟩)] trivial (enters_of Try.func53 (by kernel_rfl) rfl) _ _ (by rw [hsz]; unfold maxLen; omega) (by rw [hsz]; omega) _ hseq
  refine ((callsIn_wide (n := 5)).1 cS).mono ?_
  rintro e w' ⟨v, ss, rfl, hS, hrow, -, hb⟩
  have hk : ss.mergeSort (fun x y => decide (x ≤ y)) = keysL m := mergeSort_of_perm_i (hS.trans hperm)
  have hl : ss.length = (keysL m).length := by rw [← hk, List.length_mergeSort]
  rw [hk, hl] at hrow
  have hz : (w.alloc (.cells #[.map (some b)] 64)).heap.size = w.heap.size + 1 := by simp
  exact ⟨v, rfl, by rw [hz] at hrow; exact hrow, ((Below.refl _ w).alloc (Nat.le_refl _) _).trans (hb.mono (by rw [hz]; omega))⟩
end Go.Proofs.Ytajfjgekcjkedaa
end
section
/- Contracts of stall.Row.copied, stall.Rows. -/
namespace Go.Proofs.Ytajfjgekcjkedaa
open Go.RowKit
open Go.Lib (hid)
set_option linter.unusedVariables false

def CopiedPost (w : World) (h g : Int) (gs : List (Int × Int)) (e : Ending) (w' : World) : Prop :=
  ∃ a c, e = .returned (.agg #[.int .i64 h, .int .i64 g, .slice a gs.length c]) ∧ w'.ownsRow w.heap.size 51 2 (.slice a gs.length c) gs.length (pv gs) ∧ Below w.heap.size w w'
set_option maxRecDepth 100000 in
set_option maxHeartbeats 1000000 in
theorem stall_copied (w : World) (h g : Int) (gs : List (Int × Int)) {a : Option Addr} {c : Nat} (hs : SlP w (.slice a gs.length c) gs) (hl : gs.length ≤ 100000) :
    Calls Try.prog 41 #[.agg #[.int .i64 h, .int .i64 g, .slice a gs.length c]] w (CopiedPost w h g gs) := by
  have HS := hid hs
  obtain ⟨N, hN⟩ : ∃ N, N = gs.length := ⟨_, rfl⟩
  have HN := hid hN
  have HL := hid hl
  rw [← hN]
  clear hs hN hl
  go_enter Try.func41, Try.ntmps41
  go_upto_region 1 with fail
  generalize hw2 : World.alloc (World.alloc w _) _ = w2
  obtain ⟨bs, hbs⟩ : ∃ b, b = w.heap.size := ⟨_, rfl⟩
  obtain ⟨b4, hb4⟩ : ∃ b, b = w.heap.size + 1 := ⟨_, rfl⟩
  have hz1 : (World.alloc w (.cells #[.int .i64 h, .int .i64 g, .slice a N c] 37)).heap.size = w.heap.size + 1 := by simp
  try rw [hz1]
  try rw [← hb4]
  try rw [← hbs]
  have hb2 : Below w.heap.size w w2 := by rw [← hw2]; exact Below.next (Below.new _ _) (Below.new _ _)
  have HK : Hid (Blk w2 bs #[.int .i64 h, .int .i64 g, .slice a N c]) := hid (by rw [← hw2, hbs]; exact (Blk.new w _ _).below (Below.new _ _))
  have HK4 : Hid (Blk w2 b4 #[.int .i64 0, .int .i64 0, .slice none 0 0]) := hid (by rw [← hw2, hb4, ← hz1]; exact Blk.new _ _ _)
  have HB2 := hid hb2
  have HB4 : Hid (w.heap.size ≤ b4 ∧ b4 < w2.heap.size ∧ b4 ≠ bs ∧ w.heap.size ≤ bs ∧ bs < w2.heap.size) := hid (by have := HK4.out.lt; have := HK.out.lt; omega)
  have HS2 := hid (HS.out.below hb2)
  clear hw2 hbs hb4 hz1 hb2
  have c2 : w2.cell? ⟨bs, 2, none⟩ = some (.slice a N c) := by rw [HK.out.cell]; rfl
  go_wp2_with fail
  obtain ⟨a', c', e', hrd, hc1, -, hc3⟩ := id HS2.out
  simp only [Value.slice.injEq, true_and] at e'
  obtain ⟨rfl, rfl⟩ := e'
  have hq := sl_CloneG gs a c w2 hrd (by have := HL.out; omega) (fun _ q => hc3 q)
  rw [← HN.out] at hq
  clear hrd hc1 hc3
  refine hq.mono ?_
  rintro e w3 ⟨v, rfl, hown, hb3⟩
  clear hq
  obtain ⟨av, cv, rfl, hlo⟩ := owns_sl hown
  have HOWN := hid hown
  have HLO := hid hlo
  have HK3 := hid (HK.out.below hb3)
  have HK43 := hid (HK4.out.below hb3)
  have HB3 := hid (Below.next HB2.out hb3)
  clear hown hlo hb3 c2
  have c2 : w3.cell? ⟨bs, 2, none⟩ = some (.slice a N c) := by rw [HK3.out.cell]; rfl
  have f2 : w3.frozen? ⟨bs, 2, none⟩ = false := HK3.out.unfrozen 2
  go_upto_region 2 with fail
  have HK5 : Hid (Blk (w3.setCell ⟨bs, 2, none⟩ (.slice av N cv)) bs #[.int .i64 h, .int .i64 g, .slice av N cv]) := hid (by simpa using HK3.out.set 2 (.slice av N cv))
  have HU5 := hid (Upd.setCell w3 bs 2 (.slice av N cv))
  generalize World.setCell w3 _ _ = w5 at HK5 HU5
  have HK45 := hid (HK43.out.upd HU5.out HB4.out.2.2.1)
  have HB5 := hid (HB3.out.trans (HU5.out.below HB3.out.size (fun j _ q => by have := HB4.out; omega)))
  have HO5 := hid (HU5.out.owns HOWN.out (fun q hq e => by have := (HOWN.out.lt q hq).1; have := HB4.out; omega))
  clear c2 f2
  have c0 : w5.cell? ⟨bs, 0, none⟩ = some (.int .i64 h) := by rw [HK5.out.cell]; rfl
  have c1 : w5.cell? ⟨bs, 1, none⟩ = some (.int .i64 g) := by rw [HK5.out.cell]; rfl
  have c2 : w5.cell? ⟨bs, 2, none⟩ = some (.slice av N cv) := by rw [HK5.out.cell]; rfl
  have q0 : w5.cell? ⟨b4, 0, none⟩ = some (.int .i64 0) := by rw [HK45.out.cell]; rfl
  have q1 : w5.cell? ⟨b4, 1, none⟩ = some (.int .i64 0) := by rw [HK45.out.cell]; rfl
  have q2 : w5.cell? ⟨b4, 2, none⟩ = some (.slice none 0 0) := by rw [HK45.out.cell]; rfl
  have f0 : w5.frozen? ⟨b4, 0, none⟩ = false := HK45.out.unfrozen 0
  have f1 : w5.frozen? ⟨b4, 1, none⟩ = false := HK45.out.unfrozen 1
  have f2 : w5.frozen? ⟨b4, 2, none⟩ = false := HK45.out.unfrozen 2
  go_wp2_with fail
  have HK6 : Hid (Blk (((w5.setCell ⟨b4, 0, none⟩ (.int .i64 h)).setCell ⟨b4, 1, none⟩ (.int .i64 g)).setCell ⟨b4, 2, none⟩ (.slice av N cv)) b4 #[.int .i64 h, .int .i64 g, .slice av N cv]) := hid (by simpa using ((HK45.out.set 0 (.int .i64 h)).set 1 (.int .i64 g)).set 2 (.slice av N cv))
  have HU6 := hid (((Upd.setCell w5 b4 0 (.int .i64 h)).trans (Upd.setCell _ b4 1 (.int .i64 g)) (fun _ _ q => q)).trans (Upd.setCell _ b4 2 (.slice av N cv)) (fun _ _ q => q))
  generalize World.setCell (World.setCell (World.setCell w5 _ _) _ _) _ _ = w9 at HK6 HU6
  have HB9 := hid (HB5.out.trans (HU6.out.below HB5.out.size (fun j _ q => by have := HB4.out; omega)))
  have HO9 := hid (HU6.out.owns HO5.out (fun q hq e => by have := (HOWN.out.lt q hq).1; have := HB4.out; omega))
  clear c0 c1 c2 q0 q1 q2 f0 f1 f2
  have k0 : w9.cell? ⟨b4, 0, none⟩ = some (.int .i64 h) := by rw [HK6.out.cell]; rfl
  have k1 : w9.cell? ⟨b4, 1, none⟩ = some (.int .i64 g) := by rw [HK6.out.cell]; rfl
  have k2 : w9.cell? ⟨b4, 2, none⟩ = some (.slice av N cv) := by rw [HK6.out.cell]; rfl
  refine bodyPost_ret (res_cell1 rfl _ _ _ rfl (by go_simp; rfl)) rfl ?_
  exact ⟨av, cv, by rw [HN.out], by have := ownsRow_base HO9.out HB2.out.size; rw [HN.out] at this; exact this, HB9.out⟩

/-! rows -/
abbrev R4 := Int × Int × Value × List (Int × Int)
theorem T_row23 : SlT Try.prog 42 37 (.agg #[.int .i64 0, .int .i64 0, .slice none 0 0]) 3 40 := SlT.mk' Try.underlying42 (by kernel_rfl) rfl (by decide) (by decide)
def rowC3 (L : List R4) : List Value := L.flatMap fun p => [Value.int .i64 p.1, .int .i64 p.2.1, p.2.2.1]
theorem rowC3_length (L : List R4) : (rowC3 L).length = L.length * 3 := by
  unfold rowC3
  induction L with
  | nil => rfl
  | cons p X ih => rw [List.flatMap_cons, List.length_append, ih]; simp; omega
theorem rowC3_append (X Y : List R4) : rowC3 (X ++ Y) = rowC3 X ++ rowC3 Y := by unfold rowC3; rw [List.flatMap_append]
theorem rowC3_at : ∀ (X : List R4) (i : Nat) (p : R4), X[i]? = some p → (rowC3 X)[i * 3]? = some (.int .i64 p.1) ∧ (rowC3 X)[i * 3 + 1]? = some (.int .i64 p.2.1) ∧ (rowC3 X)[i * 3 + 2]? = some p.2.2.1
  | [], i, p, h => by simp at h
  | q :: X, 0, p, h => by simp at h; subst h; exact ⟨rfl, rfl, rfl⟩
  | q :: X, i + 1, p, h => by
    simp at h
    have := rowC3_at X i p h
    have e : rowC3 (q :: X) = .int .i64 q.1 :: .int .i64 q.2.1 :: q.2.2.1 :: rowC3 X := rfl
    rw [e, show (i + 1) * 3 = i * 3 + 1 + 1 + 1 by omega]
    simpa using this
/-- rows that are told: a slice of the call's own, with slices of the call's own -/
structure RowsG (w : World) (B : Nat) (v : Value) (L : List R4) : Prop where
  own : w.ownsRow B 37 3 v L.length (rowC3 L)
  one : ∀ p ∈ L, w.ownsRow B 51 2 p.2.2.1 p.2.2.2.length (pv p.2.2.2) ∧ ∀ k, p.2.2.1.ownBlock = some k → v.ownBlock ≠ some k
theorem RowsG.nil (w : World) (B : Nat) : RowsG w B (.slice none 0 0) [] := ⟨World.ownsRow_nil _ _ _ _, by simp⟩
theorem RowsG.below {w w' : World} {B : Nat} {v : Value} {L : List R4} (h : RowsG w B v L) (hb : Below w.heap.size w w') : RowsG w' B v L :=
  ⟨owns_below h.own hb, fun p hp => ⟨owns_below (h.one p hp).1 hb, (h.one p hp).2⟩⟩
theorem RowsG.upd {S : Nat → Prop} {w w' : World} {B : Nat} {v : Value} {L : List R4} (h : RowsG w B v L) (hu : Upd S w w') (hS : ∀ k, B ≤ k → ¬ S k) : RowsG w' B v L :=
  ⟨hu.owns h.own (fun k hk => hS k (h.own.lt k hk).1), fun p hp => ⟨hu.owns (h.one p hp).1 (fun k hk => hS k ((h.one p hp).1.lt k hk).1), (h.one p hp).2⟩⟩
theorem RowsG.snoc {w w2 w9 : World} {B : Nat} {v v9 u : Value} {L : List R4} {h g : Int} {l : List (Int × Int)} (H : RowsG w B v L) (hb : Below w.heap.size w w2) (hu : w2.ownsRow w.heap.size 51 2 u l.length (pv l)) (hB : B ≤ w.heap.size)
    (ho : w9.ownsRow B 37 3 v9 (L.length + 1) (rowC3 L ++ [.int .i64 h, .int .i64 g, u])) (hg : w2.grownBy w9 v.ownBlock) (hw : ∀ k, v9.ownBlock = some k → v.ownBlock = some k ∨ w2.heap.size ≤ k) : RowsG w9 B v9 (L ++ [(h, g, u, l)]) := by
  have hg' := Upd.of_grown hg
  have hv : ∀ k, v.ownBlock = some k → k < w.heap.size := fun k hk => ownBlock_lt H.own hk
  have hul : ∀ k, u.ownBlock = some k → w.heap.size ≤ k ∧ k < w2.heap.size := fun k hk => hu.lt k hk
  refine ⟨?_, fun p hp => ?_⟩
  · rw [List.length_append, rowC3_append]; exact ho
  · rcases List.mem_append.1 hp with hp | hp
    · have h1 := H.one p hp
      refine ⟨hg'.owns (owns_below h1.1 hb) (fun k hk q => h1.2 k hk q), fun k hk q => ?_⟩
      rcases hw k q with q | q
      · exact h1.2 k hk q
      · have := ownBlock_lt h1.1 hk; have := hb.size; omega
    · simp at hp
      subst hp
      refine ⟨hg'.owns (ownsRow_base hu hB) (fun k hk q => by have := (hul k hk).1; have := hv k q; omega), fun k hk q => ?_⟩
      have h1 := hul k hk
      rcases hw k q with q | q
      · have := hv k q; omega
      · omega
theorem keysL_perm' {α : Type} (m : List (Int × α)) : (keysL m).Perm (m.map (·.1)) := List.mergeSort_perm _ _
theorem keys_iff {α β : Type} {m : List (Int × α)} {n : List (Int × β)} (h : ∀ k, m.lookup k = none ↔ n.lookup k = none) (k : Int) : k ∈ m.map (·.1) → k ∈ n.map (·.1) := by
  intro hk
  by_cases q : k ∈ n.map (·.1)
  · exact q
  · have h1 : n.lookup k = none := lookup_none_iff.2 (fun p hp e => q (List.mem_map.2 ⟨p, hp, e⟩))
    have h2 := lookup_none_iff.1 ((h k).2 h1)
    obtain ⟨p, hp, e⟩ := List.mem_map.1 hk
    exact absurd e (h2 p hp)
theorem keysL_tills {R : List RowG} {A : List (Int × Int)} {X : StX} (hn : (R.map (·.h)).Nodup) (hr : StRel (R.map RowG.core) A X) (hi : XInv X) : keysL (R.map RowG.ptr) = X.tills.map (·.1) := by
  have hl : ∀ k, (R.map RowG.core).lookup k = none ↔ X.tills.lookup k = none := fun k => by rw [hr.r1 k]; simp
  have hp : (X.tills.map (·.1)).Perm ((R.map RowG.ptr).map (·.1)) := by
    rw [ptr_keys]
    refine (List.perm_ext_iff_of_nodup hi.nodup hn).2 (fun k => ?_)
    rw [← core_keys]
    exact ⟨keys_iff (fun k => (hl k).symm) k, keys_iff hl k⟩
  have h1 := mergeSort_of_perm_i hp
  unfold keysL
  rw [← h1]
  refine List.mergeSort_of_pairwise ?_
  refine List.pairwise_map.2 (hi.t1.imp (fun {a b} h => ?_))
  have : kT a < kT b := h
  unfold kT at this
  simp; omega
def rowsX (X : StX) : List (Int × Int × List (Int × Int)) := X.tills.map fun p => (p.1, p.2, ofX X.goods p.1)
theorem rowsX_take {X : StX} {k : Nat} {p : Int × Int} (h : X.tills[k]? = some p) : (rowsX X).take (k + 1) = (rowsX X).take k ++ [(p.1, p.2, ofX X.goods p.1)] := by
  unfold rowsX
  rw [List.take_add_one, List.getElem?_map, h]
  rfl
theorem rowsX_len (X : StX) : (rowsX X).length = X.tills.length := by unfold rowsX; rw [List.length_map]
def RowsL23 (w1 : World) (X : StX) (v3 v13 : Value) (wr : World) : Prop :=
  ∃ (k : Nat) (L : List R4), v13 = .int .i64 k ∧ k ≤ X.tills.length ∧ RowsG wr w1.heap.size v3 L ∧ (L.map fun p => (p.1, p.2.1, p.2.2.2)) = (rowsX X).take k ∧ Below w1.heap.size w1 wr
def RowsPost (w : World) (X : StX) (e : Ending) (w' : World) : Prop :=
  ∃ v L, e = .returned v ∧ RowsG w' w.heap.size v L ∧ (L.map fun p => (p.1, p.2.1, p.2.2.2)) = rowsX X ∧ Below w.heap.size w w'
set_option maxRecDepth 100000 in
set_option maxHeartbeats 2000000 in
theorem stall_Rows {s : Nat} {F : Nat → Prop} {X : StX} (w : World) (h : StallIs w s F X) (hl : X.tills.length ≤ 100000) :
    Calls Try.prog 21 #[.pointer (some ⟨s, 0, none⟩)] w (RowsPost w X) := by
  obtain ⟨b1, b2, R, A, hp, hr, hi⟩ := h
  obtain ⟨c0, -⟩ := hp.cells
  have HP := hid hp
  have HR := hid hr
  have HI := hid hi
  have hks := keysL_tills hp.nodup hr hi
  have hwf : ∀ p ∈ R.map RowG.ptr, (Lit.int .i64 p.1).wf = true := by
    intro p hpv
    have h1 : p.1 ∈ X.tills.map (·.1) := by rw [← hks]; exact (keysL_perm' _).mem_iff.2 (List.mem_map_of_mem hpv)
    obtain ⟨q, hq, e⟩ := List.mem_map.1 h1
    have := hi.t2 q hq
    simp only [Lit.wf, Bool.and_eq_true, decide_eq_true_eq]
    rw [← e]
    exact ⟨by show (-9223372036854775808 : Int) ≤ _; omega, by show _ ≤ (9223372036854775807 : Int); omega⟩
  have hlen : (R.map RowG.ptr).length ≤ 1000000 := by
    have h1 := congrArg List.length hks
    rw [(keysL_perm' _).length_eq] at h1
    simp only [List.length_map] at h1 ⊢
    omega
  have HKS := hid (sorted_SR b1 (R.map RowG.ptr) w hp.m1 hwf hlen)
  obtain ⟨ks, hkk⟩ : ∃ ks, X.tills.map (·.1) = ks := ⟨_, rfl⟩
  have hkl : ks.length = X.tills.length := by rw [← hkk, List.length_map]
  have HKK := hid hkk
  rw [hkk] at hks
  have HKE := hid hks
  clear hp hr hi hks hwf hlen hkk
  go_enter Try.func21, Try.ntmps21
  go_wp2_with fail
  refine (keys_SR (some b1) w).mono ?_
  rintro e w' ⟨rfl, rfl⟩
  go_wp2_with fail
  refine HKS.out.mono ?_
  rintro e w1 ⟨vk, rfl, hown, hb1⟩
  rw [HKE.out] at hown
  have HOWN := hid hown
  have HB1 := hid hb1
  obtain ⟨ak, ck, rfl, -, -, hrdk, -⟩ := ownsRow.rd hown
  have HRD := hid hrdk
  have HP1 := hid (HP.out.below hb1)
  clear hown hb1 hrdk c0
  go_wp2_with fail
  go_loopw [3, 13] (fun v3 v13 wr => RowsL23 w1 X v3 v13 wr) (fun _ v13 _ => ks.length - (intOf v13).toNat)
  case atStart => exact ⟨0, [], rfl, by omega, RowsG.nil _ _, by simp, Below.refl _ _⟩
  case round =>
    obtain ⟨k, L, rfl, hk, hra, hL, hbr⟩ := hrel
    have HRA := hid hra
    have HL := hid hL
    have HBR := hid hbr
    clear hra hL hbr
    by_cases hlt : k < ks.length
    · have hrd2 : Rd wr ak (ks.map (.int .i64)) := HRD.out.below' HBR.out
      obtain ⟨bk, ok, house, rfl, hcell, hx, -, -, -⟩ := hrd2.int k hlt
      obtain ⟨⟨h0, till⟩, hp0⟩ : ∃ p, X.tills[k]? = some p := ⟨_, List.getElem?_eq_getElem (by omega)⟩
      have hh : h0 = house := by
        rw [← HKK.out, List.getElem?_map, hp0] at hx
        exact Option.some.inj hx
      subst hh
      have hlk : X.tills.lookup h0 = some till := (lookup_mem_iff HI.out.nodup).2 (List.mem_of_getElem? hp0)
      have HPR := hid (HP1.out.below HBR.out)
      obtain ⟨R1, r, R2, e, rfl, rfl, hgs⟩ := HPR.out.at HR.out hlk
      have H1 : Hid (((R.map RowG.ptr).lookup r.h).getD (.pointer none) = .pointer (some ⟨r.p, 0, none⟩)) := hid (by rw [HPR.out.look e]; rfl)
      have hrow := HPR.out.row r (by rw [e]; simp)
      obtain ⟨a2, c2, hv, hsl⟩ : ∃ a2 c2, r.v = .slice a2 r.gs.length c2 ∧ SlP wr (.slice a2 r.gs.length c2) r.gs := by
        obtain ⟨a2, c2, hv, q⟩ := hrow.own.slp
        exact ⟨a2, c2, hv, by rw [← hv]; exact hrow.own.slp⟩
      obtain ⟨d0, d1, d2⟩ := hrow.cells
      rw [hv] at d2
      obtain ⟨c0, -⟩ := HPR.out.cells
      have HM := hid HPR.out.m1
      have HS2 := hid hsl
      have HROW : Hid ((rowsX X).take (k + 1) = (rowsX X).take k ++ [(r.h, r.till, r.gs)]) := hid (by rw [hgs]; exact rowsX_take hp0)
      have hg16 : r.gs.length ≤ 16 := by rw [hgs]; exact HI.out.g3 _
      have HG := hid hg16
      have e0 : (0 : Int) ≤ (k : Int) := by omega
      have e1 : (k : Int) < (ks.length : Int) := by omega
      have hLn : L.length = k := by
        have := congrArg List.length HL.out
        rw [List.length_map, List.length_take, rowsX_len] at this
        omega
      have HLN := hid hLn
      clear hx hLn hrd2 e hgs hrow hv hsl hlk hp0 hg16
      go_wp2_with (at_lookup; refine wpList_look1 _ rfl _ _ rfl Try.underlying64 Try.underlying3 _ zero_rowp rfl HM.out r.h rfl _ H1 ?_)
      refine (stall_copied wr r.h r.till r.gs HS2.out (by have := HG.out; omega)).mono ?_
      rintro e w2 ⟨a', c', rfl, hown2, hb2⟩
      have HO2 := hid hown2
      have HB2 := hid hb2
      have HW2 := hid (owns_below HRA.out.own hb2)
      clear hown2 hb2 hcell c0 d0 d1 d2
      go_wp2_with (at_builtin; refine wpList_append1w T_row23 w2 rfl _ _ #[.int .i64 r.h, .int .i64 r.till, .slice a' r.gs.length c'] rfl w1.heap.size _ _ _ rfl HW2.out rfl rfl ?h1 ?h2 ?h3 ?_)
      case h1 => first | exact ⟨rfl, rfl, rfl⟩ | (intro u hu; simp at hu; rcases hu with rfl | rfl | rfl <;> rfl)
      case h2 => have := HLN.out; omega
      case h3 => have := HBR.out.size; have := HB2.out.size; omega
      intro v9 w9 hown9 hg9 hnn9 hwh9
      have HRA9 := hid (RowsG.snoc HRA.out HB2.out HO2.out HBR.out.size hown9 hg9 hwh9)
      have HB9 : Hid (Below w1.heap.size w1 w9) := hid ((Below.next HBR.out HB2.out).trans ((Upd.of_grown hg9).below (Nat.le_trans HBR.out.size HB2.out.size) (fun j _ q => (HRA.out.own.lt j q).1)))
      clear hown9 hg9 hnn9 hwh9
      go_wp2_with fail
      go_roundw
      case rel => exact ⟨k + 1, L ++ [(r.h, r.till, .slice a' r.gs.length c', r.gs)], by go_num, by omega, HRA9.out, by rw [List.map_append, HL.out, HROW.out]; rfl, HB9.out⟩
      case measure => simp [intOf]; omega
    · have hkl2 : k = ks.length := by omega
      have HK2 := hid hkl2
      have HKL := hid hkl
      clear hkl2
      go_wp2_with fail
      go_ret
      refine ⟨_, L, rfl, ?_, ?_, Below.next HB1.out HBR.out⟩
      · exact ⟨ownsRow_base HRA.out.own HB1.out.size, fun p hp => ⟨ownsRow_base (HRA.out.one p hp).1 HB1.out.size, (HRA.out.one p hp).2⟩⟩
      · rw [HL.out, List.take_of_length_le]
        rw [rowsX_len, HK2.out, HKL.out]
        exact Nat.le_refl _
end Go.Proofs.Ytajfjgekcjkedaa
end
section
/- What comes in, opened: a slice of elements of k cells, each of which reads as E says. No program in sight. -/
namespace Go.Proofs.Ytajfjgekcjkedaa
open Go.RowKit Go.ChangeShapes Go.WideShapes Go.Deep
open Go.Lib (hid)
set_option linter.unusedVariables false

/-- a slice whose elements of k cells read as E says -/
def SlE {α : Type} (E : World → (Nat → Option Value) → α → Prop) (k : Nat) (w : World) (v : Value) (L : List α) : Prop :=
  ∃ a c, v = .slice a L.length c ∧ L.length ≤ c ∧ c ≤ 9223372036854775807 ∧ (a = none → c = 0) ∧
    ∀ i x, L[i]? = some x → ∃ b off, a = some ⟨b, off, none⟩ ∧ b < w.heap.size ∧ E w (fun j => w.cell? ⟨b, off + i * k + j, none⟩) x
/-- what a reading of an element keeps -/
structure Kept {α : Type} (E : World → (Nat → Option Value) → α → Prop) (k : Nat) : Prop where
  keep : ∀ {w w' : World} {f g : Nat → Option Value} {x : α}, Below w.heap.size w w' → (∀ j u, j < k → f j = some u → g j = some u) → E w f x → E w' g x
  zero : ∀ {w : World} {f : Nat → Option Value} {x : α}, E w f x → ∃ u, f 0 = some u
theorem SlE.below {α : Type} {E : World → (Nat → Option Value) → α → Prop} {k : Nat} (K : Kept E k) {w w' : World} {v : Value} {L : List α} (h : SlE E k w v L) (hb : Below w.heap.size w w') : SlE E k w' v L := by
  obtain ⟨a, c, h1, h2, h3, h4, h5⟩ := h
  refine ⟨a, c, h1, h2, h3, h4, fun i x hx => ?_⟩
  obtain ⟨b, off, k1, k2, k3⟩ := h5 i x hx
  exact ⟨b, off, k1, Nat.lt_of_lt_of_le k2 hb.size, K.keep hb (fun j u _ hu => by rw [← hu]; exact World.cell?_of_block (hb.block b k2)) k3⟩
theorem open_slE {α : Type} [Inhabited α] {E : World → (Nat → Option Value) → α → Prop} {k : Nat} (K : Kept E k) {H : Type} {enc : TypeId × Value → H} {P : Program} {t e : TypeId} {w : World} {r0 : Reach} {b0 : Nat} {v : Value} {d : DataW H} {p : List MemPlace}
    (ht : P.underlying t = some (.slice e)) (hk : P.cellsOf e = k) (elem : ∀ (n : Nat) (cs : List Value) (x : DataW H × List MemPlace), DataW.trod enc P w 0 (fun _ => true) true n e cs = some x → ∃ t, E w (fun j => cs[j]?) t)
    (hok : Value.okWide P w r0 b0 t v) (h : DataW.Trod enc P w 0 (fun _ => true) true t v d p) : ∃ L, SlE E k w v L := by
  obtain ⟨a0, len0, cap0, rfl⟩ := okWide_slice ht hok
  obtain ⟨fuel, hf⟩ := h
  rcases open_slice ht hf with ⟨hcs, -⟩ | ⟨a, len, cap, m, n, D, Pl, hcs, hb, hl, hm, hmm, hx, hi⟩
  · simp [Value.cells] at hcs
    obtain ⟨rfl, rfl, rfl⟩ := hcs
    exact ⟨[], none, 0, rfl, by simp, by omega, fun _ => rfl, fun i r hr => by simp at hr⟩
  · simp [Value.cells] at hcs
    obtain ⟨rfl, rfl, rfl⟩ := hcs
    simp only [if_true] at hmm
    obtain rfl : cap0 = m := hmm.symm
    have key : ∀ i, i < cap0 → ∃ q : α, E w (fun j => w.cell? (a.add (i * k + j))) q := by
      intro i hic
      obtain ⟨cs', hc, ht'⟩ := hi i hic
      rw [hk] at hc
      obtain ⟨t, ht⟩ := elem _ _ _ ht'
      obtain ⟨-, hcl, hat⟩ := World.cells?_some hc
      exact ⟨t, K.keep (Below.refl _ _) (fun j u hj hu => by rw [← Go.Deep.add_add, hat j hj]; exact hu) ht⟩
    obtain ⟨f, hfun⟩ := choose_lt key
    have hlen : ((List.range len0).map f).length = len0 := by simp
    refine ⟨(List.range len0).map f, some a, cap0, by rw [hlen], by rw [hlen]; exact hl, by unfold maxLen at hm; omega, nofun, ?_⟩
    intro i r hr
    rw [List.getElem?_map] at hr
    by_cases hil : i < len0
    · rw [List.getElem?_range hil] at hr
      simp at hr
      subst hr
      have q := hfun i (by omega)
      obtain ⟨b, off, spot⟩ := a
      obtain ⟨u0, p0⟩ := K.zero (hfun 0 (by omega))
      have hspot : spot = none := by simpa [Addr.add] using World.cell?_spot p0
      subst hspot
      obtain ⟨u1, q0⟩ := K.zero q
      simp only [Addr.add_lit] at q0
      refine ⟨b, off, rfl, World.block_lt_of_cell? w _ q0, K.keep (Below.refl _ _) (fun j u hj hu => ?_) q⟩
      rw [Addr.add_lit] at hu
      rw [Nat.add_assoc]; exact hu
    · rw [List.getElem?_eq_none (by simp; omega)] at hr; simp at hr
theorem structE_fields {H : Type} {enc : TypeId × Value → H} {P : Program} {w : World} {base : Nat} {spare : Nat → Bool} {held : Bool} {t : TypeId} {fs : Array Field} {n : Nat} {cs : List Value} {x : DataW H × List MemPlace} (ht : P.underlying t = some (.struct fs)) (hone : oneCellFields P fs = true)
    (h : DataW.trod enc P w base spare held n t cs = some x) : cs.length = P.cellsOf t ∧ ∃ (ys : List (DataW H × List MemPlace)) (n' : Nat), ys.length = fs.size ∧ ∀ (j : Nat) (f : Field), fs[j]? = some f → DataW.trod enc P w base spare held n' f.type ((cs.drop j).take 1) = ys[j]? := by
  obtain ⟨ys, n', hn', hy, hlen, hyl, hf⟩ := DataW.trod_struct ht h
  refine ⟨hlen, ys, n', hyl, fun j f hj => ?_⟩
  obtain ⟨ho, hk⟩ := hone_of hone j f hj
  have := hf j f hj
  rwa [ho, hk] at this
theorem listOf2 {α : Type} : ∀ {l : List α}, l.length = 2 → ∃ a b, l = [a, b]
  | [a, b], _ => ⟨a, b, rfl⟩
theorem listOf3 {α : Type} : ∀ {l : List α}, l.length = 3 → ∃ a b c, l = [a, b, c]
  | [a, b, c], _ => ⟨a, b, c, rfl⟩
theorem listOf4 {α : Type} : ∀ {l : List α}, l.length = 4 → ∃ a b c d, l = [a, b, c, d]
  | [a, b, c, d], _ => ⟨a, b, c, d, rfl⟩
theorem listOf5 {α : Type} : ∀ {l : List α}, l.length = 5 → ∃ a b c d e, l = [a, b, c, d, e]
  | [a, b, c, d, e], _ => ⟨a, b, c, d, e, rfl⟩
theorem listOf6 {α : Type} : ∀ {l : List α}, l.length = 6 → ∃ a b c d e f, l = [a, b, c, d, e, f]
  | [a, b, c, d, e, f], _ => ⟨a, b, c, d, e, f, rfl⟩
end Go.Proofs.Ytajfjgekcjkedaa
end
