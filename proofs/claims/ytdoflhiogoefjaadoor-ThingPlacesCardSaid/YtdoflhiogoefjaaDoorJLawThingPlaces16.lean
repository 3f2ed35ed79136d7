/- Joined texts, in this order: Keys, ThingKey, Ends. Each one's first remark says what it proves; no condition beyond those that its theorems name. -/
import Derived.Test.YtdoflhiogoefjaaDoorJLawThingPlaces15
import Derived.Test.YtdoflhiogoefjaaDoorJLawThingPlaces03
import Derived.Test.YtdoflhiogoefjaaDoorProg
import Derived.Test.YtdoflhiogoefjaaDoorJLawThingPlaces07
import Derived.Test.YtdoflhiogoefjaaDoorJLawThingPlaces12
import Derived.Test.YtdoflhiogoefjaaDoorJLawThingPlaces14
import Derived.Laws.StructEq
import Derived.Test.YtdoflhiogoefjaaDoorJLawThingPlaces08
import Derived.Test.YtdoflhiogoefjaaDoorJLawThingPlaces09
section
/- slices.Sorted(maps.Keys(m)) at maps from integers, by the shelf's contracts. -/
namespace Go.Proofs.YtdoflhiogoefjaaDoor
open Go.RowKit Go.Maps Go.Sort Go.Shelf
open Go.Lib (hid)
set_option linter.unusedVariables false

/-- the number of a key -/
def vkeyI : Value → Int
  | .int _ a => a
  | _ => 0
/-- a map's keys, rising -/
def keysL {α : Type} (m : List (Int × α)) : List Int := (m.map (·.1)).mergeSort (fun x y => decide (x ≤ y))
theorem MapE.ownsMap {P : Program} {w : World} {b : Nat} {m : List (Int × Value)} {k : TypeId} (hk : P.underlying k = some (.int .i64)) (h : MapE w b m) (hwf : ∀ p ∈ m, (Lit.int .i64 p.1).wf = true) (hm : m.length ≤ 1000000) :
    ∃ D : DataW Unit, w.ownsMap P k (fun _ => some (.nil, [])) b m.length D ∧ Maps.size D = m.length ∧ (intKeys D).Perm (m.map (·.1)) := by
  obtain ⟨es, clock, hb, hst, he⟩ := h
  have hlen : es.size = m.length := by have := congrArg List.length he; simpa using this
  have hkey : ∀ x ∈ es.toList, ∃ a : Int, x.key = .int .i64 a ∧ (Lit.int .i64 a).wf = true := by
    intro x hx
    have : (x.key, x.val) ∈ m.map (fun p => (Value.int .i64 p.1, p.2)) := by rw [← he]; exact List.mem_map.2 ⟨x, hx, rfl⟩
    obtain ⟨p, hp, h⟩ := List.mem_map.1 this
    exact ⟨p.1, (Prod.mk.inj h).1.symm, hwf p hp⟩
  have hrd : ∀ x ∈ es.toList, ∃ a : Int, x.key = .int .i64 a ∧ Go.WideElems.rd (H := Unit) P k (fun _ => some (.nil, [])) x = some (.int .i64 a, .nil) := by
    intro x hx
    obtain ⟨a, e, ha⟩ := hkey x hx
    refine ⟨a, e, ?_⟩
    unfold Go.WideElems.rd
    rw [e, Maps.keyOf_int_mk hk ha]
    rfl
  refine ⟨_, ⟨es, clock, hb, ⟨by unfold maxLen; omega, hst, fun x hx => by obtain ⟨a, -, h⟩ := hrd x hx; exact ⟨_, h⟩⟩, by omega, rfl⟩, ?_, ?_⟩
  · show ((es.toList.map (Go.WideElems.rg P k _)).foldr DataW.insert []).length = m.length
    rw [length_sorted]; simpa using hlen
  · show (((es.toList.map (Go.WideElems.rg P k _)).foldr DataW.insert []).map fun p => Go.intOf p.1).Perm _
    refine ((Go.WideShapes.sorted_perm _).map _).trans ?_
    rw [List.map_map]
    have e1 : es.toList.map ((fun p : Lit × DataW Unit => Go.intOf p.1) ∘ Go.WideElems.rg P k (fun _ => some (.nil, []))) = es.toList.map (fun x => vkeyI x.key) := by
      apply List.map_congr_left
      intro x hx
      obtain ⟨a, e, h⟩ := hrd x hx
      simp only [Function.comp, Go.WideElems.rg_of h, e]
      rfl
    have e2 : m.map (·.1) = es.toList.map (fun x => vkeyI x.key) := by
      have := congrArg (List.map fun q : Value × Value => vkeyI q.1) he
      rw [List.map_map, List.map_map] at this
      exact this.symm
    rw [e1, e2]
theorem sortsI (m : Nat) : AnyZI.SortsIn Tryd.prog Tryd.lays_SlLaysZI_n6_48_ren Fence.wide m :=
  ⟨fun blk off cap ss W hH hblk hsz => callsIn_wide.2 (Any.slices_Sort_int Tryd.lays_Lays_n189 blk off cap ss W hH hblk hsz),
   fun p cap W => callsIn_wide.2 (Any.slices_Sort_int_none Tryd.lays_Lays_n189 p cap W)⟩
theorem keys_TT (mb : Option Nat) (W : World) : Calls Tryd.prog 49 #[.map mb] W fun e w' => e = .returned (.func (.func 58) #[] #[.pointer (some ⟨W.heap.size, 0, none⟩)]) ∧ w' = W.alloc (.cells #[.map mb] 68) :=
  (callsIn_wide (n := 5)).1 (AnyZI.keys_in Tryd.lays_SlLaysZI_n7_49 Fence.wide 5 trivial rfl mb W)
set_option maxHeartbeats 1000000 in
theorem sorted_TT (b : Nat) (m : List (Int × Value)) (w : World) (h : MapE w b m) (hwf : ∀ p ∈ m, (Lit.int .i64 p.1).wf = true) (hm : m.length ≤ 1000000) :
    Calls Tryd.prog 48 #[.func (.func 58) #[] #[.pointer (some ⟨w.heap.size, 0, none⟩)]] (w.alloc (.cells #[.map (some b)] 68)) fun e w' => ∃ v, e = .returned v ∧ w'.ownsRow (w.heap.size + 1) 3 1 v (keysL m).length ((keysL m).map (.int .i64)) ∧ Below w.heap.size w w' := by
  obtain ⟨D, hown, hsz, hperm⟩ := h.ownsMap (P := Tryd.prog) Tryd.underlying3 hwf hm
  have hseq : SeqGives Fence.wide 2 Tryd.prog 58 #[.pointer (some ⟨w.heap.size, 0, none⟩)] encZ (fun ss => ss.Perm (intKeys D)) (Maps.size D) (w.alloc (.cells #[.map (some b)] 68)) :=
    AnyZI.keys_gives (ρ := Tryd.lays_SlLaysZI_n7_49_ren) { Tryd.lays_SlLaysZI_n7_49 with } Fence.wide _ trivial rfl (by omega) w.heap.size b m.length D _ (by simp) (by simp) (by
      have hbl := hown.lt
      obtain ⟨es, clock, hb, Ft, hs, hD⟩ := hown
      exact ⟨es, clock, (Below.heap_alloc _ _ b hbl).trans hb, Ft, hs, hD⟩)
  have cS := AnyZI.sorted_in Tryd.lays_SlLaysZI_n6_48 Fence.wide 5 trivial trivial trivial trivial rfl (by omega) (sortsI _) (enters_of Tryd.func57 (by kernel_rfl) rfl) 58 #[.pointer (some ⟨w.heap.size, 0, none⟩)] trivial (enters_of Tryd.func58 (by kernel_rfl) rfl) _ _ (by rw [hsz]; unfold maxLen; omega) (by rw [hsz]; omega) _ hseq
  refine ((callsIn_wide (n := 5)).1 cS).mono ?_
  rintro e w' ⟨v, ss, rfl, hS, hrow, -, hb⟩
  have hk : ss.mergeSort (fun x y => decide (x ≤ y)) = keysL m := mergeSort_of_perm_i (hS.trans hperm)
  have hl : ss.length = (keysL m).length := by rw [← hk, List.length_mergeSort]
  rw [hk, hl] at hrow
  have hz : (w.alloc (.cells #[.map (some b)] 68)).heap.size = w.heap.size + 1 := by simp
  exact ⟨v, rfl, by rw [hz] at hrow; exact hrow, ((Below.refl _ w).alloc (Nat.le_refl _) _).trans (hb.mono (by rw [hz]; omega))⟩
end Go.Proofs.YtdoflhiogoefjaaDoor
end
section
/- Places as keys of maps; equality of structs of things. -/
namespace Go.Proofs.YtdoflhiogoefjaaDoor
open Go.RowKit
open Go.Lib (hid)
set_option linter.unusedVariables false

theorem placeKey : MP.KeyP Tryd.prog 23 where
  und := ⟨_, Tryd.underlying23⟩
  chk := fun e k w => by
    obtain ⟨a, b, c⟩ := k
    kernel_rfl
  eql := fun x y w => by
    have u3 := Tryd.underlying3
    have hS : Tryd.prog.underlying 23 = some (.struct (Tryd.prog.fieldsOf 23)) := by kernel_rfl
    have hp : Tryd.prog.stoodInHeld 23 = false := by kernel_rfl
    have h0 : (Op.equal 23 (MP.encP x) (MP.encP y)).run Tryd.prog w = (Op.equalIn (9999 + 1) 23 (MP.encP x) (MP.encP y)).run Tryd.prog w := rfl
    rw [h0]
    simp only [MP.encP]
    rw [run_equalIn_agg w 9999 23 _ _ hS hp]
    simp only [Program.fieldsOf, Tryd.underlying23]
    obtain ⟨x1, x2, x3⟩ := x
    obtain ⟨y1, y2, y3⟩ := y
    go_simp
    by_cases h1 : x1 = y1 <;> by_cases h2 : x2 = y2 <;> by_cases h3 : x3 = y3 <;> simp [h1, h2, h3]
end Go.Proofs.YtdoflhiogoefjaaDoor
end
section
/- The ends of functions whose result is a struct in memory. No program in sight. -/
namespace Go.Proofs.YtdoflhiogoefjaaDoor
open Go.RowKit
open Go.Lib (hid)
set_option linter.unusedVariables false

theorem results_cell1 {fn : Func} {a : Tmp} {t : TypeId} (h : fn.results = #[.cell a t]) (tmps : Array Value) (P : Program) (w : World) {x : Addr} {v : Value} (ha : tmps.getD a undef = .pointer (some x)) (hl : (loadVar t x).run P w = .ok v w) : (results fn tmps).run P w = .ok v w := by
  have ha' : tmps[a]?.getD undef = .pointer (some x) := by rw [← ha]; simp
  simp [results, h, ha', asAddr, hl, Result.andThen]
theorem results_cell_tmp {fn : Func} {a u : Tmp} {t : TypeId} (h : fn.results = #[.cell a t, .tmp u]) (tmps : Array Value) (P : Program) (w : World) {x : Addr} {v : Value} (ha : tmps.getD a undef = .pointer (some x)) (hl : (loadVar t x).run P w = .ok v w) : (results fn tmps).run P w = .ok (.tuple #[v, tmps.getD u undef]) w := by
  have ha' : tmps[a]?.getD undef = .pointer (some x) := by rw [← ha]; simp
  simp [results, h, ha', asAddr, hl, Result.andThen]
theorem K_alloc {K : Act → World → Prop} {a : Act} {x : World} {cs : Array Value} {e : TypeId} (h : ∀ (g : Nat) (wn : World), g = x.heap.size → wn.heap.size = g + 1 → Below x.heap.size x wn → Blk wn g cs → K a wn) : K a (x.alloc (.cells cs e)) :=
  h x.heap.size _ rfl (by simp) (Below.new _ _) (Blk.new _ _ _)
theorem K_allocD {K : Act → World → Prop} {a : Act} {x : World} {cs : Array Value} {e : TypeId} (h : ∀ (g : Nat) (wn : World), g = x.heap.size → wn.heap.size = g + 1 → Below x.heap.size x wn → Blk wn g cs → K a wn) : K a (x.alloc (.cells cs e)).drew :=
  h x.heap.size _ rfl (by simp) (Below.new _ _).drew (Blk.new _ _ _)
theorem Blk.c2 {w : World} {g : Nat} {a b : Value} (h : Blk w g #[a, b]) : w.cell? ⟨g, 0, none⟩ = some a ∧ w.cell? ⟨g, 1, none⟩ = some b ∧ w.frozen? ⟨g, 0, none⟩ = false ∧ w.frozen? ⟨g, 1, none⟩ = false :=
  ⟨by rw [h.cell]; rfl, by rw [h.cell]; rfl, h.unfrozen _, h.unfrozen _⟩
theorem set2_of {x : World} {g : Nat} {c0 c1 : Value} (h : Blk x g #[c0, c1]) (u0 u1 : Value) : ∃ wz, wz = (x.setCell ⟨g, 0, none⟩ u0).setCell ⟨g, 1, none⟩ u1 ∧ Blk wz g #[u0, u1] ∧ Upd (fun k => k = g) x wz :=
  ⟨_, rfl, by simpa using (h.set 0 u0).set 1 u1, (Upd.setCell x g 0 u0).trans (Upd.setCell _ g 1 u1) (fun _ _ q => q)⟩
end Go.Proofs.YtdoflhiogoefjaaDoor
end
