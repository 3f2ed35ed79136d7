/- Joined texts, in this order: Keys. Each one's first remark says what it proves; no condition beyond those that its theorems name. -/
import Derived.Test.YtohknblokejldaaJLawChestCopies14
import Derived.Test.YtohknblokejldaaJLawChestCopies03
import Derived.Test.YtohknblokejldaaProg
section
/- slices.Sorted(maps.Keys(m)) at maps from integers, by the shelf's contracts. -/
namespace Go.Proofs.Ytohknblokejldaa
open Go.RowKit Go.Maps Go.Sort Go.Shelf
open Go.Lib (hid)
set_option linter.unusedVariables false

/-- the number of a key -/
def vkeyI : Value → Int
  | .int _ a => a
  | _ => 0
/-- a map's keys, rising -/
def keysL {α : Type} (m : List (Int × α)) : List Int := (m.map (·.1)).mergeSort (fun x y => decide (x ≤ y))
theorem MapE.ownsMap {P : Program} {w : World} {b : Nat} {m : List (Int × Value)} {k : TypeId} (hk : P.underlying k = some (.int .i64)) (h : MapE w b m) (hwf : ∀ p ∈ m, (Lit.int .i64 p.1).wf = true) (hm : m.length ≤ 1000000) :
    ∃ D : DataW Unit, w.ownsMap P k (fun _ => some (.nil, [])) b m.length D ∧ Maps.size D = m.length ∧ (intKeys D).Perm (m.map (·.1)) := by
  obtain ⟨es, clock, hb, hst, he⟩ := h
  have hlen : es.size = m.length := by have := congrArg List.length he; simpa using this
  have hkey : ∀ x ∈ es.toList, ∃ a : Int, x.key = .int .i64 a ∧ (Lit.int .i64 a).wf = true := by
    intro x hx
    have : (x.key, x.val) ∈ m.map (fun p => (Value.int .i64 p.1, p.2)) := by rw [← he]; exact List.mem_map.2 ⟨x, hx, rfl⟩
    obtain ⟨p, hp, h⟩ := List.mem_map.1 this
    exact ⟨p.1, (Prod.mk.inj h).1.symm, hwf p hp⟩
  have hrd : ∀ x ∈ es.toList, ∃ a : Int, x.key = .int .i64 a ∧ Go.WideElems.rd (H := Unit) P k (fun _ => some (.nil, [])) x = some (.int .i64 a, .nil) := by
    intro x hx
    obtain ⟨a, e, ha⟩ := hkey x hx
    refine ⟨a, e, ?_⟩
    unfold Go.WideElems.rd
    rw [e, Maps.keyOf_int_mk hk ha]
    rfl
  refine ⟨_, ⟨es, clock, hb, ⟨by unfold maxLen; omega, hst, fun x hx => by obtain ⟨a, -, h⟩ := hrd x hx; exact ⟨_, h⟩⟩, by omega, rfl⟩, ?_, ?_⟩
  · show ((es.toList.map (Go.WideElems.rg P k _)).foldr DataW.insert []).length = m.length
    rw [length_sorted]; simpa using hlen
  · show (((es.toList.map (Go.WideElems.rg P k _)).foldr DataW.insert []).map fun p => Go.intOf p.1).Perm _
    refine ((Go.WideShapes.sorted_perm _).map _).trans ?_
    rw [List.map_map]
    have e1 : es.toList.map ((fun p : Lit × DataW Unit => Go.intOf p.1) ∘ Go.WideElems.rg P k (fun _ => some (.nil, []))) = es.toList.map (fun x => vkeyI x.key) := by
      apply List.map_congr_left
      intro x hx
      obtain ⟨a, e, h⟩ := hrd x hx
      simp only [Function.comp, Go.WideElems.rg_of h, e]
      rfl
    have e2 : m.map (·.1) = es.toList.map (fun x => vkeyI x.key) := by
      have := congrArg (List.map fun q : Value × Value => vkeyI q.1) he
      rw [List.map_map, List.map_map] at this
      exact this.symm
    rw [e1, e2]
theorem sortsI (m : Nat) : AnyZI.SortsIn Try.prog Try.lays_SlLaysZI_n6_80_ren Fence.wide m :=
  ⟨fun blk off cap ss W hH hblk hsz => callsIn_wide.2 (Any.slices_Sort_int Try.lays_Lays_n189 blk off cap ss W hH hblk hsz),
   fun p cap W => callsIn_wide.2 (Any.slices_Sort_int_none Try.lays_Lays_n189 p cap W)⟩
theorem keys_CI (mb : Option Nat) (W : World) : Calls Try.prog 81 #[.map mb] W fun e w' => e = .returned (.func (.func 109) #[] #[.pointer (some ⟨W.heap.size, 0, none⟩)]) ∧ w' = W.alloc (.cells #[.map mb] 123) :=
  (callsIn_wide (n := 5)).1 (AnyZI.keys_in Try.lays_SlLaysZI_n7_81 Fence.wide 5 trivial rfl mb W)
set_option maxHeartbeats 1000000 in
theorem sorted_CI (b : Nat) (m : List (Int × Value)) (w : World) (h : MapE w b m) (hwf : ∀ p ∈ m, (Lit.int .i64 p.1).wf = true) (hm : m.length ≤ 1000000) :
    Calls Try.prog 80 #[.func (.func 109) #[] #[.pointer (some ⟨w.heap.size, 0, none⟩)]] (w.alloc (.cells #[.map (some b)] 123)) fun e w' => ∃ v, e = .returned v ∧ w'.ownsRow (w.heap.size + 1) 3 1 v (keysL m).length ((keysL m).map (.int .i64)) ∧ Below w.heap.size w w' := by
  obtain ⟨D, hown, hsz, hperm⟩ := h.ownsMap (P := Try.prog) Try.underlying3 hwf hm
  have hseq : SeqGives Fence.wide 2 Try.prog 109 #[.pointer (some ⟨w.heap.size, 0, none⟩)] encZ (fun ss => ss.Perm (intKeys D)) (Maps.size D) (w.alloc (.cells #[.map (some b)] 123)) :=
    AnyZI.keys_gives (ρ := Try.lays_SlLaysZI_n7_81_ren) { Try.lays_SlLaysZI_n7_81 with } Fence.wide _ trivial rfl (by omega) w.heap.size b m.length D _ (by simp) (by simp) (by
      have hbl := hown.lt
      obtain ⟨es, clock, hb, Ft, hs, hD⟩ := hown
      exact ⟨es, clock, (Below.heap_alloc _ _ b hbl).trans hb, Ft, hs, hD⟩)
  have cS := AnyZI.sorted_in Try.lays_SlLaysZI_n6_80 Fence.wide 5 trivial trivial trivial trivial rfl (by omega) (sortsI _) (enters_of Try.func108 (by kernel_rfl) rfl) 109 #[.pointer (some ⟨w.heap.size, 0, none⟩)] trivial (enters_of Try.func109 (by kernel_rfl) rfl) _ _ (by rw [hsz]; unfold maxLen; omega) (by rw [hsz]; omega) _ hseq
  refine ((callsIn_wide (n := 5)).1 cS).mono ?_
  rintro e w' ⟨v, ss, rfl, hS, hrow, -, hb⟩
  have hk : ss.mergeSort (fun x y => decide (x ≤ y)) = keysL m := mergeSort_of_perm_i (hS.trans hperm)
  have hl : ss.length = (keysL m).length := by rw [← hk, List.length_mergeSort]
  rw [hk, hl] at hrow
  have hz : (w.alloc (.cells #[.map (some b)] 123)).heap.size = w.heap.size + 1 := by simp
  exact ⟨v, rfl, by rw [hz] at hrow; exact hrow, ((Below.refl _ w).alloc (Nat.le_refl _) _).trans (hb.mono (by rw [hz]; omega))⟩
theorem keys_DB (mb : Option Nat) (W : World) : Calls Try.prog 85 #[.map mb] W fun e w' => e = .returned (.func (.func 110) #[] #[.pointer (some ⟨W.heap.size, 0, none⟩)]) ∧ w' = W.alloc (.cells #[.map mb] 115) :=
  (callsIn_wide (n := 5)).1 (AnyZI.keys_in Try.lays_SlLaysZI_n7_85 Fence.wide 5 trivial rfl mb W)
set_option maxHeartbeats 1000000 in
theorem sorted_DB (b : Nat) (m : List (Int × Value)) (w : World) (h : MapE w b m) (hwf : ∀ p ∈ m, (Lit.int .i64 p.1).wf = true) (hm : m.length ≤ 1000000) :
    Calls Try.prog 80 #[.func (.func 110) #[] #[.pointer (some ⟨w.heap.size, 0, none⟩)]] (w.alloc (.cells #[.map (some b)] 115)) fun e w' => ∃ v, e = .returned v ∧ w'.ownsRow (w.heap.size + 1) 3 1 v (keysL m).length ((keysL m).map (.int .i64)) ∧ Below w.heap.size w w' := by
  obtain ⟨D, hown, hsz, hperm⟩ := h.ownsMap (P := Try.prog) Try.underlying3 hwf hm
  have hseq : SeqGives Fence.wide 2 Try.prog 110 #[.pointer (some ⟨w.heap.size, 0, none⟩)] encZ (fun ss => ss.Perm (intKeys D)) (Maps.size D) (w.alloc (.cells #[.map (some b)] 115)) :=
    AnyZI.keys_gives (ρ := Try.lays_SlLaysZI_n7_85_ren) { Try.lays_SlLaysZI_n7_85 with } Fence.wide _ trivial rfl (by omega) w.heap.size b m.length D _ (by simp) (by simp) (by
      have hbl := hown.lt
      obtain ⟨es, clock, hb, Ft, hs, hD⟩ := hown
      exact ⟨es, clock, (Below.heap_alloc _ _ b hbl).trans hb, Ft, hs, hD⟩)
  have cS := AnyZI.sorted_in Try.lays_SlLaysZI_n6_80 Fence.wide 5 trivial trivial trivial trivial rfl (by omega) (sortsI _) (enters_of Try.func108 (by kernel_rfl) rfl) 110 #[.pointer (some ⟨w.heap.size, 0, none⟩)] trivial (enters_of Try.func110 (by kernel_rfl) rfl) _ _ (by rw [hsz]; unfold maxLen; omega) (by rw [hsz]; omega) _ hseq
  refine ((callsIn_wide (n := 5)).1 cS).mono ?_
  rintro e w' ⟨v, ss, rfl, hS, hrow, -, hb⟩
  have hk : ss.mergeSort (fun x y => decide (x ≤ y)) = keysL m := mergeSort_of_perm_i (hS.trans hperm)
  have hl : ss.length = (keysL m).length := by rw [← hk, List.length_mergeSort]
  rw [hk, hl] at hrow
  have hz : (w.alloc (.cells #[.map (some b)] 115)).heap.size = w.heap.size + 1 := by simp
  exact ⟨v, rfl, by rw [hz] at hrow; exact hrow, ((Below.refl _ w).alloc (Nat.le_refl _) _).trans (hb.mono (by rw [hz]; omega))⟩
end Go.Proofs.Ytohknblokejldaa
end
