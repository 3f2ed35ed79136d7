/- Joined texts, in this order: RtSort, RtSort2, RtSort3, RtAgain. Each one's first remark says what it proves; no condition beyond those that its theorems name. -/
import Derived.Test.YtjbnfppnmljbmaaGreatJLawLandFinds12
import Derived.Shelf.RegionOpenPlain
section
/- Contracts: rtree's stable sort of a few nodes: they are the same nodes. -/
namespace Go.Proofs.YtjbnfppnmljbmaaGreat
open Go.RowKit
open Go.Lib (hid)
set_option linter.unusedVariables false
attribute [local go_sem] Oper.semAt_some

set_option maxRecDepth 100000 in
theorem rt_cmp (p q : Nat) (E1 E2 : Int) (w : World) (h1 : w.cell? ⟨p, 6, none⟩ = some (.int .i64 E1)) (h2 : w.cell? ⟨q, 6, none⟩ = some (.int .i64 E2)) :
    Calls Tryz.prog 93 #[.pointer (some ⟨p, 0, none⟩), .pointer (some ⟨q, 0, none⟩)] w fun e w' => ∃ n : Int, e = .returned (.int .i64 n) ∧ Below w.heap.size w w' := by
  go_enter Tryz.func93, Tryz.ntmps93
  go_upto_region 1 with fail
  replace h1 := fun (z : World) (hz : Below w.heap.size w z) => cellOf_belowR hz h1
  replace h2 := fun (z : World) (hz : Below w.heap.size w z) => cellOf_belowR hz h2
  have hyd := (Below.refl w.heap.size w).drew
  refine wp_region_kept [9] (fun z => Below w.heap.size w z) (by kernel_rfl) (by assumption) (fun hH => ?_)
  refine wpK.take (i := 0) (v := _) (by simp only [List.getElem?_toArray, List.getElem?_cons_succ, List.getElem?_cons_zero]; rfl) (by kernel_rfl) (by kernel_rfl) (by kernel_rfl) (by kernel_rfl) (by kernel_rfl) (by exact fun _ _ _ h => h) (by first | exact Or.inl ⟨by rfl, by intro w hSw; go_simp; try with_reducible rfl⟩ | exact Or.inr ⟨by rfl, rfl⟩) hH ?_
  try simp only [Act.put, List.setIfInBounds_toArray, List.set_cons_zero, List.set_cons_succ]
  refine wpK.take (i := 1) (v := _) (by simp only [List.getElem?_toArray, List.getElem?_cons_succ, List.getElem?_cons_zero]; rfl) (by kernel_rfl) (by kernel_rfl) (by kernel_rfl) (by kernel_rfl) (by kernel_rfl) (by exact fun _ _ _ h => h) (by first | exact Or.inl ⟨by rfl, by intro w hSw; go_simp; try with_reducible rfl⟩ | exact Or.inr ⟨by rfl, rfl⟩) hH ?_
  try simp only [Act.put, List.setIfInBounds_toArray, List.set_cons_zero, List.set_cons_succ]
  refine wpK.take (i := 2) (v := _) (by simp only [List.getElem?_toArray, List.getElem?_cons_succ, List.getElem?_cons_zero]; rfl) (by kernel_rfl) (by kernel_rfl) (by kernel_rfl) (by kernel_rfl) (by kernel_rfl) (by exact fun _ _ _ h => h) (by first | exact Or.inl ⟨by rfl, by intro w hSw; go_simp; try with_reducible rfl⟩ | exact Or.inr ⟨by rfl, rfl⟩) hH ?_
  try simp only [Act.put, List.setIfInBounds_toArray, List.set_cons_zero, List.set_cons_succ]
  refine wpK.take (i := 3) (v := _) (by simp only [List.getElem?_toArray, List.getElem?_cons_succ, List.getElem?_cons_zero]; rfl) (by kernel_rfl) (by kernel_rfl) (by kernel_rfl) (by kernel_rfl) (by kernel_rfl) (by exact fun _ _ _ h => h) (by first | exact Or.inl ⟨by rfl, by intro w hSw; go_simp; try with_reducible rfl⟩ | exact Or.inr ⟨by rfl, rfl⟩) hH ?_
  try simp only [Act.put, List.setIfInBounds_toArray, List.set_cons_zero, List.set_cons_succ]
  refine wpK.take (i := 4) (v := _) (by simp only [List.getElem?_toArray, List.getElem?_cons_succ, List.getElem?_cons_zero]; rfl) (by kernel_rfl) (by kernel_rfl) (by kernel_rfl) (by kernel_rfl) (by kernel_rfl) (by exact fun _ _ _ h => h) (by first | exact Or.inl ⟨by rfl, by intro w hSw; go_simp; try with_reducible rfl⟩ | exact Or.inr ⟨by rfl, rfl⟩) hH ?_
  try simp only [Act.put, List.setIfInBounds_toArray, List.set_cons_zero, List.set_cons_succ]
  refine wpK.take (i := 5) (v := _) (by simp only [List.getElem?_toArray, List.getElem?_cons_succ, List.getElem?_cons_zero]; rfl) (by kernel_rfl) (by kernel_rfl) (by kernel_rfl) (by kernel_rfl) (by kernel_rfl) (by exact fun _ _ _ h => h) (by first | exact Or.inl ⟨by rfl, by intro w hSw; go_simp; try with_reducible rfl⟩ | exact Or.inr ⟨by rfl, rfl⟩) hH ?_
  try simp only [Act.put, List.setIfInBounds_toArray, List.set_cons_zero, List.set_cons_succ]
  refine wpK.take (i := 6) (v := _) (by simp only [List.getElem?_toArray, List.getElem?_cons_succ, List.getElem?_cons_zero]; rfl) (by kernel_rfl) (by kernel_rfl) (by kernel_rfl) (by kernel_rfl) (by kernel_rfl) (by exact fun _ _ _ h => h) (by first | exact Or.inl ⟨by rfl, by intro w hSw; go_simp; try with_reducible rfl⟩ | exact Or.inr ⟨by rfl, rfl⟩) hH ?_
  try simp only [Act.put, List.setIfInBounds_toArray, List.set_cons_zero, List.set_cons_succ]
  refine wpK.take (i := 7) (v := _) (by simp only [List.getElem?_toArray, List.getElem?_cons_succ, List.getElem?_cons_zero]; rfl) (by kernel_rfl) (by kernel_rfl) (by kernel_rfl) (by kernel_rfl) (by kernel_rfl) (by exact fun _ _ _ h => h) (by first | exact Or.inl ⟨by rfl, by intro w hSw; go_simp; try with_reducible rfl⟩ | exact Or.inr ⟨by rfl, rfl⟩) hH ?_
  try simp only [Act.put, List.setIfInBounds_toArray, List.set_cons_zero, List.set_cons_succ]
  refine wpK.take (i := 8) (v := _) (by simp only [List.getElem?_toArray, List.getElem?_cons_succ, List.getElem?_cons_zero]; rfl) (by kernel_rfl) (by kernel_rfl) (by kernel_rfl) (by kernel_rfl) (by kernel_rfl) (by exact fun _ _ _ h => h) (by first | exact Or.inl ⟨by rfl, by intro w hSw; go_simp; try with_reducible rfl⟩ | exact Or.inr ⟨by rfl, rfl⟩) hH ?_
  try simp only [Act.put, List.setIfInBounds_toArray, List.set_cons_zero, List.set_cons_succ]
  refine wpK.late (i := 9) (by kernel_rfl) (by simp only [List.getElem?_toArray, List.getElem?_cons_succ, List.getElem?_cons_zero]; rfl) (by kernel_rfl) (fun K hK => ?_)
  go_simp
  refine hK.out _ _ ?_
  clear hK K
  try simp only [Act.put, List.setIfInBounds_toArray, List.set_cons_zero, List.set_cons_succ]
  refine wpK.done (by kernel_rfl) ?_ _
  go_wp2_with fail
  go_ret
  exact ⟨_, rfl, hyd⟩
/-- a row of nodes that is being sorted -/
structure SrtI (w wr : World) (g c N : Nat) (l l' : List Nd) : Prop where
  own : ownP wr (.slice (some ⟨g, 0, none⟩) N c) l'
  len : l'.length = N
  p : l'.Perm l
  upd : Upd (fun k => k = g) w wr
def DeepAt (w : World) (g : Nat) (l : List Nd) : Prop := ∀ k ∈ l, k.p ≠ g ∧ ∃ E : Int, w.cell? ⟨k.p, 6, none⟩ = some (.int .i64 E)
theorem DeepAt.upd {w wr : World} {g : Nat} {l : List Nd} (h : DeepAt w g l) (hu : Upd (fun k => k = g) w wr) : ∀ k ∈ l, ∃ E : Int, wr.cell? ⟨k.p, 6, none⟩ = some (.int .i64 E) := fun k hk => by
  obtain ⟨h1, E, h2⟩ := h k hk
  exact ⟨E, (World.cell?_of_block (hu.block k.p (World.block_lt_of_cell? w _ h2) h1)).trans h2⟩
theorem SrtI.below {w wr wz : World} {g c N : Nat} {l l' : List Nd} (h : SrtI w wr g c N l l') (hb : Below wr.heap.size wr wz) : SrtI w wz g c N l l' := ⟨owns_below h.own hb, h.len, h.p, h.upd.trans (Upd.of_below hb) (fun _ _ q => q)⟩
theorem perm_swap {α : Type} (l : List α) (i j : Nat) (x y : α) (hx : l[i]? = some x) (hy : l[j]? = some y) (hij : i ≠ j) : ((l.set i y).set j x).Perm l := by
  obtain ⟨hi, rfl⟩ := List.getElem?_eq_some_iff.1 hx
  obtain ⟨hj, rfl⟩ := List.getElem?_eq_some_iff.1 hy
  exact List.set_set_perm hi hj
/-- two neighbours change places -/
theorem SrtI.swap {w wr wz : World} {g c N : Nat} {l l' : List Nd} {j : Nat} {x y : Nd} (h : SrtI w wr g c N l l') (hx : l'[j + 1]? = some x) (hy : l'[j]? = some y)
    (hz : wz = (wr.setCell ⟨g, j + 1, none⟩ (ptrN y)).setCell ⟨g, j, none⟩ (ptrN x)) : SrtI w wz g c N l ((l'.set (j + 1) y).set j x) := by
  have hu : Upd (fun k => k = g) wr wz := by rw [hz]; exact (Upd.setCell wr g (j + 1) _).trans (Upd.setCell _ g j _) (fun _ _ q => q)
  have hjl := (List.getElem?_eq_some_iff.1 hx).1
  refine ⟨?_, by simp [h.len], (perm_swap l' (j + 1) j x y hx hy (by omega)).trans h.p, h.upd.trans hu (fun _ _ q => q)⟩
  rcases h.own.2 with ⟨e, -⟩ | ⟨g', c', cur, e, hb, hg, hnc, hcm, hcs, ht⟩
  · simp at e
  · simp only [Value.slice.injEq, Option.some.injEq, Addr.mk.injEq, and_true, true_and] at e
    obtain ⟨rfl, e2, rfl⟩ := e
    have hB : Blk wr g cur := ⟨_, hg⟩
    have hg1 : wz.heap[g]? = some (.cells ((cur.setIfInBounds (j + 1) (ptrN y)).setIfInBounds j (ptrN x)) 111 (0, 0)) := by
      rw [hz]; simp [World.setCell, Array.getElem?_modify, hg]
    refine ⟨by simp, .inr ⟨g, c, _, by simp [h.len], hb, hg1, by simpa using hnc, hcm, by simpa using hcs, ?_⟩⟩
    simp only [Nat.mul_one, List.length_set] at ht ⊢
    simp only [Array.toList_setIfInBounds]
    rw [List.take_set, List.take_set, ht, List.map_set, List.map_set]
theorem SrtI.at {w wr : World} {g c N : Nat} {l l' : List Nd} (h : SrtI w wr g c N l l') {i : Nat} (hi : i < N) : ∃ k, l'[i]? = some k ∧ k ∈ l ∧ wr.cell? ⟨g, i, none⟩ = some (.pointer (some ⟨k.p, 0, none⟩)) ∧ wr.frozen? ⟨g, i, none⟩ = false := by
  have hi2 : i < l'.length := by rw [h.len]; exact hi
  obtain ⟨hrd, -⟩ := own_rd h.own
  obtain ⟨b, off, e, hc⟩ := hrd i (by simpa using hi2)
  simp only [Option.some.injEq, Addr.mk.injEq, and_true] at e
  obtain ⟨rfl, rfl⟩ := e
  rw [Nat.zero_add] at hc
  rcases h.own.2 with ⟨e, -⟩ | ⟨g', c', cur, e, hb, hg, -⟩
  · simp at e
  · simp only [Value.slice.injEq, Option.some.injEq, Addr.mk.injEq, and_true, true_and] at e
    obtain ⟨rfl, -⟩ := e
    refine ⟨l'[i], List.getElem?_eq_getElem hi2, h.p.mem_iff.1 (List.getElem_mem hi2), ?_, (show Blk wr g cur from ⟨_, hg⟩).unfrozen _⟩
    rw [hc, List.getElem?_map, List.getElem?_eq_getElem hi2]; rfl
end Go.Proofs.YtjbnfppnmljbmaaGreat
end
section
/- Contract of slices.insertionSortCmpFunc at nodes: the same nodes. -/
namespace Go.Proofs.YtjbnfppnmljbmaaGreat
open Go.RowKit
open Go.Lib (hid)
set_option linter.unusedVariables false
attribute [local go_sem] Oper.semAt_some

theorem SrtI.drew {w wr : World} {g c N : Nat} {l l' : List Nd} (h : SrtI w wr g c N l l') : SrtI w wr.drew g c N l l' := h.below (Below.refl _ _).drew
def SoR (w : World) (g c N : Nat) (l : List Nd) (v8 : Value) (wr : World) : Prop := ∃ (i : Nat) (l' : List Nd), v8 = .int .i64 (i : Int) ∧ 1 ≤ i ∧ i ≤ N + 1 ∧ Hid (SrtI w wr g c N l l')
def SiR (w : World) (g c N : Nat) (l : List Nd) (v9 : Value) (wr : World) : Prop := ∃ (j : Nat) (l' : List Nd), v9 = .int .i64 (j : Int) ∧ j < N ∧ Hid (SrtI w wr g c N l l')
def SrtPost (w : World) (g c N : Nat) (l : List Nd) (e : Ending) (w' : World) : Prop := e = .returned (.tuple #[]) ∧ ∃ l', SrtI w w' g c N l l'
set_option maxRecDepth 100000 in
set_option maxHeartbeats 4000000 in
theorem rt_insort (w : World) (g c N : Nat) (l : List Nd) (h : SrtI w w g c N l l) (hd : DeepAt w g l) (hN : N ≤ 1000) :
    Calls Tryz.prog 114 #[.slice (some ⟨g, 0, none⟩) N c, .int .i64 0, .int .i64 (N : Int), .func (.func 93) #[] #[]] w (SrtPost w g c N l) := by
  have H0 := hid h
  have HD := hid hd
  clear h hd
  go_enter Tryz.func114, Tryz.ntmps114
  go_wp2_with fail
  go_loopw [8] (fun v8 wr => SoR w g c N l v8 wr) (fun v8 _ => N + 1 - (intOf v8).toNat)
  case atStart => exact ⟨1, l, rfl, by omega, by omega, H0⟩
  case round =>
    clear H0
    obtain ⟨i, l', rfl, hi1, hi2, H⟩ := hrel
    by_cases hlt : i < N
    · have j1 : (i : Int) < (N : Int) := by omega
      have j0 : (0 : Int) ≤ (i : Int) := by omega
      obtain ⟨wo, hwo⟩ : ∃ wo, wo = wr := ⟨_, rfl⟩
      subst hwo
      go_wp2_with fail
      go_loopw [9] (fun v9 wq => SiR w g c N l v9 wq) (fun v9 _ => (intOf v9).toNat)
      case atStart => exact ⟨i, l', rfl, hlt, H⟩
      case round =>
        obtain ⟨wq, hwq⟩ : ∃ wq, wq = wr := ⟨_, rfl⟩
        subst hwq
        clear H
        obtain ⟨j, l', rfl, hj, H⟩ := hrel
        have HSZ : Hid (∀ y, Below wq.heap.size wq y → ∃ l', SrtI w y g c N l l') := hid (fun y hy => ⟨l', H.out.below hy⟩)
        by_cases hj0 : (0 : Int) < (j : Int)
        · obtain ⟨m, rfl⟩ : ∃ m, j = m + 1 := ⟨j - 1, by omega⟩
          obtain ⟨k1, hk1, hm1, hc1, hf1⟩ := H.out.at hj
          obtain ⟨k0, hk0, hm0, hc0, hf0⟩ := H.out.at (show m < N by omega)
          have hd := DeepAt.upd HD.out H.out.upd
          obtain ⟨E1, he1⟩ := hd k1 hm1
          obtain ⟨E0, he0⟩ := hd k0 hm0
          obtain ⟨p1, hp1⟩ : ∃ x, k1.p = x := ⟨_, rfl⟩
          obtain ⟨p0, hp0⟩ : ∃ x, k0.p = x := ⟨_, rfl⟩
          rw [hp1] at hc1 he1
          rw [hp0] at hc0 he0
          have HE : Hid (∀ y, Below wq.heap.size wq y → y.cell? ⟨p1, 6, none⟩ = some (.int .i64 E1) ∧ y.cell? ⟨p0, 6, none⟩ = some (.int .i64 E0)) := hid (fun y hy => ⟨cellOf_belowR hy he1, cellOf_belowR hy he0⟩)
          have HSW : Hid (∀ y, Below wq.heap.size wq y → ∃ l', SrtI w ((y.setCell ⟨g, m + 1, none⟩ (.pointer (some ⟨p0, 0, none⟩))).setCell ⟨g, m, none⟩ (.pointer (some ⟨p1, 0, none⟩))) g c N l l') := hid (fun y hy => ⟨_, (H.out.below hy).swap hk1 hk0 (by rw [← hp1, ← hp0]; rfl)⟩)
          have HF : Hid (∀ y, Below wq.heap.size wq y → y.frozen? ⟨g, m + 1, none⟩ = false ∧ y.frozen? ⟨g, m, none⟩ = false) := hid (fun y hy => by
            have a1 := (H.out.below hy).at hj
            have a2 := (H.out.below hy).at (show m < N by omega)
            obtain ⟨-, -, -, -, a1⟩ := a1
            obtain ⟨-, -, -, -, a2⟩ := a2
            exact ⟨a1, a2⟩)
          have n1 : IntKind.i64.wrap (((m + 1 : Nat) : Int) - 1) = (m : Int) := by rw [IntKind.wrap_i64]; omega
          have n2 : ((m + 1 : Nat) : Int).toNat = m + 1 := by omega
          have n3 : ((m : Nat) : Int).toNat = m := by omega
          have n4 : ((m + 1 : Nat) : Int) < (N : Int) := by omega
          have n5 : (m : Int) < (N : Int) := by omega
          have n6 : (0 : Int) ≤ (m : Int) := by omega
          have n7 : (0 : Int) ≤ ((m + 1 : Nat) : Int) := by omega
          have o1 : IntKind.i64.wrap ((m : Int) + 1 - 1) = (m : Int) := by rw [IntKind.wrap_i64]; omega
          have o9 : IntKind.i64.wrap (m : Int) = (m : Int) := by rw [IntKind.wrap_i64]; omega
          have o2 : ((m : Int) + 1).toNat = m + 1 := by omega
          have o4 : (m : Int) + 1 < (N : Int) := by omega
          have o7 : (0 : Int) ≤ (m : Int) + 1 := by omega
          have o8 : (0 : Int) < (m : Int) + 1 := by omega
          replace hc1 := fun (y : World) (hy : Below wq.heap.size wq y) => cellOf_belowR hy hc1
          replace hc0 := fun (y : World) (hy : Below wq.heap.size wq y) => cellOf_belowR hy hc0
          clear hk1 hk0 hm1 hm0 hd he1 he0 hp1 hp0 hf1 hf0
          have hyd := (Below.refl wq.heap.size wq).drew
          go_upto_region 4 with fail
          refine wp_region_kept [] (fun z => Below wq.heap.size wq z) (by kernel_rfl) (by assumption) (fun hH => ?_)
          refine wpK.take (i := 0) (v := _) (by simp only [List.getElem?_toArray, List.getElem?_cons_succ, List.getElem?_cons_zero]; rfl) (by kernel_rfl) (by kernel_rfl) (by kernel_rfl) (by kernel_rfl) (by kernel_rfl) (by exact fun _ _ _ h => h) (by first | exact Or.inl ⟨by rfl, by intro w hSw; go_simp; try with_reducible rfl⟩ | exact Or.inr ⟨by rfl, rfl⟩) hH ?_
          try simp only [Act.put, List.setIfInBounds_toArray, List.set_cons_zero, List.set_cons_succ]
          refine wpK.take (i := 1) (v := _) (by simp only [List.getElem?_toArray, List.getElem?_cons_succ, List.getElem?_cons_zero]; rfl) (by kernel_rfl) (by kernel_rfl) (by kernel_rfl) (by kernel_rfl) (by kernel_rfl) (by exact fun _ _ _ h => h) (by first | exact Or.inl ⟨by rfl, by intro w hSw; go_simp; try with_reducible rfl⟩ | exact Or.inr ⟨by rfl, rfl⟩) hH ?_
          try simp only [Act.put, List.setIfInBounds_toArray, List.set_cons_zero, List.set_cons_succ]
          refine wpK.take (i := 2) (v := _) (by simp only [List.getElem?_toArray, List.getElem?_cons_succ, List.getElem?_cons_zero]; rfl) (by kernel_rfl) (by kernel_rfl) (by kernel_rfl) (by kernel_rfl) (by kernel_rfl) (by exact fun _ _ _ h => h) (by first | exact Or.inl ⟨by rfl, by intro w hSw; go_simp; try with_reducible rfl⟩ | exact Or.inr ⟨by rfl, rfl⟩) hH ?_
          try simp only [Act.put, List.setIfInBounds_toArray, List.set_cons_zero, List.set_cons_succ]
          refine wpK.take (i := 3) (v := _) (by simp only [List.getElem?_toArray, List.getElem?_cons_succ, List.getElem?_cons_zero]; rfl) (by kernel_rfl) (by kernel_rfl) (by kernel_rfl) (by kernel_rfl) (by kernel_rfl) (by exact fun _ _ _ h => h) (by first | exact Or.inl ⟨by rfl, by intro w hSw; go_simp; try with_reducible rfl⟩ | exact Or.inr ⟨by rfl, rfl⟩) hH ?_
          try simp only [Act.put, List.setIfInBounds_toArray, List.set_cons_zero, List.set_cons_succ]
          refine wpK.take (i := 4) (v := _) (by simp only [List.getElem?_toArray, List.getElem?_cons_succ, List.getElem?_cons_zero]; rfl) (by kernel_rfl) (by kernel_rfl) (by kernel_rfl) (by kernel_rfl) (by kernel_rfl) (by exact fun _ _ _ h => h) (by first | exact Or.inl ⟨by rfl, by intro w hSw; go_simp; try with_reducible rfl⟩ | exact Or.inr ⟨by rfl, rfl⟩) hH ?_
          try simp only [Act.put, List.setIfInBounds_toArray, List.set_cons_zero, List.set_cons_succ]
          refine wpK.take (i := 5) (v := _) (by simp only [List.getElem?_toArray, List.getElem?_cons_succ, List.getElem?_cons_zero]; rfl) (by kernel_rfl) (by kernel_rfl) (by kernel_rfl) (by kernel_rfl) (by kernel_rfl) (by exact fun _ _ _ h => h) (by first | exact Or.inl ⟨by rfl, by intro w hSw; go_simp; try with_reducible rfl⟩ | exact Or.inr ⟨by rfl, rfl⟩) hH ?_
          try simp only [Act.put, List.setIfInBounds_toArray, List.set_cons_zero, List.set_cons_succ]
          refine wpK.take (i := 6) (v := _) (by simp only [List.getElem?_toArray, List.getElem?_cons_succ, List.getElem?_cons_zero]; rfl) (by kernel_rfl) (by kernel_rfl) (by kernel_rfl) (by kernel_rfl) (by kernel_rfl) (by exact fun _ _ _ h => h) (by first | exact Or.inl ⟨by rfl, by intro w hSw; go_simp; try with_reducible rfl⟩ | exact Or.inr ⟨by rfl, rfl⟩) hH ?_
          try simp only [Act.put, List.setIfInBounds_toArray, List.set_cons_zero, List.set_cons_succ]
          refine wpK.take (i := 7) (v := _) (by simp only [List.getElem?_toArray, List.getElem?_cons_succ, List.getElem?_cons_zero]; rfl) (by kernel_rfl) (by kernel_rfl) (by kernel_rfl) (by kernel_rfl) (by kernel_rfl) (by exact fun _ _ _ h => h) (by first | exact Or.inl ⟨by rfl, by intro w hSw; go_simp; try with_reducible rfl⟩ | exact Or.inr ⟨by rfl, rfl⟩) hH ?_
          try simp only [Act.put, List.setIfInBounds_toArray, List.set_cons_zero, List.set_cons_succ]
          refine wpK.take (i := 8) (v := _) (by simp only [List.getElem?_toArray, List.getElem?_cons_succ, List.getElem?_cons_zero]; rfl) (by kernel_rfl) (by kernel_rfl) (by kernel_rfl) (by kernel_rfl) (by kernel_rfl) (by exact fun _ _ _ h => h) (by first | exact Or.inl ⟨by rfl, by intro w hSw; go_simp; try with_reducible rfl⟩ | exact Or.inr ⟨by rfl, rfl⟩) hH ?_
          try simp only [Act.put, List.setIfInBounds_toArray, List.set_cons_zero, List.set_cons_succ]
          refine wpK.take (i := 9) (v := _) (by simp only [List.getElem?_toArray, List.getElem?_cons_succ, List.getElem?_cons_zero]; rfl) (by kernel_rfl) (by kernel_rfl) (by kernel_rfl) (by kernel_rfl) (by kernel_rfl) (by exact fun _ _ _ h => h) (by first | exact Or.inl ⟨by rfl, by intro w hSw; go_simp; try with_reducible rfl⟩ | exact Or.inr ⟨by rfl, rfl⟩) hH ?_
          try simp only [Act.put, List.setIfInBounds_toArray, List.set_cons_zero, List.set_cons_succ]
          refine wpK.take (i := 10) (v := _) (by simp only [List.getElem?_toArray, List.getElem?_cons_succ, List.getElem?_cons_zero]; rfl) (by kernel_rfl) (by kernel_rfl) (by kernel_rfl) (by kernel_rfl) (by kernel_rfl) (by exact fun _ _ _ h => h) (by first | exact Or.inl ⟨by rfl, by intro w hSw; go_simp; try with_reducible rfl⟩ | exact Or.inr ⟨by rfl, rfl⟩) hH ?_
          try simp only [Act.put, List.setIfInBounds_toArray, List.set_cons_zero, List.set_cons_succ]
          refine wpK.take (i := 11) (v := _) (by simp only [List.getElem?_toArray, List.getElem?_cons_succ, List.getElem?_cons_zero]; rfl) (by kernel_rfl) (by kernel_rfl) (by kernel_rfl) (by kernel_rfl) (by kernel_rfl) (by exact fun _ _ _ h => h) (by first | exact Or.inl ⟨by rfl, by intro w hSw; go_simp; try with_reducible rfl⟩ | exact Or.inr ⟨by rfl, rfl⟩) hH ?_
          try simp only [Act.put, List.setIfInBounds_toArray, List.set_cons_zero, List.set_cons_succ]
          refine wpK.take (i := 12) (v := _) (by simp only [List.getElem?_toArray, List.getElem?_cons_succ, List.getElem?_cons_zero]; rfl) (by kernel_rfl) (by kernel_rfl) (by kernel_rfl) (by kernel_rfl) (by kernel_rfl) (by exact fun _ _ _ h => h) (by first | exact Or.inl ⟨by rfl, by intro w hSw; go_simp; try with_reducible rfl⟩ | exact Or.inr ⟨by rfl, rfl⟩) hH ?_
          try simp only [Act.put, List.setIfInBounds_toArray, List.set_cons_zero, List.set_cons_succ]
          refine wpK.take (i := 13) (v := _) (by simp only [List.getElem?_toArray, List.getElem?_cons_succ, List.getElem?_cons_zero]; rfl) (by kernel_rfl) (by kernel_rfl) (by kernel_rfl) (by kernel_rfl) (by kernel_rfl) (by exact fun _ _ _ h => h) (by first | exact Or.inl ⟨by rfl, by intro w hSw; go_simp; try with_reducible rfl⟩ | exact Or.inr ⟨by rfl, rfl⟩) hH ?_
          try simp only [Act.put, List.setIfInBounds_toArray, List.set_cons_zero, List.set_cons_succ]
          refine wpK.step (i := 14) (by kernel_rfl) (by simp only [List.getElem?_toArray, List.getElem?_cons_succ, List.getElem?_cons_zero]; rfl) (fun K hK => ?_)
          go_simp
          (refine (rt_cmp _ _ E1 E0 _ (HE.out _ hyd).1 (HE.out _ hyd).2).mono ?_); rintro e w2 ⟨r, rfl, hb2⟩; (have hk2 := Below.next hyd hb2); go_simp
          refine hK.out _ _ (by assumption) (fun hH => ?_)
          clear hK K
          try simp only [Act.put, List.setIfInBounds_toArray, List.set_cons_zero, List.set_cons_succ]
          refine wpK.take (i := 15) (v := _) (by simp only [List.getElem?_toArray, List.getElem?_cons_succ, List.getElem?_cons_zero]; rfl) (by kernel_rfl) (by kernel_rfl) (by kernel_rfl) (by kernel_rfl) (by kernel_rfl) (by exact fun _ _ _ h => h) (by first | exact Or.inl ⟨by rfl, by intro w hSw; go_simp; try with_reducible rfl⟩ | exact Or.inr ⟨by rfl, rfl⟩) hH ?_
          try simp only [Act.put, List.setIfInBounds_toArray, List.set_cons_zero, List.set_cons_succ]
          refine wpK.take (i := 16) (v := _) (by simp only [List.getElem?_toArray, List.getElem?_cons_succ, List.getElem?_cons_zero]; rfl) (by kernel_rfl) (by kernel_rfl) (by kernel_rfl) (by kernel_rfl) (by kernel_rfl) (by exact fun _ _ _ h => h) (by first | exact Or.inl ⟨by rfl, by intro w hSw; go_simp; try with_reducible rfl⟩ | exact Or.inr ⟨by rfl, rfl⟩) hH ?_
          try simp only [Act.put, List.setIfInBounds_toArray, List.set_cons_zero, List.set_cons_succ]
          refine wpK.done (by kernel_rfl) ?_ _
          by_cases hr : r < 0
          · have hr1 : decide (r < 0) = true := by simpa using hr
            obtain ⟨l2, H2⟩ := HSW.out _ hk2
            have H3 := hid H2.drew
            have f1 := (HF.out _ hk2).1
            have f2 := (HF.out _ hk2).2
            have d1 := hc1 _ hk2
            have d0 := hc0 _ hk2
            have d2 : ∃ u, (w2.setCell ⟨g, m + 1, none⟩ (.pointer (some ⟨p0, 0, none⟩))).cell? ⟨g, m, none⟩ = some u := ⟨_, (World.cell?_setCell_other _ _ _ _ (by intro e'; simp only [Addr.mk.injEq] at e'; omega)).trans d0⟩
            obtain ⟨u, d2⟩ := d2
            clear H2 HSZ hyd H hc0 hc1 hH
            go_wp2_with fail
            have mixed : Tryz.prog.follows .mixedOrders = true := by kernel_rfl
            go_big_region_o
            clear mixed
            clear f1 f2 d0 d1 d2
            generalize ((w2.setCell ⟨g, m + 1, none⟩ (.pointer (some ⟨p0, 0, none⟩))).setCell ⟨g, m, none⟩ (.pointer (some ⟨p1, 0, none⟩))).drew = w3 at H3 ⊢
            go_wp2_with fail
            go_roundw
            case rel => exact ⟨m, l2, by go_num, by omega, H3⟩
            case measure => simp [intOf] <;> omega
          · have hr1 : decide (r < 0) = false := by simpa using hr
            obtain ⟨l2, H2⟩ := HSZ.out _ hk2
            have H3 := hid H2
            clear H2 HSZ hyd H
            go_wp2_with fail
            go_roundw
            case rel => exact ⟨i + 1, l2, by go_num, by omega, by omega, H3⟩
            case measure => simp [intOf]; omega
        · obtain rfl : j = 0 := by omega
          have hj1 : decide ((0 : Int) < ((0 : Nat) : Int)) = false := by simp
          have hyd := (Below.refl wq.heap.size wq).drew
          go_upto_region 4 with fail
          refine wp_region_kept [] (fun z => Below wq.heap.size wq z) (by kernel_rfl) (by assumption) (fun hH => ?_)
          refine wpK.take (i := 0) (v := _) (by simp only [List.getElem?_toArray, List.getElem?_cons_succ, List.getElem?_cons_zero]; rfl) (by kernel_rfl) (by kernel_rfl) (by kernel_rfl) (by kernel_rfl) (by kernel_rfl) (by exact fun _ _ _ h => h) (by first | exact Or.inl ⟨by rfl, by intro w hSw; go_simp; try with_reducible rfl⟩ | exact Or.inr ⟨by rfl, rfl⟩) hH ?_
          try simp only [Act.put, List.setIfInBounds_toArray, List.set_cons_zero, List.set_cons_succ]
          refine wpK.take (i := 1) (v := _) (by simp only [List.getElem?_toArray, List.getElem?_cons_succ, List.getElem?_cons_zero]; rfl) (by kernel_rfl) (by kernel_rfl) (by kernel_rfl) (by kernel_rfl) (by kernel_rfl) (by exact fun _ _ _ h => h) (by first | exact Or.inl ⟨by rfl, by intro w hSw; go_simp; try with_reducible rfl⟩ | exact Or.inr ⟨by rfl, rfl⟩) hH ?_
          try simp only [Act.put, List.setIfInBounds_toArray, List.set_cons_zero, List.set_cons_succ]
          refine wpK.take (i := 2) (v := _) (by simp only [List.getElem?_toArray, List.getElem?_cons_succ, List.getElem?_cons_zero]; rfl) (by kernel_rfl) (by kernel_rfl) (by kernel_rfl) (by kernel_rfl) (by kernel_rfl) (by exact fun _ _ _ h => h) (by first | exact Or.inl ⟨by rfl, by intro w hSw; go_simp; try with_reducible rfl⟩ | exact Or.inr ⟨by rfl, rfl⟩) hH ?_
          try simp only [Act.put, List.setIfInBounds_toArray, List.set_cons_zero, List.set_cons_succ]
          refine wpK.take (i := 3) (v := _) (by simp only [List.getElem?_toArray, List.getElem?_cons_succ, List.getElem?_cons_zero]; rfl) (by kernel_rfl) (by kernel_rfl) (by kernel_rfl) (by kernel_rfl) (by kernel_rfl) (by exact fun _ _ _ h => h) (by first | exact Or.inl ⟨by rfl, by intro w hSw; go_simp; try with_reducible rfl⟩ | exact Or.inr ⟨by rfl, rfl⟩) hH ?_
          try simp only [Act.put, List.setIfInBounds_toArray, List.set_cons_zero, List.set_cons_succ]
          refine wpK.take (i := 4) (v := _) (by simp only [List.getElem?_toArray, List.getElem?_cons_succ, List.getElem?_cons_zero]; rfl) (by kernel_rfl) (by kernel_rfl) (by kernel_rfl) (by kernel_rfl) (by kernel_rfl) (by exact fun _ _ _ h => h) (by first | exact Or.inl ⟨by rfl, by intro w hSw; go_simp; try with_reducible rfl⟩ | exact Or.inr ⟨by rfl, rfl⟩) hH ?_
          try simp only [Act.put, List.setIfInBounds_toArray, List.set_cons_zero, List.set_cons_succ]
          refine wpK.take (i := 5) (v := _) (by simp only [List.getElem?_toArray, List.getElem?_cons_succ, List.getElem?_cons_zero]; rfl) (by kernel_rfl) (by kernel_rfl) (by kernel_rfl) (by kernel_rfl) (by kernel_rfl) (by exact fun _ _ _ h => h) (by first | exact Or.inl ⟨by rfl, by intro w hSw; go_simp; try with_reducible rfl⟩ | exact Or.inr ⟨by rfl, rfl⟩) hH ?_
          try simp only [Act.put, List.setIfInBounds_toArray, List.set_cons_zero, List.set_cons_succ]
          refine wpK.take (i := 6) (v := _) (by simp only [List.getElem?_toArray, List.getElem?_cons_succ, List.getElem?_cons_zero]; rfl) (by kernel_rfl) (by kernel_rfl) (by kernel_rfl) (by kernel_rfl) (by kernel_rfl) (by exact fun _ _ _ h => h) (by first | exact Or.inl ⟨by rfl, by intro w hSw; go_simp; try with_reducible rfl⟩ | exact Or.inr ⟨by rfl, rfl⟩) hH ?_
          try simp only [Act.put, List.setIfInBounds_toArray, List.set_cons_zero, List.set_cons_succ]
          refine wpK.take (i := 7) (v := _) (by simp only [List.getElem?_toArray, List.getElem?_cons_succ, List.getElem?_cons_zero]; rfl) (by kernel_rfl) (by kernel_rfl) (by kernel_rfl) (by kernel_rfl) (by kernel_rfl) (by exact fun _ _ _ h => h) (by first | exact Or.inl ⟨by rfl, by intro w hSw; go_simp; try with_reducible rfl⟩ | exact Or.inr ⟨by rfl, rfl⟩) hH ?_
          try simp only [Act.put, List.setIfInBounds_toArray, List.set_cons_zero, List.set_cons_succ]
          refine wpK.take (i := 8) (v := _) (by simp only [List.getElem?_toArray, List.getElem?_cons_succ, List.getElem?_cons_zero]; rfl) (by kernel_rfl) (by kernel_rfl) (by kernel_rfl) (by kernel_rfl) (by kernel_rfl) (by exact fun _ _ _ h => h) (by first | exact Or.inl ⟨by rfl, by intro w hSw; go_simp; try with_reducible rfl⟩ | exact Or.inr ⟨by rfl, rfl⟩) hH ?_
          try simp only [Act.put, List.setIfInBounds_toArray, List.set_cons_zero, List.set_cons_succ]
          refine wpK.take (i := 9) (v := _) (by simp only [List.getElem?_toArray, List.getElem?_cons_succ, List.getElem?_cons_zero]; rfl) (by kernel_rfl) (by kernel_rfl) (by kernel_rfl) (by kernel_rfl) (by kernel_rfl) (by exact fun _ _ _ h => h) (by first | exact Or.inl ⟨by rfl, by intro w hSw; go_simp; try with_reducible rfl⟩ | exact Or.inr ⟨by rfl, rfl⟩) hH ?_
          try simp only [Act.put, List.setIfInBounds_toArray, List.set_cons_zero, List.set_cons_succ]
          refine wpK.take (i := 10) (v := _) (by simp only [List.getElem?_toArray, List.getElem?_cons_succ, List.getElem?_cons_zero]; rfl) (by kernel_rfl) (by kernel_rfl) (by kernel_rfl) (by kernel_rfl) (by kernel_rfl) (by exact fun _ _ _ h => h) (by first | exact Or.inl ⟨by rfl, by intro w hSw; go_simp; try with_reducible rfl⟩ | exact Or.inr ⟨by rfl, rfl⟩) hH ?_
          try simp only [Act.put, List.setIfInBounds_toArray, List.set_cons_zero, List.set_cons_succ]
          refine wpK.take (i := 11) (v := _) (by simp only [List.getElem?_toArray, List.getElem?_cons_succ, List.getElem?_cons_zero]; rfl) (by kernel_rfl) (by kernel_rfl) (by kernel_rfl) (by kernel_rfl) (by kernel_rfl) (by exact fun _ _ _ h => h) (by first | exact Or.inl ⟨by rfl, by intro w hSw; go_simp; try with_reducible rfl⟩ | exact Or.inr ⟨by rfl, rfl⟩) hH ?_
          try simp only [Act.put, List.setIfInBounds_toArray, List.set_cons_zero, List.set_cons_succ]
          refine wpK.take (i := 12) (v := _) (by simp only [List.getElem?_toArray, List.getElem?_cons_succ, List.getElem?_cons_zero]; rfl) (by kernel_rfl) (by kernel_rfl) (by kernel_rfl) (by kernel_rfl) (by kernel_rfl) (by exact fun _ _ _ h => h) (by first | exact Or.inl ⟨by rfl, by intro w hSw; go_simp; try with_reducible rfl⟩ | exact Or.inr ⟨by rfl, rfl⟩) hH ?_
          try simp only [Act.put, List.setIfInBounds_toArray, List.set_cons_zero, List.set_cons_succ]
          refine wpK.take (i := 13) (v := _) (by simp only [List.getElem?_toArray, List.getElem?_cons_succ, List.getElem?_cons_zero]; rfl) (by kernel_rfl) (by kernel_rfl) (by kernel_rfl) (by kernel_rfl) (by kernel_rfl) (by exact fun _ _ _ h => h) (by first | exact Or.inl ⟨by rfl, by intro w hSw; go_simp; try with_reducible rfl⟩ | exact Or.inr ⟨by rfl, rfl⟩) hH ?_
          try simp only [Act.put, List.setIfInBounds_toArray, List.set_cons_zero, List.set_cons_succ]
          refine wpK.step (i := 14) (by kernel_rfl) (by simp only [List.getElem?_toArray, List.getElem?_cons_succ, List.getElem?_cons_zero]; rfl) (fun K hK => ?_)
          go_simp
          refine hK.out _ _ (by assumption) (fun hH => ?_)
          clear hK K
          try simp only [Act.put, List.setIfInBounds_toArray, List.set_cons_zero, List.set_cons_succ]
          refine wpK.take (i := 15) (v := _) (by simp only [List.getElem?_toArray, List.getElem?_cons_succ, List.getElem?_cons_zero]; rfl) (by kernel_rfl) (by kernel_rfl) (by kernel_rfl) (by kernel_rfl) (by kernel_rfl) (by exact fun _ _ _ h => h) (by first | exact Or.inl ⟨by rfl, by intro w hSw; go_simp; try with_reducible rfl⟩ | exact Or.inr ⟨by rfl, rfl⟩) hH ?_
          try simp only [Act.put, List.setIfInBounds_toArray, List.set_cons_zero, List.set_cons_succ]
          refine wpK.take (i := 16) (v := _) (by simp only [List.getElem?_toArray, List.getElem?_cons_succ, List.getElem?_cons_zero]; rfl) (by kernel_rfl) (by kernel_rfl) (by kernel_rfl) (by kernel_rfl) (by kernel_rfl) (by exact fun _ _ _ h => h) (by first | exact Or.inl ⟨by rfl, by intro w hSw; go_simp; try with_reducible rfl⟩ | exact Or.inr ⟨by rfl, rfl⟩) hH ?_
          try simp only [Act.put, List.setIfInBounds_toArray, List.set_cons_zero, List.set_cons_succ]
          refine wpK.done (by kernel_rfl) ?_ _
          obtain ⟨l2, H2⟩ := HSZ.out _ hyd
          have H3 := hid H2
          clear H2 HSZ hyd H
          go_wp2_with fail
          go_roundw
          case rel => exact ⟨i + 1, l2, by go_num, by omega, by omega, H3⟩
          case measure => simp [intOf]; omega
    · have j1 : ¬ (i : Int) < (N : Int) := by omega
      go_wp2_with fail
      go_end0
      exact ⟨rfl, l', H.out⟩
end Go.Proofs.YtjbnfppnmljbmaaGreat
end
section
/- Contract of slices.SortStableFunc at a few nodes: the same nodes. -/
namespace Go.Proofs.YtjbnfppnmljbmaaGreat
open Go.RowKit
open Go.Lib (hid)
set_option linter.unusedVariables false
attribute [local go_sem] Oper.semAt_some

theorem perm_lift {α β : Type} (f : α → β) {l m : List β} (h : l.Perm m) : ∀ A : List α, A.map f = m → ∃ A' : List α, A'.Perm A ∧ A'.map f = l := by
  induction h with
  | nil => intro A hA; exact ⟨[], by rw [List.map_eq_nil_iff.1 hA], rfl⟩
  | cons x h ih =>
    intro A hA
    obtain ⟨a, A1, rfl, rfl, h2⟩ := List.map_eq_cons_iff.1 hA
    obtain ⟨A', h3, h4⟩ := ih A1 h2
    exact ⟨a :: A', h3.cons a, by rw [List.map_cons, h4]⟩
  | swap x y l =>
    intro A hA
    obtain ⟨a, A1, rfl, rfl, h2⟩ := List.map_eq_cons_iff.1 hA
    obtain ⟨b, A2, rfl, rfl, h3⟩ := List.map_eq_cons_iff.1 h2
    exact ⟨b :: a :: A2, List.Perm.swap a b A2, by simp [h3]⟩
  | trans h1 h2 ih1 ih2 =>
    intro A hA
    obtain ⟨B, h3, h4⟩ := ih2 A hA
    obtain ⟨C, h5, h6⟩ := ih1 B h4
    exact ⟨C, h5.trans h3, h6⟩
def SrtP (w : World) (l : List Nd) (v : Value) (e : Ending) (w' : World) : Prop := e = .returned (.tuple #[]) ∧ ∃ l' : List Nd, l'.Perm l ∧ ownP w' v l' ∧ Upd (fun k => v.ownBlock = some k) w w'
set_option maxRecDepth 100000 in
theorem rt_insort0 (w : World) (a : Option Addr) (c : Nat) : Calls Tryz.prog 114 #[.slice a 0 c, .int .i64 0, .int .i64 0, .func (.func 93) #[] #[]] w fun e w' => e = .returned (.tuple #[]) ∧ w' = w := by
  go_enter Tryz.func114, Tryz.ntmps114
  go_wp2_with fail
  go_loopw [8] (fun v8 wr => v8 = .int .i64 1 ∧ wr = w) (fun _ _ => 0)
  case atStart => exact ⟨rfl, rfl⟩
  case round =>
    obtain ⟨rfl, rfl⟩ := hrel
    go_wp2_with fail
    go_end0
    exact ⟨rfl, rfl⟩
theorem rt_ins (w : World) (l : List Nd) (v : Value) (h : ownP w v l) (hd : ∀ k ∈ l, v.ownBlock ≠ some k.p ∧ ∃ E : Int, w.cell? ⟨k.p, 6, none⟩ = some (.int .i64 E)) (hN : l.length ≤ 1000) :
    Calls Tryz.prog 114 #[v, .int .i64 0, .int .i64 (l.length : Int), .func (.func 93) #[] #[]] w (SrtP w l v) := by
  rcases h.2 with ⟨e, e0⟩ | ⟨g, c, cur, e, hb, hg, hnc, hcm, hcs, ht⟩
  · have hl : l.length = 0 := by simpa using e0
    have hl0 : l = [] := List.length_eq_zero_iff.1 hl
    subst hl0
    subst e
    refine (rt_insort0 w none 0).mono ?_
    rintro e w' ⟨rfl, rfl⟩
    exact ⟨rfl, [], .refl _, h, Upd.refl _ _⟩
  · subst e
    refine (rt_insort w g c l.length l ⟨h, rfl, .refl _, Upd.refl _ _⟩ (fun k hk => ?_) hN).mono ?_
    · obtain ⟨h1, h2⟩ := hd k hk
      exact ⟨fun q => h1 (by rw [q]; rfl), h2⟩
    · rintro e w' ⟨rfl, l', hs⟩
      refine ⟨rfl, l', hs.p, ?_, hs.upd.mono (fun k _ q => by subst q; rfl)⟩
      have := hs.own
      have hln : l'.length = l.length := hs.len
      exact this
set_option maxRecDepth 100000 in
theorem rt_stable (w : World) (l : List Nd) (v : Value) (h : ownP w v l) (hd : ∀ k ∈ l, v.ownBlock ≠ some k.p ∧ ∃ E : Int, w.cell? ⟨k.p, 6, none⟩ = some (.int .i64 E)) (hN : l.length ≤ 19) :
    Calls Tryz.prog 108 #[v, .int .i64 (l.length : Int), .func (.func 93) #[] #[]] w (SrtP w l v) := by
  obtain ⟨n, hn⟩ : ∃ n, l.length = n := ⟨_, rfl⟩
  have HC := hid (rt_ins w l v h hd (by omega))
  rw [hn] at HC hN ⊢
  have j1 : ¬ (20 : Int) ≤ (n : Int) := by omega
  have j2 : ¬ (20 : Int) < (n : Int) := by omega
  clear h hd hn
  go_enter Tryz.func108, Tryz.ntmps108
  go_wp2_with fail
  go_loopw [7, 8] (fun v7 v8 wr => v7 = .int .i64 0 ∧ v8 = .int .i64 20 ∧ wr = w) (fun _ _ _ => 0)
  case atStart => exact ⟨rfl, rfl, rfl⟩
  case round =>
    obtain ⟨rfl, rfl, rfl⟩ := hrel
    go_wp2_with fail
    refine HC.out.mono ?_
    rintro e w1 ⟨rfl, l', hp⟩
    have HP := hid hp
    clear hp
    go_wp2_with fail
    go_loopw [6] (fun v6 wr => v6 = .int .i64 20 ∧ wr = w1) (fun _ _ => 0)
    case atStart => exact ⟨rfl, rfl⟩
    case round =>
      obtain ⟨rfl, rfl⟩ := hrel
      go_wp2_with fail
      go_end0
      exact ⟨rfl, l', HP.out⟩
set_option maxRecDepth 100000 in
theorem rt_SortStable (w : World) (l : List Nd) (a : Option Addr) (c : Nat) (h : ownP w (.slice a l.length c) l) (hd : ∀ k ∈ l, (Value.slice a l.length c).ownBlock ≠ some k.p ∧ ∃ E : Int, w.cell? ⟨k.p, 6, none⟩ = some (.int .i64 E)) (hN : l.length ≤ 19) :
    Calls Tryz.prog 92 #[.slice a l.length c, .func (.func 93) #[] #[]] w (SrtP w l (.slice a l.length c)) := by
  have HC := hid (rt_stable w l _ h hd hN)
  clear h hd
  go_enter Tryz.func92, Tryz.ntmps92
  go_wp2_with fail
  refine HC.out.mono ?_
  rintro e w1 hp
  have h0 : e = .returned (.tuple #[]) := hp.1
  subst h0
  have HP := hid hp
  clear hp
  go_wp2_with fail
  go_end0
  exact HP.out
end Go.Proofs.YtjbnfppnmljbmaaGreat
end
section
/- Contract of rtree's again: what was taken away goes into the tree as a whole. -/
namespace Go.Proofs.YtjbnfppnmljbmaaGreat
open Go.RowKit
open Go.Lib (hid)
set_option linter.unusedVariables false
attribute [local go_sem] Oper.semAt_some

theorem PutPost.drew {d e s : Nat} {n x : Nd} {cnt : Int} {w wz : World} (hb : Below w.heap.size w wz) {ed : Ending} {w' : World} (h : PutPost d e s n x cnt wz ed w') : PutPost d e s n x cnt w ed w' := by
  obtain ⟨e1, d', n', hp⟩ := h
  have hz := hb.size
  exact ⟨e1, d', n', hp.tree, hp.dep, fun k hk => (hp.fr k hk).imp id (fun z => by omega), hp.th, hp.cnt1, hp.cnt2, hp.up, (Upd.of_below hb).trans hp.upd (fun _ _ q => q)⟩
set_option maxRecDepth 100000 in
set_option maxHeartbeats 4000000 in
theorem rt_again (d e s : Nat) (n x : Nd) (cnt : Int) (w : World) (he : e ≤ d) (hd : d ≤ 1000) (ht : TreeAt w s d n cnt) (hx : NodeAt e w x) (hnd : (s :: (blkN (d + 1) n ++ blkN e x)).Nodup) (h1 : d = 0 ∨ 1 ≤ n.ks.length) (hxs : ShapeN e x) :
    Calls Tryz.prog 94 #[.pointer (some ⟨s, 0, none⟩), ptrN x] w (PutPost d e s n x cnt w) := by
  have hput : ∀ wz, Below w.heap.size w wz → Calls Tryz.prog 73 #[.pointer (some ⟨s, 0, none⟩), ptrN x] wz (PutPost d e s n x cnt w) := fun wz hb => (rt_put d e s n x cnt wz he hd (ht.below hb) (hx.below hb) hnd (fun q => by omega) hxs).mono (fun ed w' q => q.drew hb)
  obtain ⟨a, c, hkv, hsl⟩ := SlN.of_own ht.node.2.1 (fun k hk => (ht.node.2.2 k hk).rat)
  obtain ⟨M, hM⟩ : ∃ M, n.ks.length = M := ⟨_, rfl⟩
  rw [hM] at hkv h1
  have b1 := ht.blk
  have b2 := ht.node.blk.c7
  have b3 := hx.blk.c7
  unfold ptrN at hput b1 ⊢
  obtain ⟨p, hp⟩ : ∃ z, n.p = z := ⟨_, rfl⟩
  obtain ⟨q, hq⟩ : ∃ z, x.p = z := ⟨_, rfl⟩
  rw [hp] at b1 b2
  rw [hq] at hput b3 ⊢
  rw [hkv] at b2
  have c0 := b1.c2.1
  obtain ⟨-, c1, -, c2⟩ := b2
  obtain ⟨-, -, -, c3⟩ := b3
  have j1 : (e : Int) < ((d + 1 : Nat) : Int) := by omega
  have j2 : (e : Int) < (d : Int) + 1 := by omega
  have j3 : decide ((e : Int) < ((d + 1 : Nat) : Int)) = true := by simp; omega
  have j4 : decide ((e : Int) < (d : Int) + 1) = true := by simp; omega
  have HPUT := hid hput
  have H1 := hid h1
  have HED := hid he
  clear hput ht hx hnd hxs hsl hkv hM hp hq b1 h1 he hd
  go_enter Tryz.func94, Tryz.ntmps94
  go_upto_region 0 with fail
  replace c0 := fun (y : World) (hy : Below w.heap.size w y) => cellOf_belowR hy c0
  replace c1 := fun (y : World) (hy : Below w.heap.size w y) => cellOf_belowR hy c1
  replace c2 := fun (y : World) (hy : Below w.heap.size w y) => cellOf_belowR hy c2
  replace c3 := fun (y : World) (hy : Below w.heap.size w y) => cellOf_belowR hy c3
  have hyd := (Below.refl w.heap.size w).drew
  refine wp_region_kept [] (fun z => Below w.heap.size w z) (by kernel_rfl) (by assumption) (fun hH => ?_)
  refine wpK.take (i := 0) (v := _) (by simp only [List.getElem?_toArray, List.getElem?_cons_succ, List.getElem?_cons_zero]; rfl) (by kernel_rfl) (by kernel_rfl) (by kernel_rfl) (by kernel_rfl) (by kernel_rfl) (by exact fun _ _ _ h => h) (by first | exact Or.inl ⟨by rfl, by intro w hSw; go_simp; try with_reducible rfl⟩ | exact Or.inr ⟨by rfl, rfl⟩) hH ?_
  try simp only [Act.put, List.setIfInBounds_toArray, List.set_cons_zero, List.set_cons_succ]
  refine wpK.take (i := 1) (v := _) (by simp only [List.getElem?_toArray, List.getElem?_cons_succ, List.getElem?_cons_zero]; rfl) (by kernel_rfl) (by kernel_rfl) (by kernel_rfl) (by kernel_rfl) (by kernel_rfl) (by exact fun _ _ _ h => h) (by first | exact Or.inl ⟨by rfl, by intro w hSw; go_simp; try with_reducible rfl⟩ | exact Or.inr ⟨by rfl, rfl⟩) hH ?_
  try simp only [Act.put, List.setIfInBounds_toArray, List.set_cons_zero, List.set_cons_succ]
  refine wpK.take (i := 2) (v := _) (by simp only [List.getElem?_toArray, List.getElem?_cons_succ, List.getElem?_cons_zero]; rfl) (by kernel_rfl) (by kernel_rfl) (by kernel_rfl) (by kernel_rfl) (by kernel_rfl) (by exact fun _ _ _ h => h) (by first | exact Or.inl ⟨by rfl, by intro w hSw; go_simp; try with_reducible rfl⟩ | exact Or.inr ⟨by rfl, rfl⟩) hH ?_
  try simp only [Act.put, List.setIfInBounds_toArray, List.set_cons_zero, List.set_cons_succ]
  refine wpK.take (i := 3) (v := _) (by simp only [List.getElem?_toArray, List.getElem?_cons_succ, List.getElem?_cons_zero]; rfl) (by kernel_rfl) (by kernel_rfl) (by kernel_rfl) (by kernel_rfl) (by kernel_rfl) (by exact fun _ _ _ h => h) (by first | exact Or.inl ⟨by rfl, by intro w hSw; go_simp; try with_reducible rfl⟩ | exact Or.inr ⟨by rfl, rfl⟩) hH ?_
  try simp only [Act.put, List.setIfInBounds_toArray, List.set_cons_zero, List.set_cons_succ]
  refine wpK.take (i := 4) (v := _) (by simp only [List.getElem?_toArray, List.getElem?_cons_succ, List.getElem?_cons_zero]; rfl) (by kernel_rfl) (by kernel_rfl) (by kernel_rfl) (by kernel_rfl) (by kernel_rfl) (by exact fun _ _ _ h => h) (by first | exact Or.inl ⟨by rfl, by intro w hSw; go_simp; try with_reducible rfl⟩ | exact Or.inr ⟨by rfl, rfl⟩) hH ?_
  try simp only [Act.put, List.setIfInBounds_toArray, List.set_cons_zero, List.set_cons_succ]
  refine wpK.take (i := 5) (v := _) (by simp only [List.getElem?_toArray, List.getElem?_cons_succ, List.getElem?_cons_zero]; rfl) (by kernel_rfl) (by kernel_rfl) (by kernel_rfl) (by kernel_rfl) (by kernel_rfl) (by exact fun _ _ _ h => h) (by first | exact Or.inl ⟨by rfl, by intro w hSw; go_simp; try with_reducible rfl⟩ | exact Or.inr ⟨by rfl, rfl⟩) hH ?_
  try simp only [Act.put, List.setIfInBounds_toArray, List.set_cons_zero, List.set_cons_succ]
  refine wpK.take (i := 6) (v := _) (by simp only [List.getElem?_toArray, List.getElem?_cons_succ, List.getElem?_cons_zero]; rfl) (by kernel_rfl) (by kernel_rfl) (by kernel_rfl) (by kernel_rfl) (by kernel_rfl) (by exact fun _ _ _ h => h) (by first | exact Or.inl ⟨by rfl, by intro w hSw; go_simp; try with_reducible rfl⟩ | exact Or.inr ⟨by rfl, rfl⟩) hH ?_
  try simp only [Act.put, List.setIfInBounds_toArray, List.set_cons_zero, List.set_cons_succ]
  refine wpK.take (i := 7) (v := _) (by simp only [List.getElem?_toArray, List.getElem?_cons_succ, List.getElem?_cons_zero]; rfl) (by kernel_rfl) (by kernel_rfl) (by kernel_rfl) (by kernel_rfl) (by kernel_rfl) (by exact fun _ _ _ h => h) (by first | exact Or.inl ⟨by rfl, by intro w hSw; go_simp; try with_reducible rfl⟩ | exact Or.inr ⟨by rfl, rfl⟩) hH ?_
  try simp only [Act.put, List.setIfInBounds_toArray, List.set_cons_zero, List.set_cons_succ]
  refine wpK.take (i := 8) (v := _) (by simp only [List.getElem?_toArray, List.getElem?_cons_succ, List.getElem?_cons_zero]; rfl) (by kernel_rfl) (by kernel_rfl) (by kernel_rfl) (by kernel_rfl) (by kernel_rfl) (by exact fun _ _ _ h => h) (by first | exact Or.inl ⟨by rfl, by intro w hSw; go_simp; try with_reducible rfl⟩ | exact Or.inr ⟨by rfl, rfl⟩) hH ?_
  try simp only [Act.put, List.setIfInBounds_toArray, List.set_cons_zero, List.set_cons_succ]
  refine wpK.take (i := 9) (v := _) (by simp only [List.getElem?_toArray, List.getElem?_cons_succ, List.getElem?_cons_zero]; rfl) (by kernel_rfl) (by kernel_rfl) (by kernel_rfl) (by kernel_rfl) (by kernel_rfl) (by exact fun _ _ _ h => h) (by first | exact Or.inl ⟨by rfl, by intro w hSw; go_simp; try with_reducible rfl⟩ | exact Or.inr ⟨by rfl, rfl⟩) hH ?_
  try simp only [Act.put, List.setIfInBounds_toArray, List.set_cons_zero, List.set_cons_succ]
  refine wpK.take (i := 10) (v := _) (by simp only [List.getElem?_toArray, List.getElem?_cons_succ, List.getElem?_cons_zero]; rfl) (by kernel_rfl) (by kernel_rfl) (by kernel_rfl) (by kernel_rfl) (by kernel_rfl) (by exact fun _ _ _ h => h) (by first | exact Or.inl ⟨by rfl, by intro w hSw; go_simp; try with_reducible rfl⟩ | exact Or.inr ⟨by rfl, rfl⟩) hH ?_
  try simp only [Act.put, List.setIfInBounds_toArray, List.set_cons_zero, List.set_cons_succ]
  refine wpK.take (i := 11) (v := _) (by simp only [List.getElem?_toArray, List.getElem?_cons_succ, List.getElem?_cons_zero]; rfl) (by kernel_rfl) (by kernel_rfl) (by kernel_rfl) (by kernel_rfl) (by kernel_rfl) (by exact fun _ _ _ h => h) (by first | exact Or.inl ⟨by rfl, by intro w hSw; go_simp; try with_reducible rfl⟩ | exact Or.inr ⟨by rfl, rfl⟩) hH ?_
  try simp only [Act.put, List.setIfInBounds_toArray, List.set_cons_zero, List.set_cons_succ]
  refine wpK.take (i := 12) (v := _) (by simp only [List.getElem?_toArray, List.getElem?_cons_succ, List.getElem?_cons_zero]; rfl) (by kernel_rfl) (by kernel_rfl) (by kernel_rfl) (by kernel_rfl) (by kernel_rfl) (by exact fun _ _ _ h => h) (by first | exact Or.inl ⟨by rfl, by intro w hSw; go_simp; try with_reducible rfl⟩ | exact Or.inr ⟨by rfl, rfl⟩) hH ?_
  try simp only [Act.put, List.setIfInBounds_toArray, List.set_cons_zero, List.set_cons_succ]
  refine wpK.take (i := 13) (v := _) (by simp only [List.getElem?_toArray, List.getElem?_cons_succ, List.getElem?_cons_zero]; rfl) (by kernel_rfl) (by kernel_rfl) (by kernel_rfl) (by kernel_rfl) (by kernel_rfl) (by exact fun _ _ _ h => h) (by first | exact Or.inl ⟨by rfl, by intro w hSw; go_simp; try with_reducible rfl⟩ | exact Or.inr ⟨by rfl, rfl⟩) hH ?_
  try simp only [Act.put, List.setIfInBounds_toArray, List.set_cons_zero, List.set_cons_succ]
  refine wpK.take (i := 14) (v := _) (by simp only [List.getElem?_toArray, List.getElem?_cons_succ, List.getElem?_cons_zero]; rfl) (by kernel_rfl) (by kernel_rfl) (by kernel_rfl) (by kernel_rfl) (by kernel_rfl) (by exact fun _ _ _ h => h) (by first | exact Or.inl ⟨by rfl, by intro w hSw; go_simp; try with_reducible rfl⟩ | exact Or.inr ⟨by rfl, rfl⟩) hH ?_
  try simp only [Act.put, List.setIfInBounds_toArray, List.set_cons_zero, List.set_cons_succ]
  refine wpK.take (i := 15) (v := _) (by simp only [List.getElem?_toArray, List.getElem?_cons_succ, List.getElem?_cons_zero]; rfl) (by kernel_rfl) (by kernel_rfl) (by kernel_rfl) (by kernel_rfl) (by kernel_rfl) (by exact fun _ _ _ h => h) (by first | exact Or.inl ⟨by rfl, by intro w hSw; go_simp; try with_reducible rfl⟩ | exact Or.inr ⟨by rfl, rfl⟩) hH ?_
  try simp only [Act.put, List.setIfInBounds_toArray, List.set_cons_zero, List.set_cons_succ]
  refine wpK.take (i := 16) (v := _) (by simp only [List.getElem?_toArray, List.getElem?_cons_succ, List.getElem?_cons_zero]; rfl) (by kernel_rfl) (by kernel_rfl) (by kernel_rfl) (by kernel_rfl) (by kernel_rfl) (by exact fun _ _ _ h => h) (by first | exact Or.inl ⟨by rfl, by intro w hSw; go_simp; try with_reducible rfl⟩ | exact Or.inr ⟨by rfl, rfl⟩) hH ?_
  try simp only [Act.put, List.setIfInBounds_toArray, List.set_cons_zero, List.set_cons_succ]
  refine wpK.take (i := 17) (v := _) (by simp only [List.getElem?_toArray, List.getElem?_cons_succ, List.getElem?_cons_zero]; rfl) (by kernel_rfl) (by kernel_rfl) (by kernel_rfl) (by kernel_rfl) (by kernel_rfl) (by exact fun _ _ _ h => h) (by first | exact Or.inl ⟨by rfl, by intro w hSw; go_simp; try with_reducible rfl⟩ | exact Or.inr ⟨by rfl, rfl⟩) hH ?_
  try simp only [Act.put, List.setIfInBounds_toArray, List.set_cons_zero, List.set_cons_succ]
  refine wpK.take (i := 18) (v := _) (by simp only [List.getElem?_toArray, List.getElem?_cons_succ, List.getElem?_cons_zero]; rfl) (by kernel_rfl) (by kernel_rfl) (by kernel_rfl) (by kernel_rfl) (by kernel_rfl) (by exact fun _ _ _ h => h) (by first | exact Or.inl ⟨by rfl, by intro w hSw; go_simp; try with_reducible rfl⟩ | exact Or.inr ⟨by rfl, rfl⟩) hH ?_
  try simp only [Act.put, List.setIfInBounds_toArray, List.set_cons_zero, List.set_cons_succ]
  refine wpK.take (i := 19) (v := _) (by simp only [List.getElem?_toArray, List.getElem?_cons_succ, List.getElem?_cons_zero]; rfl) (by kernel_rfl) (by kernel_rfl) (by kernel_rfl) (by kernel_rfl) (by kernel_rfl) (by exact fun _ _ _ h => h) (by first | exact Or.inl ⟨by rfl, by intro w hSw; go_simp; try with_reducible rfl⟩ | exact Or.inr ⟨by rfl, rfl⟩) hH ?_
  try simp only [Act.put, List.setIfInBounds_toArray, List.set_cons_zero, List.set_cons_succ]
  refine wpK.take (i := 20) (v := _) (by simp only [List.getElem?_toArray, List.getElem?_cons_succ, List.getElem?_cons_zero]; rfl) (by kernel_rfl) (by kernel_rfl) (by kernel_rfl) (by kernel_rfl) (by kernel_rfl) (by exact fun _ _ _ h => h) (by first | exact Or.inl ⟨by rfl, by intro w hSw; go_simp; try with_reducible rfl⟩ | exact Or.inr ⟨by rfl, rfl⟩) hH ?_
  try simp only [Act.put, List.setIfInBounds_toArray, List.set_cons_zero, List.set_cons_succ]
  refine wpK.take (i := 21) (v := _) (by simp only [List.getElem?_toArray, List.getElem?_cons_succ, List.getElem?_cons_zero]; rfl) (by kernel_rfl) (by kernel_rfl) (by kernel_rfl) (by kernel_rfl) (by kernel_rfl) (by exact fun _ _ _ h => h) (by first | exact Or.inl ⟨by rfl, by intro w hSw; go_simp; try with_reducible rfl⟩ | exact Or.inr ⟨by rfl, rfl⟩) hH ?_
  try simp only [Act.put, List.setIfInBounds_toArray, List.set_cons_zero, List.set_cons_succ]
  refine wpK.take (i := 22) (v := _) (by simp only [List.getElem?_toArray, List.getElem?_cons_succ, List.getElem?_cons_zero]; rfl) (by kernel_rfl) (by kernel_rfl) (by kernel_rfl) (by kernel_rfl) (by kernel_rfl) (by exact fun _ _ _ h => h) (by first | exact Or.inl ⟨by rfl, by intro w hSw; go_simp; try with_reducible rfl⟩ | exact Or.inr ⟨by rfl, rfl⟩) hH ?_
  try simp only [Act.put, List.setIfInBounds_toArray, List.set_cons_zero, List.set_cons_succ]
  refine wpK.done (by kernel_rfl) ?_ _
  have c3' := c3 _ hyd
  by_cases hm : (0 : Int) < (M : Int)
  · have j5 : decide ((0 : Int) < (M : Int)) = true := by simpa using hm
    have HPD := hid (HPUT.out _ hyd)
    clear c0 c1 c2 c3 hH
    go_wp2_with fail
    refine HPD.out.mono ?_
    intro ed w1 hp
    have h0 : ed = .returned (.tuple #[]) := hp.1
    subst h0
    have HP := hid hp
    clear hp
    go_wp2_with fail
    go_end0
    exact HP.out
  · have j5 : decide ((0 : Int) < (M : Int)) = false := by simpa using hm
    obtain rfl : e = 0 := by have := H1.out; have := HED.out; omega
    have HPD := hid (HPUT.out _ hyd)
    clear c0 c1 c2 c3 hH
    go_wp2_with fail
    refine HPD.out.mono ?_
    intro ed w1 hp
    have h0 : ed = .returned (.tuple #[]) := hp.1
    subst h0
    have HP := hid hp
    clear hp
    go_wp2_with fail
    go_end0
    exact HP.out
end Go.Proofs.YtjbnfppnmljbmaaGreat
end
