/- Joined texts, in this order: RtSeeds, RtPart. Each one's first remark says what it proves; no condition beyond those that its theorems name. -/
import Derived.Test.YtjbnfppnmljbmaaGreatJLawLandFinds04
section
/- Contract of rtree's seeds. -/
namespace Go.Proofs.YtjbnfppnmljbmaaGreat
open Go.RowKit
open Go.Lib (hid)
set_option linter.unusedVariables false

def SeedR (w : World) (n m : Nat) (v4 v5 v6 vc : Value) (wr : World) : Prop :=
  ∃ (p q i : Nat) (z : Int), v4 = .int .i64 (p : Int) ∧ v5 = .int .i64 (q : Int) ∧ v6 = .int .i64 z ∧ vc = .int .i64 (i : Int) ∧ i ≤ m ∧ Hid (p < q ∧ q < n) ∧ Hid (Below w.heap.size w wr)
theorem RAt.all {w : World} {p : Nat} {r : R4} (h : RAt w p r) : ∀ y, Below w.heap.size w y → RAt y p r := fun y hy => h.below hy
set_option maxRecDepth 100000 in
set_option maxHeartbeats 4000000 in
theorem rt_seeds (ks : List Nd) (a : Option Addr) (n c : Nat) (w : World) (h : SlN w a n c ks) (h2 : 2 ≤ n) (hn : n ≤ 1000) :
    Calls Tryz.prog 119 #[.slice a n c] w fun e w' => ∃ p q : Nat, e = .returned (.tuple #[.int .i64 (p : Int), .int .i64 (q : Int)]) ∧ p < q ∧ q < n ∧ Below w.heap.size w w' := by
  have H := hid h
  clear h
  go_enter Tryz.func119, Tryz.ntmps119
  go_wp2_with fail
  go_loopw [4, 5, 6, 12] (fun v4 v5 v6 v12 wr => SeedR w n n v4 v5 v6 v12 wr) (fun _ _ _ v12 _ => n - (intOf v12).toNat)
  case atStart => exact ⟨0, 1, 0, 0, rfl, rfl, rfl, rfl, by omega, hid ⟨by omega, by omega⟩, hid (Below.refl _ _)⟩
  case round =>
    obtain ⟨p, q, i, z, rfl, rfl, rfl, rfl, hi, HPQ, HB⟩ := hrel
    by_cases hlt : i < n
    · have j1 : (i : Int) < (n : Int) := by omega
      have j0 : (0 : Int) ≤ (i : Int) := by omega
      obtain ⟨wo, hwo⟩ : ∃ wo, wo = wr := ⟨_, rfl⟩
      subst hwo
      go_wp2_with fail
      go_loopw [4, 5, 6, 16] (fun v4 v5 v6 v16 wq => SeedR wo n i v4 v5 v6 v16 wq) (fun _ _ _ v16 _ => i - (intOf v16).toNat)
      case atStart => exact ⟨p, q, 0, z, rfl, rfl, rfl, rfl, by omega, HPQ, hid (Below.refl _ _)⟩
      case round =>
        obtain ⟨wq, hwq⟩ : ∃ wq, wq = wr := ⟨_, rfl⟩
        subst hwq
        clear HPQ
        obtain ⟨p, q, k, z, rfl, rfl, rfl, rfl, hk, HPQ, HBQ⟩ := hrel
        by_cases hlk : k < i
        · have k1 : (k : Int) < (i : Int) := by omega
          have k0 : (0 : Int) ≤ (k : Int) := by omega
          have k2 : (k : Int) < (n : Int) := by omega
          have HBB := hid (Below.next HB.out HBQ.out)
          obtain ⟨b, off, ni, rfl, -, hci, hri, -⟩ := (H.out.below HBB.out).at hlt
          obtain ⟨b2, off2, nk, e2, -, hck, hrk, -⟩ := (H.out.below HBB.out).at (show k < n by omega)
          simp only [Option.some.injEq, Addr.mk.injEq, and_true] at e2
          obtain ⟨rfl, rfl⟩ := e2
          obtain ⟨pi, hpi⟩ : ∃ x, ni.p = x := ⟨_, rfl⟩
          obtain ⟨pk, hpk⟩ : ∃ x, nk.p = x := ⟨_, rfl⟩
          obtain ⟨ri, hrr⟩ : ∃ x, ni.r = x := ⟨_, rfl⟩
          obtain ⟨rk, hrr2⟩ : ∃ x, nk.r = x := ⟨_, rfl⟩
          rw [hpi] at hci hri
          rw [hpk] at hck hrk
          rw [hrr] at hri
          rw [hrr2] at hrk
          clear hpi hpk hrr hrr2
          have hj := rect_Join ri rk
          obtain ⟨jq, hjq⟩ : ∃ z, joinR ri rk = z := ⟨_, rfl⟩
          rw [hjq] at hj
          have ha0 := rect_Area jq
          have ha1 := rect_Area ri
          have ha2 := rect_Area rk
          obtain ⟨ix, iy, ia, ib⟩ := ri
          obtain ⟨kx, ky, ka, kb⟩ := rk
          obtain ⟨jx, jy, ja, jb⟩ := jq
          simp only [rV] at hj ha0 ha1 ha2
          have HJ := hid hj
          have HA0 := hid ha0
          have HA1 := hid ha1
          have HA2 := hid ha2
          clear hj ha0 ha1 ha2 hjq
          go_upto_region 8 with fail
          replace hci := fun (y : World) (hy : Below wq.heap.size wq y) => cellOf_belowR hy hci
          replace hck := fun (y : World) (hy : Below wq.heap.size wq y) => cellOf_belowR hy hck
          have x0 := fun (y : World) (hy : Below wq.heap.size wq y) => cellOf_belowR hy hri.1
          have x1 := fun (y : World) (hy : Below wq.heap.size wq y) => cellOf_belowR hy hri.2.1
          have x2 := fun (y : World) (hy : Below wq.heap.size wq y) => cellOf_belowR hy hri.2.2.1
          have x3 := fun (y : World) (hy : Below wq.heap.size wq y) => cellOf_belowR hy hri.2.2.2
          have y0 := fun (y : World) (hy : Below wq.heap.size wq y) => cellOf_belowR hy hrk.1
          have y1 := fun (y : World) (hy : Below wq.heap.size wq y) => cellOf_belowR hy hrk.2.1
          have y2 := fun (y : World) (hy : Below wq.heap.size wq y) => cellOf_belowR hy hrk.2.2.1
          have y3 := fun (y : World) (hy : Below wq.heap.size wq y) => cellOf_belowR hy hrk.2.2.2
          simp only at x0 x1 x2 x3 y0 y1 y2 y3
          clear hri hrk
          have hyd := (Below.refl wq.heap.size wq).drew
          refine wp_region_kept [34] (fun z => Below wq.heap.size wq z) (by kernel_rfl) (by assumption) (fun hH => ?_)
          refine wpK.take (i := 0) (v := _) (by simp only [List.getElem?_toArray, List.getElem?_cons_succ, List.getElem?_cons_zero]; rfl) (by kernel_rfl) (by kernel_rfl) (by kernel_rfl) (by kernel_rfl) (by kernel_rfl) (by exact fun _ _ _ h => h) (by first | exact Or.inl ⟨by rfl, by intro w hSw; go_simp; try with_reducible rfl⟩ | exact Or.inr ⟨by rfl, rfl⟩) hH ?_
          try simp only [Act.put, List.setIfInBounds_toArray, List.set_cons_zero, List.set_cons_succ]
          refine wpK.take (i := 1) (v := _) (by simp only [List.getElem?_toArray, List.getElem?_cons_succ, List.getElem?_cons_zero]; rfl) (by kernel_rfl) (by kernel_rfl) (by kernel_rfl) (by kernel_rfl) (by kernel_rfl) (by exact fun _ _ _ h => h) (by first | exact Or.inl ⟨by rfl, by intro w hSw; go_simp; try with_reducible rfl⟩ | exact Or.inr ⟨by rfl, rfl⟩) hH ?_
          try simp only [Act.put, List.setIfInBounds_toArray, List.set_cons_zero, List.set_cons_succ]
          refine wpK.take (i := 2) (v := _) (by simp only [List.getElem?_toArray, List.getElem?_cons_succ, List.getElem?_cons_zero]; rfl) (by kernel_rfl) (by kernel_rfl) (by kernel_rfl) (by kernel_rfl) (by kernel_rfl) (by exact fun _ _ _ h => h) (by first | exact Or.inl ⟨by rfl, by intro w hSw; go_simp; try with_reducible rfl⟩ | exact Or.inr ⟨by rfl, rfl⟩) hH ?_
          try simp only [Act.put, List.setIfInBounds_toArray, List.set_cons_zero, List.set_cons_succ]
          refine wpK.take (i := 3) (v := _) (by simp only [List.getElem?_toArray, List.getElem?_cons_succ, List.getElem?_cons_zero]; rfl) (by kernel_rfl) (by kernel_rfl) (by kernel_rfl) (by kernel_rfl) (by kernel_rfl) (by exact fun _ _ _ h => h) (by first | exact Or.inl ⟨by rfl, by intro w hSw; go_simp; try with_reducible rfl⟩ | exact Or.inr ⟨by rfl, rfl⟩) hH ?_
          try simp only [Act.put, List.setIfInBounds_toArray, List.set_cons_zero, List.set_cons_succ]
          refine wpK.take (i := 4) (v := _) (by simp only [List.getElem?_toArray, List.getElem?_cons_succ, List.getElem?_cons_zero]; rfl) (by kernel_rfl) (by kernel_rfl) (by kernel_rfl) (by kernel_rfl) (by kernel_rfl) (by exact fun _ _ _ h => h) (by first | exact Or.inl ⟨by rfl, by intro w hSw; go_simp; try with_reducible rfl⟩ | exact Or.inr ⟨by rfl, rfl⟩) hH ?_
          try simp only [Act.put, List.setIfInBounds_toArray, List.set_cons_zero, List.set_cons_succ]
          refine wpK.take (i := 5) (v := _) (by simp only [List.getElem?_toArray, List.getElem?_cons_succ, List.getElem?_cons_zero]; rfl) (by kernel_rfl) (by kernel_rfl) (by kernel_rfl) (by kernel_rfl) (by kernel_rfl) (by exact fun _ _ _ h => h) (by first | exact Or.inl ⟨by rfl, by intro w hSw; go_simp; try with_reducible rfl⟩ | exact Or.inr ⟨by rfl, rfl⟩) hH ?_
          try simp only [Act.put, List.setIfInBounds_toArray, List.set_cons_zero, List.set_cons_succ]
          refine wpK.take (i := 6) (v := _) (by simp only [List.getElem?_toArray, List.getElem?_cons_succ, List.getElem?_cons_zero]; rfl) (by kernel_rfl) (by kernel_rfl) (by kernel_rfl) (by kernel_rfl) (by kernel_rfl) (by exact fun _ _ _ h => h) (by first | exact Or.inl ⟨by rfl, by intro w hSw; go_simp; try with_reducible rfl⟩ | exact Or.inr ⟨by rfl, rfl⟩) hH ?_
          try simp only [Act.put, List.setIfInBounds_toArray, List.set_cons_zero, List.set_cons_succ]
          refine wpK.take (i := 7) (v := _) (by simp only [List.getElem?_toArray, List.getElem?_cons_succ, List.getElem?_cons_zero]; rfl) (by kernel_rfl) (by kernel_rfl) (by kernel_rfl) (by kernel_rfl) (by kernel_rfl) (by exact fun _ _ _ h => h) (by first | exact Or.inl ⟨by rfl, by intro w hSw; go_simp; try with_reducible rfl⟩ | exact Or.inr ⟨by rfl, rfl⟩) hH ?_
          try simp only [Act.put, List.setIfInBounds_toArray, List.set_cons_zero, List.set_cons_succ]
          refine wpK.take (i := 8) (v := _) (by simp only [List.getElem?_toArray, List.getElem?_cons_succ, List.getElem?_cons_zero]; rfl) (by kernel_rfl) (by kernel_rfl) (by kernel_rfl) (by kernel_rfl) (by kernel_rfl) (by exact fun _ _ _ h => h) (by first | exact Or.inl ⟨by rfl, by intro w hSw; go_simp; try with_reducible rfl⟩ | exact Or.inr ⟨by rfl, rfl⟩) hH ?_
          try simp only [Act.put, List.setIfInBounds_toArray, List.set_cons_zero, List.set_cons_succ]
          refine wpK.take (i := 9) (v := _) (by simp only [List.getElem?_toArray, List.getElem?_cons_succ, List.getElem?_cons_zero]; rfl) (by kernel_rfl) (by kernel_rfl) (by kernel_rfl) (by kernel_rfl) (by kernel_rfl) (by exact fun _ _ _ h => h) (by first | exact Or.inl ⟨by rfl, by intro w hSw; go_simp; try with_reducible rfl⟩ | exact Or.inr ⟨by rfl, rfl⟩) hH ?_
          try simp only [Act.put, List.setIfInBounds_toArray, List.set_cons_zero, List.set_cons_succ]
          refine wpK.take (i := 10) (v := _) (by simp only [List.getElem?_toArray, List.getElem?_cons_succ, List.getElem?_cons_zero]; rfl) (by kernel_rfl) (by kernel_rfl) (by kernel_rfl) (by kernel_rfl) (by kernel_rfl) (by exact fun _ _ _ h => h) (by first | exact Or.inl ⟨by rfl, by intro w hSw; go_simp; try with_reducible rfl⟩ | exact Or.inr ⟨by rfl, rfl⟩) hH ?_
          try simp only [Act.put, List.setIfInBounds_toArray, List.set_cons_zero, List.set_cons_succ]
          refine wpK.take (i := 11) (v := _) (by simp only [List.getElem?_toArray, List.getElem?_cons_succ, List.getElem?_cons_zero]; rfl) (by kernel_rfl) (by kernel_rfl) (by kernel_rfl) (by kernel_rfl) (by kernel_rfl) (by exact fun _ _ _ h => h) (by first | exact Or.inl ⟨by rfl, by intro w hSw; go_simp; try with_reducible rfl⟩ | exact Or.inr ⟨by rfl, rfl⟩) hH ?_
          try simp only [Act.put, List.setIfInBounds_toArray, List.set_cons_zero, List.set_cons_succ]
          refine wpK.take (i := 12) (v := _) (by simp only [List.getElem?_toArray, List.getElem?_cons_succ, List.getElem?_cons_zero]; rfl) (by kernel_rfl) (by kernel_rfl) (by kernel_rfl) (by kernel_rfl) (by kernel_rfl) (by exact fun _ _ _ h => h) (by first | exact Or.inl ⟨by rfl, by intro w hSw; go_simp; try with_reducible rfl⟩ | exact Or.inr ⟨by rfl, rfl⟩) hH ?_
          try simp only [Act.put, List.setIfInBounds_toArray, List.set_cons_zero, List.set_cons_succ]
          refine wpK.take (i := 13) (v := _) (by simp only [List.getElem?_toArray, List.getElem?_cons_succ, List.getElem?_cons_zero]; rfl) (by kernel_rfl) (by kernel_rfl) (by kernel_rfl) (by kernel_rfl) (by kernel_rfl) (by exact fun _ _ _ h => h) (by first | exact Or.inl ⟨by rfl, by intro w hSw; go_simp; try with_reducible rfl⟩ | exact Or.inr ⟨by rfl, rfl⟩) hH ?_
          try simp only [Act.put, List.setIfInBounds_toArray, List.set_cons_zero, List.set_cons_succ]
          refine wpK.take (i := 16) (v := _) (by simp only [List.getElem?_toArray, List.getElem?_cons_succ, List.getElem?_cons_zero]; rfl) (by kernel_rfl) (by kernel_rfl) (by kernel_rfl) (by kernel_rfl) (by kernel_rfl) (by exact fun _ _ _ h => h) (by first | exact Or.inl ⟨by rfl, by intro w hSw; go_simp; try with_reducible rfl⟩ | exact Or.inr ⟨by rfl, rfl⟩) hH ?_
          try simp only [Act.put, List.setIfInBounds_toArray, List.set_cons_zero, List.set_cons_succ]
          refine wpK.take (i := 17) (v := _) (by simp only [List.getElem?_toArray, List.getElem?_cons_succ, List.getElem?_cons_zero]; rfl) (by kernel_rfl) (by kernel_rfl) (by kernel_rfl) (by kernel_rfl) (by kernel_rfl) (by exact fun _ _ _ h => h) (by first | exact Or.inl ⟨by rfl, by intro w hSw; go_simp; try with_reducible rfl⟩ | exact Or.inr ⟨by rfl, rfl⟩) hH ?_
          try simp only [Act.put, List.setIfInBounds_toArray, List.set_cons_zero, List.set_cons_succ]
          refine wpK.take (i := 18) (v := _) (by simp only [List.getElem?_toArray, List.getElem?_cons_succ, List.getElem?_cons_zero]; rfl) (by kernel_rfl) (by kernel_rfl) (by kernel_rfl) (by kernel_rfl) (by kernel_rfl) (by exact fun _ _ _ h => h) (by first | exact Or.inl ⟨by rfl, by intro w hSw; go_simp; try with_reducible rfl⟩ | exact Or.inr ⟨by rfl, rfl⟩) hH ?_
          try simp only [Act.put, List.setIfInBounds_toArray, List.set_cons_zero, List.set_cons_succ]
          refine wpK.take (i := 19) (v := _) (by simp only [List.getElem?_toArray, List.getElem?_cons_succ, List.getElem?_cons_zero]; rfl) (by kernel_rfl) (by kernel_rfl) (by kernel_rfl) (by kernel_rfl) (by kernel_rfl) (by exact fun _ _ _ h => h) (by first | exact Or.inl ⟨by rfl, by intro w hSw; go_simp; try with_reducible rfl⟩ | exact Or.inr ⟨by rfl, rfl⟩) hH ?_
          try simp only [Act.put, List.setIfInBounds_toArray, List.set_cons_zero, List.set_cons_succ]
          refine wpK.take (i := 20) (v := _) (by simp only [List.getElem?_toArray, List.getElem?_cons_succ, List.getElem?_cons_zero]; rfl) (by kernel_rfl) (by kernel_rfl) (by kernel_rfl) (by kernel_rfl) (by kernel_rfl) (by exact fun _ _ _ h => h) (by first | exact Or.inl ⟨by rfl, by intro w hSw; go_simp; try with_reducible rfl⟩ | exact Or.inr ⟨by rfl, rfl⟩) hH ?_
          try simp only [Act.put, List.setIfInBounds_toArray, List.set_cons_zero, List.set_cons_succ]
          refine wpK.take (i := 21) (v := _) (by simp only [List.getElem?_toArray, List.getElem?_cons_succ, List.getElem?_cons_zero]; rfl) (by kernel_rfl) (by kernel_rfl) (by kernel_rfl) (by kernel_rfl) (by kernel_rfl) (by exact fun _ _ _ h => h) (by first | exact Or.inl ⟨by rfl, by intro w hSw; go_simp; try with_reducible rfl⟩ | exact Or.inr ⟨by rfl, rfl⟩) hH ?_
          try simp only [Act.put, List.setIfInBounds_toArray, List.set_cons_zero, List.set_cons_succ]
          refine wpK.take (i := 22) (v := _) (by simp only [List.getElem?_toArray, List.getElem?_cons_succ, List.getElem?_cons_zero]; rfl) (by kernel_rfl) (by kernel_rfl) (by kernel_rfl) (by kernel_rfl) (by kernel_rfl) (by exact fun _ _ _ h => h) (by first | exact Or.inl ⟨by rfl, by intro w hSw; go_simp; try with_reducible rfl⟩ | exact Or.inr ⟨by rfl, rfl⟩) hH ?_
          try simp only [Act.put, List.setIfInBounds_toArray, List.set_cons_zero, List.set_cons_succ]
          refine wpK.take (i := 25) (v := _) (by simp only [List.getElem?_toArray, List.getElem?_cons_succ, List.getElem?_cons_zero]; rfl) (by kernel_rfl) (by kernel_rfl) (by kernel_rfl) (by kernel_rfl) (by kernel_rfl) (by exact fun _ _ _ h => h) (by first | exact Or.inl ⟨by rfl, by intro w hSw; go_simp; try with_reducible rfl⟩ | exact Or.inr ⟨by rfl, rfl⟩) hH ?_
          try simp only [Act.put, List.setIfInBounds_toArray, List.set_cons_zero, List.set_cons_succ]
          refine wpK.take (i := 26) (v := _) (by simp only [List.getElem?_toArray, List.getElem?_cons_succ, List.getElem?_cons_zero]; rfl) (by kernel_rfl) (by kernel_rfl) (by kernel_rfl) (by kernel_rfl) (by kernel_rfl) (by exact fun _ _ _ h => h) (by first | exact Or.inl ⟨by rfl, by intro w hSw; go_simp; try with_reducible rfl⟩ | exact Or.inr ⟨by rfl, rfl⟩) hH ?_
          try simp only [Act.put, List.setIfInBounds_toArray, List.set_cons_zero, List.set_cons_succ]
          refine wpK.take (i := 27) (v := _) (by simp only [List.getElem?_toArray, List.getElem?_cons_succ, List.getElem?_cons_zero]; rfl) (by kernel_rfl) (by kernel_rfl) (by kernel_rfl) (by kernel_rfl) (by kernel_rfl) (by exact fun _ _ _ h => h) (by first | exact Or.inl ⟨by rfl, by intro w hSw; go_simp; try with_reducible rfl⟩ | exact Or.inr ⟨by rfl, rfl⟩) hH ?_
          try simp only [Act.put, List.setIfInBounds_toArray, List.set_cons_zero, List.set_cons_succ]
          refine wpK.take (i := 28) (v := _) (by simp only [List.getElem?_toArray, List.getElem?_cons_succ, List.getElem?_cons_zero]; rfl) (by kernel_rfl) (by kernel_rfl) (by kernel_rfl) (by kernel_rfl) (by kernel_rfl) (by exact fun _ _ _ h => h) (by first | exact Or.inl ⟨by rfl, by intro w hSw; go_simp; try with_reducible rfl⟩ | exact Or.inr ⟨by rfl, rfl⟩) hH ?_
          try simp only [Act.put, List.setIfInBounds_toArray, List.set_cons_zero, List.set_cons_succ]
          refine wpK.take (i := 29) (v := _) (by simp only [List.getElem?_toArray, List.getElem?_cons_succ, List.getElem?_cons_zero]; rfl) (by kernel_rfl) (by kernel_rfl) (by kernel_rfl) (by kernel_rfl) (by kernel_rfl) (by exact fun _ _ _ h => h) (by first | exact Or.inl ⟨by rfl, by intro w hSw; go_simp; try with_reducible rfl⟩ | exact Or.inr ⟨by rfl, rfl⟩) hH ?_
          try simp only [Act.put, List.setIfInBounds_toArray, List.set_cons_zero, List.set_cons_succ]
          refine wpK.take (i := 30) (v := _) (by simp only [List.getElem?_toArray, List.getElem?_cons_succ, List.getElem?_cons_zero]; rfl) (by kernel_rfl) (by kernel_rfl) (by kernel_rfl) (by kernel_rfl) (by kernel_rfl) (by exact fun _ _ _ h => h) (by first | exact Or.inl ⟨by rfl, by intro w hSw; go_simp; try with_reducible rfl⟩ | exact Or.inr ⟨by rfl, rfl⟩) hH ?_
          try simp only [Act.put, List.setIfInBounds_toArray, List.set_cons_zero, List.set_cons_succ]
          refine wpK.take (i := 31) (v := _) (by simp only [List.getElem?_toArray, List.getElem?_cons_succ, List.getElem?_cons_zero]; rfl) (by kernel_rfl) (by kernel_rfl) (by kernel_rfl) (by kernel_rfl) (by kernel_rfl) (by exact fun _ _ _ h => h) (by first | exact Or.inl ⟨by rfl, by intro w hSw; go_simp; try with_reducible rfl⟩ | exact Or.inr ⟨by rfl, rfl⟩) hH ?_
          try simp only [Act.put, List.setIfInBounds_toArray, List.set_cons_zero, List.set_cons_succ]
          refine wpK.step (i := 14) (by kernel_rfl) (by simp only [List.getElem?_toArray, List.getElem?_cons_succ, List.getElem?_cons_zero]; rfl) (fun K hK => ?_)
          go_simp
          (refine (HJ.out _).mono ?_); rintro e w2 ⟨rfl, hb2⟩; (have hk2 := Below.next hyd hb2); go_simp
          refine hK.out _ _ (by assumption) (fun hH => ?_)
          clear hK K
          try simp only [Act.put, List.setIfInBounds_toArray, List.set_cons_zero, List.set_cons_succ]
          refine wpK.step (i := 15) (by kernel_rfl) (by simp only [List.getElem?_toArray, List.getElem?_cons_succ, List.getElem?_cons_zero]; rfl) (fun K hK => ?_)
          go_simp
          (refine (HA0.out _).mono ?_); rintro e w3 ⟨m0, rfl, hn0, hm0, hb3⟩; (have hk3 := Below.next hk2 hb3); go_simp
          refine hK.out _ _ (by assumption) (fun hH => ?_)
          clear hK K
          try simp only [Act.put, List.setIfInBounds_toArray, List.set_cons_zero, List.set_cons_succ]
          refine wpK.step (i := 23) (by kernel_rfl) (by simp only [List.getElem?_toArray, List.getElem?_cons_succ, List.getElem?_cons_zero]; rfl) (fun K hK => ?_)
          go_simp
          (refine (HA1.out _).mono ?_); rintro e w4 ⟨m1, rfl, hn1, hm1, hb4⟩; (have hk4 := Below.next hk3 hb4); (have hwr1 : IntKind.i64.wrap (m0 - m1) = m0 - m1 := by rw [IntKind.wrap_i64]; omega); go_simp
          refine hK.out _ _ (by assumption) (fun hH => ?_)
          clear hK K
          try simp only [Act.put, List.setIfInBounds_toArray, List.set_cons_zero, List.set_cons_succ]
          refine wpK.take (i := 24) (v := _) (by simp only [List.getElem?_toArray, List.getElem?_cons_succ, List.getElem?_cons_zero]; rfl) (by kernel_rfl) (by kernel_rfl) (by kernel_rfl) (by kernel_rfl) (by kernel_rfl) (by exact fun _ _ _ h => h) (by first | exact Or.inl ⟨by rfl, by intro w hSw; go_simp; try with_reducible rfl⟩ | exact Or.inr ⟨by rfl, rfl⟩) hH ?_
          try simp only [Act.put, List.setIfInBounds_toArray, List.set_cons_zero, List.set_cons_succ]
          refine wpK.step (i := 32) (by kernel_rfl) (by simp only [List.getElem?_toArray, List.getElem?_cons_succ, List.getElem?_cons_zero]; rfl) (fun K hK => ?_)
          go_simp
          (refine (HA2.out _).mono ?_); rintro e w5 ⟨m2, rfl, hn2, hm2, hb5⟩; (have hk5 := Below.next hk4 hb5); (have hwr2 : IntKind.i64.wrap (m0 - m1 - m2) = m0 - m1 - m2 := by rw [IntKind.wrap_i64]; omega); (have HK5 := hid hk5); go_simp
          refine hK.out _ _ (by assumption) (fun hH => ?_)
          clear hK K
          try simp only [Act.put, List.setIfInBounds_toArray, List.set_cons_zero, List.set_cons_succ]
          refine wpK.take (i := 33) (v := _) (by simp only [List.getElem?_toArray, List.getElem?_cons_succ, List.getElem?_cons_zero]; rfl) (by kernel_rfl) (by kernel_rfl) (by kernel_rfl) (by kernel_rfl) (by kernel_rfl) (by exact fun _ _ _ h => h) (by first | exact Or.inl ⟨by rfl, by intro w hSw; go_simp; try with_reducible rfl⟩ | exact Or.inr ⟨by rfl, rfl⟩) hH ?_
          try simp only [Act.put, List.setIfInBounds_toArray, List.set_cons_zero, List.set_cons_succ]
          refine wpK.late (i := 34) (by kernel_rfl) (by simp only [List.getElem?_toArray, List.getElem?_cons_succ, List.getElem?_cons_zero]; rfl) (by kernel_rfl) (fun K hK => ?_)
          go_simp
          refine hK.out _ _ ?_
          clear hK K
          try simp only [Act.put, List.setIfInBounds_toArray, List.set_cons_zero, List.set_cons_succ]
          refine wpK.done (by kernel_rfl) ?_ _
          obtain ⟨ws, hws⟩ : ∃ x, x = m0 - m1 - m2 := ⟨_, rfl⟩
          rw [← hws]
          have HB5 := hid (Below.next HBQ.out HK5.out)
          clear hws hwr1 hwr2 hn0 hm0 hn1 hm1 hn2 hm2 hb2 hb3 hb4 hb5 hk2 hk3 hk4 hk5 hyd hH x0 x1 x2 x3 y0 y1 y2 y3 hci hck
          by_cases t1 : (i : Int) = 1
          · by_cases t2 : (k : Int) = 0
            · go_wp2_with fail
              go_roundw
              case rel => exact ⟨k, i, k + 1, ws, rfl, rfl, rfl, by go_num, by omega, hid ⟨hlk, hlt⟩, HB5⟩
              case measure => simp [intOf]; omega
            · exfalso; omega
          · by_cases t3 : z < ws
            · go_wp2_with fail
              go_roundw
              case rel => exact ⟨k, i, k + 1, ws, rfl, rfl, rfl, by go_num, by omega, hid ⟨hlk, hlt⟩, HB5⟩
              case measure => simp [intOf]; omega
            · go_wp2_with fail
              go_roundw
              case rel => exact ⟨p, q, k + 1, z, rfl, rfl, rfl, by go_num, by omega, HPQ, HB5⟩
              case measure => simp [intOf]; omega
        · have k1 : ¬ (k : Int) < (i : Int) := by omega
          have HBZ := hid (Below.next HB.out HBQ.out)
          go_wp2_with fail
          go_roundw
          case rel => exact ⟨p, q, i + 1, z, rfl, rfl, rfl, by go_num, by omega, HPQ, HBZ⟩
          case measure => simp [intOf]; omega
    · have j1 : ¬ (i : Int) < (n : Int) := by omega
      go_wp2_with fail
      go_ret2
      exact ⟨p, q, rfl, HPQ.out.1, HPQ.out.2, HB.out⟩
end Go.Proofs.YtjbnfppnmljbmaaGreat
end
section
/- Contract of rtree's part. -/
namespace Go.Proofs.YtjbnfppnmljbmaaGreat
open Go.RowKit
open Go.Lib (hid)
set_option linter.unusedVariables false

def obk (a : Option Addr) : Option Nat := (Value.slice a 0 0).ownBlock
theorem obk_of (a : Option Addr) (n c : Nat) : (Value.slice a n c).ownBlock = obk a := by cases a <;> rfl
theorem lit_ptr (p : Nat) (W : World) : (Instr.buildSlice 118 1 #[(0, .pointer (some ⟨p, 0, none⟩))]).run Tryz.prog W = .ok (.slice (some ⟨W.heap.size, 0, none⟩) 1 1) (W.alloc (.cells #[.pointer (some ⟨p, 0, none⟩)] 111)) := by kernel_rfl
abbrev ownB (B : Nat) (w : World) (v : Value) (l : List Nd) : Prop := w.ownsRow B 111 1 v l.length (ptrs l)
theorem owns_base0 {w : World} {base base' : Nat} {e : TypeId} {size : Nat} {v : Value} {n : Nat} {xs : List Value} (h : w.ownsRow base e size v n xs) (hb : base' ≤ base) : w.ownsRow base' e size v n xs := by
  obtain ⟨h0, h⟩ := h
  refine ⟨h0, ?_⟩
  rcases h with h | ⟨g, cap, cur, h1, h2, h3⟩
  · exact .inl h
  · exact .inr ⟨g, cap, cur, h1, Nat.le_trans hb h2, h3⟩
theorem perm3 {α : Type} (a b c : List α) : (a ++ (b ++ c)).Perm (b ++ (a ++ c)) := by
  rw [← List.append_assoc, ← List.append_assoc]
  exact List.Perm.append_right _ List.perm_append_comm
/-- parting under way -/
structure PartI (w wr : World) (ks la lb lr : List Nd) (a1 : Option Addr) (c1 : Nat) (a2 : Option Addr) (c2 : Nat) (a3 : Option Addr) (c3 : Nat) : Prop where
  o1 : ownB w.heap.size wr (.slice a1 la.length c1) la
  o2 : ownB w.heap.size wr (.slice a2 lb.length c2) lb
  o3 : ownP wr (.slice a3 lr.length c3) lr
  l3 : ∀ k, obk a3 = some k → w.heap.size ≤ k
  d12 : ∀ k, obk a1 = some k → obk a2 ≠ some k
  d13 : ∀ k, obk a1 = some k → obk a3 ≠ some k
  d23 : ∀ k, obk a2 = some k → obk a3 ≠ some k
  p : (la ++ (lb ++ lr)).Perm ks
  n1 : 2 ≤ la.length + lr.length
  n2 : 2 ≤ lb.length + lr.length
theorem PartI.len {w wr : World} {ks la lb lr : List Nd} {a1 : Option Addr} {c1 : Nat} {a2 : Option Addr} {c2 : Nat} {a3 : Option Addr} {c3 : Nat} (h : PartI w wr ks la lb lr a1 c1 a2 c2 a3 c3) : la.length + (lb.length + lr.length) = ks.length := by
  have := h.p.length_eq
  simpa using this
theorem PartI.below {w wr wz : World} {ks la lb lr : List Nd} {a1 : Option Addr} {c1 : Nat} {a2 : Option Addr} {c2 : Nat} {a3 : Option Addr} {c3 : Nat} (h : PartI w wr ks la lb lr a1 c1 a2 c2 a3 c3) (hb : Below wr.heap.size wr wz) : PartI w wz ks la lb lr a1 c1 a2 c2 a3 c3 :=
  ⟨owns_below h.o1 hb, owns_below h.o2 hb, owns_below h.o3 hb, h.l3, h.d12, h.d13, h.d23, h.p, h.n1, h.n2⟩
/-- what part leaves -/
def PartPost (w : World) (ks : List Nd) (e : Ending) (w' : World) : Prop :=
  ∃ la lb a1 c1 a2 c2, e = .returned (.tuple #[.slice a1 la.length c1, .slice a2 lb.length c2]) ∧ ownB w.heap.size w' (.slice a1 la.length c1) la ∧ ownB w.heap.size w' (.slice a2 lb.length c2) lb ∧
    (∀ k, obk a1 = some k → obk a2 ≠ some k) ∧ (la ++ lb).Perm ks ∧ 2 ≤ la.length ∧ 2 ≤ lb.length ∧ Below w.heap.size w w'
theorem PartI.mem1 {w wr : World} {ks la lb lr : List Nd} {a1 : Option Addr} {c1 : Nat} {a2 : Option Addr} {c2 : Nat} {a3 : Option Addr} {c3 : Nat} (h : PartI w wr ks la lb lr a1 c1 a2 c2 a3 c3) {k : Nd} : (k ∈ la → k ∈ ks) ∧ (k ∈ lb → k ∈ ks) ∧ (k ∈ lr → k ∈ ks) :=
  ⟨fun q => h.p.mem_iff.1 (by simp [q]), fun q => h.p.mem_iff.1 (by simp [q]), fun q => h.p.mem_iff.1 (by simp [q])⟩
theorem rat_all {w wr : World} {ks : List Nd} (h : ∀ k ∈ ks, RAt w k.p k.r) (hlt : ∀ k ∈ ks, k.p < w.heap.size) (hb : Below w.heap.size w wr) : ∀ k ∈ ks, RAt wr k.p k.r := fun k hk => by
  have := h k hk
  exact this.below hb
/-- one comes from the rest to the first -/
theorem PartI.to1 {w wr wd wz : World} {ks la lb lr : List Nd} {a1 : Option Addr} {c1 : Nat} {a2 : Option Addr} {c2 : Nat} {a3 : Option Addr} {c3 : Nat} (h : PartI w wr ks la lb lr a1 c1 a2 c2 a3 c3) {i : Nat} {x : Nd} (hx : lr[i]? = some x)
    {a3' : Option Addr} {c3' : Nat} (hd : ownP wd (.slice a3' (lr.eraseIdx i).length c3') (lr.eraseIdx i)) (hu : Upd (fun k => obk a3 = some k) wr wd) (he : obk a3' = obk a3)
    {a1' : Option Addr} {c1' : Nat} (hn : ownB w.heap.size wz (.slice a1' (la ++ [x]).length c1') (la ++ [x])) (hg : wd.grownBy wz (obk a1)) (hw : ∀ k, obk a1' = some k → obk a1 = some k ∨ wd.heap.size ≤ k)
    (hs1 : 2 < la.length + lr.length) (hs2 : 2 < lb.length + lr.length) : PartI w wz ks (la ++ [x]) lb (lr.eraseIdx i) a1' c1' a2 c2 a3' c3' := by
  have hil := (List.getElem?_eq_some_iff.1 hx).1
  have hel : (lr.eraseIdx i).length + 1 = lr.length := by rw [List.length_eraseIdx, if_pos hil]; omega
  have hp2 : (x :: lr.eraseIdx i).Perm lr := by
    obtain ⟨_, hx2⟩ := List.getElem?_eq_some_iff.1 hx
    have h1 : lr = lr.take i ++ x :: lr.drop (i + 1) := by rw [← hx2, List.getElem_cons_drop, List.take_append_drop]
    rw [List.eraseIdx_eq_take_drop_succ]
    conv => rhs; rw [h1]
    exact List.perm_middle.symm
  have hlt2 : ∀ k, obk a2 = some k → k < wd.heap.size := fun k hk => Nat.lt_of_lt_of_le (h.o2.lt k (by rw [obk_of]; exact hk)).2 hu.size
  have hlt3 : ∀ k, obk a3 = some k → k < wd.heap.size := fun k hk => Nat.lt_of_lt_of_le (h.o3.lt k (by rw [obk_of]; exact hk)).2 hu.size
  have hgu : Upd (fun k => obk a1 = some k) wd wz := Upd.of_grown hg
  refine ⟨hn, hgu.owns (hu.owns h.o2 (fun k hk q => h.d23 k (by rw [obk_of] at hk; exact hk) q)) (fun k hk q => h.d12 k q (by rw [obk_of] at hk; exact hk)), hgu.owns hd (fun k hk q => h.d13 k q (by rw [obk_of, he] at hk; exact hk)), fun k hk => h.l3 k (he ▸ hk), fun k hk q => ?_, fun k hk q => ?_, fun k hk q => h.d23 k hk (he ▸ q), ?_, by simp; omega, by omega⟩
  · rcases hw k hk with e | e
    · exact h.d12 k e q
    · have := hlt2 k q; omega
  · rw [he] at q
    rcases hw k hk with e | e
    · exact h.d13 k e q
    · have := hlt3 k q; omega
  · refine List.Perm.trans ?_ h.p
    rw [List.append_assoc]
    refine List.Perm.append_left _ ?_
    have : ([x] ++ (lb ++ lr.eraseIdx i)).Perm (lb ++ (x :: lr.eraseIdx i)) := by
      show (x :: (lb ++ lr.eraseIdx i)).Perm _
      exact List.perm_middle.symm
    exact this.trans (List.Perm.append_left _ hp2)
theorem PartI.to2 {w wr wd wz : World} {ks la lb lr : List Nd} {a1 : Option Addr} {c1 : Nat} {a2 : Option Addr} {c2 : Nat} {a3 : Option Addr} {c3 : Nat} (h : PartI w wr ks la lb lr a1 c1 a2 c2 a3 c3) {i : Nat} {x : Nd} (hx : lr[i]? = some x)
    {a3' : Option Addr} {c3' : Nat} (hd : ownP wd (.slice a3' (lr.eraseIdx i).length c3') (lr.eraseIdx i)) (hu : Upd (fun k => obk a3 = some k) wr wd) (he : obk a3' = obk a3)
    {a2' : Option Addr} {c2' : Nat} (hn : ownB w.heap.size wz (.slice a2' (lb ++ [x]).length c2') (lb ++ [x])) (hg : wd.grownBy wz (obk a2)) (hw : ∀ k, obk a2' = some k → obk a2 = some k ∨ wd.heap.size ≤ k)
    (hs1 : 2 < la.length + lr.length) (hs2 : 2 < lb.length + lr.length) : PartI w wz ks la (lb ++ [x]) (lr.eraseIdx i) a1 c1 a2' c2' a3' c3' := by
  have hsw : PartI w wr ks lb la lr a2 c2 a1 c1 a3 c3 := ⟨h.o2, h.o1, h.o3, h.l3, fun k hk q => h.d12 k q hk, h.d23, h.d13, (perm3 _ _ _).trans h.p, h.n2, h.n1⟩
  have hz := hsw.to1 hx hd hu he hn hg hw hs2 hs1
  exact ⟨hz.o2, hz.o1, hz.o3, hz.l3, fun k hk q => hz.d12 k q hk, hz.d23, hz.d13, (perm3 _ _ _).trans hz.p, hz.n2, hz.n1⟩
/-- the start: two are taken, the rest is left -/
theorem part_start {ks : List Nd} {p q : Nat} {x y : Nd} (hp : ks[p]? = some x) (hq : ks[q]? = some y) (hpq : p < q) : ([x] ++ ([y] ++ (ks.eraseIdx q).eraseIdx p)).Perm ks := by
  have h1 : ∀ {l : List Nd} {i : Nat} {z : Nd}, l[i]? = some z → (z :: l.eraseIdx i).Perm l := by
    intro l i z hz
    obtain ⟨_, hx2⟩ := List.getElem?_eq_some_iff.1 hz
    have h1 : l = l.take i ++ z :: l.drop (i + 1) := by rw [← hx2, List.getElem_cons_drop, List.take_append_drop]
    rw [List.eraseIdx_eq_take_drop_succ]
    conv => rhs; rw [h1]
    exact List.perm_middle.symm
  have h2 : (ks.eraseIdx q)[p]? = some x := by rw [List.getElem?_eraseIdx, if_pos hpq]; exact hp
  have e : [x] ++ ([y] ++ (ks.eraseIdx q).eraseIdx p) = x :: y :: (ks.eraseIdx q).eraseIdx p := rfl
  rw [e]
  exact (List.Perm.swap _ _ _).trans (((h1 h2).cons y).trans (h1 hq))
end Go.Proofs.YtjbnfppnmljbmaaGreat
end
