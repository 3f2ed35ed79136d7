/- deedholdlaw18.AccessRight for a number that is no list. -/
import Derived.Test.YtdchopckbklncaaAccHRight
import Derived.Test.YtdchopckbklncaaAccLists
import Derived.Test.YtdchopckbklncaaAccAwake
namespace Go.Proofs.Ytdchopckbklncaa
open Go.RowKit
open Go.Lib (hid)
set_option linter.unusedVariables false

set_option maxRecDepth 100000 in
set_option maxHeartbeats 4000000 in
theorem law18_Right_no (o n : Int) (lc lf lb : List Int) (vc vf vb : Value) (w : World) (hc : SlI w vc lc) (hf : SlI w vf lf) (hb : SlI w vb lb) (h : n < 1 ∨ (1 ≤ n ∧ 3 < n)) (HBL : Hid ((decide (lc.length ≤ 40) && decide (lf.length ≤ 40) && decide (lb.length ≤ 40)) = true)) :
    Calls Try.prog 13 #[.agg #[.int .i64 o, vc, vf, vb], .int .i64 n] w fun e w' => e = .returned (.bool true) ∧ Below w.heap.size w w' := by
  have HC := hid hc
  have HF := hid hf
  have HBB := hid hb
  have HN : Hid (n < 1 ∨ 3 < n) := hid (by omega)
  obtain ⟨bb, hbb⟩ : ∃ bb, (rightL lc o && (rightL lf o && (rightL lb o && (decide (1 ≤ o) && decide (o ≤ 256))))) = bb := ⟨_, rfl⟩
  have HR := hid hbb
  have HR2 : Hid (((decide (1 ≤ o) && decide (o ≤ 256)) && rightL lc o && rightL lf o && rightL lb o) = bb) := hid (by rw [← hbb]; cases rightL lc o <;> cases rightL lf o <;> cases rightL lb o <;> simp)
  obtain ⟨ac, cc, rfl, -⟩ := hc
  obtain ⟨af, cf, rfl, -⟩ := hf
  obtain ⟨ab, cb, rfl, -⟩ := hb
  obtain ⟨w0, hw0⟩ : ∃ w0, w0 = w.alloc (.cells #[.int .i64 o, .slice ac lc.length cc, .slice af lf.length cf, .slice ab lb.length cb] 69) := ⟨_, rfl⟩
  have HW0 := hid hw0
  have HB0 : Hid (Below w.heap.size w w0) := hid (by rw [hw0]; exact Below.new _ _)
  have K0 : Hid (Blk w0 w.heap.size #[.int .i64 o, .slice ac lc.length cc, .slice af lf.length cf, .slice ab lb.length cb]) := hid (by rw [hw0]; exact Blk.new _ _ _)
  clear hbb hw0
  rcases h with h | ⟨h, h'⟩
  all_goals
    go_enter Try.func13, Try.ntmps13
    go_wp2_with fail
    rw [← HW0.out]
    refine (law18_small o lc lf lb _ _ _ _ (HC.out.below HB0.out) (HF.out.below HB0.out) (HBB.out.below HB0.out) true HBL).mono ?_
    rintro e w1 ⟨rfl, hb1⟩
    have HB1 := hid (Below.next HB0.out hb1)
    have K1 := hid (K0.out.below hb1)
    obtain ⟨w2, hw2⟩ : ∃ w2, w2 = w1.alloc (.cells #[.slice ac lc.length cc, .slice af lf.length cf, .slice ab lb.length cb] 89) := ⟨_, rfl⟩
    have hb2 : Below w1.heap.size w1 w2 := by rw [hw2]; exact Below.new _ _
    have HB2 := hid (Below.next HB1.out hb2)
    have K2 := hid (K1.out.below hb2)
    obtain ⟨hy0, hy1, hy2, hy3, -⟩ := K1.out.c4
    obtain ⟨hx0, hx1, hx2, hx3, -⟩ := K2.out.c4
    rw [hw2] at hx0 hx1 hx2 hx3
    have HW2 := hid hw2
    clear hb1 hb2 hw2
    go_wp2_with fail
    rw [← HW2.out]
    refine (acc_ListsNo o n _ _ _ lc lf lb w2 (HC.out.below HB2.out) (HF.out.below HB2.out) (HBB.out.below HB2.out) HN.out).mono ?_
    rintro e w3 ⟨rfl, hb3⟩
    have HB3 := hid (Below.next HB2.out hb3)
    have K3 := hid (K2.out.below hb3)
    have hq0 : ∀ x, Below w3.heap.size w3 x → x.cell? ⟨w.heap.size, 0, none⟩ = some (.int .i64 o) := fun x hb => (K3.out.below hb).c4.1
    have hq1 : ∀ x, Below w3.heap.size w3 x → x.cell? ⟨w.heap.size, 1, none⟩ = some (.slice ac lc.length cc) := fun x hb => (K3.out.below hb).c4.2.1
    have hq2 : ∀ x, Below w3.heap.size w3 x → x.cell? ⟨w.heap.size, 2, none⟩ = some (.slice af lf.length cf) := fun x hb => (K3.out.below hb).c4.2.2.1
    have hq3 : ∀ x, Below w3.heap.size w3 x → x.cell? ⟨w.heap.size, 3, none⟩ = some (.slice ab lb.length cb) := fun x hb => (K3.out.below hb).c4.2.2.2.1
    clear hb3 hx0 hx1 hx2 hx3 hy0 hy1 hy2 hy3
    go_wp2_with fail
    have hk0 := (Below.refl w3.heap.size w3).drew
    refine wp_region_kept [13] (fun x => Below w3.heap.size w3 x) (by kernel_rfl) (by assumption) (fun hH => ?_)
    refine wpK.take (i := 0) (v := _) (by simp only [List.getElem?_toArray, List.getElem?_cons_succ, List.getElem?_cons_zero]; rfl) (by kernel_rfl) (by kernel_rfl) (by kernel_rfl) (by kernel_rfl) (by kernel_rfl) (by exact fun _ _ _ h => h) (by first | exact Or.inl ⟨by rfl, by intro w hSw; go_simp; try with_reducible rfl⟩ | exact Or.inr ⟨by rfl, rfl⟩) hH ?_
    try simp only [Act.put, List.setIfInBounds_toArray, List.set_cons_zero, List.set_cons_succ]
    refine wpK.take (i := 1) (v := _) (by simp only [List.getElem?_toArray, List.getElem?_cons_succ, List.getElem?_cons_zero]; rfl) (by kernel_rfl) (by kernel_rfl) (by kernel_rfl) (by kernel_rfl) (by kernel_rfl) (by exact fun _ _ _ h => h) (by first | exact Or.inl ⟨by rfl, by intro w hSw; go_simp; try with_reducible rfl⟩ | exact Or.inr ⟨by rfl, rfl⟩) hH ?_
    try simp only [Act.put, List.setIfInBounds_toArray, List.set_cons_zero, List.set_cons_succ]
    refine wpK.take (i := 2) (v := _) (by simp only [List.getElem?_toArray, List.getElem?_cons_succ, List.getElem?_cons_zero]; rfl) (by kernel_rfl) (by kernel_rfl) (by kernel_rfl) (by kernel_rfl) (by kernel_rfl) (by exact fun _ _ _ h => h) (by first | exact Or.inl ⟨by rfl, by intro w hSw; go_simp; try with_reducible rfl⟩ | exact Or.inr ⟨by rfl, rfl⟩) hH ?_
    try simp only [Act.put, List.setIfInBounds_toArray, List.set_cons_zero, List.set_cons_succ]
    refine wpK.take (i := 3) (v := _) (by simp only [List.getElem?_toArray, List.getElem?_cons_succ, List.getElem?_cons_zero]; rfl) (by kernel_rfl) (by kernel_rfl) (by kernel_rfl) (by kernel_rfl) (by kernel_rfl) (by exact fun _ _ _ h => h) (by first | exact Or.inl ⟨by rfl, by intro w hSw; go_simp; try with_reducible rfl⟩ | exact Or.inr ⟨by rfl, rfl⟩) hH ?_
    try simp only [Act.put, List.setIfInBounds_toArray, List.set_cons_zero, List.set_cons_succ]
    refine wpK.take (i := 4) (v := _) (by simp only [List.getElem?_toArray, List.getElem?_cons_succ, List.getElem?_cons_zero]; rfl) (by kernel_rfl) (by kernel_rfl) (by kernel_rfl) (by kernel_rfl) (by kernel_rfl) (by exact fun _ _ _ h => h) (by first | exact Or.inl ⟨by rfl, by intro w hSw; go_simp; try with_reducible rfl⟩ | exact Or.inr ⟨by rfl, rfl⟩) hH ?_
    try simp only [Act.put, List.setIfInBounds_toArray, List.set_cons_zero, List.set_cons_succ]
    refine wpK.take (i := 6) (v := _) (by simp only [List.getElem?_toArray, List.getElem?_cons_succ, List.getElem?_cons_zero]; rfl) (by kernel_rfl) (by kernel_rfl) (by kernel_rfl) (by kernel_rfl) (by kernel_rfl) (by exact fun _ _ _ h => h) (by first | exact Or.inl ⟨by rfl, by intro w hSw; go_simp; try with_reducible rfl⟩ | exact Or.inr ⟨by rfl, rfl⟩) hH ?_
    try simp only [Act.put, List.setIfInBounds_toArray, List.set_cons_zero, List.set_cons_succ]
    refine wpK.step (i := 5) (by kernel_rfl) (by simp only [List.getElem?_toArray, List.getElem?_cons_succ, List.getElem?_cons_zero]; rfl) (fun K hK => ?_)
    go_simp
    (refine (acc_Right o lc lf lb _ _ _ _ (HC.out.below (Below.next HB3.out hH)) (HF.out.below (Below.next HB3.out hH)) (HBB.out.below (Below.next HB3.out hH)) bb HR).mono ?_); rintro e w4 ⟨rfl, hb4⟩; (have hk4 := Below.next hH hb4); go_simp
    refine hK.out _ _ (by assumption) (fun hH => ?_)
    clear hK K
    try simp only [Act.put, List.setIfInBounds_toArray, List.set_cons_zero, List.set_cons_succ]
    refine wpK.step (i := 7) (by kernel_rfl) (by simp only [List.getElem?_toArray, List.getElem?_cons_succ, List.getElem?_cons_zero]; rfl) (fun K hK => ?_)
    go_simp
    (refine (law18_right o lc lf lb _ _ _ _ (HC.out.below (Below.next HB3.out hH)) (HF.out.below (Below.next HB3.out hH)) (HBB.out.below (Below.next HB3.out hH)) _ _ _ _ rfl (hid rfl) (hid rfl) (hid rfl)).mono ?_); rintro e w5 ⟨rfl, hb5⟩; rw [HR2.out]; (have hk5 := Below.next hH hb5); go_simp
    refine hK.out _ _ (by assumption) (fun hH => ?_)
    clear hK K
    try simp only [Act.put, List.setIfInBounds_toArray, List.set_cons_zero, List.set_cons_succ]
    refine wpK.take (i := 8) (v := _) (by simp only [List.getElem?_toArray, List.getElem?_cons_succ, List.getElem?_cons_zero]; rfl) (by kernel_rfl) (by kernel_rfl) (by kernel_rfl) (by kernel_rfl) (by kernel_rfl) (by exact fun _ _ _ h => h) (by first | exact Or.inl ⟨by rfl, by intro w hSw; go_simp; try with_reducible rfl⟩ | exact Or.inr ⟨by rfl, rfl⟩) hH ?_
    try simp only [Act.put, List.setIfInBounds_toArray, List.set_cons_zero, List.set_cons_succ]
    refine wpK.take (i := 9) (v := _) (by simp only [List.getElem?_toArray, List.getElem?_cons_succ, List.getElem?_cons_zero]; rfl) (by kernel_rfl) (by kernel_rfl) (by kernel_rfl) (by kernel_rfl) (by kernel_rfl) (by exact fun _ _ _ h => h) (by first | exact Or.inl ⟨by rfl, by intro w hSw; go_simp; try with_reducible rfl⟩ | exact Or.inr ⟨by rfl, rfl⟩) hH ?_
    try simp only [Act.put, List.setIfInBounds_toArray, List.set_cons_zero, List.set_cons_succ]
    refine wpK.take (i := 10) (v := _) (by simp only [List.getElem?_toArray, List.getElem?_cons_succ, List.getElem?_cons_zero]; rfl) (by kernel_rfl) (by kernel_rfl) (by kernel_rfl) (by kernel_rfl) (by kernel_rfl) (by exact fun _ _ _ h => h) (by first | exact Or.inl ⟨by rfl, by intro w hSw; go_simp; try with_reducible rfl⟩ | exact Or.inr ⟨by rfl, rfl⟩) hH ?_
    try simp only [Act.put, List.setIfInBounds_toArray, List.set_cons_zero, List.set_cons_succ]
    refine wpK.step (i := 11) (by kernel_rfl) (by simp only [List.getElem?_toArray, List.getElem?_cons_succ, List.getElem?_cons_zero]; rfl) (fun K hK => ?_)
    go_simp
    (refine (law18_awake _).mono ?_); rintro e w6 ⟨rfl, hb6⟩; (have hk6 := Below.next hH hb6); (have HB6 := hid (Below.next HB3.out hk6)); go_simp
    refine hK.out _ _ (by assumption) (fun hH => ?_)
    clear hK K
    try simp only [Act.put, List.setIfInBounds_toArray, List.set_cons_zero, List.set_cons_succ]
    refine wpK.take (i := 12) (v := _) (by simp only [List.getElem?_toArray, List.getElem?_cons_succ, List.getElem?_cons_zero]; rfl) (by kernel_rfl) (by kernel_rfl) (by kernel_rfl) (by kernel_rfl) (by kernel_rfl) (by exact fun _ _ _ h => h) (by first | exact Or.inl ⟨by rfl, by intro w hSw; go_simp; try with_reducible rfl⟩ | exact Or.inr ⟨by rfl, rfl⟩) hH ?_
    try simp only [Act.put, List.setIfInBounds_toArray, List.set_cons_zero, List.set_cons_succ]
    refine wpK.late (i := 13) (by kernel_rfl) (by simp only [List.getElem?_toArray, List.getElem?_cons_succ, List.getElem?_cons_zero]; rfl) (by kernel_rfl) (fun K hK => ?_)
    go_simp
    refine hK.out _ _ ?_
    clear hK K
    try simp only [Act.put, List.setIfInBounds_toArray, List.set_cons_zero, List.set_cons_succ]
    refine wpK.done (by kernel_rfl) ?_ _
    go_wp2_with fail
    go_ret
    exact ⟨rfl, HB6.out⟩
end Go.Proofs.Ytdchopckbklncaa
