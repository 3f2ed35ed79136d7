/- Contract: access.Equal. -/
import Derived.Test.YtdchopckbklncaaAccRight
namespace Go.Proofs.Ytdchopckbklncaa
open Go.RowKit
open Go.Lib (hid)
set_option linter.unusedVariables false

set_option maxRecDepth 100000 in
set_option maxHeartbeats 4000000 in
theorem acc_Equal (o1 o2 : Int) (c1 f1 b1 c2 f2 b2 : List Int) (vc1 vf1 vb1 vc2 vf2 vb2 : Value) (w : World) (h1 : SlI w vc1 c1) (h2 : SlI w vf1 f1) (h3 : SlI w vb1 b1) (h4 : SlI w vc2 c2) (h5 : SlI w vf2 f2) (h6 : SlI w vb2 b2)
    (x0 x1 x2 x3 : Bool) (hx0 : (o1 == o2) = x0) (X1 : Hid (decide (c1 = c2) = x1)) (X2 : Hid (decide (f1 = f2) = x2)) (X3 : Hid (decide (b1 = b2) = x3)) :
    Calls Try.prog 65 #[.agg #[.int .i64 o1, vc1, vf1, vb1], .agg #[.int .i64 o2, vc2, vf2, vb2]] w fun e w' => e = .returned (.bool (x0 && x1 && x2 && x3)) ∧ Below w.heap.size w w' := by
  have H1 := hid h1
  have H2 := hid h2
  have H3 := hid h3
  have H4 := hid h4
  have H5 := hid h5
  have H6 := hid h6
  obtain ⟨p1, q1, rfl, -⟩ := h1
  obtain ⟨p2, q2, rfl, -⟩ := h2
  obtain ⟨p3, q3, rfl, -⟩ := h3
  obtain ⟨p4, q4, rfl, -⟩ := h4
  obtain ⟨p5, q5, rfl, -⟩ := h5
  obtain ⟨p6, q6, rfl, -⟩ := h6
  obtain ⟨wa, hwa⟩ : ∃ wa, wa = w.alloc (.cells #[.int .i64 o1, .slice p1 c1.length q1, .slice p2 f1.length q2, .slice p3 b1.length q3] 69) := ⟨_, rfl⟩
  obtain ⟨w0, hw0⟩ : ∃ w0, w0 = wa.alloc (.cells #[.int .i64 o2, .slice p4 c2.length q4, .slice p5 f2.length q5, .slice p6 b2.length q6] 69) := ⟨_, rfl⟩
  have hba : Below w.heap.size w wa := by rw [hwa]; exact Below.new _ _
  have hb0 : Below wa.heap.size wa w0 := by rw [hw0]; exact Below.new _ _
  have hsa : wa.heap.size = w.heap.size + 1 := by rw [hwa]; simp
  have K1 : Hid (Blk w0 w.heap.size #[.int .i64 o1, .slice p1 c1.length q1, .slice p2 f1.length q2, .slice p3 b1.length q3]) := hid (Blk.below hb0 (by rw [hwa]; exact Blk.new _ _ _))
  have K2 : Hid (Blk w0 (w.heap.size + 1) #[.int .i64 o2, .slice p4 c2.length q4, .slice p5 f2.length q5, .slice p6 b2.length q6]) := hid (by rw [hw0, ← hsa]; exact Blk.new _ _ _)
  have HB0 := hid (Below.next hba hb0)
  rw [hwa] at hw0
  have HW0 := hid hw0
  clear hwa hw0 hba hb0 hsa
  cases x0
  · simp only [Bool.false_and]
    have HB : Hid (Below w.heap.size w ((w.alloc (.cells #[.int .i64 o1, .slice p1 c1.length q1, .slice p2 f1.length q2, .slice p3 b1.length q3] 69)).alloc (.cells #[.int .i64 o2, .slice p4 c2.length q4, .slice p5 f2.length q5, .slice p6 b2.length q6] 69))) := hid (by rw [← HW0.out]; exact HB0.out)
    go_enter Try.func65, Try.ntmps65
    go_wp2_with fail
    go_ret
    exact ⟨rfl, HB.out⟩
  simp only [Bool.true_and]
  cases x1
  · simp only [Bool.false_and]
    go_enter Try.func65, Try.ntmps65
    go_wp2_with fail
    rw [← HW0.out]
    refine (sl_EqualI c1 c2 _ _ _ (H1.out.below HB0.out) (H4.out.below HB0.out) _ X1).mono ?_
    rintro e w1 ⟨rfl, hb1⟩
    have HB1 := hid (Below.next HB0.out hb1)
    have K1 := hid (K1.out.below hb1)
    have K2 := hid (K2.out.below hb1)
    clear hb1
    obtain ⟨hy0, hy1, hy2, hy3, -⟩ := K1.out.c4
    obtain ⟨hz0, hz1, hz2, hz3, -⟩ := K2.out.c4
    go_wp2_with fail
    go_ret
    exact ⟨rfl, HB1.out⟩
  simp only [Bool.true_and]
  cases x2
  · simp only [Bool.false_and]
    go_enter Try.func65, Try.ntmps65
    go_wp2_with fail
    rw [← HW0.out]
    refine (sl_EqualI c1 c2 _ _ _ (H1.out.below HB0.out) (H4.out.below HB0.out) _ X1).mono ?_
    rintro e w1 ⟨rfl, hb1⟩
    have HB1 := hid (Below.next HB0.out hb1)
    have K1 := hid (K1.out.below hb1)
    have K2 := hid (K2.out.below hb1)
    clear hb1
    obtain ⟨hy0, hy1, hy2, hy3, -⟩ := K1.out.c4
    obtain ⟨hz0, hz1, hz2, hz3, -⟩ := K2.out.c4
    go_wp2_with fail
    clear hy0 hy1 hy2 hy3 hz0 hz1 hz2 hz3
    refine (sl_EqualI f1 f2 _ _ _ (H2.out.below HB1.out) (H5.out.below HB1.out) _ X2).mono ?_
    rintro e w2 ⟨rfl, hb2⟩
    have HB2 := hid (Below.next HB1.out hb2)
    have K1 := hid (K1.out.below hb2)
    have K2 := hid (K2.out.below hb2)
    clear hb2
    obtain ⟨hy0, hy1, hy2, hy3, -⟩ := K1.out.c4
    obtain ⟨hz0, hz1, hz2, hz3, -⟩ := K2.out.c4
    go_wp2_with fail
    go_ret
    exact ⟨rfl, HB2.out⟩
  simp only [Bool.true_and]
  cases x3
  · go_enter Try.func65, Try.ntmps65
    go_wp2_with fail
    rw [← HW0.out]
    refine (sl_EqualI c1 c2 _ _ _ (H1.out.below HB0.out) (H4.out.below HB0.out) _ X1).mono ?_
    rintro e w1 ⟨rfl, hb1⟩
    have HB1 := hid (Below.next HB0.out hb1)
    have K1 := hid (K1.out.below hb1)
    have K2 := hid (K2.out.below hb1)
    clear hb1
    obtain ⟨hy0, hy1, hy2, hy3, -⟩ := K1.out.c4
    obtain ⟨hz0, hz1, hz2, hz3, -⟩ := K2.out.c4
    go_wp2_with fail
    clear hy0 hy1 hy2 hy3 hz0 hz1 hz2 hz3
    refine (sl_EqualI f1 f2 _ _ _ (H2.out.below HB1.out) (H5.out.below HB1.out) _ X2).mono ?_
    rintro e w2 ⟨rfl, hb2⟩
    have HB2 := hid (Below.next HB1.out hb2)
    have K1 := hid (K1.out.below hb2)
    have K2 := hid (K2.out.below hb2)
    clear hb2
    obtain ⟨hy0, hy1, hy2, hy3, -⟩ := K1.out.c4
    obtain ⟨hz0, hz1, hz2, hz3, -⟩ := K2.out.c4
    go_wp2_with fail
    clear hy0 hy1 hy2 hy3 hz0 hz1 hz2 hz3
    refine (sl_EqualI b1 b2 _ _ _ (H3.out.below HB2.out) (H6.out.below HB2.out) _ X3).mono ?_
    rintro e w3 ⟨rfl, hb3⟩
    have HB3 := hid (Below.next HB2.out hb3)
    have K1 := hid (K1.out.below hb3)
    have K2 := hid (K2.out.below hb3)
    clear hb3
    obtain ⟨hy0, hy1, hy2, hy3, -⟩ := K1.out.c4
    obtain ⟨hz0, hz1, hz2, hz3, -⟩ := K2.out.c4
    go_wp2_with fail
    go_ret
    exact ⟨rfl, HB3.out⟩
  · go_enter Try.func65, Try.ntmps65
    go_wp2_with fail
    rw [← HW0.out]
    refine (sl_EqualI c1 c2 _ _ _ (H1.out.below HB0.out) (H4.out.below HB0.out) _ X1).mono ?_
    rintro e w1 ⟨rfl, hb1⟩
    have HB1 := hid (Below.next HB0.out hb1)
    have K1 := hid (K1.out.below hb1)
    have K2 := hid (K2.out.below hb1)
    clear hb1
    obtain ⟨hy0, hy1, hy2, hy3, -⟩ := K1.out.c4
    obtain ⟨hz0, hz1, hz2, hz3, -⟩ := K2.out.c4
    go_wp2_with fail
    clear hy0 hy1 hy2 hy3 hz0 hz1 hz2 hz3
    refine (sl_EqualI f1 f2 _ _ _ (H2.out.below HB1.out) (H5.out.below HB1.out) _ X2).mono ?_
    rintro e w2 ⟨rfl, hb2⟩
    have HB2 := hid (Below.next HB1.out hb2)
    have K1 := hid (K1.out.below hb2)
    have K2 := hid (K2.out.below hb2)
    clear hb2
    obtain ⟨hy0, hy1, hy2, hy3, -⟩ := K1.out.c4
    obtain ⟨hz0, hz1, hz2, hz3, -⟩ := K2.out.c4
    go_wp2_with fail
    clear hy0 hy1 hy2 hy3 hz0 hz1 hz2 hz3
    refine (sl_EqualI b1 b2 _ _ _ (H3.out.below HB2.out) (H6.out.below HB2.out) _ X3).mono ?_
    rintro e w3 ⟨rfl, hb3⟩
    have HB3 := hid (Below.next HB2.out hb3)
    have K1 := hid (K1.out.below hb3)
    have K2 := hid (K2.out.below hb3)
    clear hb3
    obtain ⟨hy0, hy1, hy2, hy3, -⟩ := K1.out.c4
    obtain ⟨hz0, hz1, hz2, hz3, -⟩ := K2.out.c4
    go_wp2_with fail
    go_ret
    exact ⟨rfl, HB3.out⟩
end Go.Proofs.Ytdchopckbklncaa
