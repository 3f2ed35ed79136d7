/- Contract: deedholdlaw18.right. -/
import Derived.Test.YtdchopckbklncaaAccRefRight
namespace Go.Proofs.Ytdchopckbklncaa
open Go.RowKit
open Go.Lib (hid)
set_option linter.unusedVariables false

set_option maxRecDepth 100000 in
set_option maxHeartbeats 4000000 in
theorem law18_right (o : Int) (lc lf lb : List Int) (vc vf vb : Value) (w : World) (h1 : SlI w vc lc) (h2 : SlI w vf lf) (h3 : SlI w vb lb)
    (x0 x1 x2 x3 : Bool) (hx0 : (decide (1 ≤ o) && decide (o ≤ 256)) = x0) (X1 : Hid (rightL lc o = x1)) (X2 : Hid (rightL lf o = x2)) (X3 : Hid (rightL lb o = x3)) :
    Calls Try.prog 64 #[.agg #[.int .i64 o, vc, vf, vb]] w fun e w' => e = .returned (.bool (x0 && x1 && x2 && x3)) ∧ Below w.heap.size w w' := by
  have H1 := hid h1
  have H2 := hid h2
  have H3 := hid h3
  obtain ⟨p1, q1, rfl, -⟩ := h1
  obtain ⟨p2, q2, rfl, -⟩ := h2
  obtain ⟨p3, q3, rfl, -⟩ := h3
  obtain ⟨w0, hw0⟩ : ∃ w0, w0 = w.alloc (.cells #[.int .i64 o, .slice p1 lc.length q1, .slice p2 lf.length q2, .slice p3 lb.length q3] 69) := ⟨_, rfl⟩
  have hb0 : Below w.heap.size w w0 := by rw [hw0]; exact Below.new _ _
  have K1 : Hid (Blk w0 w.heap.size #[.int .i64 o, .slice p1 lc.length q1, .slice p2 lf.length q2, .slice p3 lb.length q3]) := hid (by rw [hw0]; exact Blk.new _ _ _)
  have HB0 := hid hb0
  have HW0 := hid hw0
  clear hw0 hb0
  cases x0
  · simp only [Bool.false_and]
    have HB : Hid (Below w.heap.size w (w.alloc (.cells #[.int .i64 o, .slice p1 lc.length q1, .slice p2 lf.length q2, .slice p3 lb.length q3] 69))) := hid (by rw [← HW0.out]; exact HB0.out)
    by_cases o1 : 1 ≤ o
    · have d1 : decide (1 ≤ o) = true := decide_eq_true o1
      have d2 : decide (o ≤ 256) = false := by rw [d1] at hx0; simpa using hx0
      have o2 : ¬ o ≤ 256 := of_decide_eq_false d2
      clear hx0
      go_enter Try.func64, Try.ntmps64
      go_wp2_with fail
      go_ret
      exact ⟨rfl, HB.out⟩
    · have d1 : decide (1 ≤ o) = false := decide_eq_false o1
      clear hx0
      go_enter Try.func64, Try.ntmps64
      go_wp2_with fail
      go_ret
      exact ⟨rfl, HB.out⟩
  have o1 : 1 ≤ o := by by_cases q : 1 ≤ o; exact q; simp [q] at hx0
  have o2 : o ≤ 256 := by by_cases q : o ≤ 256; exact q; simp [q] at hx0
  have d1 : decide (1 ≤ o) = true := decide_eq_true o1
  have d2 : decide (o ≤ 256) = true := decide_eq_true o2
  clear hx0
  simp only [Bool.true_and]
  cases x1
  · simp only [Bool.false_and]
    go_enter Try.func64, Try.ntmps64
    go_wp2_with fail
    rw [← HW0.out]
    refine (ref18_Right lc _ o _ (H1.out.below HB0.out) _ X1).mono ?_
    rintro e w1 ⟨rfl, hb1⟩
    have HB1 := hid (Below.next HB0.out hb1)
    have K1 := hid (K1.out.below hb1)
    clear hb1
    obtain ⟨hy0, hy1, hy2, hy3, -⟩ := K1.out.c4
    go_wp2_with fail
    go_ret
    exact ⟨rfl, HB1.out⟩
  simp only [Bool.true_and]
  cases x2
  · simp only [Bool.false_and]
    go_enter Try.func64, Try.ntmps64
    go_wp2_with fail
    rw [← HW0.out]
    refine (ref18_Right lc _ o _ (H1.out.below HB0.out) _ X1).mono ?_
    rintro e w1 ⟨rfl, hb1⟩
    have HB1 := hid (Below.next HB0.out hb1)
    have K1 := hid (K1.out.below hb1)
    clear hb1
    obtain ⟨hy0, hy1, hy2, hy3, -⟩ := K1.out.c4
    go_wp2_with fail
    clear hy0 hy1 hy2 hy3
    refine (ref18_Right lf _ o _ (H2.out.below HB1.out) _ X2).mono ?_
    rintro e w2 ⟨rfl, hb2⟩
    have HB2 := hid (Below.next HB1.out hb2)
    have K1 := hid (K1.out.below hb2)
    clear hb2
    obtain ⟨hy0, hy1, hy2, hy3, -⟩ := K1.out.c4
    go_wp2_with fail
    go_ret
    exact ⟨rfl, HB2.out⟩
  simp only [Bool.true_and]
  cases x3
  · go_enter Try.func64, Try.ntmps64
    go_wp2_with fail
    rw [← HW0.out]
    refine (ref18_Right lc _ o _ (H1.out.below HB0.out) _ X1).mono ?_
    rintro e w1 ⟨rfl, hb1⟩
    have HB1 := hid (Below.next HB0.out hb1)
    have K1 := hid (K1.out.below hb1)
    clear hb1
    obtain ⟨hy0, hy1, hy2, hy3, -⟩ := K1.out.c4
    go_wp2_with fail
    clear hy0 hy1 hy2 hy3
    refine (ref18_Right lf _ o _ (H2.out.below HB1.out) _ X2).mono ?_
    rintro e w2 ⟨rfl, hb2⟩
    have HB2 := hid (Below.next HB1.out hb2)
    have K1 := hid (K1.out.below hb2)
    clear hb2
    obtain ⟨hy0, hy1, hy2, hy3, -⟩ := K1.out.c4
    go_wp2_with fail
    clear hy0 hy1 hy2 hy3
    refine (ref18_Right lb _ o _ (H3.out.below HB2.out) _ X3).mono ?_
    rintro e w3 ⟨rfl, hb3⟩
    have HB3 := hid (Below.next HB2.out hb3)
    have K1 := hid (K1.out.below hb3)
    clear hb3
    obtain ⟨hy0, hy1, hy2, hy3, -⟩ := K1.out.c4
    go_wp2_with fail
    go_ret
    exact ⟨rfl, HB3.out⟩
  · go_enter Try.func64, Try.ntmps64
    go_wp2_with fail
    rw [← HW0.out]
    refine (ref18_Right lc _ o _ (H1.out.below HB0.out) _ X1).mono ?_
    rintro e w1 ⟨rfl, hb1⟩
    have HB1 := hid (Below.next HB0.out hb1)
    have K1 := hid (K1.out.below hb1)
    clear hb1
    obtain ⟨hy0, hy1, hy2, hy3, -⟩ := K1.out.c4
    go_wp2_with fail
    clear hy0 hy1 hy2 hy3
    refine (ref18_Right lf _ o _ (H2.out.below HB1.out) _ X2).mono ?_
    rintro e w2 ⟨rfl, hb2⟩
    have HB2 := hid (Below.next HB1.out hb2)
    have K1 := hid (K1.out.below hb2)
    clear hb2
    obtain ⟨hy0, hy1, hy2, hy3, -⟩ := K1.out.c4
    go_wp2_with fail
    clear hy0 hy1 hy2 hy3
    refine (ref18_Right lb _ o _ (H3.out.below HB2.out) _ X3).mono ?_
    rintro e w3 ⟨rfl, hb3⟩
    have HB3 := hid (Below.next HB2.out hb3)
    have K1 := hid (K1.out.below hb3)
    clear hb3
    obtain ⟨hy0, hy1, hy2, hy3, -⟩ := K1.out.c4
    go_wp2_with fail
    go_ret
    exact ⟨rfl, HB3.out⟩
end Go.Proofs.Ytdchopckbklncaa
