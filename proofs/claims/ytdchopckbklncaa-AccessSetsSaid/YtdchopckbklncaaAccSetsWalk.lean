/- The law AccessSets, for whatever comes in. -/
import Derived.Test.YtdchopckbklncaaAccSetsLaw
import Derived.Test.YtdchopckbklncaaAccLevels
namespace Go.Proofs.Ytdchopckbklncaa
open Go.RowKit Go.ChangeShapes Go.WideShapes Go.Deep Go.Joins
open Go.Lib (hid)
set_option linter.unusedVariables false

set_option maxRecDepth 100000 in
set_option maxHeartbeats 4000000 in
theorem AccessSets_walk {H : Type} {enc : TypeId × Value → H} {b0 : Nat} {d0 : DataW H} {p0 : List MemPlace} (v0 : Value) (list p : Int) (w : World) (ok0 : Value.okWide Try.prog w .any b0 69 v0) (k0 : DataW.Trod enc Try.prog w 0 (fun _ => true) true 69 v0 d0 p0)
    (wl : (Lit.int .i64 list).wf = true) (wp : (Lit.int .i64 p).wf = true) :
    Calls Try.prog 12 #[v0, .int .i64 list, .int .i64 p] w fun e w' => e = .returned (.bool true) ∧ Below w.heap.size w w' := by
  obtain ⟨x0, vc, vf, vb, y0, y1, y2, y3, n, rfl, -, -, t0, t1, t2, t3⟩ := open_agg4 Try.underlying69 (by kernel_rfl) (by kernel_rfl) ok0 k0
  obtain ⟨o, e0, -, -⟩ := DataW.trod_int u64_18 t0
  simp only [List.cons.injEq, and_true] at e0
  subst e0
  obtain ⟨lc, hc⟩ := open_sli t1
  obtain ⟨lf, hf⟩ := open_sli t2
  obtain ⟨lb, hb⟩ := open_sli t3
  clear ok0 k0 t0 t1 t2 t3 wl wp
  by_cases hall : (lc.length ≤ 40 ∧ lf.length ≤ 40 ∧ lb.length ≤ 40) ∧ (1 ≤ o ∧ o ≤ 256 ∧ RightL lc o ∧ RightL lf o ∧ RightL lb o)
  · obtain ⟨⟨s1, s2, s3⟩, r1, r2, r3, r4, r5⟩ := hall
    exact law18_Sets o list p lc lf lb vc vf vb w hc hf hb s1 s2 s3 r1 r2 r3 r4 r5
  · have HC : Hid (SlI w vc lc) := hid hc
    have HF : Hid (SlI w vf lf) := hid hf
    have HBB : Hid (SlI w vb lb) := hid hb
    obtain ⟨ac, cc, rfl, -⟩ := hc
    obtain ⟨af, cf, rfl, -⟩ := hf
    obtain ⟨ab, cb, rfl, -⟩ := hb
    obtain ⟨w0, hw0⟩ : ∃ w0, w0 = w.alloc (.cells #[.int .i64 o, .slice ac lc.length cc, .slice af lf.length cf, .slice ab lb.length cb] 69) := ⟨_, rfl⟩
    have HW0 := hid hw0
    have HK0 : Hid (Below w.heap.size w w0) := hid (by rw [hw0]; exact Below.new _ _)
    have HBLK : Hid (Blk w0 w.heap.size #[.int .i64 o, .slice ac lc.length cc, .slice af lf.length cf, .slice ab lb.length cb]) := hid (by rw [hw0]; exact Blk.new _ _ _)
    clear hw0
    obtain ⟨b, hbb⟩ : ∃ b, (decide (lc.length ≤ 40) && decide (lf.length ≤ 40) && decide (lb.length ≤ 40)) = b := ⟨_, rfl⟩
    have HBL := hid hbb
    cases b
    · clear hbb hall
      go_enter Try.func12, Try.ntmps12
      go_wp2_with fail
      rw [← HW0.out]
      refine (law18_small o lc lf lb _ _ _ _ (HC.out.below HK0.out) (HF.out.below HK0.out) (HBB.out.below HK0.out) false HBL).mono ?_
      rintro e w1 ⟨rfl, hb1⟩
      have HK1 := hid (Below.next HK0.out hb1)
      clear hb1
      go_wp2_with fail
      refine (law18_awake _).mono ?_
      rintro e w2 ⟨rfl, hb2⟩
      have HK2 := hid (Below.next HK1.out hb2)
      clear hb2
      go_wp2_with fail
      go_ret
      exact ⟨rfl, HK2.out⟩
    · obtain ⟨x0, hx0⟩ : ∃ x0, (decide (1 ≤ o) && decide (o ≤ 256)) = x0 := ⟨_, rfl⟩
      obtain ⟨x1, hx1⟩ : ∃ x1, rightL lc o = x1 := ⟨_, rfl⟩
      obtain ⟨x2, hx2⟩ : ∃ x2, rightL lf o = x2 := ⟨_, rfl⟩
      obtain ⟨x3, hx3⟩ : ∃ x3, rightL lb o = x3 := ⟨_, rfl⟩
      have hno : (x0 && x1 && x2 && x3) = false := by
        cases hq : (x0 && x1 && x2 && x3) with
        | false => rfl
        | true =>
          exfalso
          apply hall
          simp only [Bool.and_eq_true] at hq
          obtain ⟨⟨⟨q0, q1⟩, q2⟩, q3⟩ := hq
          subst q0 q1 q2 q3
          simp only [Bool.and_eq_true, decide_eq_true_eq] at hbb hx0
          exact ⟨⟨hbb.1.1, hbb.1.2, hbb.2⟩, hx0.1, hx0.2, (rightL_iff _ _).1 hx1, (rightL_iff _ _).1 hx2, (rightL_iff _ _).1 hx3⟩
      have HX0 := hid hx0
      have HX1 := hid hx1
      have HX2 := hid hx2
      have HX3 := hid hx3
      have HNO := hid hno
      clear hbb hall hx0 hx1 hx2 hx3 hno
      obtain ⟨hy0, hy1, hy2, hy3, -⟩ := HBLK.out.c4
      go_enter Try.func12, Try.ntmps12
      go_wp2_with fail
      rw [← HW0.out]
      refine (law18_small o lc lf lb _ _ _ _ (HC.out.below HK0.out) (HF.out.below HK0.out) (HBB.out.below HK0.out) true HBL).mono ?_
      rintro e w1 ⟨rfl, hb1⟩
      have HK1 := hid (Below.next HK0.out hb1)
      have HK01 := hid hb1
      clear hy0 hy1 hy2 hy3
      obtain ⟨hy0, hy1, hy2, hy3, -⟩ := (HBLK.out.below hb1).c4
      clear hb1
      go_wp2_with fail
      refine (law18_right o lc lf lb _ _ _ _ (HC.out.below HK1.out) (HF.out.below HK1.out) (HBB.out.below HK1.out) x0 x1 x2 x3 HX0.out HX1 HX2 HX3).mono ?_
      rintro e w2 ⟨rfl, hb2⟩
      have HK2 := hid (Below.next HK1.out hb2)
      rw [HNO.out]
      clear hb2
      go_wp2_with fail
      refine (law18_awake _).mono ?_
      rintro e w3 ⟨rfl, hb3⟩
      have HK3 := hid (Below.next HK2.out hb3)
      clear hb3
      go_wp2_with fail
      go_ret
      exact ⟨rfl, HK3.out⟩
end Go.Proofs.Ytdchopckbklncaa
