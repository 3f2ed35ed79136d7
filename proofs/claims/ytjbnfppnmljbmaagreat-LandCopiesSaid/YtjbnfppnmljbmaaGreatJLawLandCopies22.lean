/- Joined texts, in this order: Ref02, Ref02M, Ints, Ref19. Each one's first remark says what it proves; no condition beyond those that its theorems name. -/
import Derived.Test.YtjbnfppnmljbmaaGreatJLawLandCopies13
import Derived.Test.YtjbnfppnmljbmaaGreatJLawLandCopies21
import Derived.Test.YtjbnfppnmljbmaaGreatJLawLandCopies01
import Derived.Test.YtjbnfppnmljbmaaGreatProg
section
/- Contracts of the document's rectangles. -/
namespace Go.Proofs.YtjbnfppnmljbmaaGreat
open Go.RowKit
open Go.Lib (hid)
set_option linter.unusedVariables false
attribute [local go_sem] Oper.semAt_some

set_option maxRecDepth 100000 in
set_option maxHeartbeats 4000000 in
theorem ref02_Right4 (x y a b : Int) (q : Bool) (hq : Hid (rightR (x, y, a, b) = q)) (w : World) : Calls Tryz.prog 34 #[.agg #[.int .i64 x, .int .i64 y, .int .i64 a, .int .i64 b]] w fun e w' => e = .returned (.bool q) ∧ Below w.heap.size w w' := by
  go_enter Tryz.func34, Tryz.ntmps34
  go_upto_region 1 with fail
  obtain ⟨w1, hw⟩ : ∃ w1, w1 = w.alloc (.cells #[.int .i64 x, .int .i64 y, .int .i64 a, .int .i64 b] 38) := ⟨_, rfl⟩
  rw [← hw]
  obtain ⟨g, hg⟩ : ∃ g, g = w.heap.size := ⟨_, rfl⟩
  rw [← hg]
  have hb : Below w.heap.size w w1 := by rw [hw]; exact Below.new _ _
  have HX : Hid (Blk w1 g #[.int .i64 x, .int .i64 y, .int .i64 a, .int .i64 b]) := hid (by rw [hw, hg]; exact Blk.new _ _ _)
  have HB := hid hb
  clear hw hg hb
  obtain ⟨c0, c1, c2, c3⟩ := HX.out.c4r
  by_cases h1 : x < 0
  · skip
    have hqq : q = false := by
      rw [← hq.out, Bool.eq_false_iff]
      intro hz
      obtain ⟨z1, z2, z3, z4, z5, z6, z7, z8⟩ := (rightR_iff _).1 hz
      simp only at z1 z2 z3 z4 z5 z6 z7 z8
      omega
    clear hq
    subst hqq
    go_wp2_with fail
    go_ret
    exact ⟨by first | rfl | simp [*] | (simp; omega), HB.out⟩
  · skip
    by_cases h2 : 255 < x
    · skip
      have hqq : q = false := by
        rw [← hq.out, Bool.eq_false_iff]
        intro hz
        obtain ⟨z1, z2, z3, z4, z5, z6, z7, z8⟩ := (rightR_iff _).1 hz
        simp only at z1 z2 z3 z4 z5 z6 z7 z8
        omega
      clear hq
      subst hqq
      go_wp2_with fail
      go_ret
      exact ⟨by first | rfl | simp [*] | (simp; omega), HB.out⟩
    · skip
      by_cases h3 : y < 0
      · skip
        have hqq : q = false := by
          rw [← hq.out, Bool.eq_false_iff]
          intro hz
          obtain ⟨z1, z2, z3, z4, z5, z6, z7, z8⟩ := (rightR_iff _).1 hz
          simp only at z1 z2 z3 z4 z5 z6 z7 z8
          omega
        clear hq
        subst hqq
        go_wp2_with fail
        go_ret
        exact ⟨by first | rfl | simp [*] | (simp; omega), HB.out⟩
      · skip
        by_cases h4 : 255 < y
        · skip
          have hqq : q = false := by
            rw [← hq.out, Bool.eq_false_iff]
            intro hz
            obtain ⟨z1, z2, z3, z4, z5, z6, z7, z8⟩ := (rightR_iff _).1 hz
            simp only at z1 z2 z3 z4 z5 z6 z7 z8
            omega
          clear hq
          subst hqq
          go_wp2_with fail
          go_ret
          exact ⟨by first | rfl | simp [*] | (simp; omega), HB.out⟩
        · skip
          have u1 : IntKind.i64.wrap (256 - x) = 256 - x := by rw [IntKind.wrap_i64]; omega
          have u2 : IntKind.i64.wrap (256 - y) = 256 - y := by rw [IntKind.wrap_i64]; omega
          by_cases h5 : 1 ≤ a
          · skip
            by_cases h6 : a ≤ 256 - x
            · skip
              by_cases h7 : 1 ≤ b
              · skip
                by_cases h8 : b ≤ 256 - y
                · skip
                  have hqq : q = true := by rw [← hq.out, rightR_iff]; exact ⟨by show 0 ≤ x; omega, by show x < 256; omega, by show 1 ≤ a; omega, by show a ≤ 256 - x; omega, by show 0 ≤ y; omega, by show y < 256; omega, by show 1 ≤ b; omega, by show b ≤ 256 - y; omega⟩
                  clear hq
                  subst hqq
                  go_wp2_with fail
                  go_ret
                  exact ⟨by simp [*], HB.out⟩
                · skip
                  have hqq : q = false := by
                    rw [← hq.out, Bool.eq_false_iff]
                    intro hz
                    obtain ⟨z1, z2, z3, z4, z5, z6, z7, z8⟩ := (rightR_iff _).1 hz
                    simp only at z1 z2 z3 z4 z5 z6 z7 z8
                    omega
                  clear hq
                  subst hqq
                  go_wp2_with fail
                  go_ret
                  exact ⟨by first | rfl | simp [*] | (simp; omega), HB.out⟩
              · skip
                have hqq : q = false := by
                  rw [← hq.out, Bool.eq_false_iff]
                  intro hz
                  obtain ⟨z1, z2, z3, z4, z5, z6, z7, z8⟩ := (rightR_iff _).1 hz
                  simp only at z1 z2 z3 z4 z5 z6 z7 z8
                  omega
                clear hq
                subst hqq
                go_wp2_with fail
                go_ret
                exact ⟨by first | rfl | simp [*] | (simp; omega), HB.out⟩
            · skip
              have hqq : q = false := by
                rw [← hq.out, Bool.eq_false_iff]
                intro hz
                obtain ⟨z1, z2, z3, z4, z5, z6, z7, z8⟩ := (rightR_iff _).1 hz
                simp only at z1 z2 z3 z4 z5 z6 z7 z8
                omega
              clear hq
              subst hqq
              go_wp2_with fail
              go_ret
              exact ⟨by first | rfl | simp [*] | (simp; omega), HB.out⟩
          · skip
            have hqq : q = false := by
              rw [← hq.out, Bool.eq_false_iff]
              intro hz
              obtain ⟨z1, z2, z3, z4, z5, z6, z7, z8⟩ := (rightR_iff _).1 hz
              simp only at z1 z2 z3 z4 z5 z6 z7 z8
              omega
            clear hq
            subst hqq
            go_wp2_with fail
            go_ret
            exact ⟨by first | rfl | simp [*] | (simp; omega), HB.out⟩
set_option maxRecDepth 100000 in
set_option maxHeartbeats 4000000 in
theorem ref02_Holds4 (x y a b px py : Int) (hpx : px ≤ 9223372036854775807) (hpy : py ≤ 9223372036854775807) (w : World) : Calls Tryz.prog 16 #[.agg #[.int .i64 x, .int .i64 y, .int .i64 a, .int .i64 b], .int .i64 px, .int .i64 py] w fun e w' => e = .returned (.bool (tHolds px py (x, y, a, b))) ∧ Below w.heap.size w w' := by
  obtain ⟨q, hq⟩ : ∃ q, tHolds px py (x, y, a, b) = q := ⟨_, rfl⟩
  rw [hq]
  have HQ := hid hq
  obtain ⟨r, hr⟩ : ∃ r, rightR (x, y, a, b) = r := ⟨_, rfl⟩
  have HR := hid hr
  clear hq hr
  go_enter Tryz.func16, Tryz.ntmps16
  go_upto_region 1 with fail
  obtain ⟨w1, hw⟩ : ∃ w1, w1 = w.alloc (.cells #[.int .i64 x, .int .i64 y, .int .i64 a, .int .i64 b] 38) := ⟨_, rfl⟩
  rw [← hw]
  obtain ⟨g, hg⟩ : ∃ g, g = w.heap.size := ⟨_, rfl⟩
  rw [← hg]
  have hb : Below w.heap.size w w1 := by rw [hw]; exact Below.new _ _
  have HX : Hid (Blk w1 g #[.int .i64 x, .int .i64 y, .int .i64 a, .int .i64 b]) := hid (by rw [hw, hg]; exact Blk.new _ _ _)
  have HB := hid hb
  clear hw hg hb
  obtain ⟨c0, c1, c2, c3⟩ := HX.out.c4r
  go_wp2_with fail
  refine (ref02_Right4 x y a b r HR w1).mono ?_
  rintro e w2 ⟨rfl, hb⟩
  have HB2 := hid (Below.next HB.out hb)
  have HX2 := hid (HX.out.below hb)
  clear hb c0 c1 c2 c3
  obtain ⟨c0, c1, c2, c3⟩ := HX2.out.c4r
  cases r with
  | false =>
    have hqq : q = false := by
      rw [← HQ.out]; unfold tHolds
      rw [decide_eq_false_iff_not]
      intro hz
      have := (rightR_iff _).2 hz.1
      rw [HR.out] at this; cases this
    subst hqq
    go_wp2_with fail
    go_ret
    exact ⟨rfl, HB2.out⟩
  | true =>
    obtain ⟨z1, z2, z3, z4, z5, z6, z7, z8⟩ := (rightR_iff _).1 HR.out
    simp only at z1 z2 z3 z4 z5 z6 z7 z8
    by_cases h1 : x ≤ px
    · skip
      have u1 : IntKind.i64.wrap (px - x) = px - x := by rw [IntKind.wrap_i64]; omega
      by_cases h2 : px - x < a
      · skip
        by_cases h3 : px < 256
        · skip
          by_cases h4 : y ≤ py
          · skip
            have u2 : IntKind.i64.wrap (py - y) = py - y := by rw [IntKind.wrap_i64]; omega
            by_cases h5 : py - y < b
            · skip
              by_cases h6 : py < 256
              · skip
                have hqq : q = true := by
                  rw [← HQ.out]; unfold tHolds
                  rw [decide_eq_true_eq]
                  exact ⟨(rightR_iff _).1 HR.out, by show x ≤ px; omega, by show px < x + a; omega, by show y ≤ py; omega, by show py < y + b; omega⟩
                subst hqq
                go_wp2_with fail
                go_ret
                exact ⟨by simp [*], HB2.out⟩
              · skip
                exfalso
                omega
            · skip
              have hqq : q = false := by
                rw [← HQ.out]; unfold tHolds
                rw [decide_eq_false_iff_not]
                rintro ⟨-, y1, y2, y3, y4⟩
                simp only at y1 y2 y3 y4
                omega
              subst hqq
              go_wp2_with fail
              go_ret
              exact ⟨by first | rfl | simp [*] | (simp; omega), HB2.out⟩
          · skip
            have hqq : q = false := by
              rw [← HQ.out]; unfold tHolds
              rw [decide_eq_false_iff_not]
              rintro ⟨-, y1, y2, y3, y4⟩
              simp only at y1 y2 y3 y4
              omega
            subst hqq
            go_wp2_with fail
            go_ret
            exact ⟨by first | rfl | simp [*] | (simp; omega), HB2.out⟩
        · skip
          exfalso
          omega
      · skip
        have hqq : q = false := by
          rw [← HQ.out]; unfold tHolds
          rw [decide_eq_false_iff_not]
          rintro ⟨-, y1, y2, y3, y4⟩
          simp only at y1 y2 y3 y4
          omega
        subst hqq
        go_wp2_with fail
        go_ret
        exact ⟨by first | rfl | simp [*] | (simp; omega), HB2.out⟩
    · skip
      have hqq : q = false := by
        rw [← HQ.out]; unfold tHolds
        rw [decide_eq_false_iff_not]
        rintro ⟨-, y1, y2, y3, y4⟩
        simp only at y1 y2 y3 y4
        omega
      subst hqq
      go_wp2_with fail
      go_ret
      exact ⟨by first | rfl | simp [*] | (simp; omega), HB2.out⟩
end Go.Proofs.YtjbnfppnmljbmaaGreat
end
section
/- Contract of the document's Meets. -/
namespace Go.Proofs.YtjbnfppnmljbmaaGreat
open Go.RowKit
open Go.Lib (hid)
set_option linter.unusedVariables false
attribute [local go_sem] Oper.semAt_some

set_option maxRecDepth 100000 in
set_option maxHeartbeats 4000000 in
theorem ref02_Meets4 (x y a b ox oy oa ob : Int) (w : World) : Calls Tryz.prog 25 #[.agg #[.int .i64 x, .int .i64 y, .int .i64 a, .int .i64 b], .agg #[.int .i64 ox, .int .i64 oy, .int .i64 oa, .int .i64 ob]] w fun e w' => e = .returned (.bool (tMeets (ox, oy, oa, ob) (x, y, a, b))) ∧ Below w.heap.size w w' := by
  obtain ⟨q, hq⟩ : ∃ q, tMeets (ox, oy, oa, ob) (x, y, a, b) = q := ⟨_, rfl⟩
  rw [hq]
  have HQ := hid hq
  obtain ⟨r, hr⟩ : ∃ r, rightR (x, y, a, b) = r := ⟨_, rfl⟩
  obtain ⟨r2, hr2⟩ : ∃ r, rightR (ox, oy, oa, ob) = r := ⟨_, rfl⟩
  have HR := hid hr
  have HR2 := hid hr2
  clear hq hr hr2
  go_enter Tryz.func25, Tryz.ntmps25
  go_upto_region 1 with fail
  obtain ⟨w2, hw2⟩ : ∃ w2, w2 = (w.alloc (.cells #[.int .i64 x, .int .i64 y, .int .i64 a, .int .i64 b] 38)).alloc (.cells #[.int .i64 ox, .int .i64 oy, .int .i64 oa, .int .i64 ob] 38) := ⟨_, rfl⟩
  obtain ⟨g, hg⟩ : ∃ g, g = w.heap.size := ⟨_, rfl⟩
  obtain ⟨g2, hg2⟩ : ∃ g, g = w.heap.size + 1 := ⟨_, rfl⟩
  have hz1 : (World.alloc w (.cells #[.int .i64 x, .int .i64 y, .int .i64 a, .int .i64 b] 38)).heap.size = w.heap.size + 1 := by simp
  try rw [hz1]
  try rw [← hg2]
  try rw [← hg]
  rw [← hw2]
  have hb : Below w.heap.size w w2 := by rw [hw2]; exact Below.next (Below.new _ _) (Below.new _ _)
  have HX : Hid (Blk w2 g #[.int .i64 x, .int .i64 y, .int .i64 a, .int .i64 b]) := hid (by rw [hw2, hg]; exact (Blk.new w _ _).below (Below.new _ _))
  have HO : Hid (Blk w2 g2 #[.int .i64 ox, .int .i64 oy, .int .i64 oa, .int .i64 ob]) := hid (by rw [hw2, hg2, ← hz1]; exact Blk.new _ _ _)
  have HB := hid hb
  clear hw2 hg hg2 hz1 hb
  obtain ⟨c0, c1, c2, c3⟩ := HX.out.c4r
  go_wp2_with fail
  refine (ref02_Right4 x y a b r HR w2).mono ?_
  rintro e w3 ⟨rfl, hb⟩
  have HB3 := hid (Below.next HB.out hb)
  have HX3 := hid (HX.out.below hb)
  have HO3 := hid (HO.out.below hb)
  clear hb c0 c1 c2 c3
  cases r with
  | false =>
    have hqq : q = false := by
      rw [← HQ.out]; unfold tMeets
      rw [decide_eq_false_iff_not]
      intro hz
      have := (rightR_iff _).2 hz.2.1
      rw [HR.out] at this; cases this
    subst hqq
    go_wp2_with fail
    go_ret
    exact ⟨rfl, HB3.out⟩
  | true =>
    obtain ⟨c0, c1, c2, c3⟩ := HO3.out.c4r
    go_wp2_with fail
    refine (ref02_Right4 ox oy oa ob r2 HR2 w3).mono ?_
    rintro e w4 ⟨rfl, hb⟩
    have HB4 := hid (Below.next HB3.out hb)
    have HX4 := hid (HX3.out.below hb)
    have HO4 := hid (HO3.out.below hb)
    clear hb c0 c1 c2 c3
    cases r2 with
    | false =>
      have hqq : q = false := by
        rw [← HQ.out]; unfold tMeets
        rw [decide_eq_false_iff_not]
        intro hz
        have := (rightR_iff _).2 hz.1
        rw [HR2.out] at this; cases this
      subst hqq
      go_wp2_with fail
      go_ret
      exact ⟨rfl, HB4.out⟩
    | true =>
      obtain ⟨c0, c1, c2, c3⟩ := HX4.out.c4r
      obtain ⟨o0, o1, o2, o3⟩ := HO4.out.c4r
      obtain ⟨z1, z2, z3, z4, z5, z6, z7, z8⟩ := (rightR_iff _).1 HR.out
      obtain ⟨y1, y2, y3, y4, y5, y6, y7, y8⟩ := (rightR_iff _).1 HR2.out
      simp only at z1 z2 z3 z4 z5 z6 z7 z8 y1 y2 y3 y4 y5 y6 y7 y8
      have v2 : IntKind.i64.wrap (x + a) = x + a := by rw [IntKind.wrap_i64]; omega
      have v3 : IntKind.i64.wrap (ox + oa) = ox + oa := by rw [IntKind.wrap_i64]; omega
      have v4 : IntKind.i64.wrap (y + b) = y + b := by rw [IntKind.wrap_i64]; omega
      have v5 : IntKind.i64.wrap (oy + ob) = oy + ob := by rw [IntKind.wrap_i64]; omega
      go_wp2_with fail
      go_loopw [5, 6] (fun vs vi wr => ∃ (i : Int) (q6 : Bool), vs = .bool q6 ∧ vi = .int .i64 i ∧ x ≤ i ∧ i ≤ x + a ∧ (q6 = true ↔ (x < i ∧ x < ox + oa ∧ ox < i)) ∧ wr = w4) (fun _ vi _ => (x + a - intOf vi).toNat)
      case atStart => exact ⟨x, false, rfl, rfl, by omega, by omega, by simp, rfl⟩
      case round =>
        obtain ⟨i, q6, rfl, rfl, hi1, hi2, hq, rfl⟩ := hrel
        by_cases hlt : i < x + a
        · have v1 : IntKind.i64.wrap (i + 1) = i + 1 := by rw [IntKind.wrap_i64]; omega
          by_cases t1 : ox ≤ i
          · by_cases t2 : i < ox + oa
            · go_wp2_with fail
              go_roundw
              case rel => exact ⟨i + 1, true, rfl, by simp [v1], by omega, by omega, by simp; omega, by trivial⟩
              case measure => simp [intOf, v1]; omega
            · go_wp2_with fail
              go_roundw
              case rel => exact ⟨i + 1, q6, rfl, by simp [v1], by omega, by omega, by rw [hq]; omega, by trivial⟩
              case measure => simp [intOf, v1]; omega
          · go_wp2_with fail
            go_roundw
            case rel => exact ⟨i + 1, q6, rfl, by simp [v1], by omega, by omega, by rw [hq]; omega, by trivial⟩
            case measure => simp [intOf, v1]; omega
        · obtain rfl : i = x + a := by omega
          have hx : q6 = decide (x < ox + oa ∧ ox < x + a) := by rw [Bool.eq_iff_iff, hq, decide_eq_true_eq]; omega
          clear hq
          obtain ⟨qx, hqx⟩ : ∃ z, z = q6 := ⟨_, rfl⟩
          subst hqx
          have HXX := hid hx
          clear hx
          obtain ⟨w5, hw5⟩ : ∃ z, z = wr := ⟨_, rfl⟩
          subst hw5
          go_wp2_with fail
          go_loopw [7, 8] (fun vs vi wr => ∃ (i : Int) (q7 : Bool), vs = .bool q7 ∧ vi = .int .i64 i ∧ y ≤ i ∧ i ≤ y + b ∧ (q7 = true ↔ (y < i ∧ y < oy + ob ∧ oy < i)) ∧ wr = w5) (fun _ vi _ => (y + b - intOf vi).toNat)
          case atStart => exact ⟨y, false, rfl, rfl, by omega, by omega, by simp, rfl⟩
          case round =>
            obtain ⟨i, q7, rfl, rfl, hi1, hi2, hq, rfl⟩ := hrel
            by_cases hlt : i < y + b
            · have v1 : IntKind.i64.wrap (i + 1) = i + 1 := by rw [IntKind.wrap_i64]; omega
              by_cases t1 : oy ≤ i
              · by_cases t2 : i < oy + ob
                · go_wp2_with fail
                  go_roundw
                  case rel => exact ⟨i + 1, true, rfl, by simp [v1], by omega, by omega, by simp; omega, by trivial⟩
                  case measure => simp [intOf, v1]; omega
                · go_wp2_with fail
                  go_roundw
                  case rel => exact ⟨i + 1, q7, rfl, by simp [v1], by omega, by omega, by rw [hq]; omega, by trivial⟩
                  case measure => simp [intOf, v1]; omega
              · go_wp2_with fail
                go_roundw
                case rel => exact ⟨i + 1, q7, rfl, by simp [v1], by omega, by omega, by rw [hq]; omega, by trivial⟩
                case measure => simp [intOf, v1]; omega
            · obtain rfl : i = y + b := by omega
              have hy : q7 = decide (y < oy + ob ∧ oy < y + b) := by rw [Bool.eq_iff_iff, hq, decide_eq_true_eq]; omega
              clear hq
              have hqq : q = (qx && q7) := by
                rw [← HQ.out, HXX.out, hy]; unfold tMeets
                rw [Bool.eq_iff_iff, Bool.and_eq_true, decide_eq_true_eq, decide_eq_true_eq, decide_eq_true_eq]
                constructor
                · rintro ⟨-, -, k1, k2, k3, k4⟩
                  exact ⟨⟨k2, k1⟩, ⟨k4, k3⟩⟩
                · rintro ⟨⟨k1, k2⟩, ⟨k3, k4⟩⟩
                  exact ⟨(rightR_iff _).1 HR2.out, (rightR_iff _).1 HR.out, k2, k1, k4, k3⟩
              subst hqq
              clear HXX hy
              cases qx
              · go_wp2_with fail
                go_ret
                exact ⟨rfl, HB4.out⟩
              · cases q7
                · go_wp2_with fail
                  go_ret
                  exact ⟨rfl, HB4.out⟩
                · go_wp2_with fail
                  go_ret
                  exact ⟨rfl, HB4.out⟩
end Go.Proofs.YtjbnfppnmljbmaaGreat
end
section
/- Contracts: slices of numbers: Index, Contains. -/
namespace Go.Proofs.YtjbnfppnmljbmaaGreat
open Go.RowKit
open Go.Lib (hid)
set_option linter.unusedVariables false

/-- the slice reads as the list of numbers -/
def SlI (w : World) (v : Value) (l : List Int) : Prop := ∃ a c, v = .slice a l.length c ∧ Rd w a (l.map (.int .i64)) ∧ l.length ≤ c ∧ c ≤ 9223372036854775807 ∧ (a = none → c = 0)
theorem SlI.nil (w : World) : SlI w (.slice none 0 0) [] := ⟨none, 0, rfl, Rd.nil _ _, by simp, by omega, fun _ => rfl⟩
theorem SlI.below {w w' : World} {v : Value} {l : List Int} (h : SlI w v l) (hb : Below w.heap.size w w') : SlI w' v l := by
  obtain ⟨a, c, rfl, h2, h3⟩ := h
  exact ⟨a, c, rfl, h2.below' hb, h3⟩
theorem SlI.upd {S : Nat → Prop} {w w' : World} {v : Value} {l : List Int} (h : SlI w v l) (hu : Upd S w w') (hn : ∀ k, v.ownBlock = some k → ¬ S k) : SlI w' v l := by
  obtain ⟨a, c, rfl, h2, h3⟩ := h
  exact ⟨a, c, rfl, hu.rd h2 (fun b off e => hn _ (by rw [e]; rfl)), h3⟩
theorem SlI.of_own {w : World} {base : Nat} {e : TypeId} {v : Value} {l : List Int} (h : w.ownsRow base e 1 v l.length (l.map (.int .i64))) : SlI w v l := by
  obtain ⟨a, cap, rfl, h1, h2, hr, h3⟩ := ownsRow.rd h
  exact ⟨a, cap, rfl, hr, h1, by unfold maxLen at h2; omega, h3⟩
/-- an incoming slice of numbers -/
theorem sli_of_row {w : World} {a : Option Addr} {len cap : Nat} {zs : List Int}
    (h : (a = none ∧ len = 0 ∧ cap = 0 ∧ zs = []) ∨
      ∃ x, a = some x ∧ len ≤ cap ∧ cap ≤ maxLen ∧ zs.length = cap ∧ (∀ i, i < zs.length → w.cell? (x.add i) = some (.int .i64 (zs.getD i 0))) ∧ ∀ n ∈ zs, (Lit.int .i64 n).wf = true) :
    ∃ l : List Int, len = l.length ∧ SlI w (.slice a len cap) l ∧ ∀ n ∈ l, (Lit.int .i64 n).wf = true := by
  obtain ⟨ys, rfl, h1, h2, h3, h4, h5, h6⟩ := Rd.of_row h
  exact ⟨ys, rfl, ⟨a, cap, rfl, h2, h4, h5, h6⟩, h3⟩

end Go.Proofs.YtjbnfppnmljbmaaGreat
end
section
/- The document's land: contracts of Within, Find, Near, Blocked, May. -/
namespace Go.Proofs.YtjbnfppnmljbmaaGreat
open Go.RowKit Go.Deep
open Go.Lib (hid)
set_option linter.unusedVariables false
attribute [local go_sem] Oper.semAt_some

def svP (X : List Pl) : List Value := X.flatMap fun p => [Value.int .i64 p.1, .int .i64 p.2.1, .int .i64 p.2.2.1, .int .i64 p.2.2.2.1, .int .i64 p.2.2.2.2]
theorem svP_length (X : List Pl) : (svP X).length = X.length * 5 := by
  unfold svP
  induction X with
  | nil => rfl
  | cons p X ih => rw [List.flatMap_cons, List.length_append, ih]; simp; omega
theorem svP_append (X Y : List Pl) : svP (X ++ Y) = svP X ++ svP Y := by unfold svP; rw [List.flatMap_append]
theorem svP_at : ∀ (X : List Pl) (i : Nat) (t : Pl), X[i]? = some t → (svP X)[i * 5]? = some (.int .i64 t.1) ∧ (svP X)[i * 5 + 1]? = some (.int .i64 t.2.1) ∧ (svP X)[i * 5 + 2]? = some (.int .i64 t.2.2.1) ∧ (svP X)[i * 5 + 3]? = some (.int .i64 t.2.2.2.1) ∧ (svP X)[i * 5 + 4]? = some (.int .i64 t.2.2.2.2)
  | [], i, x, h => by simp at h
  | q :: X, 0, x, h => by simp at h; subst h; exact ⟨rfl, rfl, rfl, rfl, rfl⟩
  | q :: X, i + 1, x, h => by
    simp at h
    have := svP_at X i x h
    have e : svP (q :: X) = .int .i64 q.1 :: .int .i64 q.2.1 :: .int .i64 q.2.2.1 :: .int .i64 q.2.2.2.1 :: .int .i64 q.2.2.2.2 :: svP X := rfl
    rw [e, show (i + 1) * 5 = i * 5 + 1 + 1 + 1 + 1 + 1 by omega]
    simpa using this
def SlPl (w : World) (v : Value) (X : List Pl) : Prop := ∃ a cap, v = .slice a X.length cap ∧ Rd w a (svP X) ∧ X.length ≤ cap ∧ cap ≤ 9223372036854775807 ∧ (a = none → cap = 0)
theorem SlPl.nil (w : World) : SlPl w (.slice none 0 0) [] := ⟨none, 0, rfl, Rd.nil _ _, by simp, by omega, fun _ => rfl⟩
theorem SlPl.below {w w' : World} {v : Value} {X : List Pl} (h : SlPl w v X) (hb : Below w.heap.size w w') : SlPl w' v X := by
  obtain ⟨a, c, e, h1, h2⟩ := h
  exact ⟨a, c, e, h1.below' hb, h2⟩
theorem SlPl.upd {S : Nat → Prop} {w w' : World} {v : Value} {X : List Pl} (h : SlPl w v X) (hu : Upd S w w') (hn : ∀ k, v.ownBlock = some k → ¬ S k) : SlPl w' v X := by
  obtain ⟨a, c, rfl, h1, h2⟩ := h
  exact ⟨a, c, rfl, hu.rd h1 (fun b off e => hn b (by rw [e]; rfl)), h2⟩
theorem SlPl.of_own {w : World} {base : Nat} {e : TypeId} {v : Value} {X : List Pl} (h : w.ownsRow base e 5 v X.length (svP X)) : SlPl w v X := by
  obtain ⟨a, c, rfl, h1, h2, h3, h4⟩ := ownsRow.rd h
  exact ⟨a, c, rfl, h3, h1, by unfold maxLen at h2; omega, h4⟩
theorem Rd.fiveP {w : World} {a : Option Addr} {X : List Pl} (h : Rd w a (svP X)) (i : Nat) (hi : i < X.length) :
    ∃ b off t, a = some ⟨b, off, none⟩ ∧ w.cell? ⟨b, off + i * 5, none⟩ = some (.int .i64 t.1) ∧ w.cell? ⟨b, off + i * 5 + 1, none⟩ = some (.int .i64 t.2.1) ∧ w.cell? ⟨b, off + i * 5 + 2, none⟩ = some (.int .i64 t.2.2.1) ∧ w.cell? ⟨b, off + i * 5 + 3, none⟩ = some (.int .i64 t.2.2.2.1) ∧ w.cell? ⟨b, off + i * 5 + 4, none⟩ = some (.int .i64 t.2.2.2.2) ∧
      X[i]? = some t ∧ X.drop i = t :: X.drop (i + 1) ∧ X.take (i + 1) = X.take i ++ [t] := by
  have hx : X[i]? = some X[i] := List.getElem?_eq_getElem hi
  obtain ⟨h0, h1, h2, h3, h4⟩ := svP_at X i _ hx
  obtain ⟨b, off, ha, hc⟩ := h (i * 5) (by rw [svP_length]; omega)
  have key : ∀ j, j < 5 → w.cell? ⟨b, off + i * 5 + j, none⟩ = (svP X)[i * 5 + j]? := fun j hj => by
    obtain ⟨b', off', ha', hc'⟩ := h (i * 5 + j) (by rw [svP_length]; omega)
    rw [ha] at ha'
    simp at ha'
    obtain ⟨rfl, rfl⟩ := ha'
    rw [Nat.add_assoc]; exact hc'
  exact ⟨b, off, X[i], ha, by rw [hc, h0], by rw [key 1 (by omega), h1], by rw [key 2 (by omega), h2], by rw [key 3 (by omega), h3], by rw [key 4 (by omega), h4], hx, List.drop_eq_getElem_cons hi, by rw [List.take_add_one, hx]; rfl⟩
set_option maxRecDepth 100000 in
theorem ref19_Within (rx ry ra rb S : Int) (w : World) (q : Bool) (hq : Hid (decide (WithinR (rx, ry, ra, rb) S) = q)) : Calls Tryz.prog 24 #[.agg #[.int .i64 rx, .int .i64 ry, .int .i64 ra, .int .i64 rb], .int .i64 S] w fun e w' => e = .returned (.bool q) ∧ Below w.heap.size w w' := by
  obtain ⟨qr, hqr⟩ : ∃ b, rightR (rx, ry, ra, rb) = b := ⟨_, rfl⟩
  have HQR := hid hqr
  clear hqr
  go_enter Tryz.func24, Tryz.ntmps24
  go_upto_region 1 with fail
  obtain ⟨w1, hw1⟩ : ∃ w1, w1 = w.alloc (.cells #[.int .i64 rx, .int .i64 ry, .int .i64 ra, .int .i64 rb] 38) := ⟨_, rfl⟩
  rw [← hw1]
  have hb1 : Below w.heap.size w w1 := by rw [hw1]; exact Below.new _ _
  obtain ⟨g, hg⟩ : ∃ g, g = w.heap.size := ⟨_, rfl⟩
  rw [← hg]
  have HX : Hid (Blk w1 g #[.int .i64 rx, .int .i64 ry, .int .i64 ra, .int .i64 rb]) := hid (by rw [hw1, hg]; exact Blk.new _ _ _)
  have HB1 := hid hb1
  obtain ⟨e0, e1, e2, e3⟩ := HX.out.c4r
  clear hw1 hg hb1
  go_wp2_with fail
  refine (ref02_Right4 rx ry ra rb qr HQR w1).mono ?_
  rintro e w2 ⟨rfl, hb⟩
  have HX2 := hid (HX.out.below hb)
  have HB2 := hid (Below.next HB1.out hb)
  clear hb e0 e1 e2 e3
  obtain ⟨e0, e1, e2, e3⟩ := HX2.out.c4r
  cases qr with
  | false =>
    have HF : Hid (q = false) := hid (by
      rw [← hq.out]
      refine decide_eq_false (fun z => ?_)
      have := (rightR_iff _).2 z.1
      rw [HQR.out] at this; cases this)
    go_wp2_with fail
    go_ret
    exact ⟨by rw [HF.out]; rfl, HB2.out⟩
  | true =>
    have hr := (rightR_iff _).1 HQR.out
    have HR := hid hr
    unfold RightR at hr
    obtain ⟨r1, r2, r3, r4, r5, r6, r7, r8⟩ := hr
    simp only at r1 r2 r3 r4 r5 r6 r7 r8
    by_cases h1 : rx + ra ≤ S
    · by_cases h2 : ry + rb ≤ S
      · have HF : Hid (q = true) := hid (by rw [← hq.out]; exact decide_eq_true ⟨HR.out, h1, h2⟩)
        have hd2 : decide (ry + rb ≤ S) = true := decide_eq_true h2
        go_wp2_with fail
        go_ret
        exact ⟨by rw [HF.out]; rfl, HB2.out⟩
      · have HF : Hid (q = false) := hid (by rw [← hq.out]; exact decide_eq_false (fun z => h2 z.2.2))
        have hd2 : decide (ry + rb ≤ S) = false := decide_eq_false h2
        go_wp2_with fail
        go_ret
        exact ⟨by rw [HF.out]; rfl, HB2.out⟩
    · have HF : Hid (q = false) := hid (by rw [← hq.out]; exact decide_eq_false (fun z => h1 z.2.1))
      have hd2 : decide (rx + ra ≤ S) = false := decide_eq_false h1
      go_wp2_with fail
      go_ret
      exact ⟨by rw [HF.out]; rfl, HB2.out⟩
def FindP (P : List Pl) (id : Int) (r : Int) : Prop := (∃ i : Nat, r = (i : Int) ∧ ∃ p, P[i]? = some p ∧ p.1 = id) ∨ (r = -1 ∧ ∀ p ∈ P, p.1 ≠ id)
set_option maxRecDepth 100000 in
set_option maxHeartbeats 4000000 in
theorem ref19_Find (S : Int) (sa ap : Option Addr) (nb cb np cp : Nat) (P : List Pl) (id : Int) (w : World) (hp : SlPl w (.slice ap np cp) P) (hl : P.length ≤ 1000) : Calls Tryz.prog 18 #[.agg #[.int .i64 S, .slice sa nb cb, .slice ap np cp], .int .i64 id] w fun e w' => ∃ r, e = .returned (.int .i64 r) ∧ FindP P id r ∧ Below w.heap.size w w' := by
  have hnp : P.length = np := by obtain ⟨a, c, e, -⟩ := hp; simp only [Value.slice.injEq] at e; exact e.2.1.symm
  have HP := hid hp
  have HN := hid hnp
  rw [hnp] at hl
  clear hp hnp
  go_enter Tryz.func18, Tryz.ntmps18
  go_upto_region 1 with fail
  obtain ⟨w1, hw1⟩ : ∃ w1, w1 = w.alloc (.cells #[.int .i64 S, .slice sa nb cb, .slice ap np cp] 32) := ⟨_, rfl⟩
  rw [← hw1]
  have hb1 : Below w.heap.size w w1 := by rw [hw1]; exact Below.new _ _
  obtain ⟨g, hg⟩ : ∃ g, g = w.heap.size := ⟨_, rfl⟩
  rw [← hg]
  have hX : Blk w1 g #[.int .i64 S, .slice sa nb cb, .slice ap np cp] := by rw [hw1, hg]; exact Blk.new _ _ _
  have HB1 := hid hb1
  have HP1 := hid (HP.out.below hb1)
  obtain ⟨e0, e1, e2⟩ := hX.c3v
  clear hw1 hg hb1 hX e0 e1
  go_wp2_with fail
  go_loop [5] (fun v5 => ∃ j : Nat, v5 = .int .i64 (j : Int) ∧ j ≤ np ∧ Hid (∀ p ∈ P.take j, p.1 ≠ id)) (fun v5 => np - (intOf v5).toNat)
  case atStart => exact ⟨0, rfl, by omega, hid (by simp)⟩
  case round =>
    obtain ⟨j, rfl, hj, HJ⟩ := hrel
    by_cases hlt : j < np
    · have j1 : (j : Int) < (np : Int) := by omega
      have j0 : (0 : Int) ≤ (j : Int) := by omega
      have j9 : (j : Int) < 1000 := by omega
      obtain ⟨a', c', e', hrd, -⟩ := HP1.out
      simp only [Value.slice.injEq] at e'
      obtain ⟨rfl, -, rfl⟩ := e'
      obtain ⟨b0, off, p, rfl, d0, d1, d2, d3, d4, hat, -, htk⟩ := hrd.fiveP j (by rw [HN.out]; exact hlt)
      have HAT := hid (And.intro hat htk)
      obtain ⟨pi, p1, p2, p3, p4⟩ := p
      simp only at d0
      clear hrd hat htk d1 d2 d3 d4
      by_cases he : pi = id
      · subst he
        go_wp2_with fail
        go_ret
        exact ⟨(j : Int), rfl, .inl ⟨j, rfl, _, HAT.out.1, rfl⟩, HB1.out⟩
      · have HE := hid he
        have hbe : (pi == id) = false := by simpa using he
        clear he
        go_wp2_with fail
        go_round
        case rel => exact ⟨j + 1, by go_num, by omega, hid (fun p hp => by
          rw [HAT.out.2] at hp
          rcases List.mem_append.1 hp with hp | hp
          · exact HJ.out p hp
          · simp only [List.mem_singleton] at hp; subst hp; exact HE.out)⟩
        case measure => simp [intOf]; omega
    · have j1 : ¬ (j : Int) < (np : Int) := by omega
      have e1 : P.take j = P := List.take_of_length_le (by rw [HN.out]; omega)
      have HJ2 := HJ
      rw [e1] at HJ2
      clear e1
      go_wp2_with fail
      go_ret
      exact ⟨-1, rfl, .inr ⟨rfl, HJ2.out⟩, HB1.out⟩
set_option maxRecDepth 100000 in
set_option maxHeartbeats 4000000 in
theorem ref19_Blocked (S : Int) (sa ap : Option Addr) (nb cb np cp : Nat) (B : List R4) (rx ry ra rb : Int) (w : World) (hp : SlR w (.slice sa nb cb) B) (hl : B.length ≤ 1000) : Calls Tryz.prog 13 #[.agg #[.int .i64 S, .slice sa nb cb, .slice ap np cp], .agg #[.int .i64 rx, .int .i64 ry, .int .i64 ra, .int .i64 rb]] w fun e w' => e = .returned (.bool (blkX B (rx, ry, ra, rb))) ∧ Below w.heap.size w w' := by
  have hnp : B.length = nb := by obtain ⟨a, c, e, -⟩ := hp; simp only [Value.slice.injEq] at e; exact e.2.1.symm
  have HP := hid hp
  have HN := hid hnp
  rw [hnp] at hl
  obtain ⟨bl, hbl⟩ : ∃ b, blkX B (rx, ry, ra, rb) = b := ⟨_, rfl⟩
  have HBL := hid hbl
  rw [hbl]
  clear hp hnp hbl
  go_enter Tryz.func13, Tryz.ntmps13
  go_upto_region 1 with fail
  generalize hW : World.alloc (World.alloc w _) _ = w1
  obtain ⟨g, hg⟩ : ∃ g, g = w.heap.size := ⟨_, rfl⟩
  obtain ⟨gr, hgr⟩ : ∃ go, go = w.heap.size + 1 := ⟨_, rfl⟩
  have hz : (World.alloc w (.cells #[.int .i64 S, .slice sa nb cb, .slice ap np cp] 32)).heap.size = w.heap.size + 1 := by simp
  try rw [hz]
  try rw [← hgr]
  try rw [← hg]
  have hb1 : Below w.heap.size w w1 := by rw [← hW]; exact Below.next (Below.new _ _) (Below.new _ _)
  have HX1 : Hid (Blk w1 g #[.int .i64 S, .slice sa nb cb, .slice ap np cp]) := hid (by rw [← hW, hg]; exact (Blk.new w _ _).below (Below.new _ _))
  have HR1 : Hid (Blk w1 gr #[.int .i64 rx, .int .i64 ry, .int .i64 ra, .int .i64 rb]) := hid (by rw [← hW, hgr, ← hz]; exact Blk.new _ _ _)
  have HB1 := hid hb1
  have HP1 := hid (HP.out.below hb1)
  clear hW hg hgr hz hb1
  go_wp2_with fail
  go_loopw [5] (fun v5 wr => ∃ j : Nat, v5 = .int .i64 (j : Int) ∧ j ≤ nb ∧ Hid (∀ b ∈ B.take j, ¬ MeetsR b (rx, ry, ra, rb)) ∧ Hid (Below w1.heap.size w1 wr)) (fun v5 _ => nb - (intOf v5).toNat)
  case atStart => exact ⟨0, rfl, by omega, hid (by simp), hid (Below.refl _ _)⟩
  case round =>
    obtain ⟨j, rfl, hj, HJ, HB⟩ := hrel
    obtain ⟨e0, e1, e2⟩ := (HX1.out.below HB.out).c3v
    clear e0 e2
    by_cases hlt : j < nb
    · have j1 : (j : Int) < (nb : Int) := by omega
      have j0 : (0 : Int) ≤ (j : Int) := by omega
      have j9 : (j : Int) < 1000 := by omega
      obtain ⟨a', c', e', hrd, -⟩ := HP1.out.below HB.out
      simp only [Value.slice.injEq] at e'
      obtain ⟨rfl, -, rfl⟩ := e'
      obtain ⟨b0, off, p, rfl, d0, d1, d2, d3, hat, -, htk⟩ := hrd.four j (by rw [HN.out]; exact hlt)
      have HAT := hid (And.intro hat htk)
      obtain ⟨x1, x2, x3, x4⟩ := p
      simp only at d0 d1 d2 d3
      obtain ⟨r0, r1, r2, r3⟩ := (HR1.out.below HB.out).c4r
      obtain ⟨qm, hqm⟩ : ∃ b, tMeets (rx, ry, ra, rb) (x1, x2, x3, x4) = b := ⟨_, rfl⟩
      have HQM := hid hqm
      have hmt := fun (z : World) => ref02_Meets4 x1 x2 x3 x4 rx ry ra rb z
      rw [hqm] at hmt
      have HMT := hid hmt
      clear hrd hat htk hqm hmt
      go_upto_region 4 with fail
      replace e1 := fun (z : World) (hz : Below wr.heap.size wr z) => cellOf_belowR hz e1
      replace d0 := fun (z : World) (hz : Below wr.heap.size wr z) => cellOf_belowR hz d0
      replace d1 := fun (z : World) (hz : Below wr.heap.size wr z) => cellOf_belowR hz d1
      replace d2 := fun (z : World) (hz : Below wr.heap.size wr z) => cellOf_belowR hz d2
      replace d3 := fun (z : World) (hz : Below wr.heap.size wr z) => cellOf_belowR hz d3
      replace r0 := fun (z : World) (hz : Below wr.heap.size wr z) => cellOf_belowR hz r0
      replace r1 := fun (z : World) (hz : Below wr.heap.size wr z) => cellOf_belowR hz r1
      replace r2 := fun (z : World) (hz : Below wr.heap.size wr z) => cellOf_belowR hz r2
      replace r3 := fun (z : World) (hz : Below wr.heap.size wr z) => cellOf_belowR hz r3
      have hyd := (Below.refl wr.heap.size wr).drew
      refine wp_region_kept [] (fun z => Below wr.heap.size wr z) (by kernel_rfl) (by assumption) (fun hH => ?_)
      refine wpK.take (i := 0) (v := _) (by simp only [List.getElem?_toArray, List.getElem?_cons_succ, List.getElem?_cons_zero]; rfl) (by kernel_rfl) (by kernel_rfl) (by kernel_rfl) (by kernel_rfl) (by kernel_rfl) (by exact fun _ _ _ h => h) (by first | exact Or.inl ⟨by rfl, by intro w hSw; go_simp; try with_reducible rfl⟩ | exact Or.inr ⟨by rfl, rfl⟩) hH ?_
      try simp only [Act.put, List.setIfInBounds_toArray, List.set_cons_zero, List.set_cons_succ]
      refine wpK.take (i := 1) (v := _) (by simp only [List.getElem?_toArray, List.getElem?_cons_succ, List.getElem?_cons_zero]; rfl) (by kernel_rfl) (by kernel_rfl) (by kernel_rfl) (by kernel_rfl) (by kernel_rfl) (by exact fun _ _ _ h => h) (by first | exact Or.inl ⟨by rfl, by intro w hSw; go_simp; try with_reducible rfl⟩ | exact Or.inr ⟨by rfl, rfl⟩) hH ?_
      try simp only [Act.put, List.setIfInBounds_toArray, List.set_cons_zero, List.set_cons_succ]
      refine wpK.take (i := 2) (v := _) (by simp only [List.getElem?_toArray, List.getElem?_cons_succ, List.getElem?_cons_zero]; rfl) (by kernel_rfl) (by kernel_rfl) (by kernel_rfl) (by kernel_rfl) (by kernel_rfl) (by exact fun _ _ _ h => h) (by first | exact Or.inl ⟨by rfl, by intro w hSw; go_simp; try with_reducible rfl⟩ | exact Or.inr ⟨by rfl, rfl⟩) hH ?_
      try simp only [Act.put, List.setIfInBounds_toArray, List.set_cons_zero, List.set_cons_succ]
      refine wpK.take (i := 3) (v := _) (by simp only [List.getElem?_toArray, List.getElem?_cons_succ, List.getElem?_cons_zero]; rfl) (by kernel_rfl) (by kernel_rfl) (by kernel_rfl) (by kernel_rfl) (by kernel_rfl) (by exact fun _ _ _ h => h) (by first | exact Or.inl ⟨by rfl, by intro w hSw; go_simp; try with_reducible rfl⟩ | exact Or.inr ⟨by rfl, rfl⟩) hH ?_
      try simp only [Act.put, List.setIfInBounds_toArray, List.set_cons_zero, List.set_cons_succ]
      refine wpK.take (i := 4) (v := _) (by simp only [List.getElem?_toArray, List.getElem?_cons_succ, List.getElem?_cons_zero]; rfl) (by kernel_rfl) (by kernel_rfl) (by kernel_rfl) (by kernel_rfl) (by kernel_rfl) (by exact fun _ _ _ h => h) (by first | exact Or.inl ⟨by rfl, by intro w hSw; go_simp; try with_reducible rfl⟩ | exact Or.inr ⟨by rfl, rfl⟩) hH ?_
      try simp only [Act.put, List.setIfInBounds_toArray, List.set_cons_zero, List.set_cons_succ]
      refine wpK.take (i := 5) (v := _) (by simp only [List.getElem?_toArray, List.getElem?_cons_succ, List.getElem?_cons_zero]; rfl) (by kernel_rfl) (by kernel_rfl) (by kernel_rfl) (by kernel_rfl) (by kernel_rfl) (by exact fun _ _ _ h => h) (by first | exact Or.inl ⟨by rfl, by intro w hSw; go_simp; try with_reducible rfl⟩ | exact Or.inr ⟨by rfl, rfl⟩) hH ?_
      try simp only [Act.put, List.setIfInBounds_toArray, List.set_cons_zero, List.set_cons_succ]
      refine wpK.step (i := 6) (by kernel_rfl) (by simp only [List.getElem?_toArray, List.getElem?_cons_succ, List.getElem?_cons_zero]; rfl) (fun K hK => ?_)
      go_simp
      (refine (HMT.out _).mono ?_); rintro e w3 ⟨rfl, hb3⟩; (have hk3 := Below.next hyd hb3); go_simp
      refine hK.out _ _ (by assumption) (fun hH => ?_)
      clear hK K
      try simp only [Act.put, List.setIfInBounds_toArray, List.set_cons_zero, List.set_cons_succ]
      refine wpK.done (by kernel_rfl) ?_ _
      have HB3 := hid (Below.next HB.out hk3)
      clear e1 d0 d1 d2 d3 r0 r1 r2 r3 hyd hH hk3 hb3
      cases qm with
      | true =>
        have HF : Hid (bl = true) := hid (by
          rw [← HBL.out]
          unfold blkX
          rw [List.any_eq_true]
          exact ⟨_, List.mem_of_getElem? HAT.out.1, decide_eq_true (meetsR_symm.1 (of_decide_eq_true HQM.out))⟩)
        go_wp2_with fail
        go_ret
        exact ⟨by rw [HF.out]; rfl, Below.next HB1.out HB3.out⟩
      | false =>
        go_wp2_with fail
        go_roundw
        case rel => exact ⟨j + 1, by go_num, by omega, hid (fun p hp => by
          rw [HAT.out.2] at hp
          rcases List.mem_append.1 hp with hp | hp
          · exact HJ.out p hp
          · simp only [List.mem_singleton] at hp; subst hp; exact fun z => of_decide_eq_false HQM.out (meetsR_symm.1 z)), HB3⟩
        case measure => simp [intOf]; omega
    · have j1 : ¬ (j : Int) < (nb : Int) := by omega
      have HF : Hid (bl = false) := hid (by
        rw [← HBL.out]
        unfold blkX
        rw [List.any_eq_false]
        intro b hb z
        have h1 := HJ.out
        rw [List.take_of_length_le (by rw [HN.out]; omega)] at h1
        exact h1 b hb (of_decide_eq_true z))
      go_wp2_with fail
      go_ret
      exact ⟨by rw [HF.out]; rfl, Below.next HB1.out HB.out⟩
end Go.Proofs.YtjbnfppnmljbmaaGreat
end
