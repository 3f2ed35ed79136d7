/- Joined texts, in this order: Ref02, Ref02M. Each one's first remark says what it proves; no condition beyond those that its theorems name. -/
import Derived.Test.YtjbnfppnmljbmaaJLawRtreeBounds20
section
/- Contracts of the document's rectangles. -/
namespace Go.Proofs.Ytjbnfppnmljbmaa
open Go.RowKit
open Go.Lib (hid)
set_option linter.unusedVariables false
attribute [local go_sem] Oper.semAt_some

set_option maxRecDepth 100000 in
set_option maxHeartbeats 4000000 in
theorem ref02_Right4 (x y a b : Int) (q : Bool) (hq : Hid (rightR (x, y, a, b) = q)) (w : World) : Calls Try.prog 48 #[.agg #[.int .i64 x, .int .i64 y, .int .i64 a, .int .i64 b]] w fun e w' => e = .returned (.bool q) ∧ Below w.heap.size w w' := by
  go_enter Try.func48, Try.ntmps48
  go_upto_region 1 with fail
  obtain ⟨w1, hw⟩ : ∃ w1, w1 = w.alloc (.cells #[.int .i64 x, .int .i64 y, .int .i64 a, .int .i64 b] 53) := ⟨_, rfl⟩
  rw [← hw]
  obtain ⟨g, hg⟩ : ∃ g, g = w.heap.size := ⟨_, rfl⟩
  rw [← hg]
  have hb : Below w.heap.size w w1 := by rw [hw]; exact Below.new _ _
  have HX : Hid (Blk w1 g #[.int .i64 x, .int .i64 y, .int .i64 a, .int .i64 b]) := hid (by rw [hw, hg]; exact Blk.new _ _ _)
  have HB := hid hb
  clear hw hg hb
  obtain ⟨c0, c1, c2, c3⟩ := HX.out.c4r
  by_cases h1 : x < 0
  · skip
    have hqq : q = false := by
      rw [← hq.out, Bool.eq_false_iff]
      intro hz
      obtain ⟨z1, z2, z3, z4, z5, z6, z7, z8⟩ := (rightR_iff _).1 hz
      simp only at z1 z2 z3 z4 z5 z6 z7 z8
      omega
    clear hq
    subst hqq
    go_wp2_with fail
    go_ret
    exact ⟨by first | rfl | simp [*] | (simp; omega), HB.out⟩
  · skip
    by_cases h2 : 255 < x
    · skip
      have hqq : q = false := by
        rw [← hq.out, Bool.eq_false_iff]
        intro hz
        obtain ⟨z1, z2, z3, z4, z5, z6, z7, z8⟩ := (rightR_iff _).1 hz
        simp only at z1 z2 z3 z4 z5 z6 z7 z8
        omega
      clear hq
      subst hqq
      go_wp2_with fail
      go_ret
      exact ⟨by first | rfl | simp [*] | (simp; omega), HB.out⟩
    · skip
      by_cases h3 : y < 0
      · skip
        have hqq : q = false := by
          rw [← hq.out, Bool.eq_false_iff]
          intro hz
          obtain ⟨z1, z2, z3, z4, z5, z6, z7, z8⟩ := (rightR_iff _).1 hz
          simp only at z1 z2 z3 z4 z5 z6 z7 z8
          omega
        clear hq
        subst hqq
        go_wp2_with fail
        go_ret
        exact ⟨by first | rfl | simp [*] | (simp; omega), HB.out⟩
      · skip
        by_cases h4 : 255 < y
        · skip
          have hqq : q = false := by
            rw [← hq.out, Bool.eq_false_iff]
            intro hz
            obtain ⟨z1, z2, z3, z4, z5, z6, z7, z8⟩ := (rightR_iff _).1 hz
            simp only at z1 z2 z3 z4 z5 z6 z7 z8
            omega
          clear hq
          subst hqq
          go_wp2_with fail
          go_ret
          exact ⟨by first | rfl | simp [*] | (simp; omega), HB.out⟩
        · skip
          have u1 : IntKind.i64.wrap (256 - x) = 256 - x := by rw [IntKind.wrap_i64]; omega
          have u2 : IntKind.i64.wrap (256 - y) = 256 - y := by rw [IntKind.wrap_i64]; omega
          by_cases h5 : 1 ≤ a
          · skip
            by_cases h6 : a ≤ 256 - x
            · skip
              by_cases h7 : 1 ≤ b
              · skip
                by_cases h8 : b ≤ 256 - y
                · skip
                  have hqq : q = true := by rw [← hq.out, rightR_iff]; exact ⟨by show 0 ≤ x; omega, by show x < 256; omega, by show 1 ≤ a; omega, by show a ≤ 256 - x; omega, by show 0 ≤ y; omega, by show y < 256; omega, by show 1 ≤ b; omega, by show b ≤ 256 - y; omega⟩
                  clear hq
                  subst hqq
                  go_wp2_with fail
                  go_ret
                  exact ⟨by simp [*], HB.out⟩
                · skip
                  have hqq : q = false := by
                    rw [← hq.out, Bool.eq_false_iff]
                    intro hz
                    obtain ⟨z1, z2, z3, z4, z5, z6, z7, z8⟩ := (rightR_iff _).1 hz
                    simp only at z1 z2 z3 z4 z5 z6 z7 z8
                    omega
                  clear hq
                  subst hqq
                  go_wp2_with fail
                  go_ret
                  exact ⟨by first | rfl | simp [*] | (simp; omega), HB.out⟩
              · skip
                have hqq : q = false := by
                  rw [← hq.out, Bool.eq_false_iff]
                  intro hz
                  obtain ⟨z1, z2, z3, z4, z5, z6, z7, z8⟩ := (rightR_iff _).1 hz
                  simp only at z1 z2 z3 z4 z5 z6 z7 z8
                  omega
                clear hq
                subst hqq
                go_wp2_with fail
                go_ret
                exact ⟨by first | rfl | simp [*] | (simp; omega), HB.out⟩
            · skip
              have hqq : q = false := by
                rw [← hq.out, Bool.eq_false_iff]
                intro hz
                obtain ⟨z1, z2, z3, z4, z5, z6, z7, z8⟩ := (rightR_iff _).1 hz
                simp only at z1 z2 z3 z4 z5 z6 z7 z8
                omega
              clear hq
              subst hqq
              go_wp2_with fail
              go_ret
              exact ⟨by first | rfl | simp [*] | (simp; omega), HB.out⟩
          · skip
            have hqq : q = false := by
              rw [← hq.out, Bool.eq_false_iff]
              intro hz
              obtain ⟨z1, z2, z3, z4, z5, z6, z7, z8⟩ := (rightR_iff _).1 hz
              simp only at z1 z2 z3 z4 z5 z6 z7 z8
              omega
            clear hq
            subst hqq
            go_wp2_with fail
            go_ret
            exact ⟨by first | rfl | simp [*] | (simp; omega), HB.out⟩
set_option maxRecDepth 100000 in
set_option maxHeartbeats 4000000 in
theorem ref02_Holds4 (x y a b px py : Int) (hpx : px ≤ 9223372036854775807) (hpy : py ≤ 9223372036854775807) (w : World) : Calls Try.prog 40 #[.agg #[.int .i64 x, .int .i64 y, .int .i64 a, .int .i64 b], .int .i64 px, .int .i64 py] w fun e w' => e = .returned (.bool (tHolds px py (x, y, a, b))) ∧ Below w.heap.size w w' := by
  obtain ⟨q, hq⟩ : ∃ q, tHolds px py (x, y, a, b) = q := ⟨_, rfl⟩
  rw [hq]
  have HQ := hid hq
  obtain ⟨r, hr⟩ : ∃ r, rightR (x, y, a, b) = r := ⟨_, rfl⟩
  have HR := hid hr
  clear hq hr
  go_enter Try.func40, Try.ntmps40
  go_upto_region 1 with fail
  obtain ⟨w1, hw⟩ : ∃ w1, w1 = w.alloc (.cells #[.int .i64 x, .int .i64 y, .int .i64 a, .int .i64 b] 53) := ⟨_, rfl⟩
  rw [← hw]
  obtain ⟨g, hg⟩ : ∃ g, g = w.heap.size := ⟨_, rfl⟩
  rw [← hg]
  have hb : Below w.heap.size w w1 := by rw [hw]; exact Below.new _ _
  have HX : Hid (Blk w1 g #[.int .i64 x, .int .i64 y, .int .i64 a, .int .i64 b]) := hid (by rw [hw, hg]; exact Blk.new _ _ _)
  have HB := hid hb
  clear hw hg hb
  obtain ⟨c0, c1, c2, c3⟩ := HX.out.c4r
  go_wp2_with fail
  refine (ref02_Right4 x y a b r HR w1).mono ?_
  rintro e w2 ⟨rfl, hb⟩
  have HB2 := hid (Below.next HB.out hb)
  have HX2 := hid (HX.out.below hb)
  clear hb c0 c1 c2 c3
  obtain ⟨c0, c1, c2, c3⟩ := HX2.out.c4r
  cases r with
  | false =>
    have hqq : q = false := by
      rw [← HQ.out]; unfold tHolds
      rw [decide_eq_false_iff_not]
      intro hz
      have := (rightR_iff _).2 hz.1
      rw [HR.out] at this; cases this
    subst hqq
    go_wp2_with fail
    go_ret
    exact ⟨rfl, HB2.out⟩
  | true =>
    obtain ⟨z1, z2, z3, z4, z5, z6, z7, z8⟩ := (rightR_iff _).1 HR.out
    simp only at z1 z2 z3 z4 z5 z6 z7 z8
    by_cases h1 : x ≤ px
    · skip
      have u1 : IntKind.i64.wrap (px - x) = px - x := by rw [IntKind.wrap_i64]; omega
      by_cases h2 : px - x < a
      · skip
        by_cases h3 : px < 256
        · skip
          by_cases h4 : y ≤ py
          · skip
            have u2 : IntKind.i64.wrap (py - y) = py - y := by rw [IntKind.wrap_i64]; omega
            by_cases h5 : py - y < b
            · skip
              by_cases h6 : py < 256
              · skip
                have hqq : q = true := by
                  rw [← HQ.out]; unfold tHolds
                  rw [decide_eq_true_eq]
                  exact ⟨(rightR_iff _).1 HR.out, by show x ≤ px; omega, by show px < x + a; omega, by show y ≤ py; omega, by show py < y + b; omega⟩
                subst hqq
                go_wp2_with fail
                go_ret
                exact ⟨by simp [*], HB2.out⟩
              · skip
                exfalso
                omega
            · skip
              have hqq : q = false := by
                rw [← HQ.out]; unfold tHolds
                rw [decide_eq_false_iff_not]
                rintro ⟨-, y1, y2, y3, y4⟩
                simp only at y1 y2 y3 y4
                omega
              subst hqq
              go_wp2_with fail
              go_ret
              exact ⟨by first | rfl | simp [*] | (simp; omega), HB2.out⟩
          · skip
            have hqq : q = false := by
              rw [← HQ.out]; unfold tHolds
              rw [decide_eq_false_iff_not]
              rintro ⟨-, y1, y2, y3, y4⟩
              simp only at y1 y2 y3 y4
              omega
            subst hqq
            go_wp2_with fail
            go_ret
            exact ⟨by first | rfl | simp [*] | (simp; omega), HB2.out⟩
        · skip
          exfalso
          omega
      · skip
        have hqq : q = false := by
          rw [← HQ.out]; unfold tHolds
          rw [decide_eq_false_iff_not]
          rintro ⟨-, y1, y2, y3, y4⟩
          simp only at y1 y2 y3 y4
          omega
        subst hqq
        go_wp2_with fail
        go_ret
        exact ⟨by first | rfl | simp [*] | (simp; omega), HB2.out⟩
    · skip
      have hqq : q = false := by
        rw [← HQ.out]; unfold tHolds
        rw [decide_eq_false_iff_not]
        rintro ⟨-, y1, y2, y3, y4⟩
        simp only at y1 y2 y3 y4
        omega
      subst hqq
      go_wp2_with fail
      go_ret
      exact ⟨by first | rfl | simp [*] | (simp; omega), HB2.out⟩
end Go.Proofs.Ytjbnfppnmljbmaa
end
section
/- Contract of the document's Meets. -/
namespace Go.Proofs.Ytjbnfppnmljbmaa
open Go.RowKit
open Go.Lib (hid)
set_option linter.unusedVariables false
attribute [local go_sem] Oper.semAt_some

set_option maxRecDepth 100000 in
set_option maxHeartbeats 4000000 in
theorem ref02_Meets4 (x y a b ox oy oa ob : Int) (w : World) : Calls Try.prog 53 #[.agg #[.int .i64 x, .int .i64 y, .int .i64 a, .int .i64 b], .agg #[.int .i64 ox, .int .i64 oy, .int .i64 oa, .int .i64 ob]] w fun e w' => e = .returned (.bool (tMeets (ox, oy, oa, ob) (x, y, a, b))) ∧ Below w.heap.size w w' := by
  obtain ⟨q, hq⟩ : ∃ q, tMeets (ox, oy, oa, ob) (x, y, a, b) = q := ⟨_, rfl⟩
  rw [hq]
  have HQ := hid hq
  obtain ⟨r, hr⟩ : ∃ r, rightR (x, y, a, b) = r := ⟨_, rfl⟩
  obtain ⟨r2, hr2⟩ : ∃ r, rightR (ox, oy, oa, ob) = r := ⟨_, rfl⟩
  have HR := hid hr
  have HR2 := hid hr2
  clear hq hr hr2
  go_enter Try.func53, Try.ntmps53
  go_upto_region 1 with fail
  obtain ⟨w2, hw2⟩ : ∃ w2, w2 = (w.alloc (.cells #[.int .i64 x, .int .i64 y, .int .i64 a, .int .i64 b] 53)).alloc (.cells #[.int .i64 ox, .int .i64 oy, .int .i64 oa, .int .i64 ob] 53) := ⟨_, rfl⟩
  obtain ⟨g, hg⟩ : ∃ g, g = w.heap.size := ⟨_, rfl⟩
  obtain ⟨g2, hg2⟩ : ∃ g, g = w.heap.size + 1 := ⟨_, rfl⟩
  have hz1 : (World.alloc w (.cells #[.int .i64 x, .int .i64 y, .int .i64 a, .int .i64 b] 53)).heap.size = w.heap.size + 1 := by simp
  try rw [hz1]
  try rw [← hg2]
  try rw [← hg]
  rw [← hw2]
  have hb : Below w.heap.size w w2 := by rw [hw2]; exact Below.next (Below.new _ _) (Below.new _ _)
  have HX : Hid (Blk w2 g #[.int .i64 x, .int .i64 y, .int .i64 a, .int .i64 b]) := hid (by rw [hw2, hg]; exact (Blk.new w _ _).below (Below.new _ _))
  have HO : Hid (Blk w2 g2 #[.int .i64 ox, .int .i64 oy, .int .i64 oa, .int .i64 ob]) := hid (by rw [hw2, hg2, ← hz1]; exact Blk.new _ _ _)
  have HB := hid hb
  clear hw2 hg hg2 hz1 hb
  obtain ⟨c0, c1, c2, c3⟩ := HX.out.c4r
  go_wp2_with fail
  refine (ref02_Right4 x y a b r HR w2).mono ?_
  rintro e w3 ⟨rfl, hb⟩
  have HB3 := hid (Below.next HB.out hb)
  have HX3 := hid (HX.out.below hb)
  have HO3 := hid (HO.out.below hb)
  clear hb c0 c1 c2 c3
  cases r with
  | false =>
    have hqq : q = false := by
      rw [← HQ.out]; unfold tMeets
      rw [decide_eq_false_iff_not]
      intro hz
      have := (rightR_iff _).2 hz.2.1
      rw [HR.out] at this; cases this
    subst hqq
    go_wp2_with fail
    go_ret
    exact ⟨rfl, HB3.out⟩
  | true =>
    obtain ⟨c0, c1, c2, c3⟩ := HO3.out.c4r
    go_wp2_with fail
    refine (ref02_Right4 ox oy oa ob r2 HR2 w3).mono ?_
    rintro e w4 ⟨rfl, hb⟩
    have HB4 := hid (Below.next HB3.out hb)
    have HX4 := hid (HX3.out.below hb)
    have HO4 := hid (HO3.out.below hb)
    clear hb c0 c1 c2 c3
    cases r2 with
    | false =>
      have hqq : q = false := by
        rw [← HQ.out]; unfold tMeets
        rw [decide_eq_false_iff_not]
        intro hz
        have := (rightR_iff _).2 hz.1
        rw [HR2.out] at this; cases this
      subst hqq
      go_wp2_with fail
      go_ret
      exact ⟨rfl, HB4.out⟩
    | true =>
      obtain ⟨c0, c1, c2, c3⟩ := HX4.out.c4r
      obtain ⟨o0, o1, o2, o3⟩ := HO4.out.c4r
      obtain ⟨z1, z2, z3, z4, z5, z6, z7, z8⟩ := (rightR_iff _).1 HR.out
      obtain ⟨y1, y2, y3, y4, y5, y6, y7, y8⟩ := (rightR_iff _).1 HR2.out
      simp only at z1 z2 z3 z4 z5 z6 z7 z8 y1 y2 y3 y4 y5 y6 y7 y8
      have v2 : IntKind.i64.wrap (x + a) = x + a := by rw [IntKind.wrap_i64]; omega
      have v3 : IntKind.i64.wrap (ox + oa) = ox + oa := by rw [IntKind.wrap_i64]; omega
      have v4 : IntKind.i64.wrap (y + b) = y + b := by rw [IntKind.wrap_i64]; omega
      have v5 : IntKind.i64.wrap (oy + ob) = oy + ob := by rw [IntKind.wrap_i64]; omega
      go_wp2_with fail
      go_loopw [5, 6] (fun vs vi wr => ∃ (i : Int) (q6 : Bool), vs = .bool q6 ∧ vi = .int .i64 i ∧ x ≤ i ∧ i ≤ x + a ∧ (q6 = true ↔ (x < i ∧ x < ox + oa ∧ ox < i)) ∧ wr = w4) (fun _ vi _ => (x + a - intOf vi).toNat)
      case atStart => exact ⟨x, false, rfl, rfl, by omega, by omega, by simp, rfl⟩
      case round =>
        obtain ⟨i, q6, rfl, rfl, hi1, hi2, hq, rfl⟩ := hrel
        by_cases hlt : i < x + a
        · have v1 : IntKind.i64.wrap (i + 1) = i + 1 := by rw [IntKind.wrap_i64]; omega
          by_cases t1 : ox ≤ i
          · by_cases t2 : i < ox + oa
            · go_wp2_with fail
              go_roundw
              case rel => exact ⟨i + 1, true, rfl, by simp [v1], by omega, by omega, by simp; omega, by trivial⟩
              case measure => simp [intOf, v1]; omega
            · go_wp2_with fail
              go_roundw
              case rel => exact ⟨i + 1, q6, rfl, by simp [v1], by omega, by omega, by rw [hq]; omega, by trivial⟩
              case measure => simp [intOf, v1]; omega
          · go_wp2_with fail
            go_roundw
            case rel => exact ⟨i + 1, q6, rfl, by simp [v1], by omega, by omega, by rw [hq]; omega, by trivial⟩
            case measure => simp [intOf, v1]; omega
        · obtain rfl : i = x + a := by omega
          have hx : q6 = decide (x < ox + oa ∧ ox < x + a) := by rw [Bool.eq_iff_iff, hq, decide_eq_true_eq]; omega
          clear hq
          obtain ⟨qx, hqx⟩ : ∃ z, z = q6 := ⟨_, rfl⟩
          subst hqx
          have HXX := hid hx
          clear hx
          obtain ⟨w5, hw5⟩ : ∃ z, z = wr := ⟨_, rfl⟩
          subst hw5
          go_wp2_with fail
          go_loopw [7, 8] (fun vs vi wr => ∃ (i : Int) (q7 : Bool), vs = .bool q7 ∧ vi = .int .i64 i ∧ y ≤ i ∧ i ≤ y + b ∧ (q7 = true ↔ (y < i ∧ y < oy + ob ∧ oy < i)) ∧ wr = w5) (fun _ vi _ => (y + b - intOf vi).toNat)
          case atStart => exact ⟨y, false, rfl, rfl, by omega, by omega, by simp, rfl⟩
          case round =>
            obtain ⟨i, q7, rfl, rfl, hi1, hi2, hq, rfl⟩ := hrel
            by_cases hlt : i < y + b
            · have v1 : IntKind.i64.wrap (i + 1) = i + 1 := by rw [IntKind.wrap_i64]; omega
              by_cases t1 : oy ≤ i
              · by_cases t2 : i < oy + ob
                · go_wp2_with fail
                  go_roundw
                  case rel => exact ⟨i + 1, true, rfl, by simp [v1], by omega, by omega, by simp; omega, by trivial⟩
                  case measure => simp [intOf, v1]; omega
                · go_wp2_with fail
                  go_roundw
                  case rel => exact ⟨i + 1, q7, rfl, by simp [v1], by omega, by omega, by rw [hq]; omega, by trivial⟩
                  case measure => simp [intOf, v1]; omega
              · go_wp2_with fail
                go_roundw
                case rel => exact ⟨i + 1, q7, rfl, by simp [v1], by omega, by omega, by rw [hq]; omega, by trivial⟩
                case measure => simp [intOf, v1]; omega
            · obtain rfl : i = y + b := by omega
              have hy : q7 = decide (y < oy + ob ∧ oy < y + b) := by rw [Bool.eq_iff_iff, hq, decide_eq_true_eq]; omega
              clear hq
              have hqq : q = (qx && q7) := by
                rw [← HQ.out, HXX.out, hy]; unfold tMeets
                rw [Bool.eq_iff_iff, Bool.and_eq_true, decide_eq_true_eq, decide_eq_true_eq, decide_eq_true_eq]
                constructor
                · rintro ⟨-, -, k1, k2, k3, k4⟩
                  exact ⟨⟨k2, k1⟩, ⟨k4, k3⟩⟩
                · rintro ⟨⟨k1, k2⟩, ⟨k3, k4⟩⟩
                  exact ⟨(rightR_iff _).1 HR2.out, (rightR_iff _).1 HR.out, k2, k1, k4, k3⟩
              subst hqq
              clear HXX hy
              cases qx
              · go_wp2_with fail
                go_ret
                exact ⟨rfl, HB4.out⟩
              · cases q7
                · go_wp2_with fail
                  go_ret
                  exact ⟨rfl, HB4.out⟩
                · go_wp2_with fail
                  go_ret
                  exact ⟨rfl, HB4.out⟩
end Go.Proofs.Ytjbnfppnmljbmaa
end
