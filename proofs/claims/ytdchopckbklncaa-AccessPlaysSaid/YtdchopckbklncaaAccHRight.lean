/- Contract: access.House.Right. -/
import Derived.Test.YtdchopckbklncaaAccLawRight
import Derived.Test.YtdchopckbklncaaAccRight
namespace Go.Proofs.Ytdchopckbklncaa
open Go.RowKit
open Go.Lib (hid)
set_option linter.unusedVariables false

theorem acc_personB (n : Int) (w : World) (b : Bool) (hb : Hid ((decide (1 ≤ n) && decide (n ≤ 256)) = b)) : Calls Try.prog 93 #[.int .i64 n] w fun e w' => e = .returned (.bool b) ∧ w = w' := by
  have h := hb.out
  by_cases h1 : 1 ≤ n
  · by_cases h2 : n ≤ 256
    · simp only [h1, h2, decide_true, Bool.and_self] at h
      subst h
      exact acc_person n w h1 h2
    · simp only [h1, h2, decide_true, decide_false, Bool.and_false] at h
      subst h
      go_enter Try.func93, Try.ntmps93
      go_wp2
      go_ret
      exact ⟨rfl, rfl⟩
  · simp only [h1, decide_false, Bool.false_and] at h
    subst h
    go_enter Try.func93, Try.ntmps93
    go_wp2
    go_ret
    exact ⟨rfl, rfl⟩
set_option maxRecDepth 100000 in
set_option maxHeartbeats 4000000 in
theorem acc_Right (o : Int) (lc lf lb : List Int) (vc vf vb : Value) (w : World) (h1 : SlI w vc lc) (h2 : SlI w vf lf) (h3 : SlI w vb lb) (b : Bool) (hb : Hid ((rightL lc o && (rightL lf o && (rightL lb o && (decide (1 ≤ o) && decide (o ≤ 256))))) = b)) :
    Calls Try.prog 62 #[.agg #[.int .i64 o, vc, vf, vb]] w fun e w' => e = .returned (.bool b) ∧ Below w.heap.size w w' := by
  have H1 := hid h1
  have H2 := hid h2
  have H3 := hid h3
  obtain ⟨p1, q1, rfl, -, z1, z2, -⟩ := h1
  obtain ⟨p2, q2, rfl, -, z3, z4, -⟩ := h2
  obtain ⟨p3, q3, rfl, -, z5, z6, -⟩ := h3
  have n1 : lc.length ≤ 9223372036854775807 := by omega
  have n2 : lf.length ≤ 9223372036854775807 := by omega
  have n3 : lb.length ≤ 9223372036854775807 := by omega
  obtain ⟨w0, hw0⟩ : ∃ w0, w0 = w.alloc (.cells #[.int .i64 o, .slice p1 lc.length q1, .slice p2 lf.length q2, .slice p3 lb.length q3] 69) := ⟨_, rfl⟩
  have hb0 : Below w.heap.size w w0 := by rw [hw0]; exact Below.new _ _
  have K1 : Hid (Blk w0 w.heap.size #[.int .i64 o, .slice p1 lc.length q1, .slice p2 lf.length q2, .slice p3 lb.length q3]) := hid (by rw [hw0]; exact Blk.new _ _ _)
  have HB0 := hid hb0
  have HW0 := hid hw0
  clear hw0 hb0 z1 z2 z3 z4 z5 z6
  go_enter Try.func62, Try.ntmps62
  go_wp2_with fail
  rw [← HW0.out]
  go_loopw [3, 4, 5, 6, 7] (fun v3 v4 v5 v6 v7 wr => Hid (Below w.heap.size w wr) ∧ Hid (Blk wr w.heap.size #[.int .i64 o, .slice p1 lc.length q1, .slice p2 lf.length q2, .slice p3 lb.length q3]) ∧ ((v7 = .int .i64 0 ∧ Hid ((rightL lc o && (rightL lf o && (rightL lb o && (decide (1 ≤ o) && decide (o ≤ 256))))) = b)) ∨ (v7 = .int .i64 1 ∧ Hid ((rightL lf o && (rightL lb o && (decide (1 ≤ o) && decide (o ≤ 256)))) = b)) ∨ (v7 = .int .i64 2 ∧ Hid ((rightL lb o && (decide (1 ≤ o) && decide (o ≤ 256))) = b)) ∨ (v7 = .int .i64 3 ∧ Hid ((decide (1 ≤ o) && decide (o ≤ 256)) = b)))) (fun _ _ _ _ v7 _ => 3 - (intOf v7).toNat)
  case atStart => exact ⟨HB0, K1, .inl ⟨rfl, hb⟩⟩
  case round =>
    clear HB0 K1 hb
    obtain ⟨HB, K, hr⟩ := hrel
    obtain ⟨hy0, hy1, hy2, hy3, -⟩ := K.out.c4
    rcases hr with ⟨rfl, hs⟩ | ⟨rfl, hs⟩ | ⟨rfl, hs⟩ | ⟨rfl, hs⟩
    · go_wp2_with fail
      refine (acc_list1 _ _).mono ?_
      rintro e w1 ⟨rfl, hb1⟩
      have HB1 := hid (Below.next HB.out hb1)
      have K1 := hid (K.out.below hb1)
      clear hb1 hy0 hy1 hy2 hy3
      obtain ⟨hy0, hy1, hy2, hy3, -⟩ := K1.out.c4
      go_wp2_with fail
      go_loopw [5, 6, 17] (fun v5 v6 v17 wi => ∃ (j : Nat), v17 = .int .i64 j ∧ j ≤ lc.length ∧ w1 = wi ∧ Hid ((rgtF (prevOf lc j) (lc.drop j) o && (decide (lc.length ≤ 16) && (rightL lf o && (rightL lb o && (decide (1 ≤ o) && decide (o ≤ 256)))))) = b)) (fun _ _ v17 _ => lc.length - (intOf v17).toNat)
      case atStart => exact ⟨0, rfl, by omega, rfl, hid (by have := hs.out; simpa [rightL, prevOf, Bool.and_assoc] using this)⟩
      case round =>
        obtain ⟨j, rfl, hj, rfl, hsum⟩ := hrel
        by_cases hlt : j < lc.length
        · obtain ⟨a', c', e1, hr1, -⟩ := H1.out.below HB1.out
          simp only [Value.slice.injEq] at e1
          obtain ⟨rfl, -, rfl⟩ := e1
          obtain ⟨b1, o1, x, rfl, hc1, hx1, hd1, -, -⟩ := hr1.int j hlt
          have h3 := hsum.out
          rw [hd1, rgtF_cons] at h3
          obtain ⟨pb, hpb⟩ : ∃ pb, (decide (1 ≤ x) && decide (x ≤ 256)) = pb := ⟨_, rfl⟩
          have HPB := hid hpb
          rw [hpb] at h3
          clear hpb
          go_wp2_with fail
          refine (acc_personB x _ pb HPB).mono ?_
          rintro e w' ⟨rfl, rfl⟩
          cases pb
          · simp only [Bool.false_and] at h3
            subst h3
            clear hd1 hr1 hx1
            go_wp2_with fail
            go_ret
            exact ⟨rfl, HB1.out⟩
          by_cases x3 : x = o
          · have h4 : false = b := by rw [← h3]; simp [x3]
            subst h4 x3
            clear h3 hd1 hr1 hx1
            go_wp2_with fail
            go_ret
            exact ⟨rfl, HB1.out⟩
          have x3' : (x == o) = false := by simpa using x3
          rcases j with _ | m
          · have h4 : (rgtF (prevOf lc (0 + 1)) (lc.drop (0 + 1)) o && (decide (lc.length ≤ 16) && (rightL lf o && (rightL lb o && (decide (1 ≤ o) && decide (o ≤ 256)))))) = b := by
              rw [← h3, show prevOf lc (0 + 1) = some x from hx1]; simp [x3, prevOf]
            have H4 := hid h4
            clear h3 h4 hd1 hr1 hx1 x3
            go_wp2_with fail
            go_roundw
            case rel => exact ⟨_, by go_num, by omega, trivial, H4⟩
            case measure => simp [intOf]; omega
          · obtain ⟨b1', o1', y, e2, hc2, hx2, -, -, -⟩ := hr1.int m (by omega)
            simp only [Option.some.injEq, Addr.mk.injEq] at e2
            obtain ⟨rfl, rfl, -⟩ := e2
            have hsub : IntKind.i64.wrap (m : Int) = (m : Int) := by rw [IntKind.wrap_i64]; omega
            have hpos : (0 : Int) < (m : Int) + 1 := by omega
            have d3 : decide ((0 : Int) < (m : Int) + 1) = true := decide_eq_true hpos
            have j1 : (m : Int) + 1 < (lc.length : Int) := by omega
            have j2 : (m : Int) < (lc.length : Int) := by omega
            have j3 : (0 : Int) ≤ (m : Int) + 1 := by omega
            have hp : prevOf lc (m + 1) = some y := hx2
            rw [hp] at h3
            by_cases x4 : x ≤ y
            · have d4 : decide (x ≤ y) = true := decide_eq_true x4
              have h4 : false = b := by rw [← h3]; simp [show ¬ y < x by omega]
              subst h4
              clear h3 hd1 hr1 hx1 hx2 hp x3
              go_wp2_with fail
              go_ret
              exact ⟨rfl, HB1.out⟩
            · have d4 : decide (x ≤ y) = false := decide_eq_false x4
              have h4 : (rgtF (prevOf lc (m + 1 + 1)) (lc.drop (m + 1 + 1)) o && (decide (lc.length ≤ 16) && (rightL lf o && (rightL lb o && (decide (1 ≤ o) && decide (o ≤ 256)))))) = b := by
                rw [← h3, show prevOf lc (m + 1 + 1) = some x from hx1]; simp [x3, show y < x by omega]
              have H4 := hid h4
              clear h3 h4 hd1 hr1 hx1 hx2 hp x3
              go_wp2_with fail
              go_roundw
              case rel => exact ⟨_, by go_num, by omega, trivial, H4⟩
              case measure => simp [intOf]; omega
        · have h5 := hsum.out
          rw [List.drop_of_length_le (by omega)] at h5
          by_cases hm : lc.length ≤ 16
          · have hm' : ¬ (16 : Int) < (lc.length : Int) := by omega
            have h6 : (rightL lf o && (rightL lb o && (decide (1 ≤ o) && decide (o ≤ 256)))) = b := by rw [← h5]; simp [rgtF, hm]
            have H6 := hid h6
            clear h5 h6 hm
            go_wp2_with fail
            go_roundw
            case rel => exact ⟨HB1, K1, .inr (.inl ⟨by go_num, H6⟩)⟩
            case measure => simp [intOf]
          · have hm' : (16 : Int) < (lc.length : Int) := by omega
            have h6 : false = b := by rw [← h5]; simp [hm]
            subst h6
            clear h5 hm
            go_wp2_with fail
            go_ret
            exact ⟨rfl, HB1.out⟩
    · go_wp2_with fail
      refine (acc_list2 _ _).mono ?_
      rintro e w1 ⟨rfl, hb1⟩
      have HB1 := hid (Below.next HB.out hb1)
      have K1 := hid (K.out.below hb1)
      clear hb1 hy0 hy1 hy2 hy3
      obtain ⟨hy0, hy1, hy2, hy3, -⟩ := K1.out.c4
      go_wp2_with fail
      go_loopw [5, 6, 17] (fun v5 v6 v17 wi => ∃ (j : Nat), v17 = .int .i64 j ∧ j ≤ lf.length ∧ w1 = wi ∧ Hid ((rgtF (prevOf lf j) (lf.drop j) o && (decide (lf.length ≤ 16) && (rightL lb o && (decide (1 ≤ o) && decide (o ≤ 256))))) = b)) (fun _ _ v17 _ => lf.length - (intOf v17).toNat)
      case atStart => exact ⟨0, rfl, by omega, rfl, hid (by have := hs.out; simpa [rightL, prevOf, Bool.and_assoc] using this)⟩
      case round =>
        obtain ⟨j, rfl, hj, rfl, hsum⟩ := hrel
        by_cases hlt : j < lf.length
        · obtain ⟨a', c', e1, hr1, -⟩ := H2.out.below HB1.out
          simp only [Value.slice.injEq] at e1
          obtain ⟨rfl, -, rfl⟩ := e1
          obtain ⟨b1, o1, x, rfl, hc1, hx1, hd1, -, -⟩ := hr1.int j hlt
          have h3 := hsum.out
          rw [hd1, rgtF_cons] at h3
          obtain ⟨pb, hpb⟩ : ∃ pb, (decide (1 ≤ x) && decide (x ≤ 256)) = pb := ⟨_, rfl⟩
          have HPB := hid hpb
          rw [hpb] at h3
          clear hpb
          go_wp2_with fail
          refine (acc_personB x _ pb HPB).mono ?_
          rintro e w' ⟨rfl, rfl⟩
          cases pb
          · simp only [Bool.false_and] at h3
            subst h3
            clear hd1 hr1 hx1
            go_wp2_with fail
            go_ret
            exact ⟨rfl, HB1.out⟩
          by_cases x3 : x = o
          · have h4 : false = b := by rw [← h3]; simp [x3]
            subst h4 x3
            clear h3 hd1 hr1 hx1
            go_wp2_with fail
            go_ret
            exact ⟨rfl, HB1.out⟩
          have x3' : (x == o) = false := by simpa using x3
          rcases j with _ | m
          · have h4 : (rgtF (prevOf lf (0 + 1)) (lf.drop (0 + 1)) o && (decide (lf.length ≤ 16) && (rightL lb o && (decide (1 ≤ o) && decide (o ≤ 256))))) = b := by
              rw [← h3, show prevOf lf (0 + 1) = some x from hx1]; simp [x3, prevOf]
            have H4 := hid h4
            clear h3 h4 hd1 hr1 hx1 x3
            go_wp2_with fail
            go_roundw
            case rel => exact ⟨_, by go_num, by omega, trivial, H4⟩
            case measure => simp [intOf]; omega
          · obtain ⟨b1', o1', y, e2, hc2, hx2, -, -, -⟩ := hr1.int m (by omega)
            simp only [Option.some.injEq, Addr.mk.injEq] at e2
            obtain ⟨rfl, rfl, -⟩ := e2
            have hsub : IntKind.i64.wrap (m : Int) = (m : Int) := by rw [IntKind.wrap_i64]; omega
            have hpos : (0 : Int) < (m : Int) + 1 := by omega
            have d3 : decide ((0 : Int) < (m : Int) + 1) = true := decide_eq_true hpos
            have j1 : (m : Int) + 1 < (lf.length : Int) := by omega
            have j2 : (m : Int) < (lf.length : Int) := by omega
            have j3 : (0 : Int) ≤ (m : Int) + 1 := by omega
            have hp : prevOf lf (m + 1) = some y := hx2
            rw [hp] at h3
            by_cases x4 : x ≤ y
            · have d4 : decide (x ≤ y) = true := decide_eq_true x4
              have h4 : false = b := by rw [← h3]; simp [show ¬ y < x by omega]
              subst h4
              clear h3 hd1 hr1 hx1 hx2 hp x3
              go_wp2_with fail
              go_ret
              exact ⟨rfl, HB1.out⟩
            · have d4 : decide (x ≤ y) = false := decide_eq_false x4
              have h4 : (rgtF (prevOf lf (m + 1 + 1)) (lf.drop (m + 1 + 1)) o && (decide (lf.length ≤ 16) && (rightL lb o && (decide (1 ≤ o) && decide (o ≤ 256))))) = b := by
                rw [← h3, show prevOf lf (m + 1 + 1) = some x from hx1]; simp [x3, show y < x by omega]
              have H4 := hid h4
              clear h3 h4 hd1 hr1 hx1 hx2 hp x3
              go_wp2_with fail
              go_roundw
              case rel => exact ⟨_, by go_num, by omega, trivial, H4⟩
              case measure => simp [intOf]; omega
        · have h5 := hsum.out
          rw [List.drop_of_length_le (by omega)] at h5
          by_cases hm : lf.length ≤ 16
          · have hm' : ¬ (16 : Int) < (lf.length : Int) := by omega
            have h6 : (rightL lb o && (decide (1 ≤ o) && decide (o ≤ 256))) = b := by rw [← h5]; simp [rgtF, hm]
            have H6 := hid h6
            clear h5 h6 hm
            go_wp2_with fail
            go_roundw
            case rel => exact ⟨HB1, K1, .inr (.inr (.inl ⟨by go_num, H6⟩))⟩
            case measure => simp [intOf]
          · have hm' : (16 : Int) < (lf.length : Int) := by omega
            have h6 : false = b := by rw [← h5]; simp [hm]
            subst h6
            clear h5 hm
            go_wp2_with fail
            go_ret
            exact ⟨rfl, HB1.out⟩
    · go_wp2_with fail
      refine (acc_list3 _ _).mono ?_
      rintro e w1 ⟨rfl, hb1⟩
      have HB1 := hid (Below.next HB.out hb1)
      have K1 := hid (K.out.below hb1)
      clear hb1 hy0 hy1 hy2 hy3
      obtain ⟨hy0, hy1, hy2, hy3, -⟩ := K1.out.c4
      go_wp2_with fail
      go_loopw [5, 6, 17] (fun v5 v6 v17 wi => ∃ (j : Nat), v17 = .int .i64 j ∧ j ≤ lb.length ∧ w1 = wi ∧ Hid ((rgtF (prevOf lb j) (lb.drop j) o && (decide (lb.length ≤ 16) && (decide (1 ≤ o) && decide (o ≤ 256)))) = b)) (fun _ _ v17 _ => lb.length - (intOf v17).toNat)
      case atStart => exact ⟨0, rfl, by omega, rfl, hid (by have := hs.out; simpa [rightL, prevOf, Bool.and_assoc] using this)⟩
      case round =>
        obtain ⟨j, rfl, hj, rfl, hsum⟩ := hrel
        by_cases hlt : j < lb.length
        · obtain ⟨a', c', e1, hr1, -⟩ := H3.out.below HB1.out
          simp only [Value.slice.injEq] at e1
          obtain ⟨rfl, -, rfl⟩ := e1
          obtain ⟨b1, o1, x, rfl, hc1, hx1, hd1, -, -⟩ := hr1.int j hlt
          have h3 := hsum.out
          rw [hd1, rgtF_cons] at h3
          obtain ⟨pb, hpb⟩ : ∃ pb, (decide (1 ≤ x) && decide (x ≤ 256)) = pb := ⟨_, rfl⟩
          have HPB := hid hpb
          rw [hpb] at h3
          clear hpb
          go_wp2_with fail
          refine (acc_personB x _ pb HPB).mono ?_
          rintro e w' ⟨rfl, rfl⟩
          cases pb
          · simp only [Bool.false_and] at h3
            subst h3
            clear hd1 hr1 hx1
            go_wp2_with fail
            go_ret
            exact ⟨rfl, HB1.out⟩
          by_cases x3 : x = o
          · have h4 : false = b := by rw [← h3]; simp [x3]
            subst h4 x3
            clear h3 hd1 hr1 hx1
            go_wp2_with fail
            go_ret
            exact ⟨rfl, HB1.out⟩
          have x3' : (x == o) = false := by simpa using x3
          rcases j with _ | m
          · have h4 : (rgtF (prevOf lb (0 + 1)) (lb.drop (0 + 1)) o && (decide (lb.length ≤ 16) && (decide (1 ≤ o) && decide (o ≤ 256)))) = b := by
              rw [← h3, show prevOf lb (0 + 1) = some x from hx1]; simp [x3, prevOf]
            have H4 := hid h4
            clear h3 h4 hd1 hr1 hx1 x3
            go_wp2_with fail
            go_roundw
            case rel => exact ⟨_, by go_num, by omega, trivial, H4⟩
            case measure => simp [intOf]; omega
          · obtain ⟨b1', o1', y, e2, hc2, hx2, -, -, -⟩ := hr1.int m (by omega)
            simp only [Option.some.injEq, Addr.mk.injEq] at e2
            obtain ⟨rfl, rfl, -⟩ := e2
            have hsub : IntKind.i64.wrap (m : Int) = (m : Int) := by rw [IntKind.wrap_i64]; omega
            have hpos : (0 : Int) < (m : Int) + 1 := by omega
            have d3 : decide ((0 : Int) < (m : Int) + 1) = true := decide_eq_true hpos
            have j1 : (m : Int) + 1 < (lb.length : Int) := by omega
            have j2 : (m : Int) < (lb.length : Int) := by omega
            have j3 : (0 : Int) ≤ (m : Int) + 1 := by omega
            have hp : prevOf lb (m + 1) = some y := hx2
            rw [hp] at h3
            by_cases x4 : x ≤ y
            · have d4 : decide (x ≤ y) = true := decide_eq_true x4
              have h4 : false = b := by rw [← h3]; simp [show ¬ y < x by omega]
              subst h4
              clear h3 hd1 hr1 hx1 hx2 hp x3
              go_wp2_with fail
              go_ret
              exact ⟨rfl, HB1.out⟩
            · have d4 : decide (x ≤ y) = false := decide_eq_false x4
              have h4 : (rgtF (prevOf lb (m + 1 + 1)) (lb.drop (m + 1 + 1)) o && (decide (lb.length ≤ 16) && (decide (1 ≤ o) && decide (o ≤ 256)))) = b := by
                rw [← h3, show prevOf lb (m + 1 + 1) = some x from hx1]; simp [x3, show y < x by omega]
              have H4 := hid h4
              clear h3 h4 hd1 hr1 hx1 hx2 hp x3
              go_wp2_with fail
              go_roundw
              case rel => exact ⟨_, by go_num, by omega, trivial, H4⟩
              case measure => simp [intOf]; omega
        · have h5 := hsum.out
          rw [List.drop_of_length_le (by omega)] at h5
          by_cases hm : lb.length ≤ 16
          · have hm' : ¬ (16 : Int) < (lb.length : Int) := by omega
            have h6 : (decide (1 ≤ o) && decide (o ≤ 256)) = b := by rw [← h5]; simp [rgtF, hm]
            have H6 := hid h6
            clear h5 h6 hm
            go_wp2_with fail
            go_roundw
            case rel => exact ⟨HB1, K1, .inr (.inr (.inr ⟨by go_num, H6⟩))⟩
            case measure => simp [intOf]
          · have hm' : (16 : Int) < (lb.length : Int) := by omega
            have h6 : false = b := by rw [← h5]; simp [hm]
            subst h6
            clear h5 hm
            go_wp2_with fail
            go_ret
            exact ⟨rfl, HB1.out⟩
    · go_wp2_with fail
      refine (acc_personB o _ b hs).mono ?_
      rintro e w' ⟨rfl, rfl⟩
      go_wp2_with fail
      go_ret
      exact ⟨rfl, HB.out⟩
end Go.Proofs.Ytdchopckbklncaa
