/- Joined texts, in this order: Rect. Each one's first remark says what it proves; no condition beyond those that its theorems name. -/
import Derived.Test.YtjbnfppnmljbmaaGreatJLawLandFinds01
import Derived.Test.YtjbnfppnmljbmaaGreatJLawLandFinds02
import Derived.Laws.StructEq
import Derived.Deep.DeepCutAuto
section
/- Contracts of the package rect. -/
namespace Go.Proofs.YtjbnfppnmljbmaaGreat
open Go.RowKit
open Go.Lib (hid)
set_option linter.unusedVariables false

def rV (r : R4) : Value := .agg #[.int .i64 r.1, .int .i64 r.2.1, .int .i64 r.2.2.1, .int .i64 r.2.2.2]
theorem Blk.c4r {w : World} {g : Nat} {c0 c1 c2 c3 : Value} (h : Blk w g #[c0, c1, c2, c3]) : w.cell? ⟨g, 0, none⟩ = some c0 ∧ w.cell? ⟨g, 1, none⟩ = some c1 ∧ w.cell? ⟨g, 2, none⟩ = some c2 ∧ w.cell? ⟨g, 3, none⟩ = some c3 :=
  ⟨by rw [h.cell]; rfl, by rw [h.cell]; rfl, by rw [h.cell]; rfl, by rw [h.cell]; rfl⟩
theorem Blk.f4r {w : World} {g : Nat} {cs : Array Value} (h : Blk w g cs) : w.frozen? ⟨g, 0, none⟩ = false ∧ w.frozen? ⟨g, 1, none⟩ = false ∧ w.frozen? ⟨g, 2, none⟩ = false ∧ w.frozen? ⟨g, 3, none⟩ = false := ⟨h.unfrozen _, h.unfrozen _, h.unfrozen _, h.unfrozen _⟩
theorem set4r {x : World} {g : Nat} {c0 c1 c2 c3 : Value} (h : Blk x g #[c0, c1, c2, c3]) (u0 u1 u2 u3 : Value) : ∃ wz, wz = (((x.setCell ⟨g, 0, none⟩ u0).setCell ⟨g, 1, none⟩ u1).setCell ⟨g, 2, none⟩ u2).setCell ⟨g, 3, none⟩ u3 ∧ Blk wz g #[u0, u1, u2, u3] ∧ Upd (fun k => k = g) x wz :=
  ⟨_, rfl, by simpa using (((h.set 0 u0).set 1 u1).set 2 u2).set 3 u3, (((Upd.setCell x g 0 u0).trans (Upd.setCell _ g 1 u1) (fun _ _ q => q)).trans (Upd.setCell _ g 2 u2) (fun _ _ q => q)).trans (Upd.setCell _ g 3 u3) (fun _ _ q => q)⟩
theorem rect_side (a n : Int) (b : Bool) (hb : Hid (sideR a n = b)) (w : World) : Calls Tryz.prog 98 #[.int .i64 a, .int .i64 n] w fun e w' => e = .returned (.bool b) ∧ Below w.heap.size w w' := by
  have hb := hb.out
  unfold sideR at hb
  by_cases h1 : 0 ≤ a
  · by_cases h2 : a < 256
    · have hw : IntKind.i64.wrap (256 - a) = 256 - a := by rw [IntKind.wrap_i64]; omega
      by_cases h3 : 1 ≤ n
      · by_cases h4 : n ≤ 256 - a
        · simp [h1, h2, h3, h4] at hb; subst hb
          go_enter Tryz.func98, Tryz.ntmps98
          go_wp2
          go_ret
          exact ⟨rfl, Below.refl _ _⟩
        · simp [h1, h2, h3, h4] at hb; subst hb
          go_enter Tryz.func98, Tryz.ntmps98
          go_wp2
          go_ret
          exact ⟨rfl, Below.refl _ _⟩
      · simp [h1, h2, h3] at hb; subst hb
        go_enter Tryz.func98, Tryz.ntmps98
        go_wp2
        go_ret
        exact ⟨rfl, Below.refl _ _⟩
    · simp [h1, h2] at hb; subst hb
      go_enter Tryz.func98, Tryz.ntmps98
      go_wp2
      go_ret
      exact ⟨rfl, Below.refl _ _⟩
  · simp [h1] at hb; subst hb
    go_enter Tryz.func98, Tryz.ntmps98
    go_wp2
    go_ret
    exact ⟨rfl, Below.refl _ _⟩
set_option maxRecDepth 100000 in
theorem rect_Right4 (x y a b : Int) (q : Bool) (hq : Hid (rightR (x, y, a, b) = q)) (w : World) : Calls Tryz.prog 71 #[.agg #[.int .i64 x, .int .i64 y, .int .i64 a, .int .i64 b]] w fun e w' => e = .returned (.bool q) ∧ Below w.heap.size w w' := by
  have hq := hq.out
  unfold rightR at hq
  simp only at hq
  obtain ⟨q1, h1⟩ : ∃ q1, sideR x a = q1 := ⟨_, rfl⟩
  obtain ⟨q2, h2⟩ : ∃ q2, sideR y b = q2 := ⟨_, rfl⟩
  rw [h1, h2] at hq
  have H1 := hid h1
  have H2 := hid h2
  clear h1 h2
  go_enter Tryz.func71, Tryz.ntmps71
  go_upto_region 1 with fail
  obtain ⟨w1, hw⟩ : ∃ w1, w1 = w.alloc (.cells #[.int .i64 x, .int .i64 y, .int .i64 a, .int .i64 b] 25) := ⟨_, rfl⟩
  try rw [← hw]
  obtain ⟨g, hg⟩ : ∃ g, g = w.heap.size := ⟨_, rfl⟩
  try rw [← hg]
  have hb : Below w.heap.size w w1 := by rw [hw]; exact Below.new _ _
  have HX : Hid (Blk w1 g #[.int .i64 x, .int .i64 y, .int .i64 a, .int .i64 b]) := hid (by rw [hw, hg]; exact Blk.new _ _ _)
  have HB := hid (hb)
  have hg_g := hid hg
  clear hw hg hb
  obtain ⟨c0, -, c2, -⟩ := HX.out.c4r
  go_wp2_with fail
  refine (rect_side x a q1 H1 w1).mono ?_
  rintro e w2 ⟨rfl, hb⟩
  have HX2 := hid (HX.out.below hb)
  have HB2 := hid (Below.next HB.out hb)
  clear hb c0 c2
  cases q1 with
  | false =>
    subst hq
    go_wp2_with fail
    go_ret
    exact ⟨rfl, HB2.out⟩
  | true =>
    obtain ⟨-, c1, -, c3⟩ := HX2.out.c4r
    simp only [Bool.true_and] at hq
    subst hq
    go_wp2_with fail
    refine (rect_side y b q2 H2 w2).mono ?_
    rintro e w3 ⟨rfl, hb⟩
    have HB3 := hid (Below.next HB2.out hb)
    clear hb c1 c3
    go_wp2_with fail
    go_ret
    exact ⟨rfl, HB3.out⟩
theorem rect_Right (r : R4) (q : Bool) (hq : Hid (rightR r = q)) (w : World) : Calls Tryz.prog 71 #[rV r] w fun e w' => e = .returned (.bool q) ∧ Below w.heap.size w w' :=
  rect_Right4 r.1 r.2.1 r.2.2.1 r.2.2.2 q hq w
set_option maxRecDepth 100000 in
theorem rect_ends4 (x y a b : Int) (h : RightR (x, y, a, b)) (w : World) : Calls Tryz.prog 89 #[.agg #[.int .i64 x, .int .i64 y, .int .i64 a, .int .i64 b]] w fun e w' => e = .returned (.tuple #[.int .i64 (x + a), .int .i64 (y + b)]) ∧ Below w.heap.size w w' := by
  unfold RightR at h
  simp only at h
  have hw1 : IntKind.i64.wrap (x + a) = x + a := by rw [IntKind.wrap_i64]; omega
  have hw2 : IntKind.i64.wrap (y + b) = y + b := by rw [IntKind.wrap_i64]; omega
  clear h
  go_enter Tryz.func89, Tryz.ntmps89
  go_upto_region 1 with fail
  obtain ⟨w1, hw⟩ : ∃ w1, w1 = w.alloc (.cells #[.int .i64 x, .int .i64 y, .int .i64 a, .int .i64 b] 25) := ⟨_, rfl⟩
  try rw [← hw]
  obtain ⟨g, hg⟩ : ∃ g, g = w.heap.size := ⟨_, rfl⟩
  try rw [← hg]
  have hb : Below w.heap.size w w1 := by rw [hw]; exact Below.new _ _
  have HX : Hid (Blk w1 g #[.int .i64 x, .int .i64 y, .int .i64 a, .int .i64 b]) := hid (by rw [hw, hg]; exact Blk.new _ _ _)
  have HB := hid (hb)
  have hg_g := hid hg
  clear hw hg hb
  have c0 : ∀ z, Below w1.heap.size w1 z → z.cell? ⟨g, 0, none⟩ = some (.int .i64 x) := fun z hz => by rw [(HX.out.below hz).cell]; rfl
  have c1 : ∀ z, Below w1.heap.size w1 z → z.cell? ⟨g, 1, none⟩ = some (.int .i64 y) := fun z hz => by rw [(HX.out.below hz).cell]; rfl
  have c2 : ∀ z, Below w1.heap.size w1 z → z.cell? ⟨g, 2, none⟩ = some (.int .i64 a) := fun z hz => by rw [(HX.out.below hz).cell]; rfl
  have c3 : ∀ z, Below w1.heap.size w1 z → z.cell? ⟨g, 3, none⟩ = some (.int .i64 b) := fun z hz => by rw [(HX.out.below hz).cell]; rfl
  have hyd := (Below.refl w1.heap.size w1).drew
  refine wp_region_kept [11] (fun z => Below w1.heap.size w1 z) (by kernel_rfl) (by assumption) (fun hH => ?_)
  refine wpK.take (i := 0) (v := _) (by simp only [List.getElem?_toArray, List.getElem?_cons_succ, List.getElem?_cons_zero]; rfl) (by kernel_rfl) (by kernel_rfl) (by kernel_rfl) (by kernel_rfl) (by kernel_rfl) (by exact fun _ _ _ h => h) (by first | exact Or.inl ⟨by rfl, by intro w hSw; go_simp; try with_reducible rfl⟩ | exact Or.inr ⟨by rfl, rfl⟩) hH ?_
  try simp only [Act.put, List.setIfInBounds_toArray, List.set_cons_zero, List.set_cons_succ]
  refine wpK.take (i := 1) (v := _) (by simp only [List.getElem?_toArray, List.getElem?_cons_succ, List.getElem?_cons_zero]; rfl) (by kernel_rfl) (by kernel_rfl) (by kernel_rfl) (by kernel_rfl) (by kernel_rfl) (by exact fun _ _ _ h => h) (by first | exact Or.inl ⟨by rfl, by intro w hSw; go_simp; try with_reducible rfl⟩ | exact Or.inr ⟨by rfl, rfl⟩) hH ?_
  try simp only [Act.put, List.setIfInBounds_toArray, List.set_cons_zero, List.set_cons_succ]
  refine wpK.take (i := 2) (v := _) (by simp only [List.getElem?_toArray, List.getElem?_cons_succ, List.getElem?_cons_zero]; rfl) (by kernel_rfl) (by kernel_rfl) (by kernel_rfl) (by kernel_rfl) (by kernel_rfl) (by exact fun _ _ _ h => h) (by first | exact Or.inl ⟨by rfl, by intro w hSw; go_simp; try with_reducible rfl⟩ | exact Or.inr ⟨by rfl, rfl⟩) hH ?_
  try simp only [Act.put, List.setIfInBounds_toArray, List.set_cons_zero, List.set_cons_succ]
  refine wpK.take (i := 3) (v := _) (by simp only [List.getElem?_toArray, List.getElem?_cons_succ, List.getElem?_cons_zero]; rfl) (by kernel_rfl) (by kernel_rfl) (by kernel_rfl) (by kernel_rfl) (by kernel_rfl) (by exact fun _ _ _ h => h) (by first | exact Or.inl ⟨by rfl, by intro w hSw; go_simp; try with_reducible rfl⟩ | exact Or.inr ⟨by rfl, rfl⟩) hH ?_
  try simp only [Act.put, List.setIfInBounds_toArray, List.set_cons_zero, List.set_cons_succ]
  refine wpK.take (i := 4) (v := _) (by simp only [List.getElem?_toArray, List.getElem?_cons_succ, List.getElem?_cons_zero]; rfl) (by kernel_rfl) (by kernel_rfl) (by kernel_rfl) (by kernel_rfl) (by kernel_rfl) (by exact fun _ _ _ h => h) (by first | exact Or.inl ⟨by rfl, by intro w hSw; go_simp; try with_reducible rfl⟩ | exact Or.inr ⟨by rfl, rfl⟩) hH ?_
  try simp only [Act.put, List.setIfInBounds_toArray, List.set_cons_zero, List.set_cons_succ]
  refine wpK.take (i := 5) (v := _) (by simp only [List.getElem?_toArray, List.getElem?_cons_succ, List.getElem?_cons_zero]; rfl) (by kernel_rfl) (by kernel_rfl) (by kernel_rfl) (by kernel_rfl) (by kernel_rfl) (by exact fun _ _ _ h => h) (by first | exact Or.inl ⟨by rfl, by intro w hSw; go_simp; try with_reducible rfl⟩ | exact Or.inr ⟨by rfl, rfl⟩) hH ?_
  try simp only [Act.put, List.setIfInBounds_toArray, List.set_cons_zero, List.set_cons_succ]
  refine wpK.take (i := 6) (v := _) (by simp only [List.getElem?_toArray, List.getElem?_cons_succ, List.getElem?_cons_zero]; rfl) (by kernel_rfl) (by kernel_rfl) (by kernel_rfl) (by kernel_rfl) (by kernel_rfl) (by exact fun _ _ _ h => h) (by first | exact Or.inl ⟨by rfl, by intro w hSw; go_simp; try with_reducible rfl⟩ | exact Or.inr ⟨by rfl, rfl⟩) hH ?_
  try simp only [Act.put, List.setIfInBounds_toArray, List.set_cons_zero, List.set_cons_succ]
  refine wpK.take (i := 7) (v := _) (by simp only [List.getElem?_toArray, List.getElem?_cons_succ, List.getElem?_cons_zero]; rfl) (by kernel_rfl) (by kernel_rfl) (by kernel_rfl) (by kernel_rfl) (by kernel_rfl) (by exact fun _ _ _ h => h) (by first | exact Or.inl ⟨by rfl, by intro w hSw; go_simp; try with_reducible rfl⟩ | exact Or.inr ⟨by rfl, rfl⟩) hH ?_
  try simp only [Act.put, List.setIfInBounds_toArray, List.set_cons_zero, List.set_cons_succ]
  refine wpK.take (i := 8) (v := _) (by simp only [List.getElem?_toArray, List.getElem?_cons_succ, List.getElem?_cons_zero]; rfl) (by kernel_rfl) (by kernel_rfl) (by kernel_rfl) (by kernel_rfl) (by kernel_rfl) (by exact fun _ _ _ h => h) (by first | exact Or.inl ⟨by rfl, by intro w hSw; go_simp; try with_reducible rfl⟩ | exact Or.inr ⟨by rfl, rfl⟩) hH ?_
  try simp only [Act.put, List.setIfInBounds_toArray, List.set_cons_zero, List.set_cons_succ]
  refine wpK.take (i := 9) (v := _) (by simp only [List.getElem?_toArray, List.getElem?_cons_succ, List.getElem?_cons_zero]; rfl) (by kernel_rfl) (by kernel_rfl) (by kernel_rfl) (by kernel_rfl) (by kernel_rfl) (by exact fun _ _ _ h => h) (by first | exact Or.inl ⟨by rfl, by intro w hSw; go_simp; try with_reducible rfl⟩ | exact Or.inr ⟨by rfl, rfl⟩) hH ?_
  try simp only [Act.put, List.setIfInBounds_toArray, List.set_cons_zero, List.set_cons_succ]
  refine wpK.take (i := 10) (v := _) (by simp only [List.getElem?_toArray, List.getElem?_cons_succ, List.getElem?_cons_zero]; rfl) (by kernel_rfl) (by kernel_rfl) (by kernel_rfl) (by kernel_rfl) (by kernel_rfl) (by exact fun _ _ _ h => h) (by first | exact Or.inl ⟨by rfl, by intro w hSw; go_simp; try with_reducible rfl⟩ | exact Or.inr ⟨by rfl, rfl⟩) hH ?_
  try simp only [Act.put, List.setIfInBounds_toArray, List.set_cons_zero, List.set_cons_succ]
  refine wpK.late (i := 11) (by kernel_rfl) (by simp only [List.getElem?_toArray, List.getElem?_cons_succ, List.getElem?_cons_zero]; rfl) (by kernel_rfl) (fun K hK => ?_)
  go_simp
  refine hK.out _ _ ?_
  clear hK K
  try simp only [Act.put, List.setIfInBounds_toArray, List.set_cons_zero, List.set_cons_succ]
  refine wpK.done (by kernel_rfl) ?_ _
  have HB2 := hid (Below.next HB.out hyd)
  clear c0 c1 c2 c3
  go_wp2_with fail
  go_ret2
  exact ⟨rfl, HB2.out⟩
set_option maxRecDepth 100000 in
theorem rect_between (x y ex ey : Int) (q : R4) (hq : Hid (betwR x y ex ey = q)) (h : -1000 ≤ x ∧ x ≤ 1000 ∧ -1000 ≤ y ∧ y ≤ 1000 ∧ -1000 ≤ ex ∧ ex ≤ 1000 ∧ -1000 ≤ ey ∧ ey ≤ 1000) (w : World) : Calls Tryz.prog 90 #[.int .i64 x, .int .i64 y, .int .i64 ex, .int .i64 ey] w fun e w' => e = .returned (rV q) ∧ Below w.heap.size w w' := by
  have hw1 : IntKind.i64.wrap (ex - x) = ex - x := by rw [IntKind.wrap_i64]; omega
  have hw2 : IntKind.i64.wrap (ey - y) = ey - y := by rw [IntKind.wrap_i64]; omega
  clear h
  have HQ := hq.out
  unfold betwR at HQ
  go_enter Tryz.func90, Tryz.ntmps90
  go_upto_region 1 with fail
  obtain ⟨w1, hw⟩ : ∃ w1, w1 = w.alloc (.cells #[.int .i64 0, .int .i64 0, .int .i64 0, .int .i64 0] 25) := ⟨_, rfl⟩
  try rw [← hw]
  obtain ⟨g, hg⟩ : ∃ g, g = w.heap.size := ⟨_, rfl⟩
  try rw [← hg]
  have hb : Below w.heap.size w w1 := by rw [hw]; exact Below.new _ _
  have HX : Hid (Blk w1 g #[.int .i64 0, .int .i64 0, .int .i64 0, .int .i64 0]) := hid (by rw [hw, hg]; exact Blk.new _ _ _)
  have HB := hid (hb)
  have hg_g := hid hg
  clear hw hg hb
  obtain ⟨f0, f1, f2, f3⟩ := HX.out.f4r
  obtain ⟨c0, c1, c2, c3⟩ := HX.out.c4r
  by_cases h1 : ex ≤ x
  · rw [if_pos (.inl h1)] at HQ
    obtain ⟨w3, hw3, hk3, hu3⟩ := set4r HX.out (.int .i64 0) (.int .i64 0) (.int .i64 0) (.int .i64 0)
    have HW3 := hid hw3
    have HK3 := hid hk3
    have HB3 := hid (HB.out.trans (hu3.below HB.out.size (fun k _ q => by rw [q]; have := hg_g.out; omega)))
    clear hw3 hk3 hu3
    go_wp2_with fail
    try rw [← HW3.out]
    obtain ⟨z0, z1, z2, z3⟩ := HK3.out.c4r
    refine bodyPost_ret (results_cell1 rfl _ _ _ rfl (by go_simp; rfl)) rfl ?_
    exact ⟨by rw [← HQ]; rfl, HB3.out⟩
  · by_cases h2 : ey ≤ y
    · rw [if_pos (.inr h2)] at HQ
      obtain ⟨w3, hw3, hk3, hu3⟩ := set4r HX.out (.int .i64 0) (.int .i64 0) (.int .i64 0) (.int .i64 0)
      have HW3 := hid hw3
      have HK3 := hid hk3
      have HB3 := hid (HB.out.trans (hu3.below HB.out.size (fun k _ q => by rw [q]; have := hg_g.out; omega)))
      clear hw3 hk3 hu3
      go_wp2_with fail
      try rw [← HW3.out]
      obtain ⟨z0, z1, z2, z3⟩ := HK3.out.c4r
      refine bodyPost_ret (results_cell1 rfl _ _ _ rfl (by go_simp; rfl)) rfl ?_
      exact ⟨by rw [← HQ]; rfl, HB3.out⟩
    · rw [if_neg (by omega)] at HQ
      obtain ⟨w3, hw3, hk3, hu3⟩ := set4r HX.out (.int .i64 x) (.int .i64 y) (.int .i64 (ex - x)) (.int .i64 (ey - y))
      have HW3 := hid hw3
      have HK3 := hid hk3
      have HB3 := hid (HB.out.trans (hu3.below HB.out.size (fun k _ q => by rw [q]; have := hg_g.out; omega)))
      clear hw3 hk3 hu3
      go_wp2_with fail
      try rw [← HW3.out]
      obtain ⟨z0, z1, z2, z3⟩ := HK3.out.c4r
      refine bodyPost_ret (results_cell1 rfl _ _ _ rfl (by go_simp; rfl)) rfl ?_
      exact ⟨by rw [← HQ]; rfl, HB3.out⟩
set_option maxRecDepth 100000 in
set_option maxHeartbeats 2000000 in
theorem rect_Common4 (x y a b ox oy oa ob : Int) (w : World) : Calls Tryz.prog 59 #[.agg #[.int .i64 x, .int .i64 y, .int .i64 a, .int .i64 b], .agg #[.int .i64 ox, .int .i64 oy, .int .i64 oa, .int .i64 ob]] w fun e w' => e = .returned (.tuple #[rV (commR (x, y, a, b) (ox, oy, oa, ob)), .bool (decide (commR (x, y, a, b) (ox, oy, oa, ob) ≠ zR))]) ∧ Below w.heap.size w w' := by
  obtain ⟨q1, h1⟩ : ∃ q1, rightR (x, y, a, b) = q1 := ⟨_, rfl⟩
  obtain ⟨q2, h2⟩ : ∃ q2, rightR (ox, oy, oa, ob) = q2 := ⟨_, rfl⟩
  have Q1 := hid h1
  have Q2 := hid h2
  clear h1 h2
  go_enter Tryz.func59, Tryz.ntmps59
  go_upto_region 1 with fail
  generalize hW : World.alloc (World.alloc (World.alloc w _) _) _ = w1
  obtain ⟨g, hg⟩ : ∃ g, g = w.heap.size := ⟨_, rfl⟩
  obtain ⟨go, hgo⟩ : ∃ go, go = w.heap.size + 1 := ⟨_, rfl⟩
  obtain ⟨gr, hgr⟩ : ∃ gr, gr = w.heap.size + 1 + 1 := ⟨_, rfl⟩
  have hz : (World.alloc w (.cells #[.int .i64 x, .int .i64 y, .int .i64 a, .int .i64 b] 25)).heap.size = w.heap.size + 1 := by simp
  have hz2 : (World.alloc (World.alloc w (.cells #[.int .i64 x, .int .i64 y, .int .i64 a, .int .i64 b] 25)) (.cells #[.int .i64 ox, .int .i64 oy, .int .i64 oa, .int .i64 ob] 25)).heap.size = w.heap.size + 1 + 1 := by simp
  try rw [hz2]
  try rw [hz]
  try rw [← hgr]
  try rw [← hgo]
  try rw [← hg]
  have hb : Below w.heap.size w w1 := by rw [← hW]; exact Below.next (Below.next (Below.new _ _) (Below.new _ _)) (Below.new _ _)
  have HX : Hid (Blk w1 g #[.int .i64 x, .int .i64 y, .int .i64 a, .int .i64 b]) := hid (by rw [← hW, hg]; exact ((Blk.new w _ _).below (Below.new _ _)).below (Below.new _ _))
  have HO : Hid (Blk w1 go #[.int .i64 ox, .int .i64 oy, .int .i64 oa, .int .i64 ob]) := hid (by rw [← hW, hgo, ← hz]; exact (Blk.new _ _ _).below (Below.new _ _))
  have HR : Hid (Blk w1 gr #[.int .i64 0, .int .i64 0, .int .i64 0, .int .i64 0]) := hid (by rw [← hW, hgr, ← hz2]; exact Blk.new _ _ _)
  have HB := hid hb
  have HGG : Hid (g = w.heap.size ∧ go = w.heap.size + 1 ∧ gr = w.heap.size + 2) := hid ⟨hg, hgo, by omega⟩
  clear hW hg hgo hgr hz hz2 hb
  obtain ⟨x_0, x_1, x_2, x_3⟩ := HX.out.c4r
  go_wp2_with fail
  refine (rect_Right4 x y a b q1 Q1 w1).mono ?_
  rintro e w2 ⟨rfl, hb⟩
  have HX2 := hid (HX.out.below hb)
  have HO2 := hid (HO.out.below hb)
  have HR2 := hid (HR.out.below hb)
  have HB2 := hid (Below.next HB.out hb)
  clear hb x_0 x_1 x_2 x_3
  cases q1 with
  | false =>
    obtain ⟨w9, hw9, hk9, hu9⟩ := set4r HR2.out (.int .i64 0) (.int .i64 0) (.int .i64 0) (.int .i64 0)
    have HW9 := hid hw9
    have HK9 := hid hk9
    have HB9 := hid (HB2.out.trans (hu9.below HB2.out.size (fun k _ q => by rw [q]; have := HGG.out; omega)))
    clear hw9 hk9 hu9
    obtain ⟨c0, c1, c2, c3⟩ := HR2.out.c4r
    obtain ⟨f0, f1, f2, f3⟩ := HR2.out.f4r
    go_wp2_with fail
    try rw [← HW9.out]
    clear c0 c1 c2 c3 f0 f1 f2 f3
    obtain ⟨z0, z1, z2, z3⟩ := HK9.out.c4r
    refine bodyPost_ret (results_cell_tmp rfl _ _ _ rfl (by go_simp; rfl)) rfl ?_
    exact ⟨by rw [show commR (x, y, a, b) (ox, oy, oa, ob) = zR by unfold commR; rw [if_neg (fun k => (rightR_f _).1 Q1.out k.1)]]; rfl, HB9.out⟩
  | true =>
    obtain ⟨o_0, o_1, o_2, o_3⟩ := HO2.out.c4r
    go_wp2_with fail
    refine (rect_Right4 ox oy oa ob q2 Q2 w2).mono ?_
    rintro e w3 ⟨rfl, hb⟩
    have HX3 := hid (HX2.out.below hb)
    have HO3 := hid (HO2.out.below hb)
    have HR3 := hid (HR2.out.below hb)
    have HB3 := hid (Below.next HB2.out hb)
    clear hb o_0 o_1 o_2 o_3
    cases q2 with
    | false =>
      obtain ⟨w9, hw9, hk9, hu9⟩ := set4r HR3.out (.int .i64 0) (.int .i64 0) (.int .i64 0) (.int .i64 0)
      have HW9 := hid hw9
      have HK9 := hid hk9
      have HB9 := hid (HB3.out.trans (hu9.below HB3.out.size (fun k _ q => by rw [q]; have := HGG.out; omega)))
      clear hw9 hk9 hu9
      obtain ⟨c0, c1, c2, c3⟩ := HR3.out.c4r
      obtain ⟨f0, f1, f2, f3⟩ := HR3.out.f4r
      go_wp2_with fail
      try rw [← HW9.out]
      clear c0 c1 c2 c3 f0 f1 f2 f3
      obtain ⟨z0, z1, z2, z3⟩ := HK9.out.c4r
      refine bodyPost_ret (results_cell_tmp rfl _ _ _ rfl (by go_simp; rfl)) rfl ?_
      exact ⟨by rw [show commR (x, y, a, b) (ox, oy, oa, ob) = zR by unfold commR; rw [if_neg (fun k => (rightR_f _).1 Q2.out k.2)]]; rfl, HB9.out⟩
    | true =>
      have HRa := hid ((rightR_iff (x, y, a, b)).1 Q1.out)
      have HRb := hid ((rightR_iff (ox, oy, oa, ob)).1 Q2.out)
      obtain ⟨hA1, hA2, hA3, hA4, hA5, hA6, hA7, hA8⟩ := HRa.out
      obtain ⟨hB1, hB2, hB3, hB4, hB5, hB6, hB7, hB8⟩ := HRb.out
      simp only at hA1 hA2 hA3 hA4 hA5 hA6 hA7 hA8 hB1 hB2 hB3 hB4 hB5 hB6 hB7 hB8
      obtain ⟨m1, hm1⟩ : ∃ m, max x ox = m := ⟨_, rfl⟩
      obtain ⟨m2, hm2⟩ : ∃ m, max y oy = m := ⟨_, rfl⟩
      obtain ⟨m3, hm3⟩ : ∃ m, min (x + a) (ox + oa) = m := ⟨_, rfl⟩
      obtain ⟨m4, hm4⟩ : ∃ m, min (y + b) (oy + ob) = m := ⟨_, rfl⟩
      obtain ⟨q, hq⟩ : ∃ q, betwR m1 m2 m3 m4 = q := ⟨_, rfl⟩
      have HQC : Hid (commR (x, y, a, b) (ox, oy, oa, ob) = q) := hid (by unfold commR; rw [if_pos ⟨HRa.out, HRb.out⟩]; simp only; rw [hm1, hm2, hm3, hm4]; exact hq)
      have HBT := rect_between m1 m2 m3 m4 q (hid hq) (by omega)
      have hz : q = zR ∨ 1 ≤ q.2.2.1 := by
        rw [← hq]; unfold betwR
        split
        · exact .inl rfl
        · rename_i k; right; simp only; omega
      clear hq
      have HZ := hid hz
      clear hz
      obtain ⟨qx, qy, qa, qb⟩ := q
      simp only [rV] at HBT
      have e1 : (if x < ox then ox else x) = m1 := by rw [← hm1]; split <;> omega
      have e2 : (if y < oy then oy else y) = m2 := by rw [← hm2]; split <;> omega
      have e3 : (if ox + oa < x + a then ox + oa else x + a) = m3 := by rw [← hm3]; split <;> omega
      have e4 : (if oy + ob < y + b then oy + ob else y + b) = m4 := by rw [← hm4]; split <;> omega
      clear hA1 hA2 hA3 hA4 hA5 hA6 hA7 hA8 hB1 hB2 hB3 hB4 hB5 hB6 hB7 hB8
      have HE := hid (And.intro e1 (And.intro e2 (And.intro e3 e4)))
      have HBT := hid HBT
      clear e1 e2 e3 e4 hm1 hm2 hm3 hm4
      obtain ⟨x_0, x_1, x_2, x_3⟩ := HX3.out.c4r
      go_wp2_with fail
      refine (rect_ends4 x y a b HRa.out w3).mono ?_
      rintro e w4 ⟨rfl, hb⟩
      have HX4 := hid (HX3.out.below hb)
      have HO4 := hid (HO3.out.below hb)
      have HR4 := hid (HR3.out.below hb)
      have HB4 := hid (Below.next HB3.out hb)
      clear hb x_0 x_1 x_2 x_3
      obtain ⟨o_0, o_1, o_2, o_3⟩ := HO4.out.c4r
      go_wp2_with fail
      refine (rect_ends4 ox oy oa ob HRb.out w4).mono ?_
      rintro e w5 ⟨rfl, hb⟩
      have HX5 := hid (HX4.out.below hb)
      have HO5 := hid (HO4.out.below hb)
      have HR5 := hid (HR4.out.below hb)
      have HB5 := hid (Below.next HB4.out hb)
      clear hb o_0 o_1 o_2 o_3
      obtain ⟨e1, e2, e3, e4⟩ := HE.out
      obtain ⟨x_0, x_1, x_2, x_3⟩ := HX5.out.c4r
      obtain ⟨o_0, o_1, o_2, o_3⟩ := HO5.out.c4r
      go_wp2_with fail
      refine (HBT.out _).mono ?_
      rintro e w6 ⟨rfl, hb6⟩
      have HX6 := hid (HX5.out.below hb6)
      have HO6 := hid (HO5.out.below hb6)
      have HR6 := hid (HR5.out.below hb6)
      have HB6 := hid (Below.next HB5.out hb6)
      clear hb6 e1 e2 e3 e4 x_0 x_1 x_2 x_3 o_0 o_1 o_2 o_3
      go_upto_region 6 with fail
      obtain ⟨w7, hw⟩ : ∃ w7, w7 = w6.alloc (.cells #[.int .i64 qx, .int .i64 qy, .int .i64 qa, .int .i64 qb] 25) := ⟨_, rfl⟩
      try rw [← hw]
      obtain ⟨gc, hg⟩ : ∃ gc, gc = w6.heap.size := ⟨_, rfl⟩
      try rw [← hg]
      have hb : Below w6.heap.size w6 w7 := by rw [hw]; exact Below.new _ _
      have HC7 : Hid (Blk w7 gc #[.int .i64 qx, .int .i64 qy, .int .i64 qa, .int .i64 qb]) := hid (by rw [hw, hg]; exact Blk.new _ _ _)
      have HB7 := hid (Below.next HB6.out hb)
      have hg_gc := hid hg
      have HR7 := hid (HR6.out.below hb)
      clear hw hg hb
      have c0 : ∀ z, Upd (fun k => k = gr) w7 z → z.cell? ⟨gc, 0, none⟩ = some (.int .i64 qx) := fun z hz => by rw [(HC7.out.upd hz (fun q => by have := HR6.out.lt; have := hg_gc.out; omega)).cell]; rfl
      have c1 : ∀ z, Upd (fun k => k = gr) w7 z → z.cell? ⟨gc, 1, none⟩ = some (.int .i64 qy) := fun z hz => by rw [(HC7.out.upd hz (fun q => by have := HR6.out.lt; have := hg_gc.out; omega)).cell]; rfl
      have c2 : ∀ z, Upd (fun k => k = gr) w7 z → z.cell? ⟨gc, 2, none⟩ = some (.int .i64 qa) := fun z hz => by rw [(HC7.out.upd hz (fun q => by have := HR6.out.lt; have := hg_gc.out; omega)).cell]; rfl
      have c3 : ∀ z, Upd (fun k => k = gr) w7 z → z.cell? ⟨gc, 3, none⟩ = some (.int .i64 qb) := fun z hz => by rw [(HC7.out.upd hz (fun q => by have := HR6.out.lt; have := hg_gc.out; omega)).cell]; rfl
      rcases HZ.out with hz | hz
      · simp only [zR, Prod.mk.injEq] at hz
        obtain ⟨rfl, rfl, rfl, rfl⟩ := hz
        have hyd : Upd (fun k => k = gr) w7 w7.drew := Upd.of_below (Below.refl w7.heap.size w7).drew
        obtain ⟨r0, r1, r2, r3⟩ := HR7.out.c4r
        obtain ⟨f0, f1, f2, f3⟩ := HR7.out.f4r
        obtain ⟨w9, hw9, hk9, hu9⟩ := set4r HR7.out (.int .i64 0) (.int .i64 0) (.int .i64 0) (.int .i64 0)
        have HW9 := hid hw9
        have HK9 := hid hk9
        have HB9 := hid (HB7.out.trans (hu9.below HB7.out.size (fun k _ q => by rw [q]; have := HGG.out; omega)))
        have hS9 : Upd (fun k => k = gr) w7 w9.drew := hu9.trans (Upd.of_below (S := fun k => k = gr) (Below.refl w9.heap.size w9).drew) (fun _ _ q => q)
        rw [HW9.out] at hS9
        clear hw9 hk9 hu9
        refine wp_region_kept [5] (fun z => Upd (fun k => k = gr) w7 z) (by kernel_rfl) (by assumption) (fun hH => ?_)
        refine wpK.take (i := 0) (v := _) (by simp only [List.getElem?_toArray, List.getElem?_cons_succ, List.getElem?_cons_zero]; rfl) (by kernel_rfl) (by kernel_rfl) (by kernel_rfl) (by kernel_rfl) (by kernel_rfl) (by exact fun _ _ _ h => h) (by first | exact Or.inl ⟨by rfl, by intro w hSw; go_simp; try with_reducible rfl⟩ | exact Or.inr ⟨by rfl, rfl⟩) hH ?_
        try simp only [Act.put, List.setIfInBounds_toArray, List.set_cons_zero, List.set_cons_succ]
        refine wpK.take (i := 1) (v := _) (by simp only [List.getElem?_toArray, List.getElem?_cons_succ, List.getElem?_cons_zero]; rfl) (by kernel_rfl) (by kernel_rfl) (by kernel_rfl) (by kernel_rfl) (by kernel_rfl) (by exact fun _ _ _ h => h) (by first | exact Or.inl ⟨by rfl, by intro w hSw; go_simp; try with_reducible rfl⟩ | exact Or.inr ⟨by rfl, rfl⟩) hH ?_
        try simp only [Act.put, List.setIfInBounds_toArray, List.set_cons_zero, List.set_cons_succ]
        refine wpK.take (i := 2) (v := _) (by simp only [List.getElem?_toArray, List.getElem?_cons_succ, List.getElem?_cons_zero]; rfl) (by kernel_rfl) (by kernel_rfl) (by kernel_rfl) (by kernel_rfl) (by kernel_rfl) (by exact fun _ _ _ h => h) (by first | exact Or.inl ⟨by rfl, by intro w hSw; go_simp; try with_reducible rfl⟩ | exact Or.inr ⟨by rfl, rfl⟩) hH ?_
        try simp only [Act.put, List.setIfInBounds_toArray, List.set_cons_zero, List.set_cons_succ]
        refine wpK.take (i := 3) (v := _) (by simp only [List.getElem?_toArray, List.getElem?_cons_succ, List.getElem?_cons_zero]; rfl) (by kernel_rfl) (by kernel_rfl) (by kernel_rfl) (by kernel_rfl) (by kernel_rfl) (by exact fun _ _ _ h => h) (by first | exact Or.inl ⟨by rfl, by intro w hSw; go_simp; try with_reducible rfl⟩ | exact Or.inr ⟨by rfl, rfl⟩) hH ?_
        try simp only [Act.put, List.setIfInBounds_toArray, List.set_cons_zero, List.set_cons_succ]
        refine wpK.step (i := 4) (by kernel_rfl) (by simp only [List.getElem?_toArray, List.getElem?_cons_succ, List.getElem?_cons_zero]; rfl) (fun K hK => ?_)
        go_simp
        refine hK.out _ _ (by assumption) (fun hH => ?_)
        clear hK K
        try simp only [Act.put, List.setIfInBounds_toArray, List.set_cons_zero, List.set_cons_succ]
        refine wpK.late (i := 5) (by kernel_rfl) (by simp only [List.getElem?_toArray, List.getElem?_cons_succ, List.getElem?_cons_zero]; rfl) (by kernel_rfl) (fun K hK => ?_)
        go_simp
        refine hK.out _ _ ?_
        clear hK K
        try simp only [Act.put, List.setIfInBounds_toArray, List.set_cons_zero, List.set_cons_succ]
        refine wpK.done (by kernel_rfl) ?_ _
        rw [← HW9.out]
        clear c0 c1 c2 c3 f0 f1 f2 f3 r0 r1 r2 r3
        obtain ⟨z0, z1, z2, z3⟩ := HK9.out.c4r
        go_wp2_with fail
        refine bodyPost_ret (results_cell_tmp rfl _ _ _ rfl (by go_simp; rfl)) rfl ?_
        exact ⟨by rw [HQC.out]; simp [zR, rV], HB9.out.drew⟩
      · have hqa : ¬ qa = 0 := by have hz1 : 1 ≤ qa := hz; omega
        have hz : ¬ (qx = 0 ∧ qy = 0 ∧ qa = 0 ∧ qb = 0) := fun k => hqa k.2.2.1
        have hyd : Upd (fun k => k = gr) w7 w7.drew := Upd.of_below (Below.refl w7.heap.size w7).drew
        obtain ⟨r0, r1, r2, r3⟩ := HR7.out.c4r
        obtain ⟨f0, f1, f2, f3⟩ := HR7.out.f4r
        obtain ⟨w9, hw9, hk9, hu9⟩ := set4r HR7.out (.int .i64 qx) (.int .i64 qy) (.int .i64 qa) (.int .i64 qb)
        have HW9 := hid hw9
        have HK9 := hid hk9
        have HB9 := hid (HB7.out.trans (hu9.below HB7.out.size (fun k _ q => by rw [q]; have := HGG.out; omega)))
        have hS9 : Upd (fun k => k = gr) w7 w9.drew := hu9.trans (Upd.of_below (S := fun k => k = gr) (Below.refl w9.heap.size w9).drew) (fun _ _ q => q)
        rw [HW9.out] at hS9
        clear hw9 hk9 hu9
        refine wp_region_kept [5] (fun z => Upd (fun k => k = gr) w7 z) (by kernel_rfl) (by assumption) (fun hH => ?_)
        refine wpK.take (i := 0) (v := _) (by simp only [List.getElem?_toArray, List.getElem?_cons_succ, List.getElem?_cons_zero]; rfl) (by kernel_rfl) (by kernel_rfl) (by kernel_rfl) (by kernel_rfl) (by kernel_rfl) (by exact fun _ _ _ h => h) (by first | exact Or.inl ⟨by rfl, by intro w hSw; go_simp; try with_reducible rfl⟩ | exact Or.inr ⟨by rfl, rfl⟩) hH ?_
        try simp only [Act.put, List.setIfInBounds_toArray, List.set_cons_zero, List.set_cons_succ]
        refine wpK.take (i := 1) (v := _) (by simp only [List.getElem?_toArray, List.getElem?_cons_succ, List.getElem?_cons_zero]; rfl) (by kernel_rfl) (by kernel_rfl) (by kernel_rfl) (by kernel_rfl) (by kernel_rfl) (by exact fun _ _ _ h => h) (by first | exact Or.inl ⟨by rfl, by intro w hSw; go_simp; try with_reducible rfl⟩ | exact Or.inr ⟨by rfl, rfl⟩) hH ?_
        try simp only [Act.put, List.setIfInBounds_toArray, List.set_cons_zero, List.set_cons_succ]
        refine wpK.take (i := 2) (v := _) (by simp only [List.getElem?_toArray, List.getElem?_cons_succ, List.getElem?_cons_zero]; rfl) (by kernel_rfl) (by kernel_rfl) (by kernel_rfl) (by kernel_rfl) (by kernel_rfl) (by exact fun _ _ _ h => h) (by first | exact Or.inl ⟨by rfl, by intro w hSw; go_simp; try with_reducible rfl⟩ | exact Or.inr ⟨by rfl, rfl⟩) hH ?_
        try simp only [Act.put, List.setIfInBounds_toArray, List.set_cons_zero, List.set_cons_succ]
        refine wpK.take (i := 3) (v := _) (by simp only [List.getElem?_toArray, List.getElem?_cons_succ, List.getElem?_cons_zero]; rfl) (by kernel_rfl) (by kernel_rfl) (by kernel_rfl) (by kernel_rfl) (by kernel_rfl) (by exact fun _ _ _ h => h) (by first | exact Or.inl ⟨by rfl, by intro w hSw; go_simp; try with_reducible rfl⟩ | exact Or.inr ⟨by rfl, rfl⟩) hH ?_
        try simp only [Act.put, List.setIfInBounds_toArray, List.set_cons_zero, List.set_cons_succ]
        refine wpK.step (i := 4) (by kernel_rfl) (by simp only [List.getElem?_toArray, List.getElem?_cons_succ, List.getElem?_cons_zero]; rfl) (fun K hK => ?_)
        go_simp
        refine hK.out _ _ (by assumption) (fun hH => ?_)
        clear hK K
        try simp only [Act.put, List.setIfInBounds_toArray, List.set_cons_zero, List.set_cons_succ]
        refine wpK.late (i := 5) (by kernel_rfl) (by simp only [List.getElem?_toArray, List.getElem?_cons_succ, List.getElem?_cons_zero]; rfl) (by kernel_rfl) (fun K hK => ?_)
        go_simp
        refine hK.out _ _ ?_
        clear hK K
        try simp only [Act.put, List.setIfInBounds_toArray, List.set_cons_zero, List.set_cons_succ]
        refine wpK.done (by kernel_rfl) ?_ _
        rw [← HW9.out]
        clear c0 c1 c2 c3 f0 f1 f2 f3 r0 r1 r2 r3
        obtain ⟨z0, z1, z2, z3⟩ := HK9.out.c4r
        go_wp2_with fail
        refine bodyPost_ret (results_cell_tmp rfl _ _ _ rfl (by go_simp; rfl)) rfl ?_
        exact ⟨by rw [HQC.out]; simp [zR, rV, hz], HB9.out.drew⟩
set_option maxRecDepth 100000 in
set_option maxHeartbeats 1000000 in
theorem rect_Meets4 (x y a b ox oy oa ob : Int) (w : World) : Calls Tryz.prog 53 #[.agg #[.int .i64 x, .int .i64 y, .int .i64 a, .int .i64 b], .agg #[.int .i64 ox, .int .i64 oy, .int .i64 oa, .int .i64 ob]] w fun e w' => e = .returned (.bool (decide (MeetsR (x, y, a, b) (ox, oy, oa, ob)))) ∧ Below w.heap.size w w' := by
  have hcm := rect_Common4 x y a b ox oy oa ob
  obtain ⟨c, hc⟩ : ∃ c, commR (x, y, a, b) (ox, oy, oa, ob) = c := ⟨_, rfl⟩
  rw [hc] at hcm
  obtain ⟨qk, hqk⟩ : ∃ q, decide (c ≠ zR) = q := ⟨_, rfl⟩
  rw [hqk] at hcm
  have HQK : Hid (decide (MeetsR (x, y, a, b) (ox, oy, oa, ob)) = qk) := hid (by rw [← hqk, ← hc]; exact decide_eq_decide.2 (commR_meets _ _).symm)
  have HCC := hid hc
  obtain ⟨cx, cy, ca, cb⟩ := c
  simp only [rV] at hcm
  have HCM := hid hcm
  clear hc hcm hqk
  go_enter Tryz.func53, Tryz.ntmps53
  go_upto_region 1 with fail
  generalize hW : World.alloc (World.alloc w _) _ = w1
  obtain ⟨g, hg⟩ : ∃ g, g = w.heap.size := ⟨_, rfl⟩
  obtain ⟨go, hgo⟩ : ∃ go, go = w.heap.size + 1 := ⟨_, rfl⟩
  have hz : (World.alloc w (.cells #[.int .i64 x, .int .i64 y, .int .i64 a, .int .i64 b] 25)).heap.size = w.heap.size + 1 := by simp
  try rw [hz]
  try rw [← hgo]
  try rw [← hg]
  have hb : Below w.heap.size w w1 := by rw [← hW]; exact Below.next (Below.new _ _) (Below.new _ _)
  have HX : Hid (Blk w1 g #[.int .i64 x, .int .i64 y, .int .i64 a, .int .i64 b]) := hid (by rw [← hW, hg]; exact (Blk.new w _ _).below (Below.new _ _))
  have HO : Hid (Blk w1 go #[.int .i64 ox, .int .i64 oy, .int .i64 oa, .int .i64 ob]) := hid (by rw [← hW, hgo, ← hz]; exact Blk.new _ _ _)
  have HB := hid hb
  have HGG : Hid (g = w.heap.size ∧ go = w.heap.size + 1) := hid ⟨hg, hgo⟩
  clear hW hg hgo hz hb
  obtain ⟨x_0, x_1, x_2, x_3⟩ := HX.out.c4r
  obtain ⟨o_0, o_1, o_2, o_3⟩ := HO.out.c4r
  go_wp2_with fail
  refine (HCM.out w1).mono ?_
  rintro e w2 ⟨rfl, hb⟩
  have HB2 := hid (Below.next HB.out hb)
  have HX2 := hid (HX.out.below hb)
  clear hb x_0 x_1 x_2 x_3 o_0 o_1 o_2 o_3
  go_upto_region 2 with fail
  obtain ⟨w3, hw⟩ : ∃ w3, w3 = w2.alloc (.cells #[.int .i64 cx, .int .i64 cy, .int .i64 ca, .int .i64 cb] 25) := ⟨_, rfl⟩
  try rw [← hw]
  obtain ⟨gc, hg⟩ : ∃ gc, gc = w2.heap.size := ⟨_, rfl⟩
  try rw [← hg]
  have hb : Below w2.heap.size w2 w3 := by rw [hw]; exact Below.new _ _
  have HC3 : Hid (Blk w3 gc #[.int .i64 cx, .int .i64 cy, .int .i64 ca, .int .i64 cb]) := hid (by rw [hw, hg]; exact Blk.new _ _ _)
  have HB3 := hid (Below.next HB2.out hb)
  have hg_gc := hid hg
  have HX3 := hid (HX2.out.below hb)
  clear hw hg hb
  go_wp2_with fail
  go_ret
  exact ⟨by rw [HQK.out]; rfl, HB3.out⟩
set_option maxRecDepth 100000 in
set_option maxHeartbeats 2000000 in
theorem rect_In4 (x y a b ox oy oa ob : Int) (w : World) : Calls Tryz.prog 36 #[.agg #[.int .i64 x, .int .i64 y, .int .i64 a, .int .i64 b], .agg #[.int .i64 ox, .int .i64 oy, .int .i64 oa, .int .i64 ob]] w fun e w' => e = .returned (.bool (decide (InR (x, y, a, b) (ox, oy, oa, ob)))) ∧ Below w.heap.size w w' := by
  have hcm := rect_Common4 x y a b ox oy oa ob
  obtain ⟨c, hc⟩ : ∃ c, commR (x, y, a, b) (ox, oy, oa, ob) = c := ⟨_, rfl⟩
  rw [hc] at hcm
  obtain ⟨qk, hqk⟩ : ∃ q, decide (c ≠ zR) = q := ⟨_, rfl⟩
  rw [hqk] at hcm
  have HQK : Hid (decide (MeetsR (x, y, a, b) (ox, oy, oa, ob)) = qk) := hid (by rw [← hqk, ← hc]; exact decide_eq_decide.2 (commR_meets _ _).symm)
  have HCC := hid hc
  obtain ⟨cx, cy, ca, cb⟩ := c
  simp only [rV] at hcm
  have HCM := hid hcm
  clear hc hcm hqk
  go_enter Tryz.func36, Tryz.ntmps36
  go_upto_region 1 with fail
  generalize hW : World.alloc (World.alloc w _) _ = w1
  obtain ⟨g, hg⟩ : ∃ g, g = w.heap.size := ⟨_, rfl⟩
  obtain ⟨go, hgo⟩ : ∃ go, go = w.heap.size + 1 := ⟨_, rfl⟩
  have hz : (World.alloc w (.cells #[.int .i64 x, .int .i64 y, .int .i64 a, .int .i64 b] 25)).heap.size = w.heap.size + 1 := by simp
  try rw [hz]
  try rw [← hgo]
  try rw [← hg]
  have hb : Below w.heap.size w w1 := by rw [← hW]; exact Below.next (Below.new _ _) (Below.new _ _)
  have HX : Hid (Blk w1 g #[.int .i64 x, .int .i64 y, .int .i64 a, .int .i64 b]) := hid (by rw [← hW, hg]; exact (Blk.new w _ _).below (Below.new _ _))
  have HO : Hid (Blk w1 go #[.int .i64 ox, .int .i64 oy, .int .i64 oa, .int .i64 ob]) := hid (by rw [← hW, hgo, ← hz]; exact Blk.new _ _ _)
  have HB := hid hb
  have HGG : Hid (g = w.heap.size ∧ go = w.heap.size + 1) := hid ⟨hg, hgo⟩
  clear hW hg hgo hz hb
  obtain ⟨x_0, x_1, x_2, x_3⟩ := HX.out.c4r
  obtain ⟨o_0, o_1, o_2, o_3⟩ := HO.out.c4r
  go_wp2_with fail
  refine (HCM.out w1).mono ?_
  rintro e w2 ⟨rfl, hb⟩
  have HB2 := hid (Below.next HB.out hb)
  have HX2 := hid (HX.out.below hb)
  clear hb x_0 x_1 x_2 x_3 o_0 o_1 o_2 o_3
  go_upto_region 2 with fail
  obtain ⟨w3, hw⟩ : ∃ w3, w3 = w2.alloc (.cells #[.int .i64 cx, .int .i64 cy, .int .i64 ca, .int .i64 cb] 25) := ⟨_, rfl⟩
  try rw [← hw]
  obtain ⟨gc, hg⟩ : ∃ gc, gc = w2.heap.size := ⟨_, rfl⟩
  try rw [← hg]
  have hb : Below w2.heap.size w2 w3 := by rw [hw]; exact Below.new _ _
  have HC3 : Hid (Blk w3 gc #[.int .i64 cx, .int .i64 cy, .int .i64 ca, .int .i64 cb]) := hid (by rw [hw, hg]; exact Blk.new _ _ _)
  have HB3 := hid (Below.next HB2.out hb)
  have hg_gc := hid hg
  have HX3 := hid (HX2.out.below hb)
  clear hw hg hb
  cases qk with
  | false =>
    go_wp2_with fail
    go_ret
    exact ⟨by rw [decide_eq_false (fun k => of_decide_eq_false HQK.out (inR_meets k))]; rfl, HB3.out⟩
  | true =>
    obtain ⟨x_0, x_1, x_2, x_3⟩ := HX3.out.c4r
    obtain ⟨c_0, c_1, c_2, c_3⟩ := HC3.out.c4r
    by_cases e0 : cx = x
    · by_cases e1 : cy = y
      · by_cases e2 : ca = a
        · by_cases e3 : cb = b
          · subst e0 e1 e2 e3
            go_wp2_with fail
            go_ret
            exact ⟨by rw [decide_eq_true ((commR_in (of_decide_eq_true HQK.out)).1 HCC.out)]; rfl, HB3.out⟩
          · have e3b : ¬ cb = b := e3
            go_wp2_with fail
            go_ret
            exact ⟨by rw [decide_eq_false (fun k => by have h := (commR_in (of_decide_eq_true HQK.out)).2 k; rw [HCC.out] at h; simp only [Prod.mk.injEq] at h; omega)]; rfl, HB3.out⟩
        · have e2b : ¬ ca = a := e2
          go_wp2_with fail
          go_ret
          exact ⟨by rw [decide_eq_false (fun k => by have h := (commR_in (of_decide_eq_true HQK.out)).2 k; rw [HCC.out] at h; simp only [Prod.mk.injEq] at h; omega)]; rfl, HB3.out⟩
      · have e1b : ¬ cy = y := e1
        go_wp2_with fail
        go_ret
        exact ⟨by rw [decide_eq_false (fun k => by have h := (commR_in (of_decide_eq_true HQK.out)).2 k; rw [HCC.out] at h; simp only [Prod.mk.injEq] at h; omega)]; rfl, HB3.out⟩
    · have e0b : ¬ cx = x := e0
      go_wp2_with fail
      go_ret
      exact ⟨by rw [decide_eq_false (fun k => by have h := (commR_in (of_decide_eq_true HQK.out)).2 k; rw [HCC.out] at h; simp only [Prod.mk.injEq] at h; omega)]; rfl, HB3.out⟩
set_option maxRecDepth 100000 in
set_option maxHeartbeats 4000000 in
theorem rect_Join4 (x y a b ox oy oa ob : Int) (w : World) : Calls Tryz.prog 121 #[.agg #[.int .i64 x, .int .i64 y, .int .i64 a, .int .i64 b], .agg #[.int .i64 ox, .int .i64 oy, .int .i64 oa, .int .i64 ob]] w fun e w' => e = .returned (rV (joinR (x, y, a, b) (ox, oy, oa, ob))) ∧ Below w.heap.size w w' := by
  obtain ⟨q1, h1⟩ : ∃ q1, rightR (x, y, a, b) = q1 := ⟨_, rfl⟩
  obtain ⟨q2, h2⟩ : ∃ q2, rightR (ox, oy, oa, ob) = q2 := ⟨_, rfl⟩
  have Q1 := hid h1
  have Q2 := hid h2
  clear h1 h2
  go_enter Tryz.func121, Tryz.ntmps121
  go_upto_region 1 with fail
  generalize hW : World.alloc (World.alloc (World.alloc w _) _) _ = w1
  obtain ⟨g, hg⟩ : ∃ g, g = w.heap.size := ⟨_, rfl⟩
  obtain ⟨go, hgo⟩ : ∃ go, go = w.heap.size + 1 := ⟨_, rfl⟩
  obtain ⟨gr, hgr⟩ : ∃ gr, gr = w.heap.size + 1 + 1 := ⟨_, rfl⟩
  have hz : (World.alloc w (.cells #[.int .i64 x, .int .i64 y, .int .i64 a, .int .i64 b] 25)).heap.size = w.heap.size + 1 := by simp
  have hz2 : (World.alloc (World.alloc w (.cells #[.int .i64 x, .int .i64 y, .int .i64 a, .int .i64 b] 25)) (.cells #[.int .i64 ox, .int .i64 oy, .int .i64 oa, .int .i64 ob] 25)).heap.size = w.heap.size + 1 + 1 := by simp
  try rw [hz2]
  try rw [hz]
  try rw [← hgr]
  try rw [← hgo]
  try rw [← hg]
  have hb : Below w.heap.size w w1 := by rw [← hW]; exact Below.next (Below.next (Below.new _ _) (Below.new _ _)) (Below.new _ _)
  have HX : Hid (Blk w1 g #[.int .i64 x, .int .i64 y, .int .i64 a, .int .i64 b]) := hid (by rw [← hW, hg]; exact ((Blk.new w _ _).below (Below.new _ _)).below (Below.new _ _))
  have HO : Hid (Blk w1 go #[.int .i64 ox, .int .i64 oy, .int .i64 oa, .int .i64 ob]) := hid (by rw [← hW, hgo, ← hz]; exact (Blk.new _ _ _).below (Below.new _ _))
  have HR : Hid (Blk w1 gr #[.int .i64 0, .int .i64 0, .int .i64 0, .int .i64 0]) := hid (by rw [← hW, hgr, ← hz2]; exact Blk.new _ _ _)
  have HB := hid hb
  have HGG : Hid (g = w.heap.size ∧ go = w.heap.size + 1 ∧ gr = w.heap.size + 2) := hid ⟨hg, hgo, by omega⟩
  clear hW hg hgo hgr hz hz2 hb
  obtain ⟨x_0, x_1, x_2, x_3⟩ := HX.out.c4r
  go_wp2_with fail
  refine (rect_Right4 x y a b q1 Q1 w1).mono ?_
  rintro e w2 ⟨rfl, hb⟩
  have HX2 := hid (HX.out.below hb)
  have HO2 := hid (HO.out.below hb)
  have HR2 := hid (HR.out.below hb)
  have HB2 := hid (Below.next HB.out hb)
  clear hb x_0 x_1 x_2 x_3
  cases q1 with
  | false =>
    obtain ⟨o_0, o_1, o_2, o_3⟩ := HO2.out.c4r
    go_wp2_with fail
    refine (rect_Right4 ox oy oa ob q2 Q2 w2).mono ?_
    rintro e w3 ⟨rfl, hb⟩
    have HX3 := hid (HX2.out.below hb)
    have HO3 := hid (HO2.out.below hb)
    have HR3 := hid (HR2.out.below hb)
    have HB3 := hid (Below.next HB2.out hb)
    clear hb o_0 o_1 o_2 o_3
    cases q2 with
    | false =>
      obtain ⟨w9, hw9, hk9, hu9⟩ := set4r HR3.out (.int .i64 0) (.int .i64 0) (.int .i64 0) (.int .i64 0)
      have HW9 := hid hw9
      have HK9 := hid hk9
      have HB9 := hid (HB3.out.trans (hu9.below HB3.out.size (fun k _ q => by rw [q]; have := HGG.out; omega)))
      clear hw9 hk9 hu9
      obtain ⟨c0, c1, c2, c3⟩ := HR3.out.c4r
      obtain ⟨f0, f1, f2, f3⟩ := HR3.out.f4r
      go_wp2_with fail
      try rw [← HW9.out]
      clear c0 c1 c2 c3 f0 f1 f2 f3
      obtain ⟨z0, z1, z2, z3⟩ := HK9.out.c4r
      refine bodyPost_ret (results_cell1 rfl _ _ _ rfl (by go_simp; rfl)) rfl ?_
      exact ⟨by rw [show joinR (x, y, a, b) (ox, oy, oa, ob) = (0, 0, 0, 0) by unfold joinR; rw [if_neg ((rightR_f _).1 Q1.out), if_neg ((rightR_f _).1 Q2.out)]; rfl]; rfl, HB9.out⟩
    | true =>
      obtain ⟨x_0, x_1, x_2, x_3⟩ := HX3.out.c4r
      go_wp2_with fail
      refine (rect_Right4 x y a b false Q1 w3).mono ?_
      rintro e w4 ⟨rfl, hb⟩
      have HX4 := hid (HX3.out.below hb)
      have HO4 := hid (HO3.out.below hb)
      have HR4 := hid (HR3.out.below hb)
      have HB4 := hid (Below.next HB3.out hb)
      clear hb x_0 x_1 x_2 x_3
      obtain ⟨o_0, o_1, o_2, o_3⟩ := HO4.out.c4r
      obtain ⟨w9, hw9, hk9, hu9⟩ := set4r HR4.out (.int .i64 ox) (.int .i64 oy) (.int .i64 oa) (.int .i64 ob)
      have HW9 := hid hw9
      have HK9 := hid hk9
      have HB9 := hid (HB4.out.trans (hu9.below HB4.out.size (fun k _ q => by rw [q]; have := HGG.out; omega)))
      clear hw9 hk9 hu9
      obtain ⟨c0, c1, c2, c3⟩ := HR4.out.c4r
      obtain ⟨f0, f1, f2, f3⟩ := HR4.out.f4r
      go_wp2_with fail
      try rw [← HW9.out]
      clear c0 c1 c2 c3 f0 f1 f2 f3
      obtain ⟨z0, z1, z2, z3⟩ := HK9.out.c4r
      refine bodyPost_ret (results_cell1 rfl _ _ _ rfl (by go_simp; rfl)) rfl ?_
      exact ⟨by rw [show joinR (x, y, a, b) (ox, oy, oa, ob) = (ox, oy, oa, ob) by unfold joinR; rw [if_neg ((rightR_f _).1 Q1.out), if_pos ((rightR_iff _).1 Q2.out)]]; rfl, HB9.out⟩
  | true =>
    obtain ⟨x_0, x_1, x_2, x_3⟩ := HX2.out.c4r
    go_wp2_with fail
    refine (rect_Right4 x y a b true Q1 w2).mono ?_
    rintro e w3 ⟨rfl, hb⟩
    have HX3 := hid (HX2.out.below hb)
    have HO3 := hid (HO2.out.below hb)
    have HR3 := hid (HR2.out.below hb)
    have HB3 := hid (Below.next HB2.out hb)
    clear hb x_0 x_1 x_2 x_3
    obtain ⟨o_0, o_1, o_2, o_3⟩ := HO3.out.c4r
    go_wp2_with fail
    refine (rect_Right4 ox oy oa ob q2 Q2 w3).mono ?_
    rintro e w4 ⟨rfl, hb⟩
    have HX4 := hid (HX3.out.below hb)
    have HO4 := hid (HO3.out.below hb)
    have HR4 := hid (HR3.out.below hb)
    have HB4 := hid (Below.next HB3.out hb)
    clear hb o_0 o_1 o_2 o_3
    cases q2 with
    | false =>
      obtain ⟨x_0, x_1, x_2, x_3⟩ := HX4.out.c4r
      obtain ⟨w9, hw9, hk9, hu9⟩ := set4r HR4.out (.int .i64 x) (.int .i64 y) (.int .i64 a) (.int .i64 b)
      have HW9 := hid hw9
      have HK9 := hid hk9
      have HB9 := hid (HB4.out.trans (hu9.below HB4.out.size (fun k _ q => by rw [q]; have := HGG.out; omega)))
      clear hw9 hk9 hu9
      obtain ⟨c0, c1, c2, c3⟩ := HR4.out.c4r
      obtain ⟨f0, f1, f2, f3⟩ := HR4.out.f4r
      go_wp2_with fail
      try rw [← HW9.out]
      clear c0 c1 c2 c3 f0 f1 f2 f3
      obtain ⟨z0, z1, z2, z3⟩ := HK9.out.c4r
      refine bodyPost_ret (results_cell1 rfl _ _ _ rfl (by go_simp; rfl)) rfl ?_
      exact ⟨by rw [show joinR (x, y, a, b) (ox, oy, oa, ob) = (x, y, a, b) by unfold joinR; rw [if_pos ((rightR_iff _).1 Q1.out), if_neg ((rightR_f _).1 Q2.out)]]; rfl, HB9.out⟩
    | true =>
      have HRa := hid ((rightR_iff (x, y, a, b)).1 Q1.out)
      have HRb := hid ((rightR_iff (ox, oy, oa, ob)).1 Q2.out)
      obtain ⟨hA1, hA2, hA3, hA4, hA5, hA6, hA7, hA8⟩ := HRa.out
      obtain ⟨hB1, hB2, hB3, hB4, hB5, hB6, hB7, hB8⟩ := HRb.out
      simp only at hA1 hA2 hA3 hA4 hA5 hA6 hA7 hA8 hB1 hB2 hB3 hB4 hB5 hB6 hB7 hB8
      obtain ⟨m1, hm1⟩ : ∃ m, min x ox = m := ⟨_, rfl⟩
      obtain ⟨m2, hm2⟩ : ∃ m, min y oy = m := ⟨_, rfl⟩
      obtain ⟨m3, hm3⟩ : ∃ m, max (x + a) (ox + oa) = m := ⟨_, rfl⟩
      obtain ⟨m4, hm4⟩ : ∃ m, max (y + b) (oy + ob) = m := ⟨_, rfl⟩
      obtain ⟨q, hq⟩ : ∃ q, betwR m1 m2 m3 m4 = q := ⟨_, rfl⟩
      have HQC : Hid (joinR (x, y, a, b) (ox, oy, oa, ob) = q) := hid (by unfold joinR; rw [if_pos HRa.out, if_pos HRb.out]; simp only; rw [hm1, hm2, hm3, hm4]; exact hq)
      have HBT := rect_between m1 m2 m3 m4 q (hid hq) (by omega)
      clear hq
      obtain ⟨qx, qy, qa, qb⟩ := q
      simp only [rV] at HBT
      have e1 : (if ox < x then ox else x) = m1 := by rw [← hm1]; split <;> omega
      have e2 : (if oy < y then oy else y) = m2 := by rw [← hm2]; split <;> omega
      have e3 : (if x + a < ox + oa then ox + oa else x + a) = m3 := by rw [← hm3]; split <;> omega
      have e4 : (if y + b < oy + ob then oy + ob else y + b) = m4 := by rw [← hm4]; split <;> omega
      clear hA1 hA2 hA3 hA4 hA5 hA6 hA7 hA8 hB1 hB2 hB3 hB4 hB5 hB6 hB7 hB8
      have HE := hid (And.intro e1 (And.intro e2 (And.intro e3 e4)))
      have HBT := hid HBT
      clear e1 e2 e3 e4 hm1 hm2 hm3 hm4
      obtain ⟨x_0, x_1, x_2, x_3⟩ := HX4.out.c4r
      go_wp2_with fail
      refine (rect_ends4 x y a b HRa.out w4).mono ?_
      rintro e w5 ⟨rfl, hb⟩
      have HX5 := hid (HX4.out.below hb)
      have HO5 := hid (HO4.out.below hb)
      have HR5 := hid (HR4.out.below hb)
      have HB5 := hid (Below.next HB4.out hb)
      clear hb x_0 x_1 x_2 x_3
      obtain ⟨o_0, o_1, o_2, o_3⟩ := HO5.out.c4r
      go_wp2_with fail
      refine (rect_ends4 ox oy oa ob HRb.out w5).mono ?_
      rintro e w6 ⟨rfl, hb⟩
      have HX6 := hid (HX5.out.below hb)
      have HO6 := hid (HO5.out.below hb)
      have HR6 := hid (HR5.out.below hb)
      have HB6 := hid (Below.next HB5.out hb)
      clear hb o_0 o_1 o_2 o_3
      obtain ⟨e1, e2, e3, e4⟩ := HE.out
      obtain ⟨x_0, x_1, x_2, x_3⟩ := HX6.out.c4r
      obtain ⟨o_0, o_1, o_2, o_3⟩ := HO6.out.c4r
      go_wp2_with fail
      refine (HBT.out _).mono ?_
      rintro e w7 ⟨rfl, hb⟩
      have HX7 := hid (HX6.out.below hb)
      have HO7 := hid (HO6.out.below hb)
      have HR7 := hid (HR6.out.below hb)
      have HB7 := hid (Below.next HB6.out hb)
      clear hb e1 e2 e3 e4 x_0 x_1 x_2 x_3 o_0 o_1 o_2 o_3
      obtain ⟨w9, hw9, hk9, hu9⟩ := set4r HR7.out (.int .i64 qx) (.int .i64 qy) (.int .i64 qa) (.int .i64 qb)
      have HW9 := hid hw9
      have HK9 := hid hk9
      have HB9 := hid (HB7.out.trans (hu9.below HB7.out.size (fun k _ q => by rw [q]; have := HGG.out; omega)))
      clear hw9 hk9 hu9
      obtain ⟨c0, c1, c2, c3⟩ := HR7.out.c4r
      obtain ⟨f0, f1, f2, f3⟩ := HR7.out.f4r
      go_wp2_with fail
      try rw [← HW9.out]
      clear c0 c1 c2 c3 f0 f1 f2 f3
      obtain ⟨z0, z1, z2, z3⟩ := HK9.out.c4r
      refine bodyPost_ret (results_cell1 rfl _ _ _ rfl (by go_simp; rfl)) rfl ?_
      exact ⟨by rw [show joinR (x, y, a, b) (ox, oy, oa, ob) = (qx, qy, qa, qb) by exact HQC.out]; rfl, HB9.out⟩
set_option maxRecDepth 100000 in
theorem rect_Area4 (x y a b : Int) (w : World) : Calls Tryz.prog 51 #[.agg #[.int .i64 x, .int .i64 y, .int .i64 a, .int .i64 b]] w fun e w' => e = .returned (.int .i64 (areaR (x, y, a, b))) ∧ Below w.heap.size w w' := by
  obtain ⟨q1, h1⟩ : ∃ q1, rightR (x, y, a, b) = q1 := ⟨_, rfl⟩
  have Q1 := hid h1
  clear h1
  go_enter Tryz.func51, Tryz.ntmps51
  go_upto_region 1 with fail
  obtain ⟨w1, hw⟩ : ∃ w1, w1 = w.alloc (.cells #[.int .i64 x, .int .i64 y, .int .i64 a, .int .i64 b] 25) := ⟨_, rfl⟩
  try rw [← hw]
  obtain ⟨g, hg⟩ : ∃ g, g = w.heap.size := ⟨_, rfl⟩
  try rw [← hg]
  have hb : Below w.heap.size w w1 := by rw [hw]; exact Below.new _ _
  have HX : Hid (Blk w1 g #[.int .i64 x, .int .i64 y, .int .i64 a, .int .i64 b]) := hid (by rw [hw, hg]; exact Blk.new _ _ _)
  have HB := hid (hb)
  have hg_g := hid hg
  clear hw hg hb
  obtain ⟨x_0, x_1, x_2, x_3⟩ := HX.out.c4r
  go_wp2_with fail
  refine (rect_Right4 x y a b q1 Q1 w1).mono ?_
  rintro e w2 ⟨rfl, hb⟩
  have HX2 := hid (HX.out.below hb)
  have HB2 := hid (Below.next HB.out hb)
  clear hb x_0 x_1 x_2 x_3
  cases q1 with
  | false =>
    go_wp2_with fail
    go_ret
    exact ⟨by unfold areaR; rw [if_neg ((rightR_f _).1 Q1.out)]; rfl, HB2.out⟩
  | true =>
    have hr := (rightR_iff _).1 Q1.out
    have hm : 0 ≤ a * b ∧ a * b ≤ 65536 := by
      unfold RightR at hr
      simp only at hr
      refine ⟨Int.mul_nonneg (by omega) (by omega), ?_⟩
      have : a * b ≤ 256 * 256 := Int.mul_le_mul (by omega) (by omega) (by omega) (by omega)
      omega
    have hw1 : IntKind.i64.wrap (a * b) = a * b := by rw [IntKind.wrap_i64]; omega
    clear hr hm
    obtain ⟨-, -, x_2, x_3⟩ := HX2.out.c4r
    go_wp2_with fail
    go_ret
    exact ⟨by unfold areaR; rw [if_pos ((rightR_iff _).1 Q1.out)]; rfl, HB2.out⟩
theorem areaR_bd (r : R4) : 0 ≤ areaR r ∧ areaR r ≤ 65536 := by
  unfold areaR
  by_cases h : RightR r
  · rw [if_pos h]
    unfold RightR at h
    refine ⟨Int.mul_nonneg (by omega) (by omega), ?_⟩
    have : r.2.2.1 * r.2.2.2 ≤ 256 * 256 := Int.mul_le_mul (by omega) (by omega) (by omega) (by omega)
    omega
  · rw [if_neg h]; omega
set_option maxRecDepth 100000 in
set_option maxHeartbeats 1000000 in
theorem rect_Growth4 (x y a b ox oy oa ob : Int) (w : World) : Calls Tryz.prog 118 #[.agg #[.int .i64 x, .int .i64 y, .int .i64 a, .int .i64 b], .agg #[.int .i64 ox, .int .i64 oy, .int .i64 oa, .int .i64 ob]] w fun e w' => ∃ n : Int, e = .returned (.int .i64 n) ∧ -65536 ≤ n ∧ n ≤ 65536 ∧ Below w.heap.size w w' := by
  obtain ⟨q, hq⟩ : ∃ q, joinR (x, y, a, b) (ox, oy, oa, ob) = q := ⟨_, rfl⟩
  have hj := rect_Join4 x y a b ox oy oa ob
  rw [hq] at hj
  have h1 := areaR_bd q
  have h2 := areaR_bd (x, y, a, b)
  obtain ⟨n1, hn1⟩ : ∃ n, areaR q = n := ⟨_, rfl⟩
  obtain ⟨n2, hn2⟩ : ∃ n, areaR (x, y, a, b) = n := ⟨_, rfl⟩
  rw [hn1] at h1
  rw [hn2] at h2
  obtain ⟨qx, qy, qa, qb⟩ := q
  simp only [rV] at hj
  have ha1 := rect_Area4 qx qy qa qb
  rw [hn1] at ha1
  have ha2 := rect_Area4 x y a b
  rw [hn2] at ha2
  have hw1 : IntKind.i64.wrap (n1 - n2) = n1 - n2 := by rw [IntKind.wrap_i64]; omega
  have HJ := hid hj
  have HA1 := hid ha1
  have HA2 := hid ha2
  have HN := hid (And.intro h1 h2)
  clear hq hj h1 h2 hn1 hn2 ha1 ha2
  go_enter Tryz.func118, Tryz.ntmps118
  go_upto_region 1 with fail
  generalize hW : World.alloc (World.alloc w _) _ = w1
  obtain ⟨g, hg⟩ : ∃ g, g = w.heap.size := ⟨_, rfl⟩
  obtain ⟨go, hgo⟩ : ∃ go, go = w.heap.size + 1 := ⟨_, rfl⟩
  have hz : (World.alloc w (.cells #[.int .i64 x, .int .i64 y, .int .i64 a, .int .i64 b] 25)).heap.size = w.heap.size + 1 := by simp
  try rw [hz]
  try rw [← hgo]
  try rw [← hg]
  have hb : Below w.heap.size w w1 := by rw [← hW]; exact Below.next (Below.new _ _) (Below.new _ _)
  have HX : Hid (Blk w1 g #[.int .i64 x, .int .i64 y, .int .i64 a, .int .i64 b]) := hid (by rw [← hW, hg]; exact (Blk.new w _ _).below (Below.new _ _))
  have HO : Hid (Blk w1 go #[.int .i64 ox, .int .i64 oy, .int .i64 oa, .int .i64 ob]) := hid (by rw [← hW, hgo, ← hz]; exact Blk.new _ _ _)
  have HB := hid hb
  have HGG : Hid (g = w.heap.size ∧ go = w.heap.size + 1) := hid ⟨hg, hgo⟩
  clear hW hg hgo hz hb
  have c0 : ∀ z, Below w1.heap.size w1 z → z.cell? ⟨g, 0, none⟩ = some (.int .i64 x) := fun z hz => by rw [(HX.out.below hz).cell]; rfl
  have c1 : ∀ z, Below w1.heap.size w1 z → z.cell? ⟨g, 1, none⟩ = some (.int .i64 y) := fun z hz => by rw [(HX.out.below hz).cell]; rfl
  have c2 : ∀ z, Below w1.heap.size w1 z → z.cell? ⟨g, 2, none⟩ = some (.int .i64 a) := fun z hz => by rw [(HX.out.below hz).cell]; rfl
  have c3 : ∀ z, Below w1.heap.size w1 z → z.cell? ⟨g, 3, none⟩ = some (.int .i64 b) := fun z hz => by rw [(HX.out.below hz).cell]; rfl
  have d0 : ∀ z, Below w1.heap.size w1 z → z.cell? ⟨go, 0, none⟩ = some (.int .i64 ox) := fun z hz => by rw [(HO.out.below hz).cell]; rfl
  have d1 : ∀ z, Below w1.heap.size w1 z → z.cell? ⟨go, 1, none⟩ = some (.int .i64 oy) := fun z hz => by rw [(HO.out.below hz).cell]; rfl
  have d2 : ∀ z, Below w1.heap.size w1 z → z.cell? ⟨go, 2, none⟩ = some (.int .i64 oa) := fun z hz => by rw [(HO.out.below hz).cell]; rfl
  have d3 : ∀ z, Below w1.heap.size w1 z → z.cell? ⟨go, 3, none⟩ = some (.int .i64 ob) := fun z hz => by rw [(HO.out.below hz).cell]; rfl
  have hyd := (Below.refl w1.heap.size w1).drew
  refine wp_region_kept [7] (fun z => Below w1.heap.size w1 z) (by kernel_rfl) (by assumption) (fun hH => ?_)
  refine wpK.take (i := 0) (v := _) (by simp only [List.getElem?_toArray, List.getElem?_cons_succ, List.getElem?_cons_zero]; rfl) (by kernel_rfl) (by kernel_rfl) (by kernel_rfl) (by kernel_rfl) (by kernel_rfl) (by exact fun _ _ _ h => h) (by first | exact Or.inl ⟨by rfl, by intro w hSw; go_simp; try with_reducible rfl⟩ | exact Or.inr ⟨by rfl, rfl⟩) hH ?_
  try simp only [Act.put, List.setIfInBounds_toArray, List.set_cons_zero, List.set_cons_succ]
  refine wpK.take (i := 1) (v := _) (by simp only [List.getElem?_toArray, List.getElem?_cons_succ, List.getElem?_cons_zero]; rfl) (by kernel_rfl) (by kernel_rfl) (by kernel_rfl) (by kernel_rfl) (by kernel_rfl) (by exact fun _ _ _ h => h) (by first | exact Or.inl ⟨by rfl, by intro w hSw; go_simp; try with_reducible rfl⟩ | exact Or.inr ⟨by rfl, rfl⟩) hH ?_
  try simp only [Act.put, List.setIfInBounds_toArray, List.set_cons_zero, List.set_cons_succ]
  refine wpK.take (i := 4) (v := _) (by simp only [List.getElem?_toArray, List.getElem?_cons_succ, List.getElem?_cons_zero]; rfl) (by kernel_rfl) (by kernel_rfl) (by kernel_rfl) (by kernel_rfl) (by kernel_rfl) (by exact fun _ _ _ h => h) (by first | exact Or.inl ⟨by rfl, by intro w hSw; go_simp; try with_reducible rfl⟩ | exact Or.inr ⟨by rfl, rfl⟩) hH ?_
  try simp only [Act.put, List.setIfInBounds_toArray, List.set_cons_zero, List.set_cons_succ]
  refine wpK.step (i := 2) (by kernel_rfl) (by simp only [List.getElem?_toArray, List.getElem?_cons_succ, List.getElem?_cons_zero]; rfl) (fun K hK => ?_)
  go_simp
  (refine (HJ.out _).mono ?_); rintro e w2 ⟨rfl, hb2⟩; (have hk2 := Below.next hyd hb2); go_simp
  refine hK.out _ _ (by assumption) (fun hH => ?_)
  clear hK K
  try simp only [Act.put, List.setIfInBounds_toArray, List.set_cons_zero, List.set_cons_succ]
  refine wpK.step (i := 3) (by kernel_rfl) (by simp only [List.getElem?_toArray, List.getElem?_cons_succ, List.getElem?_cons_zero]; rfl) (fun K hK => ?_)
  go_simp
  (refine (HA1.out _).mono ?_); rintro e w3 ⟨rfl, hb3⟩; (have hk3 := Below.next hk2 hb3); go_simp
  refine hK.out _ _ (by assumption) (fun hH => ?_)
  clear hK K
  try simp only [Act.put, List.setIfInBounds_toArray, List.set_cons_zero, List.set_cons_succ]
  refine wpK.step (i := 5) (by kernel_rfl) (by simp only [List.getElem?_toArray, List.getElem?_cons_succ, List.getElem?_cons_zero]; rfl) (fun K hK => ?_)
  go_simp
  (refine (HA2.out _).mono ?_); rintro e w4 ⟨rfl, hb4⟩; (have hk4 := Below.next hk3 hb4); go_simp
  refine hK.out _ _ (by assumption) (fun hH => ?_)
  clear hK K
  try simp only [Act.put, List.setIfInBounds_toArray, List.set_cons_zero, List.set_cons_succ]
  refine wpK.take (i := 6) (v := _) (by simp only [List.getElem?_toArray, List.getElem?_cons_succ, List.getElem?_cons_zero]; rfl) (by kernel_rfl) (by kernel_rfl) (by kernel_rfl) (by kernel_rfl) (by kernel_rfl) (by exact fun _ _ _ h => h) (by first | exact Or.inl ⟨by rfl, by intro w hSw; go_simp; try with_reducible rfl⟩ | exact Or.inr ⟨by rfl, rfl⟩) hH ?_
  try simp only [Act.put, List.setIfInBounds_toArray, List.set_cons_zero, List.set_cons_succ]
  refine wpK.late (i := 7) (by kernel_rfl) (by simp only [List.getElem?_toArray, List.getElem?_cons_succ, List.getElem?_cons_zero]; rfl) (by kernel_rfl) (fun K hK => ?_)
  go_simp
  refine hK.out _ _ ?_
  clear hK K
  try simp only [Act.put, List.setIfInBounds_toArray, List.set_cons_zero, List.set_cons_succ]
  refine wpK.done (by kernel_rfl) ?_ _
  go_wp2_with fail
  go_ret
  exact ⟨n1 - n2, rfl, by have := HN.out; omega, by have := HN.out; omega, Below.next HB.out hk4⟩
set_option maxRecDepth 100000 in
set_option maxHeartbeats 1000000 in
theorem rect_Holds4 (x y a b px py : Int) (w : World) : Calls Tryz.prog 58 #[.agg #[.int .i64 x, .int .i64 y, .int .i64 a, .int .i64 b], .int .i64 px, .int .i64 py] w fun e w' => e = .returned (.bool (decide (HoldsR (x, y, a, b) px py))) ∧ Below w.heap.size w w' := by
  obtain ⟨q1, h1⟩ : ∃ q1, rightR (x, y, a, b) = q1 := ⟨_, rfl⟩
  have Q1 := hid h1
  clear h1
  go_enter Tryz.func58, Tryz.ntmps58
  go_upto_region 1 with fail
  obtain ⟨w1, hw⟩ : ∃ w1, w1 = w.alloc (.cells #[.int .i64 x, .int .i64 y, .int .i64 a, .int .i64 b] 25) := ⟨_, rfl⟩
  try rw [← hw]
  obtain ⟨g, hg⟩ : ∃ g, g = w.heap.size := ⟨_, rfl⟩
  try rw [← hg]
  have hb : Below w.heap.size w w1 := by rw [hw]; exact Below.new _ _
  have HX : Hid (Blk w1 g #[.int .i64 x, .int .i64 y, .int .i64 a, .int .i64 b]) := hid (by rw [hw, hg]; exact Blk.new _ _ _)
  have HB := hid (hb)
  have hg_g := hid hg
  clear hw hg hb
  obtain ⟨x_0, x_1, x_2, x_3⟩ := HX.out.c4r
  go_wp2_with fail
  refine (rect_Right4 x y a b q1 Q1 w1).mono ?_
  rintro e w2 ⟨rfl, hb⟩
  have HX2 := hid (HX.out.below hb)
  have HB2 := hid (Below.next HB.out hb)
  clear hb x_0 x_1 x_2 x_3
  cases q1 with
  | false =>
    go_wp2_with fail
    go_ret
    exact ⟨by rw [decide_eq_false (fun k => (rightR_f _).1 Q1.out k.1)]; rfl, HB2.out⟩
  | true =>
    have HR := hid ((rightR_iff _).1 Q1.out)
    obtain ⟨x_0, x_1, x_2, x_3⟩ := HX2.out.c4r
    go_wp2_with fail
    refine (rect_ends4 x y a b HR.out w2).mono ?_
    rintro e w3 ⟨rfl, hb⟩
    have HX3 := hid (HX2.out.below hb)
    have HB3 := hid (Below.next HB2.out hb)
    clear hb x_0 x_1 x_2 x_3
    obtain ⟨x_0, x_1, x_2, x_3⟩ := HX3.out.c4r
    by_cases h1 : x ≤ px
    · by_cases h2 : px < x + a
      · by_cases h3 : y ≤ py
        · by_cases h4 : py < y + b
          · go_wp2_with fail
            go_ret
            exact ⟨by rw [decide_eq_true (p := HoldsR (x, y, a, b) px py) (⟨HR.out, by (try simp only); omega, by (try simp only); omega, by (try simp only); omega, by (try simp only); omega⟩)]; first | rfl | (simp; omega), HB3.out⟩
          · go_wp2_with fail
            go_ret
            exact ⟨by rw [decide_eq_false (p := HoldsR (x, y, a, b) px py) (fun k => by obtain ⟨-, k1, k2, k3, k4⟩ := k; simp only at k1 k2 k3 k4; omega)]; first | rfl | (simp; omega), HB3.out⟩
        · go_wp2_with fail
          go_ret
          exact ⟨by rw [decide_eq_false (p := HoldsR (x, y, a, b) px py) (fun k => by obtain ⟨-, k1, k2, k3, k4⟩ := k; simp only at k1 k2 k3 k4; omega)]; first | rfl | (simp; omega), HB3.out⟩
      · go_wp2_with fail
        go_ret
        exact ⟨by rw [decide_eq_false (p := HoldsR (x, y, a, b) px py) (fun k => by obtain ⟨-, k1, k2, k3, k4⟩ := k; simp only at k1 k2 k3 k4; omega)]; first | rfl | (simp; omega), HB3.out⟩
    · go_wp2_with fail
      go_ret
      exact ⟨by rw [decide_eq_false (p := HoldsR (x, y, a, b) px py) (fun k => by obtain ⟨-, k1, k2, k3, k4⟩ := k; simp only at k1 k2 k3 k4; omega)]; first | rfl | (simp; omega), HB3.out⟩
end Go.Proofs.YtjbnfppnmljbmaaGreat
end
