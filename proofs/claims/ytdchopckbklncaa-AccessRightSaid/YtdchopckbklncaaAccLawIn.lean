/- deedholdlaw18.AccessRight for the lists 1, 2, 3. -/
import Derived.Test.YtdchopckbklncaaAccLawNo
import Derived.Test.YtdchopckbklncaaAccEq
namespace Go.Proofs.Ytdchopckbklncaa
open Go.RowKit
open Go.Lib (hid)
set_option linter.unusedVariables false

set_option maxRecDepth 100000 in
set_option maxHeartbeats 4000000 in
theorem law18_Right_1 (o : Int) (lc lf lb : List Int) (vc vf vb : Value) (w : World) (hc : SlI w vc lc) (hf : SlI w vf lf) (hb : SlI w vb lb) (HBL : Hid ((decide (lc.length ≤ 40) && decide (lf.length ≤ 40) && decide (lb.length ≤ 40)) = true)) :
    Calls Try.prog 13 #[.agg #[.int .i64 o, vc, vf, vb], .int .i64 1] w fun e w' => e = .returned (.bool true) ∧ Below w.heap.size w w' := by
  have HC := hid hc
  have HF := hid hf
  have HBB := hid hb
  have HLEN40 : Hid (lc.length ≤ 40) := hid (by have := HBL.out; simp at this; omega)
  obtain ⟨bb, hbb⟩ : ∃ bb, (rightL lc o && (rightL lf o && (rightL lb o && (decide (1 ≤ o) && decide (o ≤ 256))))) = bb := ⟨_, rfl⟩
  have HR := hid hbb
  have HR2 : Hid (((decide (1 ≤ o) && decide (o ≤ 256)) && rightL lc o && rightL lf o && rightL lb o) = bb) := hid (by rw [← hbb]; cases rightL lc o <;> cases rightL lf o <;> cases rightL lb o <;> simp)
  obtain ⟨ac, cc, rfl, -⟩ := hc
  obtain ⟨af, cf, rfl, -⟩ := hf
  obtain ⟨ab, cb, rfl, -⟩ := hb
  obtain ⟨w0, hw0⟩ : ∃ w0, w0 = w.alloc (.cells #[.int .i64 o, .slice ac lc.length cc, .slice af lf.length cf, .slice ab lb.length cb] 69) := ⟨_, rfl⟩
  have HW0 := hid hw0
  have HB0 : Hid (Below w.heap.size w w0) := hid (by rw [hw0]; exact Below.new _ _)
  have K0 : Hid (Blk w0 w.heap.size #[.int .i64 o, .slice ac lc.length cc, .slice af lf.length cf, .slice ab lb.length cb]) := hid (by rw [hw0]; exact Blk.new _ _ _)
  clear hbb hw0
  go_enter Try.func13, Try.ntmps13
  go_wp2_with fail
  rw [← HW0.out]
  refine (law18_small o lc lf lb _ _ _ _ (HC.out.below HB0.out) (HF.out.below HB0.out) (HBB.out.below HB0.out) true HBL).mono ?_
  rintro e w1 ⟨rfl, hb1⟩
  have HB1 := hid (Below.next HB0.out hb1)
  have K1 := hid (K0.out.below hb1)
  obtain ⟨w2, hw2⟩ : ∃ w2, w2 = w1.alloc (.cells #[.slice ac lc.length cc, .slice af lf.length cf, .slice ab lb.length cb] 89) := ⟨_, rfl⟩
  have hb2 : Below w1.heap.size w1 w2 := by rw [hw2]; exact Below.new _ _
  have A2 : Hid (Blk w2 w1.heap.size #[.slice ac lc.length cc, .slice af lf.length cf, .slice ab lb.length cb]) := hid (by rw [hw2]; exact Blk.new _ _ _)
  have HB2 := hid (Below.next HB1.out hb2)
  have K2 := hid (K1.out.below hb2)
  obtain ⟨hy0, hy1, hy2, hy3, -⟩ := K1.out.c4
  obtain ⟨hx0, hx1, hx2, hx3, -⟩ := K2.out.c4
  rw [hw2] at hx0 hx1 hx2 hx3
  have HW2 := hid hw2
  clear hb1 hb2 hw2
  go_wp2_with fail
  rw [← HW2.out]
  refine (acc_Lists1 o lc lf lb _ _ _ w2 (HC.out.below HB2.out) (HF.out.below HB2.out) (HBB.out.below HB2.out) (by have := HLEN40.out; omega)).mono ?_
  rintro e w3 ⟨v, rfl, hown, hb3⟩
  have HOWN := hid hown
  have HS3 : Hid (SlI w3 v lc) := hid (SlI.of_own hown)
  obtain ⟨va, vcap, rfl, -, -, -, -⟩ := ownsRow.rd hown
  have HB3 := hid (Below.next HB2.out hb3)
  have HB23 := hid hb3
  have ha3 : w3.cell? ⟨w1.heap.size, 0, none⟩ = some (.slice ac lc.length cc) := by rw [(A2.out.below hb3).cell]; rfl
  clear hown hb3 hx0 hx1 hx2 hx3 hy0 hy1 hy2 hy3
  go_wp2_with fail
  refine (law18_same lc lc _ _ w3 HS3.out (HC.out.below HB3.out) true (hid (by simp))).mono ?_
  rintro e w4 ⟨rfl, hb4⟩
  have HB24 := hid (Below.next HB23.out hb4)
  have HOWN4 : Hid (w4.ownsRow w2.heap.size 3 1 (.slice va lc.length vcap) lc.length (iv lc)) := hid (owns_below HOWN.out hb4)
  clear hb4 ha3
  go_wp2_with fail
  go_loopw [7, 50] (fun v7 v50 wr => ∃ (j : Nat) (xs : List Int), v50 = .int .i64 j ∧ j ≤ lc.length ∧ Hid (wr.ownsRow w2.heap.size 3 1 (.slice va lc.length vcap) lc.length (iv xs)) ∧ Hid (Below w2.heap.size w2 wr)) (fun _ v50 _ => lc.length - (intOf v50).toNat)
  case atStart => exact ⟨0, lc, rfl, by omega, HOWN4, HB24⟩
  case round =>
    clear HOWN HOWN4 HB24
    obtain ⟨j, xs, rfl, hj, HO, HBr⟩ := hrel
    by_cases hlt : j < lc.length
    · obtain ⟨gv, cv, e⟩ := Joins.ownsRow_form HO.out (by omega)
      simp only [Value.slice.injEq, true_and] at e
      obtain ⟨rfl, rfl⟩ := e
      have hxl : xs.length = lc.length := by have := HO.out.1; simp [iv] at this; omega
      obtain ⟨x, hx⟩ : ∃ x, xs[j]? = some x := ⟨_, List.getElem?_eq_getElem (by omega)⟩
      have hc1 : wr.cell? ⟨gv, j, none⟩ = some (.int .i64 x) := by
        rw [HO.out.cellAt j (by omega)]
        simp [iv, hx]
      have hf1 := HO.out.frozenAt j
      have e0 : (0 : Int) ≤ (j : Int) := by omega
      have e1 : (j : Int) < (lc.length : Int) := by omega
      have e2 : (j : Int) < 40 := by have := HLEN40.out; omega
      have hst := (HO.out.stored j (.int .i64 (wrap64 (x + 1)))).1
      rw [show (iv xs).set j (.int .i64 (wrap64 (x + 1))) = iv (xs.set j (wrap64 (x + 1))) by simp [iv]] at hst
      have HST := hid hst
      have HBS := hid (HBr.out.setCell (p := ⟨gv, j, none⟩) ((HO.out.lt gv rfl).1) (.int .i64 (wrap64 (x + 1))))
      clear hst hxl hx
      go_wp2_with fail
      go_roundw
      case rel => exact ⟨j + 1, _, by go_num, by omega, HST, HBS⟩
      case measure => simp [intOf]; omega
    · have HBR := hid (Below.trans HB2.out (HBr.out.mono HB2.out.size))
      have KR := hid (K2.out.below HBr.out)
      have AR := hid (A2.out.below HBr.out)
      have hq0 : ∀ x, Below wr.heap.size wr x → x.cell? ⟨w.heap.size, 0, none⟩ = some (.int .i64 o) := fun x hb => (KR.out.below hb).c4.1
      have hq1 : ∀ x, Below wr.heap.size wr x → x.cell? ⟨w.heap.size, 1, none⟩ = some (.slice ac lc.length cc) := fun x hb => (KR.out.below hb).c4.2.1
      have hq2 : ∀ x, Below wr.heap.size wr x → x.cell? ⟨w.heap.size, 2, none⟩ = some (.slice af lf.length cf) := fun x hb => (KR.out.below hb).c4.2.2.1
      have hq3 : ∀ x, Below wr.heap.size wr x → x.cell? ⟨w.heap.size, 3, none⟩ = some (.slice ab lb.length cb) := fun x hb => (KR.out.below hb).c4.2.2.2.1
      have hqa : ∀ x, Below wr.heap.size wr x → x.cell? ⟨w1.heap.size, 0, none⟩ = some (.slice ac lc.length cc) := fun x hb => by rw [(AR.out.below hb).cell]; rfl
      clear HO HBr
      go_wp2_with fail
      have hk0 := (Below.refl wr.heap.size wr).drew
      have hoo : (o == o) = true := by simp
      have hwp : IntKind.i64.wrap 0 = 0 := by rw [IntKind.wrap_i64]; rfl
      refine wp_region_kept [23] (fun x => Below wr.heap.size wr x) (by kernel_rfl) (by assumption) (fun hH => ?_)
      refine wpK.take (i := 0) (v := _) (by simp only [List.getElem?_toArray, List.getElem?_cons_succ, List.getElem?_cons_zero]; rfl) (by kernel_rfl) (by kernel_rfl) (by kernel_rfl) (by kernel_rfl) (by kernel_rfl) (by exact fun _ _ _ h => h) (by first | exact Or.inl ⟨by rfl, by intro w hSw; go_simp; try with_reducible rfl⟩ | exact Or.inr ⟨by rfl, rfl⟩) hH ?_
      try simp only [Act.put, List.setIfInBounds_toArray, List.set_cons_zero, List.set_cons_succ]
      refine wpK.take (i := 1) (v := _) (by simp only [List.getElem?_toArray, List.getElem?_cons_succ, List.getElem?_cons_zero]; rfl) (by kernel_rfl) (by kernel_rfl) (by kernel_rfl) (by kernel_rfl) (by kernel_rfl) (by exact fun _ _ _ h => h) (by first | exact Or.inl ⟨by rfl, by intro w hSw; go_simp; try with_reducible rfl⟩ | exact Or.inr ⟨by rfl, rfl⟩) hH ?_
      try simp only [Act.put, List.setIfInBounds_toArray, List.set_cons_zero, List.set_cons_succ]
      refine wpK.take (i := 3) (v := _) (by simp only [List.getElem?_toArray, List.getElem?_cons_succ, List.getElem?_cons_zero]; rfl) (by kernel_rfl) (by kernel_rfl) (by kernel_rfl) (by kernel_rfl) (by kernel_rfl) (by exact fun _ _ _ h => h) (by first | exact Or.inl ⟨by rfl, by intro w hSw; go_simp; try with_reducible rfl⟩ | exact Or.inr ⟨by rfl, rfl⟩) hH ?_
      try simp only [Act.put, List.setIfInBounds_toArray, List.set_cons_zero, List.set_cons_succ]
      refine wpK.take (i := 4) (v := _) (by simp only [List.getElem?_toArray, List.getElem?_cons_succ, List.getElem?_cons_zero]; rfl) (by kernel_rfl) (by kernel_rfl) (by kernel_rfl) (by kernel_rfl) (by kernel_rfl) (by exact fun _ _ _ h => h) (by first | exact Or.inl ⟨by rfl, by intro w hSw; go_simp; try with_reducible rfl⟩ | exact Or.inr ⟨by rfl, rfl⟩) hH ?_
      try simp only [Act.put, List.setIfInBounds_toArray, List.set_cons_zero, List.set_cons_succ]
      refine wpK.take (i := 5) (v := _) (by simp only [List.getElem?_toArray, List.getElem?_cons_succ, List.getElem?_cons_zero]; rfl) (by kernel_rfl) (by kernel_rfl) (by kernel_rfl) (by kernel_rfl) (by kernel_rfl) (by exact fun _ _ _ h => h) (by first | exact Or.inl ⟨by rfl, by intro w hSw; go_simp; try with_reducible rfl⟩ | exact Or.inr ⟨by rfl, rfl⟩) hH ?_
      try simp only [Act.put, List.setIfInBounds_toArray, List.set_cons_zero, List.set_cons_succ]
      refine wpK.take (i := 6) (v := _) (by simp only [List.getElem?_toArray, List.getElem?_cons_succ, List.getElem?_cons_zero]; rfl) (by kernel_rfl) (by kernel_rfl) (by kernel_rfl) (by kernel_rfl) (by kernel_rfl) (by exact fun _ _ _ h => h) (by first | exact Or.inl ⟨by rfl, by intro w hSw; go_simp; try with_reducible rfl⟩ | exact Or.inr ⟨by rfl, rfl⟩) hH ?_
      try simp only [Act.put, List.setIfInBounds_toArray, List.set_cons_zero, List.set_cons_succ]
      refine wpK.step (i := 2) (by kernel_rfl) (by simp only [List.getElem?_toArray, List.getElem?_cons_succ, List.getElem?_cons_zero]; rfl) (fun K hK => ?_)
      go_simp
      (refine (acc_Lists1 o lc lf lb _ _ _ _ (HC.out.below (Below.next HBR.out hH)) (HF.out.below (Below.next HBR.out hH)) (HBB.out.below (Below.next HBR.out hH)) (by have := HLEN40.out; omega)).mono ?_); rintro e w5 ⟨v5, rfl, hown5, hb5⟩; (have HS5 : Hid (SlI w5 v5 lc) := hid (SlI.of_own hown5)); (obtain ⟨va5, vc5, rfl, -, -, -, -⟩ := ownsRow.rd hown5); (have hk5 := Below.next hH hb5); clear hown5; go_simp
      refine hK.out _ _ (by assumption) (fun hH => ?_)
      clear hK K
      try simp only [Act.put, List.setIfInBounds_toArray, List.set_cons_zero, List.set_cons_succ]
      refine wpK.step (i := 7) (by kernel_rfl) (by simp only [List.getElem?_toArray, List.getElem?_cons_succ, List.getElem?_cons_zero]; rfl) (fun K hK => ?_)
      go_simp
      (refine (law18_same lc lc _ _ _ HS5.out (HC.out.below (Below.next HBR.out hH)) true (hid (by simp))).mono ?_); rintro e w6 ⟨rfl, hb6⟩; (have hk6 := Below.next hH hb6); go_simp
      refine hK.out _ _ (by assumption) (fun hH => ?_)
      clear hK K
      try simp only [Act.put, List.setIfInBounds_toArray, List.set_cons_zero, List.set_cons_succ]
      refine wpK.take (i := 8) (v := _) (by simp only [List.getElem?_toArray, List.getElem?_cons_succ, List.getElem?_cons_zero]; rfl) (by kernel_rfl) (by kernel_rfl) (by kernel_rfl) (by kernel_rfl) (by kernel_rfl) (by exact fun _ _ _ h => h) (by first | exact Or.inl ⟨by rfl, by intro w hSw; go_simp; try with_reducible rfl⟩ | exact Or.inr ⟨by rfl, rfl⟩) hH ?_
      try simp only [Act.put, List.setIfInBounds_toArray, List.set_cons_zero, List.set_cons_succ]
      refine wpK.take (i := 9) (v := _) (by simp only [List.getElem?_toArray, List.getElem?_cons_succ, List.getElem?_cons_zero]; rfl) (by kernel_rfl) (by kernel_rfl) (by kernel_rfl) (by kernel_rfl) (by kernel_rfl) (by exact fun _ _ _ h => h) (by first | exact Or.inl ⟨by rfl, by intro w hSw; go_simp; try with_reducible rfl⟩ | exact Or.inr ⟨by rfl, rfl⟩) hH ?_
      try simp only [Act.put, List.setIfInBounds_toArray, List.set_cons_zero, List.set_cons_succ]
      refine wpK.take (i := 11) (v := _) (by simp only [List.getElem?_toArray, List.getElem?_cons_succ, List.getElem?_cons_zero]; rfl) (by kernel_rfl) (by kernel_rfl) (by kernel_rfl) (by kernel_rfl) (by kernel_rfl) (by exact fun _ _ _ h => h) (by first | exact Or.inl ⟨by rfl, by intro w hSw; go_simp; try with_reducible rfl⟩ | exact Or.inr ⟨by rfl, rfl⟩) hH ?_
      try simp only [Act.put, List.setIfInBounds_toArray, List.set_cons_zero, List.set_cons_succ]
      refine wpK.step (i := 10) (by kernel_rfl) (by simp only [List.getElem?_toArray, List.getElem?_cons_succ, List.getElem?_cons_zero]; rfl) (fun K hK => ?_)
      go_simp
      (refine (acc_Right o lc lf lb _ _ _ _ (HC.out.below (Below.next HBR.out hH)) (HF.out.below (Below.next HBR.out hH)) (HBB.out.below (Below.next HBR.out hH)) bb HR).mono ?_); rintro e w7 ⟨rfl, hb7⟩; (have hk7 := Below.next hH hb7); go_simp
      refine hK.out _ _ (by assumption) (fun hH => ?_)
      clear hK K
      try simp only [Act.put, List.setIfInBounds_toArray, List.set_cons_zero, List.set_cons_succ]
      refine wpK.step (i := 12) (by kernel_rfl) (by simp only [List.getElem?_toArray, List.getElem?_cons_succ, List.getElem?_cons_zero]; rfl) (fun K hK => ?_)
      go_simp
      (refine (law18_right o lc lf lb _ _ _ _ (HC.out.below (Below.next HBR.out hH)) (HF.out.below (Below.next HBR.out hH)) (HBB.out.below (Below.next HBR.out hH)) _ _ _ _ rfl (hid rfl) (hid rfl) (hid rfl)).mono ?_); rintro e w8 ⟨rfl, hb8⟩; rw [HR2.out]; (have hk8 := Below.next hH hb8); go_simp
      refine hK.out _ _ (by assumption) (fun hH => ?_)
      clear hK K
      try simp only [Act.put, List.setIfInBounds_toArray, List.set_cons_zero, List.set_cons_succ]
      refine wpK.take (i := 13) (v := _) (by simp only [List.getElem?_toArray, List.getElem?_cons_succ, List.getElem?_cons_zero]; rfl) (by kernel_rfl) (by kernel_rfl) (by kernel_rfl) (by kernel_rfl) (by kernel_rfl) (by exact fun _ _ _ h => h) (by first | exact Or.inl ⟨by rfl, by intro w hSw; go_simp; try with_reducible rfl⟩ | exact Or.inr ⟨by rfl, rfl⟩) hH ?_
      try simp only [Act.put, List.setIfInBounds_toArray, List.set_cons_zero, List.set_cons_succ]
      refine wpK.take (i := 14) (v := _) (by simp only [List.getElem?_toArray, List.getElem?_cons_succ, List.getElem?_cons_zero]; rfl) (by kernel_rfl) (by kernel_rfl) (by kernel_rfl) (by kernel_rfl) (by kernel_rfl) (by exact fun _ _ _ h => h) (by first | exact Or.inl ⟨by rfl, by intro w hSw; go_simp; try with_reducible rfl⟩ | exact Or.inr ⟨by rfl, rfl⟩) hH ?_
      try simp only [Act.put, List.setIfInBounds_toArray, List.set_cons_zero, List.set_cons_succ]
      refine wpK.take (i := 15) (v := _) (by simp only [List.getElem?_toArray, List.getElem?_cons_succ, List.getElem?_cons_zero]; rfl) (by kernel_rfl) (by kernel_rfl) (by kernel_rfl) (by kernel_rfl) (by kernel_rfl) (by exact fun _ _ _ h => h) (by first | exact Or.inl ⟨by rfl, by intro w hSw; go_simp; try with_reducible rfl⟩ | exact Or.inr ⟨by rfl, rfl⟩) hH ?_
      try simp only [Act.put, List.setIfInBounds_toArray, List.set_cons_zero, List.set_cons_succ]
      refine wpK.take (i := 16) (v := _) (by simp only [List.getElem?_toArray, List.getElem?_cons_succ, List.getElem?_cons_zero]; rfl) (by kernel_rfl) (by kernel_rfl) (by kernel_rfl) (by kernel_rfl) (by kernel_rfl) (by exact fun _ _ _ h => h) (by first | exact Or.inl ⟨by rfl, by intro w hSw; go_simp; try with_reducible rfl⟩ | exact Or.inr ⟨by rfl, rfl⟩) hH ?_
      try simp only [Act.put, List.setIfInBounds_toArray, List.set_cons_zero, List.set_cons_succ]
      refine wpK.take (i := 17) (v := _) (by simp only [List.getElem?_toArray, List.getElem?_cons_succ, List.getElem?_cons_zero]; rfl) (by kernel_rfl) (by kernel_rfl) (by kernel_rfl) (by kernel_rfl) (by kernel_rfl) (by exact fun _ _ _ h => h) (by first | exact Or.inl ⟨by rfl, by intro w hSw; go_simp; try with_reducible rfl⟩ | exact Or.inr ⟨by rfl, rfl⟩) hH ?_
      try simp only [Act.put, List.setIfInBounds_toArray, List.set_cons_zero, List.set_cons_succ]
      refine wpK.step (i := 18) (by kernel_rfl) (by simp only [List.getElem?_toArray, List.getElem?_cons_succ, List.getElem?_cons_zero]; rfl) (fun K hK => ?_)
      go_simp
      (refine (acc_Equal o o lc lf lb lc lf lb _ _ _ _ _ _ _ (HC.out.below (Below.next HBR.out hH)) (HF.out.below (Below.next HBR.out hH)) (HBB.out.below (Below.next HBR.out hH)) (HC.out.below (Below.next HBR.out hH)) (HF.out.below (Below.next HBR.out hH)) (HBB.out.below (Below.next HBR.out hH)) true true true true hoo (hid (by simp)) (hid (by simp)) (hid (by simp))).mono ?_); rintro e w9 ⟨rfl, hb9⟩; (have hk9 := Below.next hH hb9); go_simp
      refine hK.out _ _ (by assumption) (fun hH => ?_)
      clear hK K
      try simp only [Act.put, List.setIfInBounds_toArray, List.set_cons_zero, List.set_cons_succ]
      refine wpK.take (i := 19) (v := _) (by simp only [List.getElem?_toArray, List.getElem?_cons_succ, List.getElem?_cons_zero]; rfl) (by kernel_rfl) (by kernel_rfl) (by kernel_rfl) (by kernel_rfl) (by kernel_rfl) (by exact fun _ _ _ h => h) (by first | exact Or.inl ⟨by rfl, by intro w hSw; go_simp; try with_reducible rfl⟩ | exact Or.inr ⟨by rfl, rfl⟩) hH ?_
      try simp only [Act.put, List.setIfInBounds_toArray, List.set_cons_zero, List.set_cons_succ]
      refine wpK.take (i := 20) (v := _) (by simp only [List.getElem?_toArray, List.getElem?_cons_succ, List.getElem?_cons_zero]; rfl) (by kernel_rfl) (by kernel_rfl) (by kernel_rfl) (by kernel_rfl) (by kernel_rfl) (by exact fun _ _ _ h => h) (by first | exact Or.inl ⟨by rfl, by intro w hSw; go_simp; try with_reducible rfl⟩ | exact Or.inr ⟨by rfl, rfl⟩) hH ?_
      try simp only [Act.put, List.setIfInBounds_toArray, List.set_cons_zero, List.set_cons_succ]
      refine wpK.step (i := 21) (by kernel_rfl) (by simp only [List.getElem?_toArray, List.getElem?_cons_succ, List.getElem?_cons_zero]; rfl) (fun K hK => ?_)
      go_simp
      (refine (law18_awake _).mono ?_); rintro e w10 ⟨rfl, hb10⟩; (have hk10 := Below.next hH hb10); (have HB10 := hid (Below.next HBR.out hk10)); go_simp
      refine hK.out _ _ (by assumption) (fun hH => ?_)
      clear hK K
      try simp only [Act.put, List.setIfInBounds_toArray, List.set_cons_zero, List.set_cons_succ]
      refine wpK.take (i := 22) (v := _) (by simp only [List.getElem?_toArray, List.getElem?_cons_succ, List.getElem?_cons_zero]; rfl) (by kernel_rfl) (by kernel_rfl) (by kernel_rfl) (by kernel_rfl) (by kernel_rfl) (by exact fun _ _ _ h => h) (by first | exact Or.inl ⟨by rfl, by intro w hSw; go_simp; try with_reducible rfl⟩ | exact Or.inr ⟨by rfl, rfl⟩) hH ?_
      try simp only [Act.put, List.setIfInBounds_toArray, List.set_cons_zero, List.set_cons_succ]
      refine wpK.late (i := 23) (by kernel_rfl) (by simp only [List.getElem?_toArray, List.getElem?_cons_succ, List.getElem?_cons_zero]; rfl) (by kernel_rfl) (fun K hK => ?_)
      go_simp
      refine hK.out _ _ ?_
      clear hK K
      try simp only [Act.put, List.setIfInBounds_toArray, List.set_cons_zero, List.set_cons_succ]
      refine wpK.done (by kernel_rfl) ?_ _
      go_wp2_with fail
      go_ret
      exact ⟨rfl, HB10.out⟩
end Go.Proofs.Ytdchopckbklncaa
