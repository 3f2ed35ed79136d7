/- Joined texts, in this order: ThingAwake. Each one's first remark says what it proves; no condition beyond those that its theorems name. -/
import Derived.Test.YtdoflhiogoefjaaDoorJLawThingCopies15
import Derived.Test.YtdoflhiogoefjaaDoorJLawThingCopies16
section
/- Law 21: awake, ThingPlaces. -/
namespace Go.Proofs.YtdoflhiogoefjaaDoor
open Go.RowKit
open Go.Lib (hid)
set_option linter.unusedVariables false

def swordS : List UInt8 := [115, 119, 111, 114, 100]
def awX1 : ThX := ⟨[⟨1, swordS, 3, (1, 3, 0)⟩], 2⟩
def awX2 : ThX := ⟨[⟨1, swordS, 3, (2, 7, 1)⟩], 2⟩
theorem aw_name : nameB swordS = true := by decide
theorem aw_make : makeX ⟨[], 1⟩ swordS 3 = awX1 ∧ makeI ⟨[], 1⟩ swordS 3 = 1 ∧ makeE [] swordS 3 = 0 := by
  have h : makeE [] swordS 3 = 0 := by unfold makeE; rw [aw_name]; rfl
  exact ⟨by unfold makeX; rw [if_pos h]; rfl, by unfold makeI; rw [if_pos h], h⟩
theorem aw_move1 : moveX awX1 1 (2, 7, 1) 3 = awX2 ∧ moveE awX1.L 1 (2, 7, 1) 3 = 0 := by
  have h : moveE awX1.L 1 (2, 7, 1) 3 = 0 := by decide
  exact ⟨by unfold moveX; rw [if_pos h]; rfl, h⟩
theorem aw_move2 : moveX awX2 1 (0, 0, 0) 3 = awX2 ∧ moveE awX2.L 1 (0, 0, 0) 3 = 10 := by
  have h : moveE awX2.L 1 (0, 0, 0) 3 = 10 := by decide
  exact ⟨by unfold moveX; rw [if_neg (by rw [h]; decide)], h⟩
theorem aw_in : inT awX2.L (2, 7, 1) = [1] := by decide
set_option maxRecDepth 100000 in
set_option maxHeartbeats 2000000 in
theorem law21_awake (w : World) : Calls Tryd.prog 10 #[] w fun e w' => e = .returned (.bool true) ∧ Below w.heap.size w w' := by
  go_enter Tryd.func10, Tryd.ntmps10
  go_wp2_with fail
  refine (thing_New w).mono ?_
  rintro e w1 ⟨s, rfl, h1, hb1⟩
  have H1 := hid h1
  have HB1 := hid hb1
  clear h1 hb1
  go_wp2_with fail
  have hq := thing_Make w1 H1.out (by show (0 : Nat) ≤ 900; omega) (by show (1 : Int) ≤ 4611686018427387904; omega) swordS (by decide) 3 (by omega)
  simp only [aw_make.1, aw_make.2.1] at hq
  have hE : makeE [] swordS 3 = 0 := aw_make.2.2
  simp only [hE] at hq
  refine hq.mono ?_
  rintro e w2 ⟨rfl, h2, hu2⟩
  have H2 := hid h2
  have HB2 := hid (HB1.out.trans (hu2.below HB1.out.size (fun k _ q => q)))
  clear h2 hu2 hq hE
  go_upto_region 6 with fail
  obtain ⟨w3, hw3⟩ : ∃ w3, w3 = w2.alloc (.cells #[.int .i64 2, .int .i64 7, .int .i64 1] 23) := ⟨_, rfl⟩
  rw [← hw3]
  obtain ⟨bp, hbp⟩ : ∃ b, b = w2.heap.size := ⟨_, rfl⟩
  rw [← hbp]
  have hb3 : Below w2.heap.size w2 w3 := by rw [hw3]; exact Below.new _ _
  have HK : Hid (Blk w3 bp #[.int .i64 2, .int .i64 7, .int .i64 1]) := hid (by rw [hw3, hbp]; exact Blk.new _ _ _)
  have HB3 := hid (Below.next HB2.out hb3)
  have H3 := hid ((H2.out.weaken (G := fun k => w.heap.size ≤ k ∧ k < bp) (fun k q q2 => ⟨by have := HB1.out.size; rcases q with q | q <;> omega, by omega⟩)).below hb3)
  have p0 : w3.cell? ⟨bp, 0, none⟩ = some (.int .i64 2) := by rw [HK.out.cell]; rfl
  have p1 : w3.cell? ⟨bp, 1, none⟩ = some (.int .i64 7) := by rw [HK.out.cell]; rfl
  have p2 : w3.cell? ⟨bp, 2, none⟩ = some (.int .i64 1) := by rw [HK.out.cell]; rfl
  clear hw3 hbp hb3
  go_wp2_with fail
  have hq := thing_Move w3 H3.out (by show (1 : Nat) ≤ 900; omega) 1 2 7 1 3 (by omega)
  rw [aw_move1.1, aw_move1.2] at hq
  refine hq.mono ?_
  rintro e w4 ⟨rfl, h4, hu4⟩
  have H4 := hid h4
  have HK4 := hid (HK.out.upd hu4 (fun q => by have := q.2; omega))
  have HB4 := hid (HB3.out.trans (hu4.below HB3.out.size (fun k _ q => q.1)))
  have HLT4 := hid HK.out.lt
  clear h4 hu4 hq p0 p1 p2
  go_wp2_with fail
  have hq := thing_Move w4 H4.out (by show (1 : Nat) ≤ 900; omega) 1 0 0 0 3 (by omega)
  rw [aw_move2.1, aw_move2.2] at hq
  refine hq.mono ?_
  rintro e w5 ⟨rfl, h5, hu5⟩
  have H5 := hid h5
  have HK5 := hid (HK4.out.upd hu5 (fun q => by have := HLT4.out; rcases q with q | q <;> omega))
  have HB5 := hid (HB4.out.trans (hu5.below HB4.out.size (fun k _ q => by have := HB3.out.size; rcases q with q | q <;> omega)))
  clear h5 hu5 hq
  have p0 : w5.cell? ⟨bp, 0, none⟩ = some (.int .i64 2) := by rw [HK5.out.cell]; rfl
  have p1 : w5.cell? ⟨bp, 1, none⟩ = some (.int .i64 7) := by rw [HK5.out.cell]; rfl
  have p2 : w5.cell? ⟨bp, 2, none⟩ = some (.int .i64 1) := by rw [HK5.out.cell]; rfl
  go_wp2_with fail
  refine (thing_In w5 H5.out.1 (by show (1 : Nat) ≤ 900; omega) 2 7 1 [1] (hid aw_in)).mono ?_
  rintro e w6 ⟨v, rfl, ho6, hb6⟩
  obtain ⟨a, c, hv, -, -, hrd, -⟩ := ownsRow.rd ho6
  have hv' : v = .slice a 1 c := hv
  subst hv'
  obtain ⟨b, off, rfl, hc⟩ := hrd 0 (by simp [iv])
  have d0 : w6.cell? ⟨b, off, none⟩ = some (.int .i64 1) := hc
  have H6 := hid (H5.out.below hb6)
  have HB6 := hid (Below.next HB5.out hb6)
  clear ho6 hb6 hrd hc p0 p1 p2 hv
  go_wp2_with fail
  refine (thing_Len w6 H6.out 1 (hid rfl)).mono ?_
  rintro e w7 ⟨rfl, rfl⟩
  go_wp2_with fail
  go_ret
  exact ⟨rfl, HB6.out⟩
theorem thing_RightV (k h s : Int) (b : Bool) (hb : Hid (rightP (k, h, s) = b)) (w : World) : Calls Tryd.prog 8 #[.agg #[.int .i64 k, .int .i64 h, .int .i64 s]] w fun e w' => e = .returned (.bool b) ∧ Below w.heap.size w w' := by
  rw [← hb.out]; exact thing_Right k h s w
theorem ref21_RightV (k h s : Int) (b : Bool) (hb : Hid (rightP (k, h, s) = b)) (w : World) : Calls Tryd.prog 9 #[.agg #[.int .i64 k, .int .i64 h, .int .i64 s]] w fun e w' => e = .returned (.bool b) ∧ Below w.heap.size w w' := by
  rw [← hb.out]; exact ref21_Right k h s w
set_option maxRecDepth 100000 in
set_option maxHeartbeats 2000000 in
theorem law21_Places (k h s : Int) (w : World) : Calls Tryd.prog 3 #[.agg #[.int .i64 k, .int .i64 h, .int .i64 s]] w fun e w' => e = .returned (.bool true) ∧ Below w.heap.size w w' := by
  go_enter Tryd.func3, Tryd.ntmps3
  go_upto_region 1 with fail
  obtain ⟨w1, hw1⟩ : ∃ w1, w1 = w.alloc (.cells #[.int .i64 k, .int .i64 h, .int .i64 s] 23) := ⟨_, rfl⟩
  rw [← hw1]
  obtain ⟨bp, hbp⟩ : ∃ b, b = w.heap.size := ⟨_, rfl⟩
  rw [← hbp]
  have hb1 : Below w.heap.size w w1 := by rw [hw1]; exact Below.new _ _
  have HK : Hid (Blk w1 bp #[.int .i64 k, .int .i64 h, .int .i64 s]) := hid (by rw [hw1, hbp]; exact Blk.new _ _ _)
  have HB1 := hid hb1
  clear hw1 hbp hb1
  have p0 : ∀ y, Below w1.heap.size w1 y → y.cell? ⟨bp, 0, none⟩ = some (.int .i64 k) := fun y hy => by rw [(HK.out.below hy).cell]; rfl
  have p1 : ∀ y, Below w1.heap.size w1 y → y.cell? ⟨bp, 1, none⟩ = some (.int .i64 h) := fun y hy => by rw [(HK.out.below hy).cell]; rfl
  have p2 : ∀ y, Below w1.heap.size w1 y → y.cell? ⟨bp, 2, none⟩ = some (.int .i64 s) := fun y hy => by rw [(HK.out.below hy).cell]; rfl
  obtain ⟨rp, hrp⟩ : ∃ rp, rightP (k, h, s) = rp := ⟨_, rfl⟩
  have HRP := hid hrp
  have hee : (rp == rp) = true := by cases rp <;> rfl
  have hyd := (Below.refl w1.heap.size w1).drew
  clear hrp
  refine wp_region_kept [8] (fun y => Below w1.heap.size w1 y) (by kernel_rfl) (by assumption) (fun hH => ?_)
  refine wpK.take (i := 0) (v := _) (by simp only [List.getElem?_toArray, List.getElem?_cons_succ, List.getElem?_cons_zero]; rfl) (by kernel_rfl) (by kernel_rfl) (by kernel_rfl) (by kernel_rfl) (by kernel_rfl) (by exact fun _ _ _ h => h) (by first | exact Or.inl ⟨by rfl, by intro w hSw; go_simp; try with_reducible rfl⟩ | exact Or.inr ⟨by rfl, rfl⟩) hH ?_
  try simp only [Act.put, List.setIfInBounds_toArray, List.set_cons_zero, List.set_cons_succ]
  refine wpK.take (i := 2) (v := _) (by simp only [List.getElem?_toArray, List.getElem?_cons_succ, List.getElem?_cons_zero]; rfl) (by kernel_rfl) (by kernel_rfl) (by kernel_rfl) (by kernel_rfl) (by kernel_rfl) (by exact fun _ _ _ h => h) (by first | exact Or.inl ⟨by rfl, by intro w hSw; go_simp; try with_reducible rfl⟩ | exact Or.inr ⟨by rfl, rfl⟩) hH ?_
  try simp only [Act.put, List.setIfInBounds_toArray, List.set_cons_zero, List.set_cons_succ]
  refine wpK.step (i := 1) (by kernel_rfl) (by simp only [List.getElem?_toArray, List.getElem?_cons_succ, List.getElem?_cons_zero]; rfl) (fun K hK => ?_)
  go_simp
  (refine (thing_RightV k h s rp HRP _).mono ?_); rintro e w2 ⟨rfl, hb2⟩; (have hk2 := Below.next hH hb2); go_simp
  refine hK.out _ _ (by assumption) (fun hH => ?_)
  clear hK K
  try simp only [Act.put, List.setIfInBounds_toArray, List.set_cons_zero, List.set_cons_succ]
  refine wpK.step (i := 3) (by kernel_rfl) (by simp only [List.getElem?_toArray, List.getElem?_cons_succ, List.getElem?_cons_zero]; rfl) (fun K hK => ?_)
  go_simp
  (refine (ref21_RightV k h s rp HRP _).mono ?_); rintro e w3 ⟨rfl, hb3⟩; (have hk3 := Below.next hH hb3); go_simp
  refine hK.out _ _ (by assumption) (fun hH => ?_)
  clear hK K
  try simp only [Act.put, List.setIfInBounds_toArray, List.set_cons_zero, List.set_cons_succ]
  refine wpK.take (i := 4) (v := _) (by simp only [List.getElem?_toArray, List.getElem?_cons_succ, List.getElem?_cons_zero]; rfl) (by kernel_rfl) (by kernel_rfl) (by kernel_rfl) (by kernel_rfl) (by kernel_rfl) (by exact fun _ _ _ h => h) (by first | exact Or.inl ⟨by rfl, by intro w hSw; go_simp; try with_reducible rfl⟩ | exact Or.inr ⟨by rfl, rfl⟩) hH ?_
  try simp only [Act.put, List.setIfInBounds_toArray, List.set_cons_zero, List.set_cons_succ]
  refine wpK.take (i := 5) (v := _) (by simp only [List.getElem?_toArray, List.getElem?_cons_succ, List.getElem?_cons_zero]; rfl) (by kernel_rfl) (by kernel_rfl) (by kernel_rfl) (by kernel_rfl) (by kernel_rfl) (by exact fun _ _ _ h => h) (by first | exact Or.inl ⟨by rfl, by intro w hSw; go_simp; try with_reducible rfl⟩ | exact Or.inr ⟨by rfl, rfl⟩) hH ?_
  try simp only [Act.put, List.setIfInBounds_toArray, List.set_cons_zero, List.set_cons_succ]
  refine wpK.step (i := 6) (by kernel_rfl) (by simp only [List.getElem?_toArray, List.getElem?_cons_succ, List.getElem?_cons_zero]; rfl) (fun K hK => ?_)
  go_simp
  (refine (law21_awake _).mono ?_); rintro e w4 ⟨rfl, hb4⟩; (have hk4 := Below.next hH hb4); go_simp
  refine hK.out _ _ (by assumption) (fun hH => ?_)
  clear hK K
  try simp only [Act.put, List.setIfInBounds_toArray, List.set_cons_zero, List.set_cons_succ]
  refine wpK.take (i := 7) (v := _) (by simp only [List.getElem?_toArray, List.getElem?_cons_succ, List.getElem?_cons_zero]; rfl) (by kernel_rfl) (by kernel_rfl) (by kernel_rfl) (by kernel_rfl) (by kernel_rfl) (by exact fun _ _ _ h => h) (by first | exact Or.inl ⟨by rfl, by intro w hSw; go_simp; try with_reducible rfl⟩ | exact Or.inr ⟨by rfl, rfl⟩) hH ?_
  try simp only [Act.put, List.setIfInBounds_toArray, List.set_cons_zero, List.set_cons_succ]
  refine wpK.late (i := 8) (by kernel_rfl) (by simp only [List.getElem?_toArray, List.getElem?_cons_succ, List.getElem?_cons_zero]; rfl) (by kernel_rfl) (fun K hK => ?_)
  go_simp
  refine hK.out _ _ ?_
  clear hK K
  try simp only [Act.put, List.setIfInBounds_toArray, List.set_cons_zero, List.set_cons_succ]
  refine wpK.done (by kernel_rfl) ?_ _
  have HQ := hid (Below.next HB1.out hk4)
  clear p0 p1 p2 hyd hb2 hb3 hb4 hk2 hk3 hk4 hH
  go_wp2_with fail
  go_ret
  exact ⟨rfl, HQ.out⟩
end Go.Proofs.YtdoflhiogoefjaaDoor
end
