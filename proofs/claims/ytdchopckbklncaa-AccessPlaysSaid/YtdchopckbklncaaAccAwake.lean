/- deedholdlaw18.awake. -/
import Derived.Test.YtdchopckbklncaaAccLaw
import Derived.Test.YtdchopckbklncaaAccSet1
namespace Go.Proofs.Ytdchopckbklncaa
open Go.RowKit
open Go.Lib (hid)
set_option linter.unusedVariables false

set_option maxRecDepth 100000 in
set_option maxHeartbeats 4000000 in
theorem law18_awake (w : World) : Calls Try.prog 51 #[] w fun e w' => e = .returned (.bool true) ∧ Below w.heap.size w w' := by
  go_enter Try.func51, Try.ntmps51
  go_wp2_with fail
  refine (acc_New 1 _).mono ?_
  rintro e w1 ⟨rfl, hb1⟩
  have HB1 := hid hb1
  clear hb1
  go_wp2_with fail
  refine (acc_Set1 1 2 _ (by omega) (by omega) (by omega)).mono ?_
  rintro e w2 ⟨uc, rfl, hs2, hb2⟩
  have HB2 := hid (Below.next HB1.out hb2)
  have HS2 := hid hs2
  obtain ⟨a2, c2, rfl, -⟩ := hs2
  obtain ⟨w3, hw3⟩ : ∃ w3, w3 = w2.alloc (.cells #[.int .i64 1, .slice a2 1 c2, .slice none 0 0, .slice none 0 0] 69) := ⟨_, rfl⟩
  have hb3 : Below w2.heap.size w2 w3 := by rw [hw3]; exact Below.new _ _
  have hblk3 : Blk w3 w2.heap.size #[.int .i64 1, .slice a2 1 c2, .slice none 0 0, .slice none 0 0] := by rw [hw3]; exact Blk.new _ _ _
  have HBLK3 := hid hblk3
  have HB3 := hid (Below.next HB2.out hb3)
  have HS3 : Hid (SlI w3 (.slice a2 1 c2) [2]) := hid (HS2.out.below hb3)
  have hs31 : w3.heap.size = w2.heap.size + 1 := by rw [hw3]; simp
  have HW3 := hid hw3
  have HS31 := hid hs31
  clear hb2 hb3 hblk3 hw3 hs31
  go_wp2_with fail
  rw [← HW3.out]
  refine (acc_Set3 1 2 [2] _ _ HS3.out (by simp) (by omega) (by omega) (by omega)).mono ?_
  rintro e w4 ⟨vc, vb, rfl, hsc, hsb, hb4⟩
  have HSC := hid hsc
  have HSB := hid hsb
  obtain ⟨ac, cc, rfl, -⟩ := hsc
  obtain ⟨ab, cb, rfl, -⟩ := hsb
  have hblk4 := HBLK3.out.below hb4
  have HB4 := hid (Below.next HB3.out hb4)
  have HS4 := hid (HS3.out.below hb4)
  obtain ⟨w5, hw5⟩ : ∃ w5, w5 = w4.alloc (.cells #[.int .i64 1, .slice ac 1 cc, .slice none 0 0, .slice ab 1 cb] 69) := ⟨_, rfl⟩
  have hb5 : Below w4.heap.size w4 w5 := by rw [hw5]; exact Below.new _ _
  have hblk5 : Blk w5 w4.heap.size #[.int .i64 1, .slice ac 1 cc, .slice none 0 0, .slice ab 1 cb] := by rw [hw5]; exact Blk.new _ _ _
  have HG5 := hid hblk5
  have HH5 := hid (hblk4.below hb5)
  have HB5 := hid (Below.next HB4.out hb5)
  have HS5 : Hid (SlI w5 (.slice a2 1 c2) [2]) := hid (HS4.out.below hb5)
  have HC5 : Hid (SlI w5 (.slice ac 1 cc) [2]) := hid (HSC.out.below hb5)
  have HBB5 : Hid (SlI w5 (.slice ab 1 cb) [2]) := hid (HSB.out.below hb5)
  have HW5 := hid hw5
  have hlt := hblk4.lt
  have hne1 : ¬ w2.heap.size = w4.heap.size := by omega
  have hne2 : ¬ w4.heap.size = w2.heap.size := by omega
  clear hb4 hblk4 hb5 hblk5 hw5 hlt
  obtain ⟨hy0, hy1, hy2, hy3, -⟩ := HH5.out.c4
  rw [HW5.out] at hy0 hy1 hy2 hy3
  go_wp2_with fail
  rw [← HW5.out]
  refine (acc_Level 1 [2] [] [] _ _ _ 2 w5 HS5.out (SlI.nil _) (SlI.nil _)).mono ?_
  rintro e w6 ⟨rfl, hb6⟩
  rw [show lvlF 1 [2] [] [] 2 = 3 from by simp [lvlF, needF, mayF]]
  have HB6 := hid (Below.next HB5.out hb6)
  have HG6 := hid (HG5.out.below hb6)
  have HH6 := hid (HH5.out.below hb6)
  have HS6 := hid (HS5.out.below hb6)
  have HC6 := hid (HC5.out.below hb6)
  have HBB6 := hid (HBB5.out.below hb6)
  clear hb6 hy0 hy1 hy2 hy3
  obtain ⟨hy0, hy1, hy2, hy3, -⟩ := HG6.out.c4
  go_wp2_with fail
  refine (acc_Level 1 [2] [] [2] _ _ _ 2 w6 HC6.out (SlI.nil _) HBB6.out).mono ?_
  rintro e w7 ⟨rfl, hb7⟩
  rw [show lvlF 1 [2] [] [2] 2 = 0 from by simp [lvlF, needF, mayF]]
  have HB7 := hid (Below.next HB6.out hb7)
  have HG7 := hid (HG6.out.below hb7)
  have HH7 := hid (HH6.out.below hb7)
  have HS7 := hid (HS6.out.below hb7)
  have HC7 := hid (HC6.out.below hb7)
  have HBB7 := hid (HBB6.out.below hb7)
  clear hb7 hy0 hy1 hy2 hy3
  obtain ⟨hy0, hy1, hy2, hy3, -⟩ := HH7.out.c4
  go_wp2_with fail
  refine (acc_Level 1 [2] [] [] _ _ _ 1 w7 HS7.out (SlI.nil _) (SlI.nil _)).mono ?_
  rintro e w8 ⟨rfl, hb8⟩
  rw [show lvlF 1 [2] [] [] 1 = 4 from by simp [lvlF, needF, mayF]]
  have HB8 := hid (Below.next HB7.out hb8)
  have HG8 := hid (HG7.out.below hb8)
  have HH8 := hid (HH7.out.below hb8)
  have HS8 := hid (HS7.out.below hb8)
  have HC8 := hid (HC7.out.below hb8)
  have HBB8 := hid (HBB7.out.below hb8)
  clear hb8 hy0 hy1 hy2 hy3
  obtain ⟨hy0, hy1, hy2, hy3, -⟩ := HH8.out.c4
  go_wp2_with fail
  refine (acc_May 1 [2] [] [] _ _ _ 2 11 w8 HS8.out (SlI.nil _) (SlI.nil _)).mono ?_
  rintro e w9 ⟨rfl, hb9⟩
  rw [show mayF (lvlF 1 [2] [] [] 2) (needF 11) = 31 from by simp [lvlF, needF, mayF]]
  have HB9 := hid (Below.next HB8.out hb9)
  have HG9 := hid (HG8.out.below hb9)
  have HH9 := hid (HH8.out.below hb9)
  have HS9 := hid (HS8.out.below hb9)
  have HC9 := hid (HC8.out.below hb9)
  have HBB9 := hid (HBB8.out.below hb9)
  clear hb9 hy0 hy1 hy2 hy3
  obtain ⟨hy0, hy1, hy2, hy3, -⟩ := HH9.out.c4
  go_wp2_with fail
  refine (acc_May 1 [2] [] [] _ _ _ 2 4 w9 HS9.out (SlI.nil _) (SlI.nil _)).mono ?_
  rintro e w10 ⟨rfl, hb10⟩
  rw [show mayF (lvlF 1 [2] [] [] 2) (needF 4) = 0 from by simp [lvlF, needF, mayF]]
  have HB10 := hid (Below.next HB9.out hb10)
  have HG10 := hid (HG9.out.below hb10)
  have HH10 := hid (HH9.out.below hb10)
  have HS10 := hid (HS9.out.below hb10)
  have HC10 := hid (HC9.out.below hb10)
  have HBB10 := hid (HBB9.out.below hb10)
  clear hb10 hy0 hy1 hy2 hy3
  go_wp2_with fail
  refine (acc_Needs 9 w10).mono ?_
  rintro e w11 ⟨rfl, hb11⟩
  rw [show needF 9 = 4 from by simp [needF]]
  have HB11 := hid (Below.next HB10.out hb11)
  clear hb11
  go_wp2_with fail
  go_ret
  exact ⟨rfl, HB11.out⟩
end Go.Proofs.Ytdchopckbklncaa
