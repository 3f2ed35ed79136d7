/- law05: full, first, awake. -/
import Derived.Test.YtdchopckbklncaaDiskCr
import Derived.Test.YtdchopckbklncaaDiskNew
import Derived.Test.YtdchopckbklncaaDiskIo
namespace Go.Proofs.Ytdchopckbklncaa
open Go.RowKit
open Go.Lib (hid)
set_option linter.unusedVariables false

set_option maxRecDepth 100000 in
set_option maxHeartbeats 1000000 in
theorem law05_full (c : UInt8) (w : World) : Calls Try.prog 46 #[.int .u8 (c.toNat : Int)] w fun e w' => ∃ v, e = .returned v ∧ SlB w' v (List.replicate 16 c) ∧ Below w.heap.size w w' := by
  have HCL : Hid (c.toNat < 256) := hid c.toNat_lt
  go_enter Try.func46, Try.ntmps46
  go_wp2_with (at_make; refine wpList_make T_bytes rfl _ rfl _ _ rfl w.heap.size _ _ _ _ 16 16 rfl rfl rfl rfl (Nat.le_refl _) (by omega) (Nat.le_refl _) ?_; intro w1 hown hgr)
  have hown1 : w1.ownsRow w.heap.size 5 1 (.slice (some ⟨w.heap.size, 0, none⟩) 16 16) 16 (bv (List.replicate 0 c ++ List.replicate 16 0)) := hown
  have HOWN := hid hown1
  have HB : Hid (Below w.heap.size w w1) := hid ((Upd.of_grown hgr).below (Nat.le_refl _) (fun _ _ q => by cases q))
  clear hown hown1 hgr
  obtain ⟨m, hm⟩ : ∃ m, m = w.heap.size := ⟨_, rfl⟩
  have HSM := hid hm
  rw [← hm] at HOWN HB ⊢
  clear hm
  go_wp2_with fail
  go_loopw [4, 8] (fun v4 v8 wr => ∃ (k : Nat), v8 = .int .i64 k ∧ k ≤ 16 ∧ Hid (wr.ownsRow m 5 1 (.slice (some ⟨m, 0, none⟩) 16 16) 16 (bv (List.replicate k c ++ List.replicate (16 - k) 0))) ∧ Hid (Below m w wr)) (fun _ v8 _ => 16 - (intOf v8).toNat)
  case atStart => exact ⟨0, rfl, by omega, HOWN, HB⟩
  case round =>
    clear HOWN HB
    obtain ⟨k, rfl, hk, HOWN, HB⟩ := hrel
    by_cases hlt : k < 16
    · have hc1 : wr.cell? ⟨m, k, none⟩ = some (.int .u8 0) := by
        rw [HOWN.out.cellAt k (by omega)]
        obtain ⟨q, hq⟩ : ∃ q, 16 - k = q + 1 := ⟨15 - k, by omega⟩
        rw [hq]
        simp [bv, List.replicate_succ]
      have hst := (HOWN.out.stored k (.int .u8 (c.toNat : Int))).1
      have hset : (bv (List.replicate k c ++ List.replicate (16 - k) 0)).set k (.int .u8 (c.toNat : Int)) = bv (List.replicate (k + 1) c ++ List.replicate (16 - (k + 1)) 0) := by
        obtain ⟨q, hq⟩ : ∃ q, 16 - k = q + 1 := ⟨15 - k, by omega⟩
        rw [show 16 - (k + 1) = q by omega, hq, List.replicate_succ' (n := k)]
        simp [bv, List.replicate_succ, List.set_append]
      rw [hset] at hst
      have HST := hid hst
      have HB2 := hid (HB.out.setCell (p := ⟨m, k, none⟩) (Nat.le_refl _) (.int .u8 (c.toNat : Int)))
      clear hst hset
      have hf1 := HOWN.out.frozenAt k
      have e0 : (0 : Int) ≤ (k : Int) := by omega
      have e1 : (k : Int) < 16 := by omega
      go_wp2_with fail
      go_roundw
      case rel => exact ⟨k + 1, by go_num, by omega, HST, HB2⟩
      case measure => simp [intOf]; omega
    · obtain rfl : k = 16 := by omega
      go_wp2_with fail
      go_ret
      exact ⟨_, rfl, ownsRow.slb (by simpa using HOWN.out) (by simp), by rw [← HSM.out]; exact HB.out⟩
theorem law05_first (a b : Int) (w : World) : Calls Try.prog 47 #[.int .i64 a, .int .i64 b] w fun e w' => e = .returned (.int .i64 (if a ≠ 0 then a else b)) ∧ w = w' := by
  by_cases h : a = 0
  · subst h
    go_enter Try.func47, Try.ntmps47
    go_wp2
    go_ret
    exact ⟨rfl, rfl⟩
  · rw [if_pos h]
    have hb : (a != 0) = true := by simpa using h
    go_enter Try.func47, Try.ntmps47
    go_wp2
    go_ret
    exact ⟨rfl, rfl⟩
def awkS : Dk := ⟨16, List.replicate 6 (List.replicate 16 0), [(1, List.replicate 16 1)], false, 0, false, 1⟩
theorem awkS_ok : awkS.Ok := by
  refine ⟨fun p hp => ?_, fun d hd => ?_, by decide, by decide, by decide, by decide⟩
  · simp [awkS] at hp; subst hp; simp [awkS]
  · simp [awkS] at hd; subst hd; simp [awkS]
def awkT : List UInt8 := [1, 1, 1, 0, 0, 0, 0, 0, 0, 0, 0, 0, 0, 0, 0, 0]
set_option maxRecDepth 100000 in
set_option maxHeartbeats 1000000 in
theorem law05_awake (w : World) : Calls Try.prog 33 #[] w fun e w' => e = .returned (.bool true) ∧ Below w.heap.size w w' := by
  have S1 : Hid (dkWrite (dkNew 6 16) 1 (List.replicate 16 1) = (0, awkS)) := hid (by simp [dkWrite, dkCheck, dkNew, awkS, dkCommand, aput, wrap64])
  have S2 : Hid (dkWrite awkS 9 (List.replicate 16 1) = (11, awkS)) := hid (by simp [dkWrite, dkCheck, awkS])
  have S3 : Hid (dkWrite awkS 1 [] = (10, awkS)) := hid (by simp [dkWrite, dkCheck, awkS])
  have S4 : Hid (dkRead (dkCrash awkS [] 1 3) 1 = (awkT, 0)) := hid (by simp [dkRead, dkCheck, dkCrash, dkArm, mixF, crashF, cutN, awkS, dkSector, awkT]; rfl)
  have S5 : Hid ((dkCrash awkS [] 1 3).done = 1) := hid (by rfl)
  go_enter Try.func33, Try.ntmps33
  go_wp2_with fail
  refine (disk_New 6 16 (by omega) (by omega) (by omega) (by omega) _).mono ?_
  rintro e w1 ⟨g, W, R, rfl, hd, hW, hR, hb⟩
  have HD1 := hid hd
  have HW := hid hW
  have HB := hid hb
  clear hd hW hR hb
  go_wp2_with fail
  refine (law05_full 1 _).mono ?_
  rintro e w2 ⟨v2, rfl, hs2, hb2⟩
  have HB2 := hid (Below.next HB.out hb2)
  have hd2 := HD1.out.below hb2
  clear hb2
  go_wp2_with fail
  refine (disk_Write _ 1 _ v2 g W R w2 hd2 hs2 (by simp) 0 awkS S1).mono ?_
  rintro e w3 ⟨R3, rfl, hd3, -, hu3⟩
  have HB3 := hid (Below.trans HB2.out (hu3.below HB2.out.size (fun k _ q => HW.out k q)))
  have HD3 := hid hd3
  clear hd2 hs2 hd3 hu3
  go_wp2_with fail
  refine (law05_full 1 _).mono ?_
  rintro e w4 ⟨v4, rfl, hs4, hb4⟩
  have HB4 := hid (Below.next HB3.out hb4)
  have hd4 := HD3.out.below hb4
  clear hb4
  go_wp2_with fail
  refine (disk_Write _ 9 _ v4 g W R3 w4 hd4 hs4 (by simp) 11 awkS S2).mono ?_
  rintro e w5 ⟨R5, rfl, hd5, -, hu5⟩
  have HB5 := hid (Below.trans HB4.out (hu5.below HB4.out.size (fun k _ q => HW.out k q)))
  have HD5 := hid hd5
  clear hd4 hs4 hd5 hu5
  go_wp2_with fail
  refine (disk_Write _ 1 [] (.slice none 0 0) g W R5 w5 HD5.out ⟨none, 0, rfl, by simp, Rd.nil _ _, by simp, by omega, fun _ => rfl⟩ (by simp) 10 awkS S3).mono ?_
  rintro e w6 ⟨R6, rfl, hd6, -, hu6⟩
  have HB6 := hid (Below.trans HB5.out (hu6.below HB5.out.size (fun k _ q => HW.out k q)))
  have HD6 := hid hd6
  clear hd6 hu6
  go_wp2_with fail
  refine (disk_Crash awkS awkS_ok [] 1 3 (.slice none 0 0) g W R6 w6 HD6.out (SlI.nil _) (fun j hj => by simp [Value.ownBlock] at hj)).mono ?_
  rintro e w7 ⟨R7, rfl, hd7, -, hu7⟩
  have HB7 := hid (Below.trans HB6.out (hu7.below HB6.out.size (fun k _ q => HW.out k q)))
  have HD7 := hid hd7
  clear hd7 hu7
  go_wp2_with fail
  refine (disk_Read _ 1 g W R7 w7 HD7.out awkT 0 S4 (by simp [awkT])).mono ?_
  rintro e w8 ⟨v8, rfl, hown, hb8⟩
  have HB8 := hid (Below.next HB7.out hb8)
  have HD8 := hid (HD7.out.below hb8)
  obtain ⟨b8, c8, rfl⟩ := Joins.ownsRow_form hown (by simp [awkT])
  have hc2 : w8.cell? ⟨b8, 2, none⟩ = some (.int .u8 1) := hown.cellAt 2 (by simp [awkT])
  have hc3 : w8.cell? ⟨b8, 3, none⟩ = some (.int .u8 0) := hown.cellAt 3 (by simp [awkT])
  have hlen : awkT.length = 16 := rfl
  rw [hlen]
  clear hown hb8
  go_wp2_with fail
  refine (disk_Commands _ g W R7 w8 HD8.out).mono ?_
  rintro e w9 ⟨rfl, rfl⟩
  rw [S5.out]
  go_wp2_with fail
  go_ret
  exact ⟨rfl, HB8.out⟩
end Go.Proofs.Ytdchopckbklncaa
