/- The law DiskArms, walked. -/
import Derived.Test.YtdchopckbklncaaDiskArmMath
import Derived.Test.YtdchopckbklncaaDiskFl
namespace Go.Proofs.Ytdchopckbklncaa
open Go.RowKit
open Go.Lib (hid)
set_option linter.unusedVariables false

set_option maxRecDepth 100000 in
set_option maxHeartbeats 2000000 in
theorem DiskArms_no (n more : Int) (w : World) (h : n < -3 ∨ (-3 ≤ n ∧ 60 < n) ∨ (-3 ≤ n ∧ n ≤ 60 ∧ more < 0) ∨ (-3 ≤ n ∧ n ≤ 60 ∧ 0 ≤ more ∧ 60 < more)) :
    Calls Try.prog 9 #[.int .i64 n, .int .i64 more] w fun e w' => e = .returned (.bool true) ∧ Below w.heap.size w w' := by
  rcases h with h | ⟨h1, h2⟩ | ⟨h1, h2, h3⟩ | ⟨h1, h2, h3, h4⟩
  all_goals
    go_enter Try.func9, Try.ntmps9
    go_wp2_with fail
    refine (disk_New 6 16 (by omega) (by omega) (by omega) (by omega) _).mono ?_
    rintro e w1 ⟨g, W, R, rfl, -, -, -, hb⟩
    have HB := hid hb
    clear hb
    go_wp2_with fail
    refine (law05_awake _).mono ?_
    rintro e w2 ⟨rfl, hb2⟩
    have HB2 := hid (Below.next HB.out hb2)
    clear hb2
    go_wp2_with fail
    go_ret
    exact ⟨rfl, HB2.out⟩
set_option maxRecDepth 100000 in
set_option maxHeartbeats 4000000 in
theorem DiskArms_yes (n : Int) (more : Nat) (w : World) (h1 : -3 ≤ n) (h2 : n ≤ 60) (h3 : more ≤ 60) :
    Calls Try.prog 9 #[.int .i64 n, .int .i64 (more : Int)] w fun e w' => e = .returned (.bool true) ∧ Below w.heap.size w w' := by
  have a1 : ¬ n < -3 := by omega
  have a2 : ¬ 60 < n := by omega
  have a3 : ¬ (more : Int) < 0 := by omega
  have a4 : ¬ (60 : Int) < (more : Int) := by omega
  go_enter Try.func9, Try.ntmps9
  go_wp2_with fail
  refine (disk_New 6 16 (by omega) (by omega) (by omega) (by omega) _).mono ?_
  rintro e w1 ⟨g, W, R, rfl, hd, hW, hR, hb⟩
  have HD1 := hid hd
  have HW := hid hW
  have HB1 := hid hb
  clear hd hW hR hb
  go_wp2_with fail
  refine (disk_Arm _ n g W R w1 HD1.out).mono ?_
  rintro e w2 ⟨rfl, hd2, hu2⟩
  have HD2 := hid hd2
  have HB2 := hid (Below.trans HB1.out (hu2.below HB1.out.size (fun k _ q => HW.out k q)))
  have HA2 := hid (ArmAt.start n)
  clear hd2 hu2 HD1 HB1
  go_wp2_with fail
  clear a1 a2 a3 a4
  go_loopw [6, 7, 8, 9, 38] (fun v6 v7 v8 v9 v38 wr => ∃ (k : Nat) (s : Dk) (R : Nat → Prop), v38 = .int .i64 k ∧ k ≤ more ∧ Hid (DiskIs wr g W R s) ∧ Hid (ArmAt n ((k + k / 3 : Nat) : Int) s) ∧ Hid (Below w.heap.size w wr)) (fun _ _ _ _ v38 _ => more - (intOf v38).toNat)
  case atStart => exact ⟨0, _, R, rfl, by omega, HD2, HA2, HB2⟩
  case round =>
    clear HD2 HB2 HA2
    obtain ⟨k, s, Rk, rfl, hk, HD, HA, HB⟩ := hrel
    by_cases hlt : k < more
    · have q0 : (0 : Int) ≤ (k : Int) := by omega
      have q1 : (k : Int) < 60 := by omega
      have hc : (((UInt8.ofNat (k + 1)).toNat : Nat) : Int) = (k : Int) + 1 := by simp; omega
      have hfull := law05_full (UInt8.ofNat (k + 1)) wr
      rw [hc] at hfull
      have HFULL := hid hfull
      clear hc hfull
      obtain ⟨s2, hs2, ha2⟩ := HA.out.write (by omega) (by omega) (by omega) ((k : Int) % 6) (by omega) (by omega) (List.replicate 16 (UInt8.ofNat (k + 1))) (by simp)
      obtain ⟨e1, he1⟩ : ∃ e1, e1 = wantE n (((k + k / 3 : Nat) : Int) + 1) := ⟨_, rfl⟩
      rw [← he1] at hs2
      have HS2 := hid hs2
      have HA2 := hid ha2
      have HE1 := hid he1
      clear hs2 ha2 he1
      obtain ⟨D, hD⟩ : ∃ D : Int, D = (k : Int) + 1 + ((k : Int) + 1) / 3 := ⟨_, rfl⟩
      have hdc : D = (((k + 1) + (k + 1) / 3 : Nat) : Int) := by omega
      have HDC := hid hdc
      clear hdc
      go_wp2_with fail
      refine HFULL.out.mono ?_
      rintro e w2' ⟨v2, rfl, hs2, hb2⟩
      have HB2 := hid (Below.next HB.out hb2)
      have hd2 := HD.out.below hb2
      clear hb2
      go_wp2_with fail
      refine (disk_Write _ _ _ v2 g W Rk w2' hd2 hs2 (by simp) _ s2 HS2).mono ?_
      rintro e w3 ⟨R3, rfl, hd3, -, hu3⟩
      have HB3 := hid (Below.trans HB2.out (hu3.below HB2.out.size (fun k _ q => HW.out k q)))
      have HD3 := hid hd3
      clear hd2 hs2 hd3 hu3
      by_cases hm : (k : Int) % 3 = 2
      · have hmb : ((k : Int) % 3 == 2) = true := by simpa using hm
        obtain ⟨s3, hs3, ha3⟩ := HA2.out.flush (by omega) (by omega) (by omega)
        obtain ⟨e2, he2⟩ : ∃ e2, e2 = wantE n (((k + k / 3 : Nat) : Int) + 1 + 1) := ⟨_, rfl⟩
        rw [← he2] at hs3
        have HS3 := hid hs3
        have HA5 : Hid (ArmAt n D s3) := hid (by rw [hD]; have e : (k : Int) + 1 + ((k : Int) + 1) / 3 = ((k + k / 3 : Nat) : Int) + 1 + 1 := by omega
                                                 rw [e]; exact ha3)
        have HWF : Hid ((if e1 ≠ 0 then e1 else e2) = wantE n D) := hid (by
          rw [HE1.out, he2, wantE_first, hD]; congr 1; omega)
        clear hs3 ha3 hm he2
        go_wp2_with fail
        refine (disk_Flush s2 HA2.out.ok g W R3 w3 HD3.out _ s3 HS3).mono ?_
        rintro e w5 ⟨rfl, hd5, hu5⟩
        have HB5 := hid (Below.trans HB3.out (hu5.below HB3.out.size (fun k _ q => HW.out k q)))
        have HD5 := hid hd5
        clear hd5 hu5
        go_wp2_with fail
        refine (law05_first _ _ _).mono ?_
        rintro e w' ⟨rfl, rfl⟩
        rw [HWF.out]
        by_cases hn : 0 ≤ n
        · by_cases hnd : n < D
          · have hw : wantE n D = 20 := if_pos ⟨hn, hnd⟩
            have hdn : s3.down = true := by rw [HA5.out.down, hw]; rfl
            have HDN := hid hdn
            rw [hw]
            rw [hD] at hnd
            clear hw hdn
            go_wp2_with fail
            refine (disk_Down _ g W _ w5 HD5.out).mono ?_
            rintro e w' ⟨rfl, rfl⟩
            rw [HDN.out]
            go_wp2_with fail
            go_roundw
            case rel => exact ⟨k + 1, s3, _, by go_num, by omega, HD5, hid (by rw [← HDC.out]; exact HA5.out), HB5⟩
            case measure => simp [intOf]; omega
          · have hw : wantE n D = 0 := if_neg (by omega)
            have hdn : s3.down = false := by rw [HA5.out.down, hw]; rfl
            have HDN := hid hdn
            have HDO := hid (HA5.out.done hw)
            rw [hw]
            rw [hD] at hnd
            clear hw hdn
            go_wp2_with fail
            refine (disk_Down _ g W _ w5 HD5.out).mono ?_
            rintro e w' ⟨rfl, rfl⟩
            rw [HDN.out]
            go_wp2_with fail
            refine (disk_Commands _ g W _ w5 HD5.out).mono ?_
            rintro e w' ⟨rfl, rfl⟩
            rw [HDO.out, hD]
            go_wp2_with fail
            go_roundw
            case rel => exact ⟨k + 1, s3, _, by go_num, by omega, HD5, hid (by rw [← HDC.out]; exact HA5.out), HB5⟩
            case measure => simp [intOf]; omega
        · have hw : wantE n D = 0 := if_neg (by omega)
          have hdn : s3.down = false := by rw [HA5.out.down, hw]; rfl
          have HDN := hid hdn
          have HDO := hid (HA5.out.done hw)
          rw [hw]
          clear hw hdn
          go_wp2_with fail
          refine (disk_Down _ g W _ w5 HD5.out).mono ?_
          rintro e w' ⟨rfl, rfl⟩
          rw [HDN.out]
          go_wp2_with fail
          refine (disk_Commands _ g W _ w5 HD5.out).mono ?_
          rintro e w' ⟨rfl, rfl⟩
          rw [HDO.out, hD]
          go_wp2_with fail
          go_roundw
          case rel => exact ⟨k + 1, s3, _, by go_num, by omega, HD5, hid (by rw [← HDC.out]; exact HA5.out), HB5⟩
          case measure => simp [intOf]; omega
      · have hmb : ((k : Int) % 3 == 2) = false := by simpa using hm
        obtain ⟨s3, hs3⟩ : ∃ s3, s3 = s2 := ⟨_, rfl⟩
        obtain ⟨w5, hw5⟩ : ∃ w5, w5 = w3 := ⟨_, rfl⟩
        subst hs3 hw5
        have e : ((k + k / 3 : Nat) : Int) + 1 = D := by omega
        rw [show e1 = wantE n D by rw [HE1.out, e]]
        have HA5 : Hid (ArmAt n D s3) := hid (by rw [← e]; exact HA2.out)
        have HB5 := HB3
        have HD5 := HD3
        clear e hm
        by_cases hn : 0 ≤ n
        · by_cases hnd : n < D
          · have hw : wantE n D = 20 := if_pos ⟨hn, hnd⟩
            have hdn : s3.down = true := by rw [HA5.out.down, hw]; rfl
            have HDN := hid hdn
            rw [hw]
            rw [hD] at hnd
            clear hw hdn
            go_wp2_with fail
            refine (disk_Down _ g W _ w5 HD5.out).mono ?_
            rintro e w' ⟨rfl, rfl⟩
            rw [HDN.out]
            go_wp2_with fail
            go_roundw
            case rel => exact ⟨k + 1, s3, _, by go_num, by omega, HD5, hid (by rw [← HDC.out]; exact HA5.out), HB5⟩
            case measure => simp [intOf]; omega
          · have hw : wantE n D = 0 := if_neg (by omega)
            have hdn : s3.down = false := by rw [HA5.out.down, hw]; rfl
            have HDN := hid hdn
            have HDO := hid (HA5.out.done hw)
            rw [hw]
            rw [hD] at hnd
            clear hw hdn
            go_wp2_with fail
            refine (disk_Down _ g W _ w5 HD5.out).mono ?_
            rintro e w' ⟨rfl, rfl⟩
            rw [HDN.out]
            go_wp2_with fail
            refine (disk_Commands _ g W _ w5 HD5.out).mono ?_
            rintro e w' ⟨rfl, rfl⟩
            rw [HDO.out, hD]
            go_wp2_with fail
            go_roundw
            case rel => exact ⟨k + 1, s3, _, by go_num, by omega, HD5, hid (by rw [← HDC.out]; exact HA5.out), HB5⟩
            case measure => simp [intOf]; omega
        · have hw : wantE n D = 0 := if_neg (by omega)
          have hdn : s3.down = false := by rw [HA5.out.down, hw]; rfl
          have HDN := hid hdn
          have HDO := hid (HA5.out.done hw)
          rw [hw]
          clear hw hdn
          go_wp2_with fail
          refine (disk_Down _ g W _ w5 HD5.out).mono ?_
          rintro e w' ⟨rfl, rfl⟩
          rw [HDN.out]
          go_wp2_with fail
          refine (disk_Commands _ g W _ w5 HD5.out).mono ?_
          rintro e w' ⟨rfl, rfl⟩
          rw [HDO.out, hD]
          go_wp2_with fail
          go_roundw
          case rel => exact ⟨k + 1, s3, _, by go_num, by omega, HD5, hid (by rw [← HDC.out]; exact HA5.out), HB5⟩
          case measure => simp [intOf]; omega
    · obtain rfl : k = more := by omega
      go_wp2_with fail
      refine (disk_Crash s HA.out.ok [] (-1) 0 (.slice none 0 0) g W Rk wr HD.out (SlI.nil _) (fun j hj => by simp [Value.ownBlock] at hj)).mono ?_
      rintro e w3 ⟨R3, rfl, hd3, -, hu3⟩
      have HB3 := hid (Below.trans HB.out (hu3.below HB.out.size (fun k _ q => HW.out k q)))
      have HD3 := hid hd3
      clear hd3 hu3
      go_wp2_with fail
      refine (disk_Down _ g W R3 w3 HD3.out).mono ?_
      rintro e w' ⟨rfl, rfl⟩
      rw [show (dkCrash s [] (-1) 0).down = false from rfl]
      go_wp2_with fail
      refine (law05_full 9 _).mono ?_
      rintro e w4 ⟨v4, rfl, hs4, hb4⟩
      have HB4 := hid (Below.next HB3.out hb4)
      have hd4 := HD3.out.below hb4
      clear hb4
      obtain ⟨s5, hs5⟩ := HA.out.after (List.replicate 16 9) (by simp)
      go_wp2_with fail
      refine (disk_Write _ 0 _ v4 g W R3 w4 hd4 hs4 (by simp) 0 s5 (hid hs5)).mono ?_
      rintro e w5 ⟨R5, rfl, hd5, -, hu5⟩
      have HB5 := hid (Below.trans HB4.out (hu5.below HB4.out.size (fun k _ q => HW.out k q)))
      clear hd4 hs4 hd5 hu5 hs5
      go_wp2_with fail
      refine (law05_awake _).mono ?_
      rintro e w6 ⟨rfl, hb6⟩
      have HB6 := hid (Below.next HB5.out hb6)
      clear hb6
      go_wp2_with fail
      go_ret
      exact ⟨rfl, HB6.out⟩
theorem DiskArms_walk (n more : Int) (w : World) (wn : (Lit.int .i64 n).wf = true) (wm : (Lit.int .i64 more).wf = true) :
    Calls Try.prog 9 #[.int .i64 n, .int .i64 more] w fun e w' => e = .returned (.bool true) ∧ Below w.heap.size w w' := by
  by_cases h : n < -3 ∨ (-3 ≤ n ∧ 60 < n) ∨ (-3 ≤ n ∧ n ≤ 60 ∧ more < 0) ∨ (-3 ≤ n ∧ n ≤ 60 ∧ 0 ≤ more ∧ 60 < more)
  · exact DiskArms_no n more w h
  · obtain ⟨m, rfl⟩ := Int.eq_ofNat_of_zero_le (a := more) (by omega)
    exact DiskArms_yes n m w (by omega) (by omega) (by omega)
end Go.Proofs.Ytdchopckbklncaa
