/- Joined texts, in this order: DiskLaw, DiskArmMath, VarMath. Each one's first remark says what it proves; no condition beyond those that its theorems name. -/
import Derived.Test.YtohknblokejldaaJLawDiskPlays08
import Derived.Test.YtohknblokejldaaJLawDiskPlays05
import Derived.Test.YtohknblokejldaaJLawDiskPlays06
import Derived.Test.YtohknblokejldaaJLawDiskPlays01
section
/- law05: full, first, awake. -/
namespace Go.Proofs.Ytohknblokejldaa
open Go.RowKit
open Go.Lib (hid)
set_option linter.unusedVariables false

set_option maxRecDepth 100000 in
set_option maxHeartbeats 1000000 in
theorem law05_full (c : UInt8) (w : World) : Calls Try.prog 83 #[.int .u8 (c.toNat : Int)] w fun e w' => ∃ v, e = .returned v ∧ SlB w' v (List.replicate 16 c) ∧ Below w.heap.size w w' := by
  have HCL : Hid (c.toNat < 256) := hid c.toNat_lt
  go_enter Try.func83, Try.ntmps83
  go_wp2_with (at_make; refine wpList_make T_bytes rfl _ rfl _ _ rfl w.heap.size _ _ _ _ 16 16 rfl rfl rfl rfl (Nat.le_refl _) (by omega) (Nat.le_refl _) ?_; intro w1 hown hgr)
  have hown1 : w1.ownsRow w.heap.size 5 1 (.slice (some ⟨w.heap.size, 0, none⟩) 16 16) 16 (bv (List.replicate 0 c ++ List.replicate 16 0)) := hown
  have HOWN := hid hown1
  have HB : Hid (Below w.heap.size w w1) := hid ((Upd.of_grown hgr).below (Nat.le_refl _) (fun _ _ q => by cases q))
  clear hown hown1 hgr
  obtain ⟨m, hm⟩ : ∃ m, m = w.heap.size := ⟨_, rfl⟩
  have HSM := hid hm
  rw [← hm] at HOWN HB ⊢
  clear hm
  go_wp2_with fail
  go_loopw [4, 8] (fun v4 v8 wr => ∃ (k : Nat), v8 = .int .i64 k ∧ k ≤ 16 ∧ Hid (wr.ownsRow m 5 1 (.slice (some ⟨m, 0, none⟩) 16 16) 16 (bv (List.replicate k c ++ List.replicate (16 - k) 0))) ∧ Hid (Below m w wr)) (fun _ v8 _ => 16 - (intOf v8).toNat)
  case atStart => exact ⟨0, rfl, by omega, HOWN, HB⟩
  case round =>
    clear HOWN HB
    obtain ⟨k, rfl, hk, HOWN, HB⟩ := hrel
    by_cases hlt : k < 16
    · have hc1 : wr.cell? ⟨m, k, none⟩ = some (.int .u8 0) := by
        rw [HOWN.out.cellAt k (by omega)]
        obtain ⟨q, hq⟩ : ∃ q, 16 - k = q + 1 := ⟨15 - k, by omega⟩
        rw [hq]
        simp [bv, List.replicate_succ]
      have hst := (HOWN.out.stored k (.int .u8 (c.toNat : Int))).1
      have hset : (bv (List.replicate k c ++ List.replicate (16 - k) 0)).set k (.int .u8 (c.toNat : Int)) = bv (List.replicate (k + 1) c ++ List.replicate (16 - (k + 1)) 0) := by
        obtain ⟨q, hq⟩ : ∃ q, 16 - k = q + 1 := ⟨15 - k, by omega⟩
        rw [show 16 - (k + 1) = q by omega, hq, List.replicate_succ' (n := k)]
        simp [bv, List.replicate_succ, List.set_append]
      rw [hset] at hst
      have HST := hid hst
      have HB2 := hid (HB.out.setCell (p := ⟨m, k, none⟩) (Nat.le_refl _) (.int .u8 (c.toNat : Int)))
      clear hst hset
      have hf1 := HOWN.out.frozenAt k
      have e0 : (0 : Int) ≤ (k : Int) := by omega
      have e1 : (k : Int) < 16 := by omega
      go_wp2_with fail
      go_roundw
      case rel => exact ⟨k + 1, by go_num, by omega, HST, HB2⟩
      case measure => simp [intOf]; omega
    · obtain rfl : k = 16 := by omega
      go_wp2_with fail
      go_ret
      exact ⟨_, rfl, ownsRow.slb (by simpa using HOWN.out) (by simp), by rw [← HSM.out]; exact HB.out⟩
def awkS : Dk := ⟨16, List.replicate 6 (List.replicate 16 0), [(1, List.replicate 16 1)], false, 0, false, 1⟩
theorem awkS_ok : awkS.Ok := by
  refine ⟨fun p hp => ?_, fun d hd => ?_, by decide, by decide, by decide, by decide⟩
  · simp [awkS] at hp; subst hp; simp [awkS]
  · simp [awkS] at hd; subst hd; simp [awkS]
def awkT : List UInt8 := [1, 1, 1, 0, 0, 0, 0, 0, 0, 0, 0, 0, 0, 0, 0, 0]
set_option maxRecDepth 100000 in
set_option maxHeartbeats 1000000 in
theorem law05_awake (w : World) : Calls Try.prog 35 #[] w fun e w' => e = .returned (.bool true) ∧ Below w.heap.size w w' := by
  have S1 : Hid (dkWrite (dkNew 6 16) 1 (List.replicate 16 1) = (0, awkS)) := hid (by simp [dkWrite, dkCheck, dkNew, awkS, dkCommand, aput, wrap64])
  have S2 : Hid (dkWrite awkS 9 (List.replicate 16 1) = (11, awkS)) := hid (by simp [dkWrite, dkCheck, awkS])
  have S3 : Hid (dkWrite awkS 1 [] = (10, awkS)) := hid (by simp [dkWrite, dkCheck, awkS])
  have S4 : Hid (dkRead (dkCrash awkS [] 1 3) 1 = (awkT, 0)) := hid (by simp [dkRead, dkCheck, dkCrash, dkArm, mixF, crashF, cutN, awkS, dkSector, awkT]; rfl)
  have S5 : Hid ((dkCrash awkS [] 1 3).done = 1) := hid (by rfl)
  go_enter Try.func35, Try.ntmps35
  go_wp2_with fail
  refine (disk_New 6 16 (by omega) (by omega) (by omega) (by omega) _).mono ?_
  rintro e w1 ⟨g, W, R, rfl, hd, hW, hR, hb⟩
  have HD1 := hid hd
  have HW := hid hW
  have HB := hid hb
  clear hd hW hR hb
  go_wp2_with fail
  refine (law05_full 1 _).mono ?_
  rintro e w2 ⟨v2, rfl, hs2, hb2⟩
  have HB2 := hid (Below.next HB.out hb2)
  have hd2 := HD1.out.below hb2
  clear hb2
  go_wp2_with fail
  refine (disk_Write _ 1 _ v2 g W R w2 hd2 hs2 (by simp) 0 awkS S1).mono ?_
  rintro e w3 ⟨R3, rfl, hd3, -, hu3⟩
  have HB3 := hid (Below.trans HB2.out (hu3.below HB2.out.size (fun k _ q => HW.out k q)))
  have HD3 := hid hd3
  clear hd2 hs2 hd3 hu3
  go_wp2_with fail
  refine (law05_full 1 _).mono ?_
  rintro e w4 ⟨v4, rfl, hs4, hb4⟩
  have HB4 := hid (Below.next HB3.out hb4)
  have hd4 := HD3.out.below hb4
  clear hb4
  go_wp2_with fail
  refine (disk_Write _ 9 _ v4 g W R3 w4 hd4 hs4 (by simp) 11 awkS S2).mono ?_
  rintro e w5 ⟨R5, rfl, hd5, -, hu5⟩
  have HB5 := hid (Below.trans HB4.out (hu5.below HB4.out.size (fun k _ q => HW.out k q)))
  have HD5 := hid hd5
  clear hd4 hs4 hd5 hu5
  go_wp2_with fail
  refine (disk_Write _ 1 [] (.slice none 0 0) g W R5 w5 HD5.out ⟨none, 0, rfl, by simp, Rd.nil _ _, by simp, by omega, fun _ => rfl⟩ (by simp) 10 awkS S3).mono ?_
  rintro e w6 ⟨R6, rfl, hd6, -, hu6⟩
  have HB6 := hid (Below.trans HB5.out (hu6.below HB5.out.size (fun k _ q => HW.out k q)))
  have HD6 := hid hd6
  clear hd6 hu6
  go_wp2_with fail
  refine (disk_Crash awkS awkS_ok [] 1 3 (.slice none 0 0) g W R6 w6 HD6.out (SlI.nil _) (fun j hj => by simp [Value.ownBlock] at hj)).mono ?_
  rintro e w7 ⟨R7, rfl, hd7, -, hu7⟩
  have HB7 := hid (Below.trans HB6.out (hu7.below HB6.out.size (fun k _ q => HW.out k q)))
  have HD7 := hid hd7
  clear hd7 hu7
  go_wp2_with fail
  refine (disk_Read _ 1 g W R7 w7 HD7.out awkT 0 S4 (by simp [awkT])).mono ?_
  rintro e w8 ⟨v8, rfl, hown, hb8⟩
  have HB8 := hid (Below.next HB7.out hb8)
  have HD8 := hid (HD7.out.below hb8)
  obtain ⟨b8, c8, rfl⟩ := Joins.ownsRow_form hown (by simp [awkT])
  have hc2 : w8.cell? ⟨b8, 2, none⟩ = some (.int .u8 1) := hown.cellAt 2 (by simp [awkT])
  have hc3 : w8.cell? ⟨b8, 3, none⟩ = some (.int .u8 0) := hown.cellAt 3 (by simp [awkT])
  have hlen : awkT.length = 16 := rfl
  rw [hlen]
  clear hown hb8
  go_wp2_with fail
  refine (disk_Commands _ g W R7 w8 HD8.out).mono ?_
  rintro e w9 ⟨rfl, rfl⟩
  rw [S5.out]
  go_wp2_with fail
  go_ret
  exact ⟨rfl, HB8.out⟩
end Go.Proofs.Ytohknblokejldaa
end
section
/- law05: what arming counts. Plain. -/
namespace Go.Proofs.Ytohknblokejldaa
open Go.RowKit
open Go.Lib (hid)
set_option linter.unusedVariables false

theorem mixF_sec (f : Int → List UInt8 → List UInt8 → List UInt8) (z : Nat) (hf : ∀ k b d, b.length = z → d.length = z → (f k b d).length = z) (D : List (List UInt8)) (C : List (Int × List UInt8)) (left : List Int)
    (hD : ∀ d ∈ D, d.length = z) (hC : ∀ p ∈ C, p.2.length = z) : ∀ d ∈ mixF f D C left, d.length = z := by
  intro d hd
  obtain ⟨i, hi, he⟩ := List.getElem_of_mem hd
  have h := mixF_at f D C left i
  rw [List.getElem?_eq_getElem hi, he] at h
  rw [mixF_len] at hi
  rw [List.getElem?_eq_getElem hi, Option.map_some] at h
  have h := Option.some.inj h
  have hdi := hD _ (List.getElem_mem hi)
  split at h
  · rw [h]; exact hdi
  · split at h
    · rw [h]; exact hdi
    · rename_i b hb
      rw [h]; exact hf _ _ _ (hC _ (lookup_mem hb)) hdi
theorem Dk.Ok.put {s : Dk} (h : s.Ok) (i : Int) (l : List UInt8) (h0 : 0 ≤ i) (h1 : i < (s.D.length : Int)) (hl : l.length = s.size) : Dk.Ok { s with C := aput s.C i l } := by
  refine ⟨fun p hp => ?_, h.sec, h.pos, h.le, h.sz, h.sz0⟩
  rcases mem_aput hp with rfl | ⟨hp, -⟩
  · exact ⟨h0, h1, hl⟩
  · exact h.key p hp
theorem Dk.Ok.flush {s : Dk} (h : s.Ok) : Dk.Ok { s with D := flushD s, C := [] } := by
  refine ⟨fun p hp => by simp at hp, fun d hd => ?_, ?_, ?_, h.sz, h.sz0⟩
  · exact mixF_sec _ s.size (fun _ _ _ hb _ => hb) s.D s.C [] h.sec (fun p hp => (h.key p hp).2.2) d hd
  · simpa [flushD, mixF_len] using h.pos
  · simpa [flushD, mixF_len] using h.le
def wantE (n c : Int) : Int := if 0 ≤ n ∧ n < c then 20 else 0
structure ArmAt (n c : Int) (s : Dk) : Prop where
  ok : s.Ok
  len : s.D.length = 6
  sz : s.size = 16
  st : (n < 0 ∧ s.armed = false ∧ s.down = false ∧ s.done = c) ∨ (0 ≤ n ∧ s.armed = true ∧ ((c ≤ n ∧ s.left = n - c ∧ s.down = false ∧ s.done = c) ∨ (n < c ∧ s.down = true)))
theorem ArmAt.down {n c : Int} {s : Dk} (h : ArmAt n c s) : s.down = decide (wantE n c ≠ 0) := by
  unfold wantE
  rcases h.st with ⟨h1, -, h2, -⟩ | ⟨h1, -, ⟨h3, -, h4, -⟩ | ⟨h3, h4⟩⟩
  · rw [h2, if_neg (by omega)]; rfl
  · rw [h4, if_neg (by omega)]; rfl
  · rw [h4, if_pos (by omega)]; rfl
theorem ArmAt.done {n c : Int} {s : Dk} (h : ArmAt n c s) (hw : wantE n c = 0) : s.done = c := by
  unfold wantE at hw
  rcases h.st with ⟨-, -, -, h2⟩ | ⟨h1, -, ⟨-, -, -, h4⟩ | ⟨h3, h4⟩⟩
  · exact h2
  · exact h4
  · rw [if_pos ⟨h1, h3⟩] at hw; cases hw
theorem ArmAt.command {n c : Int} {s : Dk} (h : ArmAt n c s) (hd : s.down = false) (hc0 : 0 ≤ c) (hc : c ≤ 1000) (hn : n ≤ 1000) : (dkCommand s).1 = wantE n (c + 1) ∧ ArmAt n (c + 1) (dkCommand s).2 := by
  have hsame := dkCommand_same s
  have hwd : wrap64 (c + 1) = c + 1 := by unfold wrap64; omega
  rcases h.st with ⟨h1, h2, h3, h4⟩ | ⟨h1, h2, ⟨h3, h4, h5, h6⟩ | ⟨h3, h4⟩⟩
  · have e : dkCommand s = (0, { s with done := wrap64 (s.done + 1) }) := by simp [dkCommand, h2]
    rw [e]
    refine ⟨by unfold wantE; rw [if_neg (by omega)], h.ok.of_same rfl rfl rfl, h.len, h.sz, .inl ⟨h1, h2, h3, ?_⟩⟩
    simp only; rw [h4, hwd]
  · by_cases hl : s.left = 0
    · have e : dkCommand s = (20, { s with down := true }) := by simp [dkCommand, h2, hl]
      rw [e]
      refine ⟨by unfold wantE; rw [if_pos (by omega)], h.ok.of_same rfl rfl rfl, h.len, h.sz, .inr ⟨h1, h2, .inr ⟨by omega, rfl⟩⟩⟩
    · have e : dkCommand s = (0, { s with left := wrap64 (s.left - 1), done := wrap64 (s.done + 1) }) := by simp [dkCommand, h2, hl]
      have hwl : wrap64 (s.left - 1) = s.left - 1 := by unfold wrap64; omega
      rw [e]
      refine ⟨by unfold wantE; rw [if_neg (by omega)], h.ok.of_same rfl rfl rfl, h.len, h.sz, .inr ⟨h1, h2, .inl ⟨by omega, ?_, h5, ?_⟩⟩⟩
      · simp only; rw [hwl]; omega
      · simp only; rw [h6, hwd]
  · rw [hd] at h4; cases h4
theorem ArmAt.write {n c : Int} {s : Dk} (h : ArmAt n c s) (hc0 : 0 ≤ c) (hc : c ≤ 1000) (hn : n ≤ 1000) (i : Int) (h0 : 0 ≤ i) (h1 : i < 6) (l : List UInt8) (hl : l.length = 16) :
    ∃ s', dkWrite s i l = (wantE n (c + 1), s') ∧ ArmAt n (c + 1) s' := by
  cases hd : s.down with
  | true =>
    have hst : 0 ≤ n ∧ s.armed = true ∧ n < c := by
      rcases h.st with ⟨-, -, q, -⟩ | ⟨q1, q2, ⟨-, -, q, -⟩ | ⟨q3, q4⟩⟩
      · rw [hd] at q; cases q
      · rw [hd] at q; cases q
      · exact ⟨q1, q2, q3⟩
    refine ⟨s, ?_, h.ok, h.len, h.sz, .inr ⟨hst.1, hst.2.1, .inr ⟨by omega, hd⟩⟩⟩
    unfold dkWrite dkCheck wantE
    rw [if_pos (show (0 ≤ n ∧ n < c + 1) by omega)]
    simp [hd]
  | false =>
    have hck : dkCheck s i = 0 := by
      have := h.len
      simp [dkCheck, hd]; omega
    have hs1 : ArmAt n c { s with C := aput s.C i l } := ⟨h.ok.put i l h0 (by have := h.len; omega) (by rw [hl, h.sz]), h.len, h.sz, h.st⟩
    have hcm := hs1.command hd hc0 hc hn
    refine ⟨_, ?_, hcm.2⟩
    unfold dkWrite
    rw [if_neg (by rw [hck]; omega), if_neg (by rw [hl, h.sz]; omega), ← hcm.1]
theorem ArmAt.flush {n c : Int} {s : Dk} (h : ArmAt n c s) (hc0 : 0 ≤ c) (hc : c ≤ 1000) (hn : n ≤ 1000) : ∃ s', dkFlush s = (wantE n (c + 1), s') ∧ ArmAt n (c + 1) s' := by
  cases hd : s.down with
  | true =>
    have hst : 0 ≤ n ∧ s.armed = true ∧ n < c := by
      rcases h.st with ⟨-, -, q, -⟩ | ⟨q1, q2, ⟨-, -, q, -⟩ | ⟨q3, q4⟩⟩
      · rw [hd] at q; cases q
      · rw [hd] at q; cases q
      · exact ⟨q1, q2, q3⟩
    refine ⟨s, ?_, h.ok, h.len, h.sz, .inr ⟨hst.1, hst.2.1, .inr ⟨by omega, hd⟩⟩⟩
    unfold dkFlush wantE
    rw [if_pos (show (0 ≤ n ∧ n < c + 1) by omega), if_pos hd]
  | false =>
    have hcm := h.command hd hc0 hc hn
    unfold dkFlush
    rw [if_neg (by rw [hd]; decide)]
    by_cases he : (dkCommand s).1 = 0
    · rw [if_neg (fun q => q he)]
      refine ⟨_, by rw [← hcm.1, he], hcm.2.ok.flush, ?_, hcm.2.sz, hcm.2.st⟩
      simpa [flushD, mixF_len] using hcm.2.len
    · rw [if_pos he]
      exact ⟨_, by rw [← hcm.1], hcm.2⟩
theorem wantE_first (n c : Int) : (if wantE n c ≠ 0 then wantE n c else wantE n (c + 1)) = wantE n (c + 1) := by
  unfold wantE
  by_cases h : 0 ≤ n ∧ n < c
  · rw [if_pos h, if_pos (by omega), if_pos (by omega)]
  · rw [if_neg h, if_neg (by omega)]
theorem ArmAt.start (n : Int) : ArmAt n 0 (dkArm (dkNew 6 16) n) := by
  refine ⟨⟨fun p hp => by simp [dkArm, dkNew] at hp, fun d hd => ?_, by simp [dkArm, dkNew], by simp [dkArm, dkNew], by simp [dkArm, dkNew], by simp [dkArm, dkNew]⟩, by simp [dkArm, dkNew], rfl, ?_⟩
  · simp [dkArm, dkNew] at hd; subst hd; simp [dkArm, dkNew]
  · by_cases h : 0 ≤ n
    · exact .inr ⟨h, by simp [dkArm, h], .inl ⟨h, by simp [dkArm], rfl, rfl⟩⟩
    · exact .inl ⟨by omega, by simp [dkArm, h], rfl, rfl⟩
theorem ArmAt.after {n c : Int} {s : Dk} (h : ArmAt n c s) (l : List UInt8) (hl : l.length = 16) : ∃ s', dkWrite (dkCrash s [] (-1) 0) 0 l = (0, s') := by
  have hck : dkCheck (dkCrash s [] (-1) 0) 0 = 0 := by
    have h6 := h.len
    unfold dkCheck
    rw [if_neg (by simp [dkCrash, dkArm]), if_neg (by simp only [dkCrash, dkArm, mixF_len, h6]; omega)]
  refine ⟨(dkCommand { dkCrash s [] (-1) 0 with C := aput (dkCrash s [] (-1) 0).C 0 l }).2, ?_⟩
  unfold dkWrite
  rw [if_neg (by rw [hck]; omega), if_neg (by rw [hl]; simp [dkCrash, dkArm, h.sz])]
  simp [dkCommand, dkCrash, dkArm]
end Go.Proofs.Ytohknblokejldaa
end
section
/- Numbers in groups of seven bits: plain functions and laws. No program in sight. -/
namespace Go.Proofs.Ytohknblokejldaa
set_option linter.unusedVariables false

/-- a number, whose sign stands in its lowest bit; and back -/
def zz (n : Int) : Nat := if 0 ≤ n then (2 * n).toNat else (-2 * n - 1).toNat
def unzz (u : Nat) : Int := if u % 2 = 0 then (u / 2 : Nat) else -((u / 2 : Nat) : Int) - 1
theorem unzz_zz (n : Int) : unzz (zz n) = n := by unfold unzz zz; split <;> split <;> omega
theorem zz_unzz (u : Nat) : zz (unzz u) = u := by unfold unzz zz; split <;> split <;> omega
theorem zz_lt (n : Int) (h1 : -9223372036854775808 ≤ n) (h2 : n ≤ 9223372036854775807) : zz n < 18446744073709551616 := by unfold zz; split <;> omega
theorem unzz_bd (u : Nat) (h : u < 18446744073709551616) : -9223372036854775808 ≤ unzz u ∧ unzz u ≤ 9223372036854775807 := by unfold unzz; split <;> omega

/-- a number's groups -/
def enc (u : Nat) : List UInt8 := if h : u < 128 then [UInt8.ofNat u] else UInt8.ofNat (u % 128 + 128) :: enc (u / 128)
termination_by u
decreasing_by omega
theorem enc_small (u : Nat) (h : u < 128) : enc u = [UInt8.ofNat u] := by rw [enc, dif_pos h]
theorem enc_big (u : Nat) (h : ¬ u < 128) : enc u = UInt8.ofNat (u % 128 + 128) :: enc (u / 128) := by conv => lhs; rw [enc, dif_neg h]
theorem enc_pos (u : Nat) : 0 < (enc u).length := by rw [enc]; split <;> simp
theorem enc_len (k : Nat) : ∀ u, u < 128 ^ (k + 1) → (enc u).length ≤ k + 1 := by
  induction k with
  | zero => intro u h; rw [enc_small u (by simpa using h)]; simp
  | succ k ih =>
    intro u h
    by_cases hs : u < 128
    · rw [enc_small u hs]; simp
    · rw [enc_big u hs]
      have := ih (u / 128) (by rw [Nat.div_lt_iff_lt_mul (by omega)]; rw [Nat.pow_succ] at h; exact h)
      simp; omega
theorem enc_len10 (u : Nat) (h : u < 18446744073709551616) : (enc u).length ≤ 10 := enc_len 9 u (by omega)

/-- what the program reads: how many bytes the next number has, and what they come to; 0: there is none -/
def readF : List UInt8 → Nat → Nat → Nat × Nat
  | [], _, _ => (0, 0)
  | c :: t, k, u =>
    if k = 10 then (0, 0) else
    if k = 9 ∧ 1 < c.toNat % 128 then (0, 0) else
    if c.toNat < 128 then (if 0 < k ∧ c.toNat = 0 then (0, 0) else (k + 1, u + c.toNat % 128 * 128 ^ k)) else
    readF t (k + 1) (u + c.toNat % 128 * 128 ^ k)

/-- reading what was written -/
theorem readF_enc (u : Nat) : ∀ (t : List UInt8) (k a : Nat), k ≤ 9 → u * 128 ^ k < 18446744073709551616 → (0 < k → 0 < u) →
    readF (enc u ++ t) k a = (k + (enc u).length, a + u * 128 ^ k) := by
  induction u using Nat.strongRecOn with
  | _ u ih =>
    intro t k a hk hu h0
    by_cases hs : u < 128
    · rw [enc_small u hs]
      have hc : (UInt8.ofNat u).toNat = u := by simp; omega
      rw [List.cons_append, readF, hc, if_neg (by omega)]
      have hm : u % 128 = u := by omega
      rw [hm]
      rw [if_neg (by
        rintro ⟨rfl, h⟩
        have : u * 128 ^ 9 = u * 9223372036854775808 := by rfl
        omega)]
      rw [if_pos hs, if_neg (by omega)]
      simp
    · rw [enc_big u hs]
      have hc : (UInt8.ofNat (u % 128 + 128)).toNat = u % 128 + 128 := by simp; omega
      rw [List.cons_append, readF, hc, if_neg (by omega)]
      have hk9 : k ≠ 9 := by
        rintro rfl
        have : u * 128 ^ 9 = u * 9223372036854775808 := by rfl
        omega
      rw [if_neg (by omega), if_neg (by omega)]
      have hpow : u / 128 * 128 ^ (k + 1) + u % 128 * 128 ^ k = u * 128 ^ k := by
        rw [Nat.pow_succ, Nat.mul_comm (128 ^ k) 128, ← Nat.mul_assoc, ← Nat.add_mul]
        congr 1; omega
      have hmod : (u % 128 + 128) % 128 = u % 128 := by omega
      rw [hmod, ih (u / 128) (by omega) t (k + 1) _ (by omega) (by omega) (by omega)]
      simp only [List.length_cons, Prod.mk.injEq]
      constructor <;> omega
end Go.Proofs.Ytohknblokejldaa
end
