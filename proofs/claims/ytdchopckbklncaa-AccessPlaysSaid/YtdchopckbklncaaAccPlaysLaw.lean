/- The law AccessPlays, walked. -/
import Derived.Test.YtdchopckbklncaaAccPlayMath
namespace Go.Proofs.Ytdchopckbklncaa
open Go.RowKit Go.ChangeShapes Go.WideShapes Go.Deep Go.Joins
open Go.Lib (hid)
set_option linter.unusedVariables false

set_option maxRecDepth 100000 in
set_option maxHeartbeats 8000000 in
/-- an owner and orders of the law's size -/
theorem law18_Plays (o : Int) (L : List (Int × Int × Bool)) (vl : Value) (w : World) (hl : SlE OpE 3 w vl L) (hn : L.length ≤ 80) (ho1 : 1 ≤ o) (ho2 : o ≤ 256) :
    Calls Try.prog 11 #[.int .i64 o, vl] w fun e w' => e = .returned (.bool true) ∧ Below w.heap.size w w' := by
  have HL0 : Hid (SlE OpE 3 w vl L) := hid hl
  obtain ⟨al, cl, rfl, -⟩ := hl
  have hlen := HL0.out.len.2
  have hn2 : (L.length : Int) ≤ 80 := by omega
  go_enter Try.func11, Try.ntmps11
  go_wp2_with fail
  refine (acc_New o _).mono ?_
  rintro e w1 ⟨rfl, hb1⟩
  go_wp2_with fail
  obtain ⟨w2, hw2⟩ : ∃ w2, w2 = (w1.alloc (.cells #[.int .i64 o, .slice none 0 0, .slice none 0 0, .slice none 0 0] 69)).alloc (.cells #[.slice none 0 0, .slice none 0 0, .slice none 0 0, .slice none 0 0] 76) := ⟨_, rfl⟩
  rw [← hw2]
  have HP0 : Hid (PlayIs w w2 w1.heap.size (w1.heap.size + 1) o [] [] [] (.slice none 0 0) (.slice none 0 0) (.slice none 0 0) (.slice none 0 0) (.slice none 0 0) (.slice none 0 0) (.slice none 0 0)) := hid (by
    have hs := hb1.size
    have hb2 : Below w1.heap.size w1 w2 := by rw [hw2]; exact Below.next (Below.new _ _) (Below.new _ _)
    have hoff : Off (.slice none 0 0) w1.heap.size (w1.heap.size + 1) := fun k hk => by cases hk
    have hr : RightL [] o := ⟨fun _ h => (by cases h), List.Pairwise.nil, by simp⟩
    exact ⟨by rw [hw2]; exact Blk.below (Below.new _ _) (Blk.new _ _ _), by rw [hw2]; have := Blk.new (w1.alloc (.cells #[.int .i64 o, .slice none 0 0, .slice none 0 0, .slice none 0 0] 69)) #[.slice none 0 0, .slice none 0 0, .slice none 0 0, .slice none 0 0] 76; simpa using this,
      SlI.nil _, SlI.nil _, SlI.nil _, SlI.nil _, SlI.nil _, SlI.nil _, hoff, hoff, hoff, hoff, hoff, hoff, hr, hr, hr, Below.next hb1 hb2, hs, by omega, by omega⟩)
  obtain ⟨g5, hg5⟩ : ∃ g5, g5 = w1.heap.size := ⟨_, rfl⟩
  obtain ⟨g6, hg6⟩ : ∃ g6, g6 = w1.heap.size + 1 := ⟨_, rfl⟩
  rw [← hg6, ← hg5] at HP0
  rw [← hg6, ← hg5]
  have HN := hid hn
  clear hw2 hb1 hg5 hg6 hn
  go_loopw [28] (fun v28 wr => ∃ (k : Nat) (l1 l2 l3 : List Int) (v1 v2 v3 u0 u1 u2 u3 : Value), v28 = .int .i64 k ∧ k ≤ L.length ∧ Hid (PlayIs w wr g5 g6 o l1 l2 l3 v1 v2 v3 u0 u1 u2 u3)) (fun v28 _ => L.length - (intOf v28).toNat)
  case atStart => exact ⟨0, [], [], [], _, _, _, _, _, _, _, rfl, by omega, HP0⟩
  case round =>
    obtain ⟨k, l1, l2, l3, v1, v2, v3, u0, u1, u2, u3, rfl, hk, HP⟩ := hrel
    clear HP0
    obtain ⟨a1, c1, rfl, -⟩ := HP.out.s1
    obtain ⟨a2, c2, rfl, -⟩ := HP.out.s2
    obtain ⟨a3, c3, rfl, -⟩ := HP.out.s3
    by_cases hlt : k < L.length
    · obtain ⟨bl, ofl, x, rfl, hc0, hc1, hc2⟩ := HL0.out.op HP.out.bel k hlt
      obtain ⟨ln0, p, on⟩ := x
      simp only at hc0 hc1 hc2
      go_upto_region 8 with fail
      obtain ⟨w3, hw3⟩ : ∃ w3, w3 = wr.alloc (.cells #[.int .i64 ln0, .int .i64 p, .bool on] 78) := ⟨_, rfl⟩
      rw [← hw3]
      have HB3 : Hid (Below wr.heap.size wr w3) := hid (by rw [hw3]; exact Below.new _ _)
      have HO3 : Hid (Blk w3 wr.heap.size #[.int .i64 ln0, .int .i64 p, .bool on]) := hid (by rw [hw3]; exact Blk.new _ _ _)
      have HP3 := hid (HP.out.next HB3.out)
      clear hw3 hc0 hc1 hc2
      obtain ⟨hy0, hy1, hy2, hy3, -⟩ := HP3.out.b5.c4
      have hz0 : w3.cell? ⟨wr.heap.size, 0, none⟩ = some (.int .i64 ln0) := by rw [HO3.out.cell]; rfl
      have hz1 : w3.cell? ⟨wr.heap.size, 1, none⟩ = some (.int .i64 p) := by rw [HO3.out.cell]; rfl
      have hz2 : w3.cell? ⟨wr.heap.size, 2, none⟩ = some (.bool on) := by rw [HO3.out.cell]; rfl
      go_wp2_with fail
      refine (acc_Set o ln0 p on l1 l2 l3 _ _ _ _ HP3.out.s1 HP3.out.s2 HP3.out.s3 (by have := HP3.out.r1.2.2; omega) (by have := HP3.out.r2.2.2; omega) (by have := HP3.out.r3.2.2; omega) HP3.out.r1.le HP3.out.r2.le HP3.out.r3.le).mono ?_
      rintro e w4 ⟨v4, err, rfl, herr, hb4, hv4⟩
      have HB4 := hid hb4
      have HERR : Hid (wrongF o l1 l2 l3 ln0 p on = err) := hid herr.symm
      clear hb4 herr hy0 hy1 hy2 hy3 hz0 hz1 hz2
      rcases hv4 with ⟨h0, rfl⟩ | ⟨h0, uc, uf, ub, rfl, hu1, hu2, hu3⟩
      · have h0b : (err != 0) = true := by simpa using h0
        clear h0
        go_upto_region 9 with fail
        obtain ⟨w5, hw5⟩ : ∃ w5, w5 = w4.alloc (.cells #[.int .i64 0, .slice none 0 0, .slice none 0 0, .slice none 0 0] 69) := ⟨_, rfl⟩
        rw [← hw5]
        have HB5 : Hid (Below w3.heap.size w3 w5) := hid (Below.next HB4.out (by rw [hw5]; exact Below.new _ _))
        have HP5 := hid (HP3.out.next HB5.out)
        clear hw5
        obtain ⟨hy0, hy1, hy2, hy3, -⟩ := HP5.out.b5.c4
        have hz0 : w5.cell? ⟨wr.heap.size, 0, none⟩ = some (.int .i64 ln0) := by rw [(HO3.out.below HB5.out).cell]; rfl
        have hz1 : w5.cell? ⟨wr.heap.size, 1, none⟩ = some (.int .i64 p) := by rw [(HO3.out.below HB5.out).cell]; rfl
        have hz2 : w5.cell? ⟨wr.heap.size, 2, none⟩ = some (.bool on) := by rw [(HO3.out.below HB5.out).cell]; rfl
        go_wp2_with fail
        refine (law18_wrong o ln0 p on l1 l2 l3 _ _ _ _ HP5.out.s1 HP5.out.s2 HP5.out.s3 (by have := HP3.out.r1.2.2; omega) (by have := HP3.out.r2.2.2; omega) (by have := HP3.out.r3.2.2; omega) err HERR).mono ?_
        rintro e w6 ⟨rfl, hb6⟩
        have HP6 := hid (HP5.out.next hb6)
        clear hb6 hy0 hy1 hy2 hy3 hz0 hz1 hz2
        go_wp2_with fail
        go_roundw
        case rel => exact ⟨k + 1, l1, l2, l3, _, _, _, _, _, _, _, by go_num, by omega, HP6⟩
        case measure => simp [intOf]; omega
      · subst h0
        obtain ⟨m1, hm1⟩ : ∃ m1, (if ln0 = 1 then newL l1 p on else l1) = m1 := ⟨_, rfl⟩
        obtain ⟨m2, hm2⟩ : ∃ m2, (if ln0 = 2 then newL l2 p on else l2) = m2 := ⟨_, rfl⟩
        obtain ⟨m3, hm3⟩ : ∃ m3, (if ln0 = 3 then newL l3 p on else l3) = m3 := ⟨_, rfl⟩
        rw [hm1] at hu1
        rw [hm2] at hu2
        rw [hm3] at hu3
        have HM1 := hid hm1
        have HM2 := hid hm2
        have HM3 := hid hm3
        have HU1 := hid hu1
        have HU2 := hid hu2
        have HU3 := hid hu3
        obtain ⟨qc, dc, rfl, -⟩ := ownsRow.rd hu1
        obtain ⟨qf, df, rfl, -⟩ := ownsRow.rd hu2
        obtain ⟨qb, db, rfl, -⟩ := ownsRow.rd hu3
        clear hm1 hm2 hm3 hu1 hu2 hu3
        go_upto_region 9 with fail
        obtain ⟨w5, hw5⟩ : ∃ w5, w5 = w4.alloc (.cells #[.int .i64 o, .slice qc m1.length dc, .slice qf m2.length df, .slice qb m3.length db] 69) := ⟨_, rfl⟩
        rw [← hw5]
        have HB45 : Hid (Below w4.heap.size w4 w5) := hid (by rw [hw5]; exact Below.new _ _)
        have HB5 : Hid (Below w3.heap.size w3 w5) := hid (Below.next HB4.out HB45.out)
        have HG5 : Hid (Blk w5 w4.heap.size #[.int .i64 o, .slice qc m1.length dc, .slice qf m2.length df, .slice qb m3.length db]) := hid (by rw [hw5]; exact Blk.new _ _ _)
        have HP5 := hid (HP3.out.next HB5.out)
        clear hw5
        obtain ⟨hy0, hy1, hy2, hy3, -⟩ := HP5.out.b5.c4
        have hz0 : w5.cell? ⟨wr.heap.size, 0, none⟩ = some (.int .i64 ln0) := by rw [(HO3.out.below HB5.out).cell]; rfl
        have hz1 : w5.cell? ⟨wr.heap.size, 1, none⟩ = some (.int .i64 p) := by rw [(HO3.out.below HB5.out).cell]; rfl
        have hz2 : w5.cell? ⟨wr.heap.size, 2, none⟩ = some (.bool on) := by rw [(HO3.out.below HB5.out).cell]; rfl
        go_wp2_with fail
        refine (law18_wrong o ln0 p on l1 l2 l3 _ _ _ _ HP5.out.s1 HP5.out.s2 HP5.out.s3 (by have := HP3.out.r1.2.2; omega) (by have := HP3.out.r2.2.2; omega) (by have := HP3.out.r3.2.2; omega) 0 HERR).mono ?_
        rintro e w6 ⟨rfl, hb6⟩
        have HB36 := hid (Below.next HB5.out hb6)
        have HB46 := hid (Below.next HB45.out hb6)
        have HG6 := hid (HG5.out.below hb6)
        have HP6 := hid (HP5.out.next hb6)
        obtain ⟨hn1, hn3, hp1, hp2, hes⟩ := wrongF_zero HERR.out
        obtain ⟨n, rfl⟩ : ∃ n : Nat, ln0 = (n : Int) := ⟨ln0.toNat, by omega⟩
        rw [Int.toNat_natCast] at hes
        have hn1' : 1 ≤ n := by omega
        have hn3' : n ≤ 3 := by omega
        have HES := hid hes
        clear hb6 hes hy0 hy1 hy2 hy3 hz0 hz1 hz2
        obtain ⟨hy0, hy1, hy2, hy3, hs0, hs1, hs2, hs3⟩ := HP6.out.b5.c4
        obtain ⟨hx0, hx1, hx2, hx3, -⟩ := HG6.out.c4
        go_upto_region 14 with fail
        obtain ⟨wz, hwz, hblkZ, huZ⟩ := set4_of HP6.out.b5 (.int .i64 o) (.slice qc m1.length dc) (.slice qf m2.length df) (.slice qb m3.length db)
        rw [← hwz]
        have HM : Hid (((if n = 1 then docL (pickL n l1 l2 l3) p on else l1) = m1 ∧ (if n = 2 then docL (pickL n l1 l2 l3) p on else l2) = m2 ∧ (if n = 3 then docL (pickL n l1 l2 l3) p on else l3) = m3) ∧ RightL m1 o ∧ RightL m2 o ∧ RightL m3 o) := hid (by
          have hes := HES.out
          have h1 := HM1.out
          have h2 := HM2.out
          have h3 := HM3.out
          have e1 : ((n : Int) = 1) = (n = 1) := by apply propext; omega
          have e2 : ((n : Int) = 2) = (n = 2) := by apply propext; omega
          have e3 : ((n : Int) = 3) = (n = 3) := by apply propext; omega
          simp only [e1] at h1
          simp only [e2] at h2
          simp only [e3] at h3
          have R1 := HP3.out.r1
          have R2 := HP3.out.r2
          have R3 := HP3.out.r3
          obtain rfl | rfl | rfl : n = 1 ∨ n = 2 ∨ n = 3 := by omega
          · simp only [pickL] at hes ⊢
            simp at h1 h2 h3 hes ⊢
            rw [newL_doc R1 hes] at h1
            exact ⟨⟨h1, h2, h3⟩, h1 ▸ docL_right R1 hes hp1 hp2, h2 ▸ R2, h3 ▸ R3⟩
          · simp only [pickL] at hes ⊢
            simp at h1 h2 h3 hes ⊢
            rw [newL_doc R2 hes] at h2
            exact ⟨⟨h1, h2, h3⟩, h1 ▸ R1, h2 ▸ docL_right R2 hes hp1 hp2, h3 ▸ R3⟩
          · simp only [pickL] at hes ⊢
            simp at h1 h2 h3 hes ⊢
            rw [newL_doc R3 hes] at h3
            exact ⟨⟨h1, h2, h3⟩, h1 ▸ R1, h2 ▸ R2, h3 ▸ docL_right R3 hes hp1 hp2⟩)
        have HZ := hid (HP3.out.house HB36.out (HU1.out.below HB46.out) (HU2.out.below HB46.out) (HU3.out.below HB46.out) hblkZ huZ)
        have HBZ := hid hblkZ
        have HOZ : Hid (Blk wz wr.heap.size #[.int .i64 (n : Int), .int .i64 p, .bool on]) := hid ((HO3.out.below HB36.out).upd huZ (fun e => by have := HP.out.b5.lt; omega))
        have hz0 : wz.cell? ⟨wr.heap.size, 0, none⟩ = some (.int .i64 (n : Int)) := by rw [HOZ.out.cell]; rfl
        have hz1 : wz.cell? ⟨wr.heap.size, 1, none⟩ = some (.int .i64 p) := by rw [HOZ.out.cell]; rfl
        have hz2 : wz.cell? ⟨wr.heap.size, 2, none⟩ = some (.bool on) := by rw [HOZ.out.cell]; rfl
        clear hwz hblkZ huZ hy0 hy1 hy2 hy3 hs0 hs1 hs2 hs3 hx0 hx1 hx2 hx3 hz0 hz1 hz2
        have hq0 : ∀ x, Below wz.heap.size wz x → x.cell? ⟨wr.heap.size, 0, none⟩ = some (.int .i64 (n : Int)) := fun x hb => by rw [(HOZ.out.below hb).cell]; rfl
        have hq1 : ∀ x, Below wz.heap.size wz x → x.cell? ⟨wr.heap.size, 1, none⟩ = some (.int .i64 p) := fun x hb => by rw [(HOZ.out.below hb).cell]; rfl
        have hn4 : (n : Int) < 4 := by omega
        have hq2 : wz.cell? ⟨wr.heap.size, 2, none⟩ = some (.bool on) := by rw [HOZ.out.cell]; rfl
        obtain ⟨ln, hln⟩ : ∃ ln, pickL n l1 l2 l3 = ln := ⟨_, rfl⟩
        obtain ⟨un, hun⟩ : ∃ un, pickL n u1 u2 u3 = un := ⟨_, rfl⟩
        have hlen : ln.length ≤ 1000 := by
          have := HP.out.r1.2.2
          have := HP.out.r2.2.2
          have := HP.out.r3.2.2
          rw [← hln]; unfold pickL; split; omega; split; omega; omega
        have hqc : ∀ x, Below wz.heap.size wz x → x.cell? ⟨g6, n, none⟩ = some un := fun x hb => by
          rw [(HZ.out.2.2.2.2.2.2.1.below hb).cell, ← hun]
          obtain rfl | rfl | rfl : n = 1 ∨ n = 2 ∨ n = 3 := by omega
          all_goals rfl
        have HUN : Hid (SlI wz un ln) := hid (by
          obtain ⟨-, -, -, -, -, -, -, z8, z9, z10, -⟩ := HZ.out
          rw [← hln, ← hun]; unfold pickL
          split; exact z8; split; exact z9; exact z10)
        have HD1 : Hid ((if n = 1 then docL ln p on else l1) = m1) := hid (by rw [← hln]; exact HM.out.1.1)
        have HD2 : Hid ((if n = 2 then docL ln p on else l2) = m2) := hid (by rw [← hln]; exact HM.out.1.2.1)
        have HD3 : Hid ((if n = 3 then docL ln p on else l3) = m3) := hid (by rw [← hln]; exact HM.out.1.2.2)
        obtain ⟨qu, cu, rfl⟩ : ∃ qu cu, un = .slice qu ln.length cu := by obtain ⟨a, c, h, -⟩ := HUN.out; exact ⟨a, c, h⟩
        clear hln hun
        go_upto_if 58 with fail
        go_cut [58] (fun _ wx => ∃ y1 y2 y3, PlayIs w wx g5 g6 o m1 m2 m3 (.slice qc m1.length dc) (.slice qf m2.length df) (.slice qb m3.length db) u0 y1 y2 y3 ∧ Blk wx wr.heap.size #[.int .i64 (n : Int), .int .i64 p, .bool on])
        case first =>
          cases on with
          | true =>
            go_wp2_with fail
            have hka := (Below.refl wz.heap.size wz).drew
            refine wp_region_kept [10] (fun x => Below wz.heap.size wz x) (by kernel_rfl) (by assumption) (fun hH => ?_)
            refine wpK.take (i := 0) (v := _) (by simp only [List.getElem?_toArray, List.getElem?_cons_succ, List.getElem?_cons_zero]; rfl) (by kernel_rfl) (by kernel_rfl) (by kernel_rfl) (by kernel_rfl) (by kernel_rfl) (by exact fun _ _ _ h => h) (by first | exact Or.inl ⟨by rfl, by intro w hSw; go_simp; try with_reducible rfl⟩ | exact Or.inr ⟨by rfl, rfl⟩) hH ?_
            try simp only [Act.put, List.setIfInBounds_toArray, List.set_cons_zero, List.set_cons_succ]
            refine wpK.take (i := 1) (v := _) (by simp only [List.getElem?_toArray, List.getElem?_cons_succ, List.getElem?_cons_zero]; rfl) (by kernel_rfl) (by kernel_rfl) (by kernel_rfl) (by kernel_rfl) (by kernel_rfl) (by exact fun _ _ _ h => h) (by first | exact Or.inl ⟨by rfl, by intro w hSw; go_simp; try with_reducible rfl⟩ | exact Or.inr ⟨by rfl, rfl⟩) hH ?_
            try simp only [Act.put, List.setIfInBounds_toArray, List.set_cons_zero, List.set_cons_succ]
            refine wpK.take (i := 2) (v := _) (by simp only [List.getElem?_toArray, List.getElem?_cons_succ, List.getElem?_cons_zero]; rfl) (by kernel_rfl) (by kernel_rfl) (by kernel_rfl) (by kernel_rfl) (by kernel_rfl) (by exact fun _ _ _ h => h) (by first | exact Or.inl ⟨by rfl, by intro w hSw; go_simp; try with_reducible rfl⟩ | exact Or.inr ⟨by rfl, rfl⟩) hH ?_
            try simp only [Act.put, List.setIfInBounds_toArray, List.set_cons_zero, List.set_cons_succ]
            refine wpK.take (i := 3) (v := _) (by simp only [List.getElem?_toArray, List.getElem?_cons_succ, List.getElem?_cons_zero]; rfl) (by kernel_rfl) (by kernel_rfl) (by kernel_rfl) (by kernel_rfl) (by kernel_rfl) (by exact fun _ _ _ h => h) (by first | exact Or.inl ⟨by rfl, by intro w hSw; go_simp; try with_reducible rfl⟩ | exact Or.inr ⟨by rfl, rfl⟩) hH ?_
            try simp only [Act.put, List.setIfInBounds_toArray, List.set_cons_zero, List.set_cons_succ]
            refine wpK.take (i := 4) (v := _) (by simp only [List.getElem?_toArray, List.getElem?_cons_succ, List.getElem?_cons_zero]; rfl) (by kernel_rfl) (by kernel_rfl) (by kernel_rfl) (by kernel_rfl) (by kernel_rfl) (by exact fun _ _ _ h => h) (by first | exact Or.inl ⟨by rfl, by intro w hSw; go_simp; try with_reducible rfl⟩ | exact Or.inr ⟨by rfl, rfl⟩) hH ?_
            try simp only [Act.put, List.setIfInBounds_toArray, List.set_cons_zero, List.set_cons_succ]
            refine wpK.take (i := 5) (v := _) (by simp only [List.getElem?_toArray, List.getElem?_cons_succ, List.getElem?_cons_zero]; rfl) (by kernel_rfl) (by kernel_rfl) (by kernel_rfl) (by kernel_rfl) (by kernel_rfl) (by exact fun _ _ _ h => h) (by first | exact Or.inl ⟨by rfl, by intro w hSw; go_simp; try with_reducible rfl⟩ | exact Or.inr ⟨by rfl, rfl⟩) hH ?_
            try simp only [Act.put, List.setIfInBounds_toArray, List.set_cons_zero, List.set_cons_succ]
            refine wpK.take (i := 6) (v := _) (by simp only [List.getElem?_toArray, List.getElem?_cons_succ, List.getElem?_cons_zero]; rfl) (by kernel_rfl) (by kernel_rfl) (by kernel_rfl) (by kernel_rfl) (by kernel_rfl) (by exact fun _ _ _ h => h) (by first | exact Or.inl ⟨by rfl, by intro w hSw; go_simp; try with_reducible rfl⟩ | exact Or.inr ⟨by rfl, rfl⟩) hH ?_
            try simp only [Act.put, List.setIfInBounds_toArray, List.set_cons_zero, List.set_cons_succ]
            refine wpK.take (i := 7) (v := _) (by simp only [List.getElem?_toArray, List.getElem?_cons_succ, List.getElem?_cons_zero]; rfl) (by kernel_rfl) (by kernel_rfl) (by kernel_rfl) (by kernel_rfl) (by kernel_rfl) (by exact fun _ _ _ h => h) (by first | exact Or.inl ⟨by rfl, by intro w hSw; go_simp; try with_reducible rfl⟩ | exact Or.inr ⟨by rfl, rfl⟩) hH ?_
            try simp only [Act.put, List.setIfInBounds_toArray, List.set_cons_zero, List.set_cons_succ]
            refine wpK.inv (le := fun w w' => Below w.heap.size w w') (fun w => Below.refl _ w) (fun _ _ _ h k => Below.next h k) (m := 1) [8, 9] (fun i => match i with | 9 => [8] | _ => []) (fun i => match i with | 8 => fun u w => ∃ a c, u 8 = .slice a (docL ln p true).length c ∧ OwnI w wz.heap.size (.slice a (docL ln p true).length c) (docL ln p true) | 9 => fun u w => u 9 = .pointer (some ⟨g6, n, none⟩) | _ => fun _ _ => True) (by kernel_rfl) ⟨(fun u w w' hb h => by obtain ⟨a, c, h1, h2⟩ := h; exact ⟨a, c, h1, h2.below hb⟩), (fun _ _ _ _ h => h), trivial⟩ ⟨(by dsimp only; intro u j v w h1 h2 h; have e0 := upd_ne u v (Ne.symm h1); simp only [e0]; exact h), (by dsimp only; intro u j v w h1 h2 h; simp only [List.mem_cons, List.not_mem_nil, or_false, not_or] at h2; have e0 := upd_ne u v (Ne.symm h1); have e1 := upd_ne u v (Ne.symm h2); simp only [e0, e1]; exact h), trivial⟩ (fun _ h => Below.next hH h) (fun u => ?_)
            generalize hacts : acts _ _ u _ = A_
            simp only [acts, dstOf, List.getElem?_toArray, List.getElem?_cons_succ, List.getElem?_cons_zero, Option.bind_some, Act.put, List.setIfInBounds_toArray, List.set_cons_succ, List.set_cons_zero] at hacts
            subst hacts
            refine ⟨⟨?_, ?_, trivial⟩, ?_⟩
            · intro wx hw h_
              clear h_
              apply wpOp_stepI (i := 8) (le := fun w w' => Below w.heap.size w w') (φ := fun v w' => (fun u w => ∃ a c, u 8 = .slice a (docL ln p true).length c ∧ OwnI w wz.heap.size (.slice a (docL ln p true).length c) (docL ln p true)) (upd u 8 v) w')
              · simp only [List.getElem?_toArray, List.getElem?_cons_succ, List.getElem?_cons_zero]; rfl
              · rfl
              intro K hK
              go_simp
              refine (ref18_With ln _ p _ (HUN.out.below (Below.next hka hw)) hlen).mono ?_
              rintro e w8 ⟨v8, rfl, hown8, hb8⟩
              have hown9 : OwnI w8 wz.heap.size v8 (docL ln p true) := by rw [show docL ln p true = withF ln p false from by simp [docL]]; exact OwnI.base hown8 (Below.next hka hw).size
              obtain ⟨e8, f8, rfl, -⟩ := ownsRow.rd hown9
              go_simp
              exact hK.out _ _ hb8 ⟨e8, f8, rfl, hown9⟩
            · intro wx hw h_
              have h_8 : (fun u w => ∃ a c, u 8 = .slice a (docL ln p true).length c ∧ OwnI w wz.heap.size (.slice a (docL ln p true).length c) (docL ln p true)) u wx := h_.1
              try dsimp only at h_8
              clear h_
              apply wpOp_stepI (i := 9) (le := fun w w' => Below w.heap.size w w') (φ := fun v w' => (fun u w => u 9 = .pointer (some ⟨g6, n, none⟩)) (upd u 9 v) w')
              · simp only [List.getElem?_toArray, List.getElem?_cons_succ, List.getElem?_cons_zero]; rfl
              · rfl
              intro K hK
              go_simp
              exact hK.out (.pointer (some ⟨g6, n, none⟩)) _ (Below.refl _ _) rfl
            · intro wx hw h_
              have h_8 : (fun u w => ∃ a c, u 8 = .slice a (docL ln p true).length c ∧ OwnI w wz.heap.size (.slice a (docL ln p true).length c) (docL ln p true)) u wx := h_.1
              try dsimp only at h_8
              have h_9 : (fun u w => u 9 = .pointer (some ⟨g6, n, none⟩)) u wx := h_.2.1
              try dsimp only at h_9
              clear h_
              obtain ⟨e8, f8, e1, hown8⟩ := h_8
              simp only [e1, h_9]
              have hbx := Below.next hka hw
              have hgx := HZ.out.2.2.2.2.2.2.1.below hbx
              have hcx : wx.cell? ⟨g6, n, none⟩ = some (.slice qu ln.length cu) := hqc wx hbx
              have hfx : wx.frozen? ⟨g6, n, none⟩ = false := hgx.unfrozen n
              refine wpK.late (i := 10) (by kernel_rfl) (by simp only [List.getElem?_toArray, List.getElem?_cons_succ, List.getElem?_cons_zero]; rfl) (by kernel_rfl) (fun K hK => ?_)
              go_simp
              skip
              refine hK.out _ _ ?_
              clear hK K
              try simp only [Act.put, List.setIfInBounds_toArray, List.set_cons_zero, List.set_cons_succ]
              refine wpK.done (by kernel_rfl) ?_ _
              have HX : Hid (∃ y1 y2 y3, PlayIs w (wx.setCell ⟨g6, n, none⟩ (.slice e8 (docL ln p true).length f8)) g5 g6 o m1 m2 m3 (.slice qc m1.length dc) (.slice qf m2.length df) (.slice qb m3.length db) u0 y1 y2 y3 ∧ Blk (wx.setCell ⟨g6, n, none⟩ (.slice e8 (docL ln p true).length f8)) wr.heap.size #[.int .i64 (n : Int), .int .i64 p, .bool true]) := hid (by
                obtain ⟨z1, z2, z3, z4, z5, z6, z7, z8, z9, z10, z11⟩ := HZ.out
                have o8 : Off (.slice e8 (docL ln p true).length f8) g5 g6 := fun j hj => by have := (hown8.lt j hj).1; have := HBZ.out.lt; have := z7.lt; omega
                obtain ⟨y1, y2, y3, b6, t1, t2, t3, k1, k2, k3⟩ := put_lists hgx (z8.below hbx) (z9.below hbx) (z10.below hbx) (OwnI.sli hown8) (fun j hj => (HP.out.k1 j hj).2) (fun j hj => (HP.out.k2 j hj).2) (fun j hj => (HP.out.k3 j hj).2) (fun j hj => (o8 j hj).2) hn1' hn3' (fun v => Off v g5 g6) HP.out.k1 HP.out.k2 HP.out.k3 o8
                have hS := Upd.setCell wx g6 n (.slice e8 (docL ln p true).length f8)
                rw [HD1.out] at t1; rw [HD2.out] at t2; rw [HD3.out] at t3
                have e6 := HP.out.b6.lt
                refine ⟨y1, y2, y3, ⟨(HBZ.out.below hbx).upd hS HP.out.ne, b6, (z1.below hbx).upd hS (fun j hj => (z4 j hj).2), (z2.below hbx).upd hS (fun j hj => (z5 j hj).2), (z3.below hbx).upd hS (fun j hj => (z6 j hj).2), t1, t2, t3, z4, z5, z6, k1, k2, k3, HM.out.2.1, HM.out.2.2.1, HM.out.2.2.2, ?_, HP.out.q5, HP.out.q6, HP.out.ne⟩, (HOZ.out.below hbx).upd hS (fun e => by omega)⟩
                exact (Below.next z11 hbx).trans (hS.below (Below.next z11 hbx).size (fun j _ e => e ▸ HP.out.q6)))
              clear hown8 hbx hgx hcx hfx hw hka hH hq0 hq1 hq2 hqc
              go_wp2_with fail
              go_meet
              exact HX.out
          | false =>
            go_wp2_with fail
            have hka := (Below.refl wz.heap.size wz).drew
            refine wp_region_kept [10] (fun x => Below wz.heap.size wz x) (by kernel_rfl) (by assumption) (fun hH => ?_)
            refine wpK.take (i := 0) (v := _) (by simp only [List.getElem?_toArray, List.getElem?_cons_succ, List.getElem?_cons_zero]; rfl) (by kernel_rfl) (by kernel_rfl) (by kernel_rfl) (by kernel_rfl) (by kernel_rfl) (by exact fun _ _ _ h => h) (by first | exact Or.inl ⟨by rfl, by intro w hSw; go_simp; try with_reducible rfl⟩ | exact Or.inr ⟨by rfl, rfl⟩) hH ?_
            try simp only [Act.put, List.setIfInBounds_toArray, List.set_cons_zero, List.set_cons_succ]
            refine wpK.take (i := 1) (v := _) (by simp only [List.getElem?_toArray, List.getElem?_cons_succ, List.getElem?_cons_zero]; rfl) (by kernel_rfl) (by kernel_rfl) (by kernel_rfl) (by kernel_rfl) (by kernel_rfl) (by exact fun _ _ _ h => h) (by first | exact Or.inl ⟨by rfl, by intro w hSw; go_simp; try with_reducible rfl⟩ | exact Or.inr ⟨by rfl, rfl⟩) hH ?_
            try simp only [Act.put, List.setIfInBounds_toArray, List.set_cons_zero, List.set_cons_succ]
            refine wpK.take (i := 2) (v := _) (by simp only [List.getElem?_toArray, List.getElem?_cons_succ, List.getElem?_cons_zero]; rfl) (by kernel_rfl) (by kernel_rfl) (by kernel_rfl) (by kernel_rfl) (by kernel_rfl) (by exact fun _ _ _ h => h) (by first | exact Or.inl ⟨by rfl, by intro w hSw; go_simp; try with_reducible rfl⟩ | exact Or.inr ⟨by rfl, rfl⟩) hH ?_
            try simp only [Act.put, List.setIfInBounds_toArray, List.set_cons_zero, List.set_cons_succ]
            refine wpK.take (i := 3) (v := _) (by simp only [List.getElem?_toArray, List.getElem?_cons_succ, List.getElem?_cons_zero]; rfl) (by kernel_rfl) (by kernel_rfl) (by kernel_rfl) (by kernel_rfl) (by kernel_rfl) (by exact fun _ _ _ h => h) (by first | exact Or.inl ⟨by rfl, by intro w hSw; go_simp; try with_reducible rfl⟩ | exact Or.inr ⟨by rfl, rfl⟩) hH ?_
            try simp only [Act.put, List.setIfInBounds_toArray, List.set_cons_zero, List.set_cons_succ]
            refine wpK.take (i := 4) (v := _) (by simp only [List.getElem?_toArray, List.getElem?_cons_succ, List.getElem?_cons_zero]; rfl) (by kernel_rfl) (by kernel_rfl) (by kernel_rfl) (by kernel_rfl) (by kernel_rfl) (by exact fun _ _ _ h => h) (by first | exact Or.inl ⟨by rfl, by intro w hSw; go_simp; try with_reducible rfl⟩ | exact Or.inr ⟨by rfl, rfl⟩) hH ?_
            try simp only [Act.put, List.setIfInBounds_toArray, List.set_cons_zero, List.set_cons_succ]
            refine wpK.take (i := 5) (v := _) (by simp only [List.getElem?_toArray, List.getElem?_cons_succ, List.getElem?_cons_zero]; rfl) (by kernel_rfl) (by kernel_rfl) (by kernel_rfl) (by kernel_rfl) (by kernel_rfl) (by exact fun _ _ _ h => h) (by first | exact Or.inl ⟨by rfl, by intro w hSw; go_simp; try with_reducible rfl⟩ | exact Or.inr ⟨by rfl, rfl⟩) hH ?_
            try simp only [Act.put, List.setIfInBounds_toArray, List.set_cons_zero, List.set_cons_succ]
            refine wpK.take (i := 6) (v := _) (by simp only [List.getElem?_toArray, List.getElem?_cons_succ, List.getElem?_cons_zero]; rfl) (by kernel_rfl) (by kernel_rfl) (by kernel_rfl) (by kernel_rfl) (by kernel_rfl) (by exact fun _ _ _ h => h) (by first | exact Or.inl ⟨by rfl, by intro w hSw; go_simp; try with_reducible rfl⟩ | exact Or.inr ⟨by rfl, rfl⟩) hH ?_
            try simp only [Act.put, List.setIfInBounds_toArray, List.set_cons_zero, List.set_cons_succ]
            refine wpK.take (i := 7) (v := _) (by simp only [List.getElem?_toArray, List.getElem?_cons_succ, List.getElem?_cons_zero]; rfl) (by kernel_rfl) (by kernel_rfl) (by kernel_rfl) (by kernel_rfl) (by kernel_rfl) (by exact fun _ _ _ h => h) (by first | exact Or.inl ⟨by rfl, by intro w hSw; go_simp; try with_reducible rfl⟩ | exact Or.inr ⟨by rfl, rfl⟩) hH ?_
            try simp only [Act.put, List.setIfInBounds_toArray, List.set_cons_zero, List.set_cons_succ]
            refine wpK.inv (le := fun w w' => Below w.heap.size w w') (fun w => Below.refl _ w) (fun _ _ _ h k => Below.next h k) (m := 1) [8, 9] (fun i => match i with | 9 => [8] | _ => []) (fun i => match i with | 8 => fun u w => ∃ a c, u 8 = .slice a (docL ln p false).length c ∧ OwnI w wz.heap.size (.slice a (docL ln p false).length c) (docL ln p false) | 9 => fun u w => u 9 = .pointer (some ⟨g6, n, none⟩) | _ => fun _ _ => True) (by kernel_rfl) ⟨(fun u w w' hb h => by obtain ⟨a, c, h1, h2⟩ := h; exact ⟨a, c, h1, h2.below hb⟩), (fun _ _ _ _ h => h), trivial⟩ ⟨(by dsimp only; intro u j v w h1 h2 h; have e0 := upd_ne u v (Ne.symm h1); simp only [e0]; exact h), (by dsimp only; intro u j v w h1 h2 h; simp only [List.mem_cons, List.not_mem_nil, or_false, not_or] at h2; have e0 := upd_ne u v (Ne.symm h1); have e1 := upd_ne u v (Ne.symm h2); simp only [e0, e1]; exact h), trivial⟩ (fun _ h => Below.next hH h) (fun u => ?_)
            generalize hacts : acts _ _ u _ = A_
            simp only [acts, dstOf, List.getElem?_toArray, List.getElem?_cons_succ, List.getElem?_cons_zero, Option.bind_some, Act.put, List.setIfInBounds_toArray, List.set_cons_succ, List.set_cons_zero] at hacts
            subst hacts
            refine ⟨⟨?_, ?_, trivial⟩, ?_⟩
            · intro wx hw h_
              clear h_
              apply wpOp_stepI (i := 8) (le := fun w w' => Below w.heap.size w w') (φ := fun v w' => (fun u w => ∃ a c, u 8 = .slice a (docL ln p false).length c ∧ OwnI w wz.heap.size (.slice a (docL ln p false).length c) (docL ln p false)) (upd u 8 v) w')
              · simp only [List.getElem?_toArray, List.getElem?_cons_succ, List.getElem?_cons_zero]; rfl
              · rfl
              intro K hK
              go_simp
              refine (ref18_Without ln _ p _ (HUN.out.below (Below.next hka hw)) hlen).mono ?_
              rintro e w8 ⟨v8, rfl, hown8, hb8⟩
              have hown9 : OwnI w8 wz.heap.size v8 (docL ln p false) := by rw [show docL ln p false = ln.filter (fun x => x != p) from by simp [docL]]; exact OwnI.base hown8 (Below.next hka hw).size
              obtain ⟨e8, f8, rfl, -⟩ := ownsRow.rd hown9
              go_simp
              exact hK.out _ _ hb8 ⟨e8, f8, rfl, hown9⟩
            · intro wx hw h_
              have h_8 : (fun u w => ∃ a c, u 8 = .slice a (docL ln p false).length c ∧ OwnI w wz.heap.size (.slice a (docL ln p false).length c) (docL ln p false)) u wx := h_.1
              try dsimp only at h_8
              clear h_
              apply wpOp_stepI (i := 9) (le := fun w w' => Below w.heap.size w w') (φ := fun v w' => (fun u w => u 9 = .pointer (some ⟨g6, n, none⟩)) (upd u 9 v) w')
              · simp only [List.getElem?_toArray, List.getElem?_cons_succ, List.getElem?_cons_zero]; rfl
              · rfl
              intro K hK
              go_simp
              exact hK.out (.pointer (some ⟨g6, n, none⟩)) _ (Below.refl _ _) rfl
            · intro wx hw h_
              have h_8 : (fun u w => ∃ a c, u 8 = .slice a (docL ln p false).length c ∧ OwnI w wz.heap.size (.slice a (docL ln p false).length c) (docL ln p false)) u wx := h_.1
              try dsimp only at h_8
              have h_9 : (fun u w => u 9 = .pointer (some ⟨g6, n, none⟩)) u wx := h_.2.1
              try dsimp only at h_9
              clear h_
              obtain ⟨e8, f8, e1, hown8⟩ := h_8
              simp only [e1, h_9]
              have hbx := Below.next hka hw
              have hgx := HZ.out.2.2.2.2.2.2.1.below hbx
              have hcx : wx.cell? ⟨g6, n, none⟩ = some (.slice qu ln.length cu) := hqc wx hbx
              have hfx : wx.frozen? ⟨g6, n, none⟩ = false := hgx.unfrozen n
              refine wpK.late (i := 10) (by kernel_rfl) (by simp only [List.getElem?_toArray, List.getElem?_cons_succ, List.getElem?_cons_zero]; rfl) (by kernel_rfl) (fun K hK => ?_)
              go_simp
              skip
              refine hK.out _ _ ?_
              clear hK K
              try simp only [Act.put, List.setIfInBounds_toArray, List.set_cons_zero, List.set_cons_succ]
              refine wpK.done (by kernel_rfl) ?_ _
              have HX : Hid (∃ y1 y2 y3, PlayIs w (wx.setCell ⟨g6, n, none⟩ (.slice e8 (docL ln p false).length f8)) g5 g6 o m1 m2 m3 (.slice qc m1.length dc) (.slice qf m2.length df) (.slice qb m3.length db) u0 y1 y2 y3 ∧ Blk (wx.setCell ⟨g6, n, none⟩ (.slice e8 (docL ln p false).length f8)) wr.heap.size #[.int .i64 (n : Int), .int .i64 p, .bool false]) := hid (by
                obtain ⟨z1, z2, z3, z4, z5, z6, z7, z8, z9, z10, z11⟩ := HZ.out
                have o8 : Off (.slice e8 (docL ln p false).length f8) g5 g6 := fun j hj => by have := (hown8.lt j hj).1; have := HBZ.out.lt; have := z7.lt; omega
                obtain ⟨y1, y2, y3, b6, t1, t2, t3, k1, k2, k3⟩ := put_lists hgx (z8.below hbx) (z9.below hbx) (z10.below hbx) (OwnI.sli hown8) (fun j hj => (HP.out.k1 j hj).2) (fun j hj => (HP.out.k2 j hj).2) (fun j hj => (HP.out.k3 j hj).2) (fun j hj => (o8 j hj).2) hn1' hn3' (fun v => Off v g5 g6) HP.out.k1 HP.out.k2 HP.out.k3 o8
                have hS := Upd.setCell wx g6 n (.slice e8 (docL ln p false).length f8)
                rw [HD1.out] at t1; rw [HD2.out] at t2; rw [HD3.out] at t3
                have e6 := HP.out.b6.lt
                refine ⟨y1, y2, y3, ⟨(HBZ.out.below hbx).upd hS HP.out.ne, b6, (z1.below hbx).upd hS (fun j hj => (z4 j hj).2), (z2.below hbx).upd hS (fun j hj => (z5 j hj).2), (z3.below hbx).upd hS (fun j hj => (z6 j hj).2), t1, t2, t3, z4, z5, z6, k1, k2, k3, HM.out.2.1, HM.out.2.2.1, HM.out.2.2.2, ?_, HP.out.q5, HP.out.q6, HP.out.ne⟩, (HOZ.out.below hbx).upd hS (fun e => by omega)⟩
                exact (Below.next z11 hbx).trans (hS.below (Below.next z11 hbx).size (fun j _ e => e ▸ HP.out.q6)))
              clear hown8 hbx hgx hcx hfx hw hka hH hq0 hq1 hq2 hqc
              go_wp2_with fail
              go_meet
              exact HX.out
        case rest =>
        obtain ⟨y1, y2, y3, hp, ho⟩ := hcut
        obtain ⟨a1', c1', rfl, -⟩ := hp.t1
        obtain ⟨a2', c2', rfl, -⟩ := hp.t2
        obtain ⟨a3', c3', rfl, -⟩ := hp.t3
        have HPC := hid hp
        have HOC := hid ho
        clear hp ho hq0 hq1 hq2 hqc
        obtain ⟨lv, hlv⟩ : ∃ lv, lvlF o m1 m2 m3 p = lv := ⟨_, rfl⟩
        have HLV := hid hlv
        obtain ⟨wk, rfl⟩ : ∃ wk : World, wk = wc := ⟨_, rfl⟩
        have hh0 : ∀ x, Below wk.heap.size wk x → x.cell? ⟨g5, 0, none⟩ = some (.int .i64 o) := fun x hb => (HPC.out.b5.below hb).c4.1
        have hh1 : ∀ x, Below wk.heap.size wk x → x.cell? ⟨g5, 1, none⟩ = some (.slice qc m1.length dc) := fun x hb => (HPC.out.b5.below hb).c4.2.1
        have hh2 : ∀ x, Below wk.heap.size wk x → x.cell? ⟨g5, 2, none⟩ = some (.slice qf m2.length df) := fun x hb => (HPC.out.b5.below hb).c4.2.2.1
        have hh3 : ∀ x, Below wk.heap.size wk x → x.cell? ⟨g5, 3, none⟩ = some (.slice qb m3.length db) := fun x hb => (HPC.out.b5.below hb).c4.2.2.2.1
        have hi1 : ∀ x, Below wk.heap.size wk x → x.cell? ⟨g6, 1, none⟩ = some (.slice a1' m1.length c1') := fun x hb => (HPC.out.b6.below hb).c4.2.1
        have hi2 : ∀ x, Below wk.heap.size wk x → x.cell? ⟨g6, 2, none⟩ = some (.slice a2' m2.length c2') := fun x hb => (HPC.out.b6.below hb).c4.2.2.1
        have hi3 : ∀ x, Below wk.heap.size wk x → x.cell? ⟨g6, 3, none⟩ = some (.slice a3' m3.length c3') := fun x hb => (HPC.out.b6.below hb).c4.2.2.2.1
        have hop : ∀ x, Below wk.heap.size wk x → x.cell? ⟨wr.heap.size, 1, none⟩ = some (.int .i64 p) := fun x hb => by rw [(HOC.out.below hb).cell]; rfl
        have hka := (Below.refl wk.heap.size wk).drew
        clear hlv
        go_wp2_with fail
        refine wp_region_kept [] (fun x => Below wk.heap.size wk x) (by kernel_rfl) (by assumption) (fun hH => ?_)
        refine wpK.take (i := 0) (v := _) (by simp only [List.getElem?_toArray, List.getElem?_cons_succ, List.getElem?_cons_zero]; rfl) (by kernel_rfl) (by kernel_rfl) (by kernel_rfl) (by kernel_rfl) (by kernel_rfl) (by exact fun _ _ _ h => h) (by first | exact Or.inl ⟨by rfl, by intro w hSw; go_simp; try with_reducible rfl⟩ | exact Or.inr ⟨by rfl, rfl⟩) hH ?_
        try simp only [Act.put, List.setIfInBounds_toArray, List.set_cons_zero, List.set_cons_succ]
        refine wpK.inv (le := fun w w' => Below w.heap.size w w') (fun w => Below.refl _ w) (fun _ _ _ h k => Below.next h k) (m := 0) [1, 2, 3, 4, 5, 6, 7, 8, 9, 10, 11, 12, 13, 14, 15, 16, 17, 18, 19] (fun i => match i with | 2 => [1] | 3 => [2] | 4 => [3] | 5 => [3] | 6 => [5, 3] | 7 => [4, 6, 3] | 8 => [3] | 9 => [3] | 10 => [9, 3] | 11 => [3] | 12 => [11, 3] | 13 => [3] | 14 => [13, 3] | 15 => [3] | 16 => [15, 3] | 17 => [8, 10, 12, 14, 16, 3] | 18 => [7, 17, 3] | 19 => [3, 18] | _ => []) (fun i => match i with | 1 => fun u w => u 1 = .bool true | 2 => fun u w => u 2 = .bool false | 3 => fun u w => u 3 = .bool false | 4 => fun u w => u 4 = .agg #[.int .i64 o, .slice qc m1.length dc, .slice qf m2.length df, .slice qb m3.length db] | 5 => fun u w => u 5 = .pointer (some ⟨wr.heap.size, 1, none⟩) | 6 => fun u w => u 6 = .int .i64 p | 7 => fun u w => u 7 = .int .i64 lv | 8 => fun u w => u 8 = .int .i64 o | 9 => fun u w => u 9 = .pointer (some ⟨g6, 1, none⟩) | 10 => fun u w => u 10 = .slice a1' m1.length c1' | 11 => fun u w => u 11 = .pointer (some ⟨g6, 2, none⟩) | 12 => fun u w => u 12 = .slice a2' m2.length c2' | 13 => fun u w => u 13 = .pointer (some ⟨g6, 3, none⟩) | 14 => fun u w => u 14 = .slice a3' m3.length c3' | 15 => fun u w => u 15 = .pointer (some ⟨wr.heap.size, 1, none⟩) | 16 => fun u w => u 16 = .int .i64 p | 17 => fun u w => u 17 = .int .i64 lv | 18 => fun u w => u 18 = .bool false | 19 => fun u w => u 19 = .bool false | _ => fun _ _ => True) (by kernel_rfl) ⟨(fun _ _ _ _ h => h), (fun _ _ _ _ h => h), (fun _ _ _ _ h => h), (fun _ _ _ _ h => h), (fun _ _ _ _ h => h), (fun _ _ _ _ h => h), (fun _ _ _ _ h => h), (fun _ _ _ _ h => h), (fun _ _ _ _ h => h), (fun _ _ _ _ h => h), (fun _ _ _ _ h => h), (fun _ _ _ _ h => h), (fun _ _ _ _ h => h), (fun _ _ _ _ h => h), (fun _ _ _ _ h => h), (fun _ _ _ _ h => h), (fun _ _ _ _ h => h), (fun _ _ _ _ h => h), (fun _ _ _ _ h => h), trivial⟩ ⟨(by dsimp only; intro u j v w h1 h2 h; have e0 := upd_ne u v (Ne.symm h1); simp only [e0]; exact h), (by dsimp only; intro u j v w h1 h2 h; simp only [List.mem_cons, List.not_mem_nil, or_false, not_or] at h2; have e0 := upd_ne u v (Ne.symm h1); have e1 := upd_ne u v (Ne.symm h2); simp only [e0, e1]; exact h), (by dsimp only; intro u j v w h1 h2 h; simp only [List.mem_cons, List.not_mem_nil, or_false, not_or] at h2; have e0 := upd_ne u v (Ne.symm h1); have e1 := upd_ne u v (Ne.symm h2); simp only [e0, e1]; exact h), (by dsimp only; intro u j v w h1 h2 h; simp only [List.mem_cons, List.not_mem_nil, or_false, not_or] at h2; have e0 := upd_ne u v (Ne.symm h1); have e1 := upd_ne u v (Ne.symm h2); simp only [e0, e1]; exact h), (by dsimp only; intro u j v w h1 h2 h; simp only [List.mem_cons, List.not_mem_nil, or_false, not_or] at h2; have e0 := upd_ne u v (Ne.symm h1); have e1 := upd_ne u v (Ne.symm h2); simp only [e0, e1]; exact h), (by dsimp only; intro u j v w h1 h2 h; simp only [List.mem_cons, List.not_mem_nil, or_false, not_or] at h2; have e0 := upd_ne u v (Ne.symm h1); have e1 := upd_ne u v (Ne.symm h2.1); have e2 := upd_ne u v (Ne.symm h2.2); simp only [e0, e1, e2]; exact h), (by dsimp only; intro u j v w h1 h2 h; simp only [List.mem_cons, List.not_mem_nil, or_false, not_or] at h2; have e0 := upd_ne u v (Ne.symm h1); have e1 := upd_ne u v (Ne.symm h2.1); have e2 := upd_ne u v (Ne.symm h2.2.1); have e3 := upd_ne u v (Ne.symm h2.2.2); simp only [e0, e1, e2, e3]; exact h), (by dsimp only; intro u j v w h1 h2 h; simp only [List.mem_cons, List.not_mem_nil, or_false, not_or] at h2; have e0 := upd_ne u v (Ne.symm h1); have e1 := upd_ne u v (Ne.symm h2); simp only [e0, e1]; exact h), (by dsimp only; intro u j v w h1 h2 h; simp only [List.mem_cons, List.not_mem_nil, or_false, not_or] at h2; have e0 := upd_ne u v (Ne.symm h1); have e1 := upd_ne u v (Ne.symm h2); simp only [e0, e1]; exact h), (by dsimp only; intro u j v w h1 h2 h; simp only [List.mem_cons, List.not_mem_nil, or_false, not_or] at h2; have e0 := upd_ne u v (Ne.symm h1); have e1 := upd_ne u v (Ne.symm h2.1); have e2 := upd_ne u v (Ne.symm h2.2); simp only [e0, e1, e2]; exact h), (by dsimp only; intro u j v w h1 h2 h; simp only [List.mem_cons, List.not_mem_nil, or_false, not_or] at h2; have e0 := upd_ne u v (Ne.symm h1); have e1 := upd_ne u v (Ne.symm h2); simp only [e0, e1]; exact h), (by dsimp only; intro u j v w h1 h2 h; simp only [List.mem_cons, List.not_mem_nil, or_false, not_or] at h2; have e0 := upd_ne u v (Ne.symm h1); have e1 := upd_ne u v (Ne.symm h2.1); have e2 := upd_ne u v (Ne.symm h2.2); simp only [e0, e1, e2]; exact h), (by dsimp only; intro u j v w h1 h2 h; simp only [List.mem_cons, List.not_mem_nil, or_false, not_or] at h2; have e0 := upd_ne u v (Ne.symm h1); have e1 := upd_ne u v (Ne.symm h2); simp only [e0, e1]; exact h), (by dsimp only; intro u j v w h1 h2 h; simp only [List.mem_cons, List.not_mem_nil, or_false, not_or] at h2; have e0 := upd_ne u v (Ne.symm h1); have e1 := upd_ne u v (Ne.symm h2.1); have e2 := upd_ne u v (Ne.symm h2.2); simp only [e0, e1, e2]; exact h), (by dsimp only; intro u j v w h1 h2 h; simp only [List.mem_cons, List.not_mem_nil, or_false, not_or] at h2; have e0 := upd_ne u v (Ne.symm h1); have e1 := upd_ne u v (Ne.symm h2); simp only [e0, e1]; exact h), (by dsimp only; intro u j v w h1 h2 h; simp only [List.mem_cons, List.not_mem_nil, or_false, not_or] at h2; have e0 := upd_ne u v (Ne.symm h1); have e1 := upd_ne u v (Ne.symm h2.1); have e2 := upd_ne u v (Ne.symm h2.2); simp only [e0, e1, e2]; exact h), (by dsimp only; intro u j v w h1 h2 h; simp only [List.mem_cons, List.not_mem_nil, or_false, not_or] at h2; have e0 := upd_ne u v (Ne.symm h1); have e1 := upd_ne u v (Ne.symm h2.1); have e2 := upd_ne u v (Ne.symm h2.2.1); have e3 := upd_ne u v (Ne.symm h2.2.2.1); have e4 := upd_ne u v (Ne.symm h2.2.2.2.1); have e5 := upd_ne u v (Ne.symm h2.2.2.2.2.1); have e6 := upd_ne u v (Ne.symm h2.2.2.2.2.2); simp only [e0, e1, e2, e3, e4, e5, e6]; exact h), (by dsimp only; intro u j v w h1 h2 h; simp only [List.mem_cons, List.not_mem_nil, or_false, not_or] at h2; have e0 := upd_ne u v (Ne.symm h1); have e1 := upd_ne u v (Ne.symm h2.1); have e2 := upd_ne u v (Ne.symm h2.2.1); have e3 := upd_ne u v (Ne.symm h2.2.2); simp only [e0, e1, e2, e3]; exact h), (by dsimp only; intro u j v w h1 h2 h; simp only [List.mem_cons, List.not_mem_nil, or_false, not_or] at h2; have e0 := upd_ne u v (Ne.symm h1); have e1 := upd_ne u v (Ne.symm h2.1); have e2 := upd_ne u v (Ne.symm h2.2); simp only [e0, e1, e2]; exact h), trivial⟩ (fun _ h => Below.next hH h) (fun u => ?_)
        generalize hacts : acts _ _ u _ = A_
        simp only [acts, dstOf, List.getElem?_toArray, List.getElem?_cons_succ, List.getElem?_cons_zero, Option.bind_some, Act.put, List.setIfInBounds_toArray, List.set_cons_succ, List.set_cons_zero] at hacts
        subst hacts
        refine ⟨⟨?_, ?_, ?_, ?_, ?_, ?_, ?_, ?_, ?_, ?_, ?_, ?_, ?_, ?_, ?_, ?_, ?_, ?_, ?_, trivial⟩, ?_⟩
        · intro wx hw h_
          clear h_
          apply wpOp_stepI (i := 1) (le := fun w w' => Below w.heap.size w w') (φ := fun v w' => (fun u w => u 1 = .bool true) (upd u 1 v) w')
          · simp only [List.getElem?_toArray, List.getElem?_cons_succ, List.getElem?_cons_zero]; rfl
          · rfl
          intro K hK
          go_simp
          have hb := Below.next hka hw
          refine (acc_Right o m1 m2 m3 _ _ _ _ (HPC.out.s1.below hb) (HPC.out.s2.below hb) (HPC.out.s3.below hb) true (hid (by rw [(rightL_iff _ _).2 HM.out.2.1, (rightL_iff _ _).2 HM.out.2.2.1, (rightL_iff _ _).2 HM.out.2.2.2]; simp [ho1, ho2]))).mono ?_
          rintro e w8 ⟨rfl, hb8⟩
          go_simp
          exact hK.out _ _ hb8 rfl
        · intro wx hw h_
          have h_1 : (fun u w => u 1 = .bool true) u wx := h_.1
          try dsimp only at h_1
          clear h_
          apply wpOp_stepI (i := 2) (le := fun w w' => Below w.heap.size w w') (φ := fun v w' => (fun u w => u 2 = .bool false) (upd u 2 v) w')
          · simp only [List.getElem?_toArray, List.getElem?_cons_succ, List.getElem?_cons_zero]; rfl
          · rfl
          intro K hK
          simp only [h_1] at hK ⊢
          go_simp
          exact hK.out (.bool false) _ (Below.refl _ _) rfl
        · intro wx hw h_
          have h_2 : (fun u w => u 2 = .bool false) u wx := h_.1
          try dsimp only at h_2
          clear h_
          apply wpOp_stepI (i := 3) (le := fun w w' => Below w.heap.size w w') (φ := fun v w' => (fun u w => u 3 = .bool false) (upd u 3 v) w')
          · simp only [List.getElem?_toArray, List.getElem?_cons_succ, List.getElem?_cons_zero]; rfl
          · rfl
          intro K hK
          try simp only [h_2] at hK ⊢
          go_simp
          exact hK.out (.bool false) _ (Below.refl _ _) rfl
        · intro wx hw h_
          have h_3 : (fun u w => u 3 = .bool false) u wx := h_.1
          try dsimp only at h_3
          clear h_
          apply wpOp_stepI (i := 4) (le := fun w w' => Below w.heap.size w w') (φ := fun v w' => (fun u w => u 4 = .agg #[.int .i64 o, .slice qc m1.length dc, .slice qf m2.length df, .slice qb m3.length db]) (upd u 4 v) w')
          · simp only [List.getElem?_toArray, List.getElem?_cons_succ, List.getElem?_cons_zero]; rfl
          · rfl
          intro K hK
          try simp only [h_3] at hK ⊢
          have hb := Below.next hka hw
          have y0 := hh0 wx hb
          have y1 := hh1 wx hb
          have y2 := hh2 wx hb
          have y3 := hh3 wx hb
          go_simp
          exact hK.out (.agg #[.int .i64 o, .slice qc m1.length dc, .slice qf m2.length df, .slice qb m3.length db]) _ (Below.refl _ _) rfl
        · intro wx hw h_
          have h_3 : (fun u w => u 3 = .bool false) u wx := h_.1
          try dsimp only at h_3
          clear h_
          apply wpOp_stepI (i := 5) (le := fun w w' => Below w.heap.size w w') (φ := fun v w' => (fun u w => u 5 = .pointer (some ⟨wr.heap.size, 1, none⟩)) (upd u 5 v) w')
          · simp only [List.getElem?_toArray, List.getElem?_cons_succ, List.getElem?_cons_zero]; rfl
          · rfl
          intro K hK
          try simp only [h_3] at hK ⊢
          go_simp
          exact hK.out (.pointer (some ⟨wr.heap.size, 1, none⟩)) _ (Below.refl _ _) rfl
        · intro wx hw h_
          have h_5 : (fun u w => u 5 = .pointer (some ⟨wr.heap.size, 1, none⟩)) u wx := h_.1
          try dsimp only at h_5
          have h_3 : (fun u w => u 3 = .bool false) u wx := h_.2.1
          try dsimp only at h_3
          clear h_
          apply wpOp_stepI (i := 6) (le := fun w w' => Below w.heap.size w w') (φ := fun v w' => (fun u w => u 6 = .int .i64 p) (upd u 6 v) w')
          · simp only [List.getElem?_toArray, List.getElem?_cons_succ, List.getElem?_cons_zero]; rfl
          · rfl
          intro K hK
          try simp only [h_5, h_3] at hK ⊢
          have y0 := hop wx (Below.next hka hw)
          go_simp
          exact hK.out (.int .i64 p) _ (Below.refl _ _) rfl
        · intro wx hw h_
          have h_4 : (fun u w => u 4 = .agg #[.int .i64 o, .slice qc m1.length dc, .slice qf m2.length df, .slice qb m3.length db]) u wx := h_.1
          try dsimp only at h_4
          have h_6 : (fun u w => u 6 = .int .i64 p) u wx := h_.2.1
          try dsimp only at h_6
          have h_3 : (fun u w => u 3 = .bool false) u wx := h_.2.2.1
          try dsimp only at h_3
          clear h_
          apply wpOp_stepI (i := 7) (le := fun w w' => Below w.heap.size w w') (φ := fun v w' => (fun u w => u 7 = .int .i64 lv) (upd u 7 v) w')
          · simp only [List.getElem?_toArray, List.getElem?_cons_succ, List.getElem?_cons_zero]; rfl
          · rfl
          intro K hK
          simp only [h_4, h_6, h_3] at hK ⊢
          go_simp
          have hb := Below.next hka hw
          refine (acc_Level o m1 m2 m3 _ _ _ p _ (HPC.out.s1.below hb) (HPC.out.s2.below hb) (HPC.out.s3.below hb)).mono ?_
          rintro e w8 ⟨rfl, hb8⟩
          rw [HLV.out]
          go_simp
          exact hK.out _ _ hb8 rfl
        · intro wx hw h_
          have h_3 : (fun u w => u 3 = .bool false) u wx := h_.1
          try dsimp only at h_3
          clear h_
          apply wpOp_stepI (i := 8) (le := fun w w' => Below w.heap.size w w') (φ := fun v w' => (fun u w => u 8 = .int .i64 o) (upd u 8 v) w')
          · simp only [List.getElem?_toArray, List.getElem?_cons_succ, List.getElem?_cons_zero]; rfl
          · rfl
          intro K hK
          try simp only [h_3] at hK ⊢
          go_simp
          exact hK.out (.int .i64 o) _ (Below.refl _ _) rfl
        · intro wx hw h_
          have h_3 : (fun u w => u 3 = .bool false) u wx := h_.1
          try dsimp only at h_3
          clear h_
          apply wpOp_stepI (i := 9) (le := fun w w' => Below w.heap.size w w') (φ := fun v w' => (fun u w => u 9 = .pointer (some ⟨g6, 1, none⟩)) (upd u 9 v) w')
          · simp only [List.getElem?_toArray, List.getElem?_cons_succ, List.getElem?_cons_zero]; rfl
          · rfl
          intro K hK
          try simp only [h_3] at hK ⊢
          go_simp
          exact hK.out (.pointer (some ⟨g6, 1, none⟩)) _ (Below.refl _ _) rfl
        · intro wx hw h_
          have h_9 : (fun u w => u 9 = .pointer (some ⟨g6, 1, none⟩)) u wx := h_.1
          try dsimp only at h_9
          have h_3 : (fun u w => u 3 = .bool false) u wx := h_.2.1
          try dsimp only at h_3
          clear h_
          apply wpOp_stepI (i := 10) (le := fun w w' => Below w.heap.size w w') (φ := fun v w' => (fun u w => u 10 = .slice a1' m1.length c1') (upd u 10 v) w')
          · simp only [List.getElem?_toArray, List.getElem?_cons_succ, List.getElem?_cons_zero]; rfl
          · rfl
          intro K hK
          try simp only [h_9, h_3] at hK ⊢
          have y0 := hi1 wx (Below.next hka hw)
          go_simp
          exact hK.out (.slice a1' m1.length c1') _ (Below.refl _ _) rfl
        · intro wx hw h_
          have h_3 : (fun u w => u 3 = .bool false) u wx := h_.1
          try dsimp only at h_3
          clear h_
          apply wpOp_stepI (i := 11) (le := fun w w' => Below w.heap.size w w') (φ := fun v w' => (fun u w => u 11 = .pointer (some ⟨g6, 2, none⟩)) (upd u 11 v) w')
          · simp only [List.getElem?_toArray, List.getElem?_cons_succ, List.getElem?_cons_zero]; rfl
          · rfl
          intro K hK
          try simp only [h_3] at hK ⊢
          go_simp
          exact hK.out (.pointer (some ⟨g6, 2, none⟩)) _ (Below.refl _ _) rfl
        · intro wx hw h_
          have h_11 : (fun u w => u 11 = .pointer (some ⟨g6, 2, none⟩)) u wx := h_.1
          try dsimp only at h_11
          have h_3 : (fun u w => u 3 = .bool false) u wx := h_.2.1
          try dsimp only at h_3
          clear h_
          apply wpOp_stepI (i := 12) (le := fun w w' => Below w.heap.size w w') (φ := fun v w' => (fun u w => u 12 = .slice a2' m2.length c2') (upd u 12 v) w')
          · simp only [List.getElem?_toArray, List.getElem?_cons_succ, List.getElem?_cons_zero]; rfl
          · rfl
          intro K hK
          try simp only [h_11, h_3] at hK ⊢
          have y0 := hi2 wx (Below.next hka hw)
          go_simp
          exact hK.out (.slice a2' m2.length c2') _ (Below.refl _ _) rfl
        · intro wx hw h_
          have h_3 : (fun u w => u 3 = .bool false) u wx := h_.1
          try dsimp only at h_3
          clear h_
          apply wpOp_stepI (i := 13) (le := fun w w' => Below w.heap.size w w') (φ := fun v w' => (fun u w => u 13 = .pointer (some ⟨g6, 3, none⟩)) (upd u 13 v) w')
          · simp only [List.getElem?_toArray, List.getElem?_cons_succ, List.getElem?_cons_zero]; rfl
          · rfl
          intro K hK
          try simp only [h_3] at hK ⊢
          go_simp
          exact hK.out (.pointer (some ⟨g6, 3, none⟩)) _ (Below.refl _ _) rfl
        · intro wx hw h_
          have h_13 : (fun u w => u 13 = .pointer (some ⟨g6, 3, none⟩)) u wx := h_.1
          try dsimp only at h_13
          have h_3 : (fun u w => u 3 = .bool false) u wx := h_.2.1
          try dsimp only at h_3
          clear h_
          apply wpOp_stepI (i := 14) (le := fun w w' => Below w.heap.size w w') (φ := fun v w' => (fun u w => u 14 = .slice a3' m3.length c3') (upd u 14 v) w')
          · simp only [List.getElem?_toArray, List.getElem?_cons_succ, List.getElem?_cons_zero]; rfl
          · rfl
          intro K hK
          try simp only [h_13, h_3] at hK ⊢
          have y0 := hi3 wx (Below.next hka hw)
          go_simp
          exact hK.out (.slice a3' m3.length c3') _ (Below.refl _ _) rfl
        · intro wx hw h_
          have h_3 : (fun u w => u 3 = .bool false) u wx := h_.1
          try dsimp only at h_3
          clear h_
          apply wpOp_stepI (i := 15) (le := fun w w' => Below w.heap.size w w') (φ := fun v w' => (fun u w => u 15 = .pointer (some ⟨wr.heap.size, 1, none⟩)) (upd u 15 v) w')
          · simp only [List.getElem?_toArray, List.getElem?_cons_succ, List.getElem?_cons_zero]; rfl
          · rfl
          intro K hK
          try simp only [h_3] at hK ⊢
          go_simp
          exact hK.out (.pointer (some ⟨wr.heap.size, 1, none⟩)) _ (Below.refl _ _) rfl
        · intro wx hw h_
          have h_15 : (fun u w => u 15 = .pointer (some ⟨wr.heap.size, 1, none⟩)) u wx := h_.1
          try dsimp only at h_15
          have h_3 : (fun u w => u 3 = .bool false) u wx := h_.2.1
          try dsimp only at h_3
          clear h_
          apply wpOp_stepI (i := 16) (le := fun w w' => Below w.heap.size w w') (φ := fun v w' => (fun u w => u 16 = .int .i64 p) (upd u 16 v) w')
          · simp only [List.getElem?_toArray, List.getElem?_cons_succ, List.getElem?_cons_zero]; rfl
          · rfl
          intro K hK
          try simp only [h_15, h_3] at hK ⊢
          have y0 := hop wx (Below.next hka hw)
          go_simp
          exact hK.out (.int .i64 p) _ (Below.refl _ _) rfl
        · intro wx hw h_
          have h_8 : (fun u w => u 8 = .int .i64 o) u wx := h_.1
          try dsimp only at h_8
          have h_10 : (fun u w => u 10 = .slice a1' m1.length c1') u wx := h_.2.1
          try dsimp only at h_10
          have h_12 : (fun u w => u 12 = .slice a2' m2.length c2') u wx := h_.2.2.1
          try dsimp only at h_12
          have h_14 : (fun u w => u 14 = .slice a3' m3.length c3') u wx := h_.2.2.2.1
          try dsimp only at h_14
          have h_16 : (fun u w => u 16 = .int .i64 p) u wx := h_.2.2.2.2.1
          try dsimp only at h_16
          have h_3 : (fun u w => u 3 = .bool false) u wx := h_.2.2.2.2.2.1
          try dsimp only at h_3
          clear h_
          apply wpOp_stepI (i := 17) (le := fun w w' => Below w.heap.size w w') (φ := fun v w' => (fun u w => u 17 = .int .i64 lv) (upd u 17 v) w')
          · simp only [List.getElem?_toArray, List.getElem?_cons_succ, List.getElem?_cons_zero]; rfl
          · rfl
          intro K hK
          simp only [h_8, h_10, h_12, h_14, h_16, h_3] at hK ⊢
          go_simp
          have hb := Below.next hka hw
          refine (ref18_Level o m1 m2 m3 _ _ _ p _ (HPC.out.t1.below hb) (HPC.out.t2.below hb) (HPC.out.t3.below hb)).mono ?_
          rintro e w8 ⟨rfl, rfl⟩
          rw [HLV.out]
          go_simp
          exact hK.out _ _ (Below.refl _ _) rfl
        · intro wx hw h_
          have h_7 : (fun u w => u 7 = .int .i64 lv) u wx := h_.1
          try dsimp only at h_7
          have h_17 : (fun u w => u 17 = .int .i64 lv) u wx := h_.2.1
          try dsimp only at h_17
          have h_3 : (fun u w => u 3 = .bool false) u wx := h_.2.2.1
          try dsimp only at h_3
          clear h_
          apply wpOp_stepI (i := 18) (le := fun w w' => Below w.heap.size w w') (φ := fun v w' => (fun u w => u 18 = .bool false) (upd u 18 v) w')
          · simp only [List.getElem?_toArray, List.getElem?_cons_succ, List.getElem?_cons_zero]; rfl
          · rfl
          intro K hK
          try simp only [h_3] at hK ⊢
          simp only [h_7, h_17] at hK ⊢
          go_simp
          exact hK.out (.bool false) _ (Below.refl _ _) rfl
        · intro wx hw h_
          have h_3 : (fun u w => u 3 = .bool false) u wx := h_.1
          try dsimp only at h_3
          have h_18 : (fun u w => u 18 = .bool false) u wx := h_.2.1
          try dsimp only at h_18
          clear h_
          apply wpOp_stepI (i := 19) (le := fun w w' => Below w.heap.size w w') (φ := fun v w' => (fun u w => u 19 = .bool false) (upd u 19 v) w')
          · simp only [List.getElem?_toArray, List.getElem?_cons_succ, List.getElem?_cons_zero]; rfl
          · rfl
          intro K hK
          try simp only [h_3, h_18] at hK ⊢
          go_simp
          exact hK.out (.bool false) _ (Below.refl _ _) rfl
        · intro wx hw h_
          have h_1 : (fun u w => u 1 = .bool true) u wx := h_.1
          try dsimp only at h_1
          have h_2 : (fun u w => u 2 = .bool false) u wx := h_.2.1
          try dsimp only at h_2
          have h_3 : (fun u w => u 3 = .bool false) u wx := h_.2.2.1
          try dsimp only at h_3
          have h_4 : (fun u w => u 4 = .agg #[.int .i64 o, .slice qc m1.length dc, .slice qf m2.length df, .slice qb m3.length db]) u wx := h_.2.2.2.1
          try dsimp only at h_4
          have h_5 : (fun u w => u 5 = .pointer (some ⟨wr.heap.size, 1, none⟩)) u wx := h_.2.2.2.2.1
          try dsimp only at h_5
          have h_6 : (fun u w => u 6 = .int .i64 p) u wx := h_.2.2.2.2.2.1
          try dsimp only at h_6
          have h_7 : (fun u w => u 7 = .int .i64 lv) u wx := h_.2.2.2.2.2.2.1
          try dsimp only at h_7
          have h_8 : (fun u w => u 8 = .int .i64 o) u wx := h_.2.2.2.2.2.2.2.1
          try dsimp only at h_8
          have h_9 : (fun u w => u 9 = .pointer (some ⟨g6, 1, none⟩)) u wx := h_.2.2.2.2.2.2.2.2.1
          try dsimp only at h_9
          have h_10 : (fun u w => u 10 = .slice a1' m1.length c1') u wx := h_.2.2.2.2.2.2.2.2.2.1
          try dsimp only at h_10
          have h_11 : (fun u w => u 11 = .pointer (some ⟨g6, 2, none⟩)) u wx := h_.2.2.2.2.2.2.2.2.2.2.1
          try dsimp only at h_11
          have h_12 : (fun u w => u 12 = .slice a2' m2.length c2') u wx := h_.2.2.2.2.2.2.2.2.2.2.2.1
          try dsimp only at h_12
          have h_13 : (fun u w => u 13 = .pointer (some ⟨g6, 3, none⟩)) u wx := h_.2.2.2.2.2.2.2.2.2.2.2.2.1
          try dsimp only at h_13
          have h_14 : (fun u w => u 14 = .slice a3' m3.length c3') u wx := h_.2.2.2.2.2.2.2.2.2.2.2.2.2.1
          try dsimp only at h_14
          have h_15 : (fun u w => u 15 = .pointer (some ⟨wr.heap.size, 1, none⟩)) u wx := h_.2.2.2.2.2.2.2.2.2.2.2.2.2.2.1
          try dsimp only at h_15
          have h_16 : (fun u w => u 16 = .int .i64 p) u wx := h_.2.2.2.2.2.2.2.2.2.2.2.2.2.2.2.1
          try dsimp only at h_16
          have h_17 : (fun u w => u 17 = .int .i64 lv) u wx := h_.2.2.2.2.2.2.2.2.2.2.2.2.2.2.2.2.1
          try dsimp only at h_17
          have h_18 : (fun u w => u 18 = .bool false) u wx := h_.2.2.2.2.2.2.2.2.2.2.2.2.2.2.2.2.2.1
          try dsimp only at h_18
          have h_19 : (fun u w => u 19 = .bool false) u wx := h_.2.2.2.2.2.2.2.2.2.2.2.2.2.2.2.2.2.2.1
          try dsimp only at h_19
          clear h_
          refine wpK.done (by kernel_rfl) ?_ _
          have HPX := hid (HPC.out.next (Below.next hka hw))
          simp only [h_19]
          clear h_1 h_2 h_3 h_4 h_5 h_6 h_7 h_8 h_9 h_10 h_11 h_12 h_13 h_14 h_15 h_16 h_17 h_18 h_19 hw hka hH hh0 hh1 hh2 hh3 hi1 hi2 hi3 hop
          go_wp2_with fail
          go_roundw
          case rel => exact ⟨k + 1, m1, m2, m3, _, _, _, _, _, _, _, by go_num, by omega, HPX⟩
          case measure => simp [intOf]; omega
    · obtain ⟨a1', c1', rfl, -⟩ := HP.out.t1
      obtain ⟨a2', c2', rfl, -⟩ := HP.out.t2
      obtain ⟨a3', c3', rfl, -⟩ := HP.out.t3
      obtain ⟨hy0, hy1, hy2, hy3, -⟩ := HP.out.b5.c4
      obtain ⟨-, hz1, hz2, hz3, -⟩ := HP.out.b6.c4
      go_wp2_with fail
      refine (law18_same l1 l1 _ _ _ HP.out.s1 HP.out.t1 true (hid (by simp))).mono ?_
      rintro e w4 ⟨rfl, hb4⟩
      have HP4 := hid (HP.out.next hb4)
      clear hb4 hy0 hy1 hy2 hy3 hz1 hz2 hz3
      obtain ⟨hy0, hy1, hy2, hy3, -⟩ := HP4.out.b5.c4
      obtain ⟨-, hz1, hz2, hz3, -⟩ := HP4.out.b6.c4
      go_wp2_with fail
      refine (law18_same l2 l2 _ _ _ HP4.out.s2 HP4.out.t2 true (hid (by simp))).mono ?_
      rintro e w5 ⟨rfl, hb5⟩
      have HP5 := hid (HP4.out.next hb5)
      clear hb5 hy0 hy1 hy2 hy3 hz1 hz2 hz3
      obtain ⟨hy0, hy1, hy2, hy3, -⟩ := HP5.out.b5.c4
      obtain ⟨-, hz1, hz2, hz3, -⟩ := HP5.out.b6.c4
      go_wp2_with fail
      refine (law18_same l3 l3 _ _ _ HP5.out.s3 HP5.out.t3 true (hid (by simp))).mono ?_
      rintro e w6 ⟨rfl, hb6⟩
      have HP6 := hid (HP5.out.next hb6)
      clear hb6 hy0 hy1 hy2 hy3 hz1 hz2 hz3
      obtain ⟨hy0, hy1, hy2, hy3, -⟩ := HP6.out.b5.c4
      go_wp2_with fail
      refine (acc_Level o l1 l2 l3 _ _ _ o _ HP6.out.s1 HP6.out.s2 HP6.out.s3).mono ?_
      rintro e w7 ⟨rfl, hb7⟩
      rw [show lvlF o l1 l2 l3 o = 4 by unfold lvlF; rw [if_neg (by omega), if_pos rfl]]
      have HP7 := hid (HP6.out.next hb7)
      clear hb7 hy0 hy1 hy2 hy3
      go_wp2_with fail
      refine (law18_awake _).mono ?_
      rintro e w8 ⟨rfl, hb8⟩
      have HP8 := hid (HP7.out.next hb8)
      clear hb8
      go_wp2_with fail
      go_ret
      exact ⟨rfl, HP8.out.bel⟩
set_option maxRecDepth 100000 in
set_option maxHeartbeats 4000000 in
theorem AccessPlays_walk {H : Type} {enc : TypeId × Value → H} {b1 : Nat} {d1 : DataW H} {p1 : List MemPlace} (o : Int) (v1 : Value) (w : World) (wo : (Lit.int .i64 o).wf = true)
    (ok1 : Value.okWide Try.prog w .any b1 74 v1) (k1 : DataW.Trod enc Try.prog w 0 (fun _ => true) true 74 v1 d1 p1) :
    Calls Try.prog 11 #[.int .i64 o, v1] w fun e w' => e = .returned (.bool true) ∧ Below w.heap.size w w' := by
  obtain ⟨L, hL⟩ := open_ops ok1 k1
  clear ok1 k1 wo
  by_cases h1 : o < 1 ∨ 256 < o ∨ 80 < L.length
  · obtain ⟨al, cl, rfl, h3, h4, -⟩ := hL
    have h5 : L.length ≤ 9223372036854775807 := by omega
    clear h3 h4
    have fin : ∀ w2, Below w.heap.size w w2 → True := fun _ _ => trivial
    by_cases g1 : o < 1
    · clear h1
      go_enter Try.func11, Try.ntmps11
      go_wp2_with fail
      refine (law18_awake _).mono ?_
      rintro e w2 ⟨rfl, hb2⟩
      have HB := hid hb2
      clear hb2
      go_wp2_with fail
      go_ret
      exact ⟨rfl, HB.out⟩
    · by_cases g2 : 256 < o
      · clear h1
        go_enter Try.func11, Try.ntmps11
        go_wp2_with fail
        refine (law18_awake _).mono ?_
        rintro e w2 ⟨rfl, hb2⟩
        have HB := hid hb2
        clear hb2
        go_wp2_with fail
        go_ret
        exact ⟨rfl, HB.out⟩
      · have g3 : (80 : Int) < (L.length : Int) := by omega
        clear h1
        go_enter Try.func11, Try.ntmps11
        go_wp2_with fail
        refine (law18_awake _).mono ?_
        rintro e w2 ⟨rfl, hb2⟩
        have HB := hid hb2
        clear hb2
        go_wp2_with fail
        go_ret
        exact ⟨rfl, HB.out⟩
  · exact law18_Plays o L v1 w hL (by omega) (by omega) (by omega)
end Go.Proofs.Ytdchopckbklncaa
