/- Joined texts, in this order: ThingMove. Each one's first remark says what it proves; no condition beyond those that its theorems name. -/
import Derived.Test.YtdoflhiogoefjaaDoorJLawThingCopies14
section
/- Contracts of the package thing: Move, Destroy. -/
namespace Go.Proofs.YtdoflhiogoefjaaDoor
open Go.RowKit
open Go.Lib (hid)
set_option linter.unusedVariables false

theorem getR_none {L : List Th} {n : Int} (h : fdT L n = none) : getR L n = .tuple #[thV ⟨0, [], 0, (0, 0, 0)⟩, .int .i64 14] := by unfold getR; rw [h]
theorem getR_some {L : List Th} {n : Int} {x : Th} (h : fdT L n = some x) : getR L n = .tuple #[thV x, .int .i64 0] := by unfold getR; rw [h]
set_option maxRecDepth 100000 in
set_option maxHeartbeats 2000000 in
theorem thing_Destroy {s : Nat} {F : Nat → Prop} {X : ThX} (w : World) (h : ThingIs w s F X) (hl : X.L.length ≤ 900) (n : Int) :
    Calls Tryd.prog 33 #[.pointer (some ⟨s, 0, none⟩), .int .i64 n] w (TPost w s F (destX X n) (.int .i64 (destE X.L n))) := by
  have H := hid h
  have HL := hid hl
  have HG := hid (thing_Get w h.1 n)
  clear h hl
  cases hf : fdT X.L n with
  | none =>
    have HE : Hid (destE X.L n = 14) := hid (by unfold destE; rw [hf]; rfl)
    rw [getR_none hf] at HG
    simp only [thV, strV] at HG
    clear hf
    go_enter Tryd.func33, Tryd.ntmps33
    go_wp2_with fail
    refine HG.out.mono ?_
    rintro e w1 ⟨rfl, hb⟩
    have HB := hid hb
    clear hb
    go_wp2_with fail
    go_ret
    rw [show destX X n = X by unfold destX; rw [HE.out]; rfl, HE.out]
    exact TPost.below H.out (HB.out.alloc HB.out.size _)
  | some x =>
    have HE : Hid (destE X.L n = 0) := hid (by unfold destE; rw [hf]; rfl)
    rw [getR_some hf] at HG
    obtain ⟨hm, hid2⟩ := (fdT_some H.out.2.s).1 hf
    have HM := hid hm
    have HID := hid hid2
    clear hf hm hid2
    obtain ⟨xi, xn, xo, xk, xh, xs⟩ := x
    simp only [thV, strV] at HG
    go_enter Tryd.func33, Tryd.ntmps33
    go_wp2_with fail
    refine HG.out.mono ?_
    rintro e w1 ⟨rfl, hb⟩
    have HB := hid hb
    clear hb
    go_upto_region 2 with fail
    obtain ⟨w2, hw2⟩ : ∃ w2, w2 = w1.alloc (.cells #[.int .i64 xi, .string ⟨xn.toArray⟩, .int .i64 xo, .int .i64 xk, .int .i64 xh, .int .i64 xs] 48) := ⟨_, rfl⟩
    rw [← hw2]
    obtain ⟨bx, hbx⟩ : ∃ b, b = w1.heap.size := ⟨_, rfl⟩
    rw [← hbx]
    have hb2 : Below w1.heap.size w1 w2 := by rw [hw2]; exact Below.new _ _
    have HK : Hid (Blk w2 bx #[.int .i64 xi, .string ⟨xn.toArray⟩, .int .i64 xo, .int .i64 xk, .int .i64 xh, .int .i64 xs]) := hid (by rw [hw2, hbx]; exact Blk.new _ _ _)
    have HB2 := hid (Below.next HB.out hb2)
    have H2 := hid (H.out.1.below HB2.out)
    obtain ⟨x0, x1, x2, x3, x4, x5⟩ := HK.out.c6
    clear hw2 hbx hb2
    go_wp2_with fail
    refine (thing_take w2 H2.out ⟨xi, xn, xo, (xk, xh, xs)⟩ HM.out HL.out).mono ?_
    rintro e w3 ⟨rfl, hc3, hu3⟩
    have HC3 := hid hc3
    have HU3 := hid hu3
    clear hc3 hu3 x0 x1 x2 x3 x4 x5
    go_wp2_with fail
    go_ret
    have hidx : xi = n := HID.out
    rw [show destX X n = ⟨delT X.L n, X.nx⟩ by unfold destX; rw [HE.out]; rfl, HE.out]
    refine ⟨rfl, ⟨?_, H.out.2.del n⟩, (Upd.of_below (S := F) HB2.out).trans HU3.out (fun _ _ q => q)⟩
    have := HC3.out
    simp only [hidx] at this
    refine this.weaken (fun k q _ => ?_)
    rcases q with q | q
    · exact .inl q
    · exact .inr (by have := HB2.out.size; omega)
set_option maxRecDepth 100000 in
set_option maxHeartbeats 4000000 in
theorem thing_Move {s : Nat} {F : Nat → Prop} {X : ThX} (w : World) (h : ThingIs w s F X) (hl : X.L.length ≤ 900) (n pk ph ps o : Int) (ho : o ≤ 9223372036854775807) :
    Calls Tryd.prog 28 #[.pointer (some ⟨s, 0, none⟩), .int .i64 n, .agg #[.int .i64 pk, .int .i64 ph, .int .i64 ps], .int .i64 o] w (TPost w s F (moveX X n (pk, ph, ps) o) (.int .i64 (moveE X.L n (pk, ph, ps) o))) := by
  have H := hid h
  have HL := hid hl
  obtain ⟨w1, hw1⟩ : ∃ w1, w1 = w.alloc (.cells #[.int .i64 pk, .int .i64 ph, .int .i64 ps] 23) := ⟨_, rfl⟩
  have hb1 : Below w.heap.size w w1 := by rw [hw1]; exact Below.new _ _
  obtain ⟨bp, hbp⟩ : ∃ b, b = w.heap.size := ⟨_, rfl⟩
  have HKP : Hid (Blk w1 bp #[.int .i64 pk, .int .i64 ph, .int .i64 ps]) := hid (by rw [hw1, hbp]; exact Blk.new _ _ _)
  have HB1 := hid hb1
  have HW1 := hid hw1
  have HBP := hid hbp
  have H1 := hid (H.out.below hb1)
  have HG := hid (thing_Get w1 H1.out.1 n)
  clear h hl hw1 hb1 hbp
  cases hf : fdT X.L n with
  | none =>
    have HE : Hid (moveE X.L n (pk, ph, ps) o = 14) := hid (by unfold moveE; rw [hf]; rfl)
    rw [getR_none hf] at HG
    simp only [thV, strV] at HG
    clear hf
    go_enter Tryd.func28, Tryd.ntmps28
    go_upto_region 1 with fail
    rw [← HW1.out, ← HBP.out]
    go_wp2_with fail
    refine HG.out.mono ?_
    rintro e w2 ⟨rfl, hb⟩
    have HB := hid (Below.next HB1.out hb)
    clear hb
    go_wp2_with fail
    go_ret
    rw [show moveX X n (pk, ph, ps) o = X by unfold moveX; rw [HE.out]; rfl, HE.out]
    exact TPost.below H.out (HB.out.alloc HB.out.size _)
  | some x =>
    rw [getR_some hf] at HG
    obtain ⟨hm, hid2⟩ := (fdT_some H.out.2.s).1 hf
    have HM := hid hm
    have HID := hid hid2
    have HEE : Hid (moveE X.L n (pk, ph, ps) o = if rightP (pk, ph, ps) = false ∨ o < 1 then 10 else 0) := hid (by unfold moveE; rw [hf]; rfl)
    clear hf hm hid2
    obtain ⟨xi, xn, xo, xk, xh, xs⟩ := x
    simp only [thV, strV] at HG
    by_cases hbad : rightP (pk, ph, ps) = false ∨ o < 1
    · have HE : Hid (moveE X.L n (pk, ph, ps) o = 10) := hid (by rw [HEE.out, if_pos hbad])
      obtain ⟨rp, hrp⟩ : ∃ rp, rightP (pk, ph, ps) = rp := ⟨_, rfl⟩
      rw [hrp] at hbad
      have HRP := hid hrp
      clear hrp
      cases rp with
      | false =>
        clear hbad
        go_enter Tryd.func28, Tryd.ntmps28
        go_upto_region 1 with fail
        rw [← HW1.out, ← HBP.out]
        go_wp2_with fail
        refine HG.out.mono ?_
        rintro e w2 ⟨rfl, hb⟩
        have HB2 := hid (Below.next HB1.out hb)
        have HKP2 := hid (HKP.out.below hb)
        clear hb
        go_upto_region 2 with fail
        obtain ⟨w3, hw3⟩ : ∃ w3, w3 = w2.alloc (.cells #[.int .i64 xi, .string ⟨xn.toArray⟩, .int .i64 xo, .int .i64 xk, .int .i64 xh, .int .i64 xs] 48) := ⟨_, rfl⟩
        rw [← hw3]
        obtain ⟨b9, hb9⟩ : ∃ b, b = w2.heap.size := ⟨_, rfl⟩
        rw [← hb9]
        have hb3 : Below w2.heap.size w2 w3 := by rw [hw3]; exact Below.new _ _
        have HK : Hid (Blk w3 b9 #[.int .i64 xi, .string ⟨xn.toArray⟩, .int .i64 xo, .int .i64 xk, .int .i64 xh, .int .i64 xs]) := hid (by rw [hw3, hb9]; exact Blk.new _ _ _)
        have HB3 := hid (Below.next HB2.out hb3)
        have HKP3 := hid (HKP2.out.below hb3)
        have HB9 : Hid (w.heap.size ≤ b9 ∧ bp ≠ b9) := hid ⟨by have := HB2.out.size; omega, by have := HKP2.out.lt; omega⟩
        have p0 : w3.cell? ⟨bp, 0, none⟩ = some (.int .i64 pk) := by rw [HKP3.out.cell]; rfl
        have p1 : w3.cell? ⟨bp, 1, none⟩ = some (.int .i64 ph) := by rw [HKP3.out.cell]; rfl
        have p2 : w3.cell? ⟨bp, 2, none⟩ = some (.int .i64 ps) := by rw [HKP3.out.cell]; rfl
        clear hw3 hb9 hb3
        go_wp2_with fail
        refine (thing_Right pk ph ps w3).mono ?_
        rintro e w4 ⟨rfl, hb4⟩
        rw [HRP.out]
        have HB4 := hid (Below.next HB3.out hb4)
        clear hb4 p0 p1 p2
        go_wp2_with fail
        go_ret
        rw [show moveX X n (pk, ph, ps) o = X by unfold moveX; rw [HE.out]; rfl, HE.out]
        exact TPost.below H.out HB4.out
      | true =>
        have ho1 : o < 1 := by rcases hbad with q | q; cases q; exact q
        have hob : decide (o < 1) = true := by simpa using ho1
        clear hbad ho1
        go_enter Tryd.func28, Tryd.ntmps28
        go_upto_region 1 with fail
        rw [← HW1.out, ← HBP.out]
        go_wp2_with fail
        refine HG.out.mono ?_
        rintro e w2 ⟨rfl, hb⟩
        have HB2 := hid (Below.next HB1.out hb)
        have HKP2 := hid (HKP.out.below hb)
        clear hb
        go_upto_region 2 with fail
        obtain ⟨w3, hw3⟩ : ∃ w3, w3 = w2.alloc (.cells #[.int .i64 xi, .string ⟨xn.toArray⟩, .int .i64 xo, .int .i64 xk, .int .i64 xh, .int .i64 xs] 48) := ⟨_, rfl⟩
        rw [← hw3]
        obtain ⟨b9, hb9⟩ : ∃ b, b = w2.heap.size := ⟨_, rfl⟩
        rw [← hb9]
        have hb3 : Below w2.heap.size w2 w3 := by rw [hw3]; exact Below.new _ _
        have HK : Hid (Blk w3 b9 #[.int .i64 xi, .string ⟨xn.toArray⟩, .int .i64 xo, .int .i64 xk, .int .i64 xh, .int .i64 xs]) := hid (by rw [hw3, hb9]; exact Blk.new _ _ _)
        have HB3 := hid (Below.next HB2.out hb3)
        have HKP3 := hid (HKP2.out.below hb3)
        have HB9 : Hid (w.heap.size ≤ b9 ∧ bp ≠ b9) := hid ⟨by have := HB2.out.size; omega, by have := HKP2.out.lt; omega⟩
        have p0 : w3.cell? ⟨bp, 0, none⟩ = some (.int .i64 pk) := by rw [HKP3.out.cell]; rfl
        have p1 : w3.cell? ⟨bp, 1, none⟩ = some (.int .i64 ph) := by rw [HKP3.out.cell]; rfl
        have p2 : w3.cell? ⟨bp, 2, none⟩ = some (.int .i64 ps) := by rw [HKP3.out.cell]; rfl
        clear hw3 hb9 hb3
        go_wp2_with fail
        refine (thing_Right pk ph ps w3).mono ?_
        rintro e w4 ⟨rfl, hb4⟩
        rw [HRP.out]
        have HB4 := hid (Below.next HB3.out hb4)
        clear hb4 p0 p1 p2
        go_wp2_with fail
        go_ret
        rw [show moveX X n (pk, ph, ps) o = X by unfold moveX; rw [HE.out]; rfl, HE.out]
        exact TPost.below H.out HB4.out
    · have HE : Hid (moveE X.L n (pk, ph, ps) o = 0) := hid (by rw [HEE.out, if_neg hbad])
      have HRP : Hid (rightP (pk, ph, ps) = true) := hid (by cases q : rightP (pk, ph, ps) with | true => rfl | false => exact absurd (.inl q) hbad)
      have ho1 : ¬ o < 1 := fun q => hbad (.inr q)
      have hob : decide (o < 1) = false := by simpa using ho1
      have HO : Hid (1 ≤ o ∧ o ≤ 9223372036854775807) := hid (by omega)
      clear hbad ho1
      go_enter Tryd.func28, Tryd.ntmps28
      go_upto_region 1 with fail
      rw [← HW1.out, ← HBP.out]
      go_wp2_with fail
      refine HG.out.mono ?_
      rintro e w2 ⟨rfl, hb⟩
      have HB2 := hid (Below.next HB1.out hb)
      have HKP2 := hid (HKP.out.below hb)
      clear hb
      go_upto_region 2 with fail
      obtain ⟨w3, hw3⟩ : ∃ w3, w3 = w2.alloc (.cells #[.int .i64 xi, .string ⟨xn.toArray⟩, .int .i64 xo, .int .i64 xk, .int .i64 xh, .int .i64 xs] 48) := ⟨_, rfl⟩
      rw [← hw3]
      obtain ⟨b9, hb9⟩ : ∃ b, b = w2.heap.size := ⟨_, rfl⟩
      rw [← hb9]
      have hb3 : Below w2.heap.size w2 w3 := by rw [hw3]; exact Below.new _ _
      have HK : Hid (Blk w3 b9 #[.int .i64 xi, .string ⟨xn.toArray⟩, .int .i64 xo, .int .i64 xk, .int .i64 xh, .int .i64 xs]) := hid (by rw [hw3, hb9]; exact Blk.new _ _ _)
      have HB3 := hid (Below.next HB2.out hb3)
      have HKP3 := hid (HKP2.out.below hb3)
      have HB9 : Hid (w.heap.size ≤ b9 ∧ bp ≠ b9) := hid ⟨by have := HB2.out.size; omega, by have := HKP2.out.lt; omega⟩
      have p0 : w3.cell? ⟨bp, 0, none⟩ = some (.int .i64 pk) := by rw [HKP3.out.cell]; rfl
      have p1 : w3.cell? ⟨bp, 1, none⟩ = some (.int .i64 ph) := by rw [HKP3.out.cell]; rfl
      have p2 : w3.cell? ⟨bp, 2, none⟩ = some (.int .i64 ps) := by rw [HKP3.out.cell]; rfl
      clear hw3 hb9 hb3
      go_wp2_with fail
      refine (thing_Right pk ph ps w3).mono ?_
      rintro e w4 ⟨rfl, hb4⟩
      rw [HRP.out]
      have HB4 := hid (Below.next HB3.out hb4)
      have HK4 := hid (HK.out.below hb4)
      have HKP4 := hid (HKP3.out.below hb4)
      have H4 := hid ((H.out.1.weaken (G := fun k => F k ∧ k < w.heap.size) (fun k q q2 => ⟨q, q2⟩)).below HB4.out)
      clear hb4 p0 p1 p2
      obtain ⟨x0, x1, x2, x3, x4, x5⟩ := HK4.out.c6
      go_wp2_with fail
      refine (thing_take w4 H4.out ⟨xi, xn, xo, (xk, xh, xs)⟩ HM.out HL.out).mono ?_
      rintro e w5 ⟨rfl, hc5, hu5⟩
      have HC5 := hid (hc5.weaken (G := fun k => (F k ∧ k < w.heap.size) ∨ w4.heap.size ≤ k) (fun k q _ => q))
      have HU5 := hid hu5
      have HK5 := hid (HK4.out.upd hu5 (fun q => by have := HB9.out.1; have := q.2; omega))
      have HKP5 := hid (HKP4.out.upd hu5 (fun q => by have := HBP.out; have := q.2; omega))
      have HB49 : Hid (b9 < w4.heap.size) := hid HK4.out.lt
      clear hc5 hu5 x0 x1 x2 x3 x4 x5
      obtain ⟨x0, x1, x2, x3, x4, x5⟩ := HK5.out.c6
      obtain ⟨f0, f1, f2, f3, f4, f5⟩ := HK5.out.f6
      have p0 : w5.cell? ⟨bp, 0, none⟩ = some (.int .i64 pk) := by rw [HKP5.out.cell]; rfl
      have p1 : w5.cell? ⟨bp, 1, none⟩ = some (.int .i64 ph) := by rw [HKP5.out.cell]; rfl
      have p2 : w5.cell? ⟨bp, 2, none⟩ = some (.int .i64 ps) := by rw [HKP5.out.cell]; rfl
      go_upto_region 8 with fail
      have HK6 : Hid (Blk ((((w5.setCell ⟨b9, 3, none⟩ (.int .i64 pk)).setCell ⟨b9, 4, none⟩ (.int .i64 ph)).setCell ⟨b9, 5, none⟩ (.int .i64 ps)).setCell ⟨b9, 2, none⟩ (.int .i64 o)) b9 #[.int .i64 xi, .string ⟨xn.toArray⟩, .int .i64 o, .int .i64 pk, .int .i64 ph, .int .i64 ps]) := hid ((((HK5.out.set 3 (.int .i64 pk)).set 4 (.int .i64 ph)).set 5 (.int .i64 ps)).set 2 (.int .i64 o))
      have HU6 : Hid (Upd (fun k => k = b9) w5 ((((w5.setCell ⟨b9, 3, none⟩ (.int .i64 pk)).setCell ⟨b9, 4, none⟩ (.int .i64 ph)).setCell ⟨b9, 5, none⟩ (.int .i64 ps)).setCell ⟨b9, 2, none⟩ (.int .i64 o))) := hid ((((Upd.setCell w5 b9 3 _).trans (Upd.setCell _ b9 4 _) (fun _ _ q => q)).trans (Upd.setCell _ b9 5 _) (fun _ _ q => q)).trans (Upd.setCell _ b9 2 _) (fun _ _ q => q))
      generalize World.setCell (World.setCell (World.setCell (World.setCell w5 _ _) _ _) _ _) _ _ = w6 at HK6 HU6
      have HC6 := hid (HC5.out.upd HU6.out (fun k q q2 => by subst q; have h1 := HB9.out.1; have h2 := HB49.out; rcases q2 with q2 | q2 <;> omega))
      clear x0 x1 x2 x3 x4 x5 f0 f1 f2 f3 f4 f5 p0 p1 p2
      obtain ⟨x0, x1, x2, x3, x4, x5⟩ := HK6.out.c6
      go_wp2_with fail
      refine (thing_put w6 HC6.out ⟨xi, xn, o, (pk, ph, ps)⟩ (fun y hy => (mem_delT.1 hy).2) (Nat.le_trans (List.length_filter_le _ _) HL.out)).mono ?_
      rintro e w7 ⟨rfl, hc7, hu7⟩
      have hidx : xi = n := HID.out
      have he := ins_delT H.out.2.s HM.out (pk, ph, ps) o
      simp only at he hc7
      rw [he] at hc7
      rw [hidx] at hc7
      have HC7 := hid hc7
      have HU7 := hid hu7
      clear he hc7 hu7 x0 x1 x2 x3 x4 x5 hidx
      go_wp2_with fail
      go_ret
      rw [show moveX X n (pk, ph, ps) o = ⟨setT21 X.L n (pk, ph, ps) o, X.nx⟩ by unfold moveX; rw [HE.out]; rfl, HE.out]
      have hz4 := HB4.out.size
      have hz5 := HU5.out.size
      have hz6 := HU6.out.size
      refine ⟨rfl, ⟨HC7.out.weaken (fun k q _ => ?_), H.out.2.set n HO.out HRP.out⟩, ?_⟩
      · rcases q with (q | q) | q
        · exact .inl q.1
        · exact .inr (by omega)
        · exact .inr (by omega)
      · have u1 : Upd F w w5 := (Upd.of_below (S := F) HB4.out).trans HU5.out (fun k _ q => q.1)
        have u2 : Upd F w w6 := u1.trans HU6.out (fun k hk q => by have := HB9.out.1; omega)
        exact u2.trans HU7.out (fun k hk q => by
          rcases q with q | q
          · exact q.1
          · omega)
end Go.Proofs.YtdoflhiogoefjaaDoor
end
