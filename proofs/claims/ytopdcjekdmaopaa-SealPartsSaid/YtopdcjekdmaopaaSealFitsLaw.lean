/- The law SealFits, walked. -/
import Derived.Test.YtopdcjekdmaopaaSealPart
import Derived.Test.YtopdcjekdmaopaaSealSums
import Derived.Deep.RegionHeld3
namespace Go.Proofs.Ytopdcjekdmaopaa
open Go.RowKit
open Go.Lib (hid)
set_option linter.unusedVariables false

theorem partL_fitted (l : List UInt8) (size : Nat) (h6 : l.length + 6 ≤ size) (hsz : size ≤ 65536) : partL (fitted l size) = some l := by
  have hlen : (fitted l size).length = size := by
    unfold fitted; rw [List.length_append, lowB_length, fitL_length l size h6]; omega
  obtain ⟨q, hq⟩ : ∃ q, fitted l size = UInt8.ofNat (l.length % 256) :: UInt8.ofNat (l.length / 256 % 256) :: (l ++ q) := by
    refine ⟨List.replicate (size - 6 - l.length) 0 ++ lowB (crc (fitL l size)) 4, ?_⟩
    unfold fitted
    generalize lowB (crc (fitL l size)) 4 = z
    unfold fitL
    simp [lowB]
  have hn : partN (fitted l size) = l.length := by
    rw [hq]; unfold partN
    simp
    omega
  have hx : ((fitted l size).drop 2).take l.length = l := by
    rw [hq]; simp
  unfold partL
  rw [hlen, hn, hx, if_pos ⟨by omega, hsz, h6, rfl⟩]

attribute [local irreducible] crc lowB
set_option maxRecDepth 100000 in
set_option maxHeartbeats 1000000 in
theorem SealFits_walk (a0 : Option Addr) (len0 cap0 : Nat) (z0 : List Int) (size : Int) (w : World) (w0 : (a0 = none ∧ len0 = 0 ∧ cap0 = 0 ∧ z0 = []) ∨
      ∃ x, a0 = some x ∧ len0 ≤ cap0 ∧ cap0 ≤ maxLen ∧ z0.length = cap0 ∧ (∀ i, i < z0.length → w.cell? (x.add i) = some (.int .u8 (z0.getD i 0))) ∧ ∀ n ∈ z0, (Lit.int .u8 n).wf = true) (ws : (Lit.int .i64 size).wf = true) :
    Calls Try.prog 11 #[.slice a0 len0 cap0, .int .i64 size] w fun e w' => e = .returned (.bool true) ∧ Below w.heap.size w w' := by
  obtain ⟨s1, s2⟩ : -9223372036854775808 ≤ size ∧ size ≤ 9223372036854775807 := by have := ws; simp [Lit.wf, IntKind.min, IntKind.max, IntKind.signed, IntKind.bits] at this; omega
  obtain ⟨l, rfl, hl⟩ := slb_of_row w0
  clear w0 ws
  by_cases hbig : 500 < l.length
  · go_enter Try.func11, Try.ntmps11
    go_wp2_with (go_at_call 27; (with_reducible refine (seal_awake _).mono ?_); rintro e w1 ⟨rfl, hb1⟩)
    go_ret
    exact ⟨rfl, hb1⟩
  have HL := hid hl
  clear hl
  by_cases hb2 : 65536 < size
  · have hno : size < 6 ∨ 65536 < size ∨ size < (l.length : Int) + 6 := .inr (.inl hb2)
    have HNO := hid hno
    clear hno
    go_enter Try.func11, Try.ntmps11
    go_wp2_with (go_at_call 33; (with_reducible refine (seal_Fit_no l _ w HL.out size s1 s2 HNO.out).mono ?_); rintro e w' ⟨rfl, rfl⟩)
    refine (seal_awake _).mono ?_
    rintro e w1 ⟨rfl, hb1⟩
    go_wp2
    go_ret
    exact ⟨rfl, hb1⟩
  by_cases hb3 : 2000 < size
  · go_enter Try.func11, Try.ntmps11
    go_wp2_with (go_at_call 27; (with_reducible refine (seal_awake _).mono ?_); rintro e w1 ⟨rfl, hb1⟩)
    go_ret
    exact ⟨rfl, hb1⟩
  by_cases hb4 : size < 6
  · have HNO := hid (show size < 6 ∨ 65536 < size ∨ size < (l.length : Int) + 6 from .inl hb4)
    go_enter Try.func11, Try.ntmps11
    go_wp2_with (go_at_call 33; (with_reducible refine (seal_Fit_no l _ w HL.out size s1 s2 HNO.out).mono ?_); rintro e w' ⟨rfl, rfl⟩)
    refine (seal_awake _).mono ?_
    rintro e w1 ⟨rfl, hb1⟩
    go_wp2
    go_ret
    exact ⟨rfl, hb1⟩
  by_cases hb5 : size < (l.length : Int) + 6
  · have HNO := hid (show size < 6 ∨ 65536 < size ∨ size < (l.length : Int) + 6 from .inr (.inr hb5))
    go_enter Try.func11, Try.ntmps11
    go_wp2_with (go_at_call 33; (with_reducible refine (seal_Fit_no l _ w HL.out size s1 s2 HNO.out).mono ?_); rintro e w' ⟨rfl, rfl⟩)
    refine (seal_awake _).mono ?_
    rintro e w1 ⟨rfl, hb1⟩
    go_wp2
    go_ret
    exact ⟨rfl, hb1⟩
  obtain ⟨N, rfl⟩ := Int.eq_ofNat_of_zero_le (show 0 ≤ size by omega)
  have h6 : l.length + 6 ≤ N := by omega
  have hN : N ≤ 2000 := by omega
  obtain ⟨F, hF⟩ : ∃ F, F = fitted l N := ⟨_, rfl⟩
  have hFl : F.length = N := by rw [hF]; unfold fitted; rw [List.length_append, lowB_length, fitL_length l N h6]; omega
  have HP := hid (partL_fitted l N h6 (by omega))
  rw [← hF] at HP
  have HF := hid (show F = fitL l N ++ lowB (crc (fitL l N)) 4 from hF)
  have HFL := hid hFl
  have hle : decide ((l.length : Int) ≤ (N : Int) - 6) = true := by simp; omega
  clear hF hFl
  go_enter Try.func11, Try.ntmps11
  go_wp2_with fail
  refine (seal_Fit_yes l _ w HL.out N _ rfl h6 (by omega) (fitL l N) (hid rfl)).mono ?_
  rintro e w1 ⟨v1, rfl, hown1, hb1⟩
  rw [← HF.out] at hown1
  have HS1 := hid (ownsRow.slb hown1 (by have := HFL.out; omega))
  have HB1 := hid hb1
  obtain ⟨a1, c1, rfl⟩ := ownsRow_slice hown1
  clear hown1 hb1
  go_wp2_with fail
  refine (seal_Part F _ w1 HS1.out (some l) HP).mono ?_
  rintro e w2 ⟨v2, rfl, hown2, hb2⟩
  replace hown2 : w2.ownsRow w1.heap.size 5 1 v2 l.length (bv l) := hown2
  have HS2 := hid (ownsRow.slb (l := l) hown2 (by omega))
  have HB2 := hid (Below.next HB1.out hb2)
  have HF2 := hid (HS1.out.below hb2)
  obtain ⟨a2, c2, rfl⟩ := ownsRow_slice hown2
  clear hown2 hb2
  have st1 := HF2.out.str
  have st2 := HS2.out.str
  have hl2 := HL.out.below HB2.out
  have HL2 := hid hl2
  have st3 := hl2.str
  have hd := (Below.refl w2.heap.size w2).drew
  clear hl2
  go_wp2_with fail
  refine wp_region_held_drew (S := (fun w' => Below w2.heap.size w2 w')) (by kernel_rfl) (by first | assumption | exact Below.next (by assumption) hb4 | exact Below.next (by assumption) hb3) (fun hH => ?_)
  refine wpAnyH_take (i := 0) (v := _) (by simp only [List.getElem?_toArray, List.getElem?_cons_succ, List.getElem?_cons_zero]; rfl) (by kernel_rfl) (by kernel_rfl) (by kernel_rfl) (by exact fun _ _ _ h => h) (by first | exact Or.inl ⟨by rfl, by intro w hSw; go_simp; try with_reducible rfl⟩ | exact Or.inr ⟨by rfl, rfl⟩) hH ?_
  try simp only [Act.put, List.setIfInBounds_toArray, List.set_cons_zero, List.set_cons_succ]
  refine wpAnyH_take (i := 1) (v := _) (by simp only [List.getElem?_toArray, List.getElem?_cons_succ, List.getElem?_cons_zero]; rfl) (by kernel_rfl) (by kernel_rfl) (by kernel_rfl) (by exact fun _ _ _ h => h) (by first | exact Or.inl ⟨by rfl, by intro w hSw; go_simp; try with_reducible rfl⟩ | exact Or.inr ⟨by rfl, rfl⟩) hH ?_
  try simp only [Act.put, List.setIfInBounds_toArray, List.set_cons_zero, List.set_cons_succ]
  refine wpAnyH_take (i := 2) (v := _) (by simp only [List.getElem?_toArray, List.getElem?_cons_succ, List.getElem?_cons_zero]; rfl) (by kernel_rfl) (by kernel_rfl) (by kernel_rfl) (by exact fun _ _ _ h => h) (by first | exact Or.inl ⟨by rfl, by intro w hSw; go_simp; try with_reducible rfl⟩ | exact Or.inr ⟨by rfl, rfl⟩) hH ?_
  try simp only [Act.put, List.setIfInBounds_toArray, List.set_cons_zero, List.set_cons_succ]
  refine wpAnyH_take (i := 3) (v := _) (by simp only [List.getElem?_toArray, List.getElem?_cons_succ, List.getElem?_cons_zero]; rfl) (by kernel_rfl) (by kernel_rfl) (by kernel_rfl) (by exact fun _ _ _ h => h) (by first | exact Or.inl ⟨by rfl, by intro w hSw; go_simp; try with_reducible rfl⟩ | exact Or.inr ⟨by rfl, rfl⟩) hH ?_
  try simp only [Act.put, List.setIfInBounds_toArray, List.set_cons_zero, List.set_cons_succ]
  refine wpAnyH_ready (rs := [4]) (by kernel_rfl) (by simp) ?_
  refine AllReadyH.cons rfl (fun K hK => ?_) AllReadyH.nil
  go_simp
  (refine (ref_Fit l _ _ (HL2.out.below (by assumption)) N _ rfl h6 (by omega) (fitL l N) (hid rfl)).mono ?_); rintro e w3 ⟨v3, rfl, hown3, hb3⟩; (rw [← HF.out] at hown3); (have s3 := ownsRow.slb hown3 (by have := HFL.out; omega)); (have HS3 := hid s3); (obtain ⟨a3, c3, rfl⟩ := ownsRow_slice hown3); (have st4 := HS3.out.str w3 (Below.refl _ _)); clear hown3 s3; go_simp
  refine hK.out _ _ (by first | assumption | exact Below.next (by assumption) hb4 | exact Below.next (by assumption) hb3) (fun hH => ?_)
  clear hK K
  try simp only [Act.put, List.setIfInBounds_toArray, List.set_cons_zero, List.set_cons_succ]
  refine wpAnyH_ready (rs := [5]) (by kernel_rfl) (by simp) ?_
  refine AllReadyH.cons rfl (fun K hK => ?_) AllReadyH.nil
  go_simp
  refine hK.out _ _ (by first | assumption | exact Below.next (by assumption) hb4 | exact Below.next (by assumption) hb3) (fun hH => ?_)
  clear hK K
  try simp only [Act.put, List.setIfInBounds_toArray, List.set_cons_zero, List.set_cons_succ]
  refine wpAnyH_take (i := 6) (v := _) (by simp only [List.getElem?_toArray, List.getElem?_cons_succ, List.getElem?_cons_zero]; rfl) (by kernel_rfl) (by kernel_rfl) (by kernel_rfl) (by exact fun _ _ _ h => h) (by first | exact Or.inl ⟨by rfl, by intro w hSw; go_simp; try with_reducible rfl⟩ | exact Or.inr ⟨by rfl, rfl⟩) hH ?_
  try simp only [Act.put, List.setIfInBounds_toArray, List.set_cons_zero, List.set_cons_succ]
  refine wpAnyH_take (i := 7) (v := _) (by simp only [List.getElem?_toArray, List.getElem?_cons_succ, List.getElem?_cons_zero]; rfl) (by kernel_rfl) (by kernel_rfl) (by kernel_rfl) (by exact fun _ _ _ h => h) (by first | exact Or.inl ⟨by rfl, by intro w hSw; go_simp; try with_reducible rfl⟩ | exact Or.inr ⟨by rfl, rfl⟩) hH ?_
  try simp only [Act.put, List.setIfInBounds_toArray, List.set_cons_zero, List.set_cons_succ]
  refine wpAnyH_take (i := 8) (v := _) (by simp only [List.getElem?_toArray, List.getElem?_cons_succ, List.getElem?_cons_zero]; rfl) (by kernel_rfl) (by kernel_rfl) (by kernel_rfl) (by exact fun _ _ _ h => h) (by first | exact Or.inl ⟨by rfl, by intro w hSw; go_simp; try with_reducible rfl⟩ | exact Or.inr ⟨by rfl, rfl⟩) hH ?_
  try simp only [Act.put, List.setIfInBounds_toArray, List.set_cons_zero, List.set_cons_succ]
  refine wpAnyH_take (i := 9) (v := _) (by simp only [List.getElem?_toArray, List.getElem?_cons_succ, List.getElem?_cons_zero]; rfl) (by kernel_rfl) (by kernel_rfl) (by kernel_rfl) (by exact fun _ _ _ h => h) (by first | exact Or.inl ⟨by rfl, by intro w hSw; go_simp; try with_reducible rfl⟩ | exact Or.inr ⟨by rfl, rfl⟩) hH ?_
  try simp only [Act.put, List.setIfInBounds_toArray, List.set_cons_zero, List.set_cons_succ]
  refine wpAnyH_take (i := 10) (v := _) (by simp only [List.getElem?_toArray, List.getElem?_cons_succ, List.getElem?_cons_zero]; rfl) (by kernel_rfl) (by kernel_rfl) (by kernel_rfl) (by exact fun _ _ _ h => h) (by first | exact Or.inl ⟨by rfl, by intro w hSw; go_simp; try with_reducible rfl⟩ | exact Or.inr ⟨by rfl, rfl⟩) hH ?_
  try simp only [Act.put, List.setIfInBounds_toArray, List.set_cons_zero, List.set_cons_succ]
  refine wpAnyH_take (i := 11) (v := _) (by simp only [List.getElem?_toArray, List.getElem?_cons_succ, List.getElem?_cons_zero]; rfl) (by kernel_rfl) (by kernel_rfl) (by kernel_rfl) (by exact fun _ _ _ h => h) (by first | exact Or.inl ⟨by rfl, by intro w hSw; go_simp; try with_reducible rfl⟩ | exact Or.inr ⟨by rfl, rfl⟩) hH ?_
  try simp only [Act.put, List.setIfInBounds_toArray, List.set_cons_zero, List.set_cons_succ]
  refine wpAnyH_take (i := 12) (v := _) (by simp only [List.getElem?_toArray, List.getElem?_cons_succ, List.getElem?_cons_zero]; rfl) (by kernel_rfl) (by kernel_rfl) (by kernel_rfl) (by exact fun _ _ _ h => h) (by first | exact Or.inl ⟨by rfl, by intro w hSw; go_simp; try with_reducible rfl⟩ | exact Or.inr ⟨by rfl, rfl⟩) hH ?_
  try simp only [Act.put, List.setIfInBounds_toArray, List.set_cons_zero, List.set_cons_succ]
  refine wpAnyH_take (i := 13) (v := _) (by simp only [List.getElem?_toArray, List.getElem?_cons_succ, List.getElem?_cons_zero]; rfl) (by kernel_rfl) (by kernel_rfl) (by kernel_rfl) (by exact fun _ _ _ h => h) (by first | exact Or.inl ⟨by rfl, by intro w hSw; go_simp; try with_reducible rfl⟩ | exact Or.inr ⟨by rfl, rfl⟩) hH ?_
  try simp only [Act.put, List.setIfInBounds_toArray, List.set_cons_zero, List.set_cons_succ]
  refine wpAnyH_take (i := 14) (v := _) (by simp only [List.getElem?_toArray, List.getElem?_cons_succ, List.getElem?_cons_zero]; rfl) (by kernel_rfl) (by kernel_rfl) (by kernel_rfl) (by exact fun _ _ _ h => h) (by first | exact Or.inl ⟨by rfl, by intro w hSw; go_simp; try with_reducible rfl⟩ | exact Or.inr ⟨by rfl, rfl⟩) hH ?_
  try simp only [Act.put, List.setIfInBounds_toArray, List.set_cons_zero, List.set_cons_succ]
  refine wpAnyH_take (i := 15) (v := _) (by simp only [List.getElem?_toArray, List.getElem?_cons_succ, List.getElem?_cons_zero]; rfl) (by kernel_rfl) (by kernel_rfl) (by kernel_rfl) (by exact fun _ _ _ h => h) (by first | exact Or.inl ⟨by rfl, by intro w hSw; go_simp; try with_reducible rfl⟩ | exact Or.inr ⟨by rfl, rfl⟩) hH ?_
  try simp only [Act.put, List.setIfInBounds_toArray, List.set_cons_zero, List.set_cons_succ]
  refine wpAnyH_take (i := 16) (v := _) (by simp only [List.getElem?_toArray, List.getElem?_cons_succ, List.getElem?_cons_zero]; rfl) (by kernel_rfl) (by kernel_rfl) (by kernel_rfl) (by exact fun _ _ _ h => h) (by first | exact Or.inl ⟨by rfl, by intro w hSw; go_simp; try with_reducible rfl⟩ | exact Or.inr ⟨by rfl, rfl⟩) hH ?_
  try simp only [Act.put, List.setIfInBounds_toArray, List.set_cons_zero, List.set_cons_succ]
  refine wpAnyH_take (i := 17) (v := _) (by simp only [List.getElem?_toArray, List.getElem?_cons_succ, List.getElem?_cons_zero]; rfl) (by kernel_rfl) (by kernel_rfl) (by kernel_rfl) (by exact fun _ _ _ h => h) (by first | exact Or.inl ⟨by rfl, by intro w hSw; go_simp; try with_reducible rfl⟩ | exact Or.inr ⟨by rfl, rfl⟩) hH ?_
  try simp only [Act.put, List.setIfInBounds_toArray, List.set_cons_zero, List.set_cons_succ]
  refine wpAnyH_ready (rs := [18]) (by kernel_rfl) (by simp) ?_
  refine AllReadyH.cons rfl (fun K hK => ?_) AllReadyH.nil
  go_simp
  (refine (seal_awake _).mono ?_); rintro e w4 ⟨rfl, hb4⟩; go_simp
  refine hK.out _ _ (by first | assumption | exact Below.next (by assumption) hb4 | exact Below.next (by assumption) hb3) (fun hH => ?_)
  clear hK K
  try simp only [Act.put, List.setIfInBounds_toArray, List.set_cons_zero, List.set_cons_succ]
  refine wpAnyH_take (i := 19) (v := _) (by simp only [List.getElem?_toArray, List.getElem?_cons_succ, List.getElem?_cons_zero]; rfl) (by kernel_rfl) (by kernel_rfl) (by kernel_rfl) (by exact fun _ _ _ h => h) (by first | exact Or.inl ⟨by rfl, by intro w hSw; go_simp; try with_reducible rfl⟩ | exact Or.inr ⟨by rfl, rfl⟩) hH ?_
  try simp only [Act.put, List.setIfInBounds_toArray, List.set_cons_zero, List.set_cons_succ]
  refine wpAnyH_take (i := 20) (v := _) (by simp only [List.getElem?_toArray, List.getElem?_cons_succ, List.getElem?_cons_zero]; rfl) (by kernel_rfl) (by kernel_rfl) (by kernel_rfl) (by exact fun _ _ _ h => h) (by first | exact Or.inl ⟨by rfl, by intro w hSw; go_simp; try with_reducible rfl⟩ | exact Or.inr ⟨by rfl, rfl⟩) hH ?_
  try simp only [Act.put, List.setIfInBounds_toArray, List.set_cons_zero, List.set_cons_succ]
  refine wpAnyH_done (by kernel_rfl) ?_ _
  have HB4 := hid (Below.next HB2.out hH)
  clear hH hd st1 st2 st3 st4 hb3 hb4
  go_wp2
  go_ret
  exact ⟨rfl, HB4.out⟩
end Go.Proofs.Ytopdcjekdmaopaa
