/- Contracts: seal.Open. -/
import Derived.Test.YtopdcjekdmaopaaSealClose
import Derived.Test.YtopdcjekdmaopaaSlParts
import Derived.Deep.QuietTactic
import Derived.BigQuiet
namespace Go.Proofs.Ytopdcjekdmaopaa
open Go.RowKit
open Go.Lib (hid)
set_option linter.unusedVariables false

theorem seal_Open_short (l : List UInt8) (u : Value) (w : World) (hl : SlB w u l) (h4 : l.length < 4) : Calls Try.prog 31 #[u] w fun e w' =>
    e = .returned (.tuple #[.slice none 0 0, .bool false]) ∧ w = w' := by
  obtain ⟨a, c, rfl, h1, h2, -⟩ := hl
  go_enter Try.func31, Try.ntmps31
  go_wp2
  go_ret2
  exact ⟨rfl, rfl⟩

set_option maxHeartbeats 400000 in
theorem seal_Open_yes (x : List UInt8) (u : Value) (w : World) (hl : SlB w u (x ++ lowB (crc x) 4)) (hx : x.length ≤ 1048576) : Calls Try.prog 31 #[u] w fun e w' =>
    ∃ v, e = .returned (.tuple #[v, .bool true]) ∧ w'.ownsRow w.heap.size 5 1 v x.length (bv x) ∧ Below w.heap.size w w' := by
  obtain ⟨b, off, c, rfl, h1, h2, h3, h4, h5⟩ := hl.parts (by simp [lowB_length])
  rw [lowB_length] at h1 h3 h5 ⊢
  have hne : ¬ c = x.length := by omega
  have hcrc : crc x < 4294967296 := by unfold crc; omega
  clear hl
  go_enter Try.func31, Try.ntmps31
  go_wp2
  go_quiet (fail)
  have hb1 := Below.drawn w nq
  obtain ⟨w1, hw1⟩ : ∃ w1, w1 = w.drewN nq := ⟨_, rfl⟩
  rw [← hw1] at hb1 ⊢
  have HB1 := hid hb1
  have s1 := h4.below (Below.next hb1 (Below.new w1 (.cells #[.slice (some ⟨b, off, none⟩) x.length c] 35)))
  have s2 := hid h5
  have s0 := hid h4
  clear hb1 h4 h5 hw1
  go_wp2_with fail
  refine (seal_Sum1 x _ w1.heap.size _ (cell_block0 _ _ _) s1).mono ?_
  rintro e w2 ⟨rfl, hb2⟩
  have HB2 := hid (Below.next HB1.out (Below.next (Below.new w1 (.cells #[.slice (some ⟨b, off, none⟩) x.length c] 35)) hb2))
  clear hb2 s1
  go_wp2_with fail
  refine (seal_low (crc x) hcrc _).mono ?_
  rintro e w3 ⟨rfl, hlow, hb3⟩
  have HB3 := hid (Below.next HB2.out hb3)
  have s3 := ownsRow.slb (l := lowB (crc x) 4) (by simpa [lowB_length] using hlow) (by simp [lowB_length])
  clear hb3 hlow
  go_wp2_with fail
  refine (bytes_Equal (lowB (crc x) 4) (lowB (crc x) 4) _ _ w3 (s2.out.below HB3.out) s3).mono ?_
  rintro e w' ⟨rfl, rfl⟩
  have heq : (lowB (crc x) 4 == lowB (crc x) 4) = true := by simp
  go_wp2_with fail
  refine (bytes_Clone x _ w3 (s0.out.below HB3.out) (by omega)).mono ?_
  rintro e w4 ⟨v, rfl, hown, hb4⟩
  have HB4 := hid (Below.next HB3.out hb4)
  have HO := hid (ownsRow_base hown HB3.out.size)
  clear hown hb4
  go_wp2
  go_ret2
  exact ⟨_, rfl, HO.out, HB4.out⟩

set_option maxHeartbeats 400000 in
theorem seal_Open_no (x y : List UInt8) (hy : y.length = 4) (hne2 : y ≠ lowB (crc x) 4) (u : Value) (w : World) (hl : SlB w u (x ++ y)) (hx : x.length ≤ 1048576) : Calls Try.prog 31 #[u] w fun e w' =>
    e = .returned (.tuple #[.slice none 0 0, .bool false]) ∧ Below w.heap.size w w' := by
  obtain ⟨b, off, c, rfl, h1, h2, h3, h4, h5⟩ := hl.parts (by omega)
  rw [hy] at h1 h3 h5 ⊢
  have hne : ¬ c = x.length := by omega
  have hcrc : crc x < 4294967296 := by unfold crc; omega
  have HY := hid hy
  have HN := hid hne2
  clear hl hy hne2
  go_enter Try.func31, Try.ntmps31
  go_wp2
  go_quiet (fail)
  have hb1 := Below.drawn w nq
  obtain ⟨w1, hw1⟩ : ∃ w1, w1 = w.drewN nq := ⟨_, rfl⟩
  rw [← hw1] at hb1 ⊢
  have HB1 := hid hb1
  have s1 := h4.below (Below.next hb1 (Below.new w1 (.cells #[.slice (some ⟨b, off, none⟩) x.length c] 35)))
  have s2 := hid h5
  have s0 := hid h4
  clear hb1 h4 h5 hw1
  go_wp2_with fail
  refine (seal_Sum1 x _ w1.heap.size _ (cell_block0 _ _ _) s1).mono ?_
  rintro e w2 ⟨rfl, hb2⟩
  have HB2 := hid (Below.next HB1.out (Below.next (Below.new w1 (.cells #[.slice (some ⟨b, off, none⟩) x.length c] 35)) hb2))
  clear hb2 s1
  go_wp2_with fail
  refine (seal_low (crc x) hcrc _).mono ?_
  rintro e w3 ⟨rfl, hlow, hb3⟩
  have HB3 := hid (Below.next HB2.out hb3)
  have s3 := ownsRow.slb (l := lowB (crc x) 4) (by simpa [lowB_length] using hlow) (by simp [lowB_length])
  clear hb3 hlow
  go_wp2_with fail
  refine (bytes_Equal y (lowB (crc x) 4) _ _ w3 (by have := s2.out.below HB3.out; rw [← HY.out] at this; rw [← HY.out]; exact this) s3).mono ?_
  rintro e w' ⟨rfl, rfl⟩
  have heq : (y == lowB (crc x) 4) = false := by simpa using HN.out
  go_wp2
  go_ret2
  exact ⟨rfl, HB3.out⟩
end Go.Proofs.Ytopdcjekdmaopaa
