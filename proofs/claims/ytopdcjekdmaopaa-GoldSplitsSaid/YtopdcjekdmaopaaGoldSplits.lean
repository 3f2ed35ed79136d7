/- The law GoldSplits, walked. -/
import Derived.Test.YtopdcjekdmaopaaGoldSplit
namespace Go.Proofs.Ytopdcjekdmaopaa
open Go.RowKit
open Go.Lib (hid)
set_option linter.unusedVariables false

theorem GoldSplits_no (a n : Int) (h : ¬ (goldR a = true ∧ 1 ≤ n ∧ n ≤ 64)) (w : World) : Calls Try.prog 8 #[.int .i64 a, .int .i64 n] w fun e w' => e = .returned (.bool true) ∧ Below w.heap.size w w' := by
  have H := hid h
  cases hr : goldR a
  · clear h
    go_enter Try.func8, Try.ntmps8
    go_wp2_with (first | (go_at_call 26; (with_reducible refine (gold_Split_no _ _ H.out _).mono ?_); rintro e w' ⟨rfl, rfl⟩) | (go_at_call 16; (with_reducible refine (ref_Right _ _).mono ?_); rintro e w' ⟨rfl, rfl⟩) | (go_at_call 19; (with_reducible refine (gold_awake _).mono ?_); rintro e w' ⟨rfl, rfl⟩))
    go_ret
    exact ⟨rfl, Below.refl _ _⟩
  · by_cases h1 : n < 1
    · clear h
      go_enter Try.func8, Try.ntmps8
      go_wp2_with (first | (go_at_call 26; (with_reducible refine (gold_Split_no _ _ H.out _).mono ?_); rintro e w' ⟨rfl, rfl⟩) | (go_at_call 16; (with_reducible refine (ref_Right _ _).mono ?_); rintro e w' ⟨rfl, rfl⟩) | (go_at_call 19; (with_reducible refine (gold_awake _).mono ?_); rintro e w' ⟨rfl, rfl⟩))
      go_ret
      exact ⟨rfl, Below.refl _ _⟩
    · have h2 : 64 < n := by
        rcases Int.lt_or_le 64 n with h2 | h2
        · exact h2
        · exact absurd ⟨hr, by omega, h2⟩ h
      clear h
      go_enter Try.func8, Try.ntmps8
      go_wp2_with (first | (go_at_call 26; (with_reducible refine (gold_Split_no _ _ H.out _).mono ?_); rintro e w' ⟨rfl, rfl⟩) | (go_at_call 16; (with_reducible refine (ref_Right _ _).mono ?_); rintro e w' ⟨rfl, rfl⟩) | (go_at_call 19; (with_reducible refine (gold_awake _).mono ?_); rintro e w' ⟨rfl, rfl⟩))
      go_ret
      exact ⟨rfl, Below.refl _ _⟩

theorem GoldSplits_yes (a : Int) (m : Nat) (hr : goldR a = true) (h1 : 1 ≤ m) (h2 : m ≤ 64) (w : World) : Calls Try.prog 8 #[.int .i64 a, .int .i64 m] w fun e w' => e = .returned (.bool true) ∧ Below w.heap.size w w' := by
  have hb : 0 ≤ a ∧ a ≤ 1099511627776 := by simpa [goldR] using hr
  obtain ⟨a0, a1⟩ := hb
  go_enter Try.func8, Try.ntmps8
  go_wp2_with fail
  refine (gold_Split_yes a m hr h1 h2 _).mono ?_
  rintro e w1 ⟨v, rfl, hown, hb⟩
  obtain ⟨g, cap, rfl⟩ := Joins.ownsRow_form hown h1
  have hcells : Hid (∀ j, j < m → w1.cell? ⟨g, j, none⟩ = some (.int .i64 (part a m j))) := hid (fun j hj => by
    rw [hown.cellAt j (by omega), List.getElem?_map, splitL_at a m j hj]; rfl)
  have HB := hid hb
  clear hb hown
  go_wp2_with (go_at_call 16; (with_reducible refine (ref_Right _ _).mono ?_); rintro e w' ⟨rfl, rfl⟩)
  go_loop [7, 47] (fun v7 v47 => ∃ k : Nat, v7 = .int .i64 (partSum a m k) ∧ v47 = .int .i64 k ∧ k ≤ m) (fun _ vi => m - (intOf vi).toNat)
  case atStart => exact ⟨0, by rw [partSum_zero a m h1], rfl, by omega⟩
  case round =>
    obtain ⟨k, rfl, rfl, hk⟩ := hrel
    by_cases hlt : k < m
    · have hck := hcells.out k hlt
      have hc0 := hcells.out 0 (by omega)
      have ⟨p0, p1⟩ := part_bd a m k a0 h1
      have ⟨p2, p3⟩ := part_bd a m 0 a0 h1
      have p4 := part_first a m k
      have ⟨s0, s1⟩ := partSum_bd a m k a0 h1 hk
      have HS := hid (partSum_step a m k)
      have ⟨s2, s3⟩ := partSum_bd a m (k + 1) a0 h1 hlt
      have s4 : partSum a m k + part a m k ≤ a := by rw [← HS.out]; exact s3
      clear s2 s3
      rcases k with _ | q
      · go_wp2
        go_round
        case rel => exact ⟨1, by rw [HS.out], by go_num, by omega⟩
        case measure => simp [intOf]; omega
      · have hcq := hcells.out q (by omega)
        have p5 := part_mono a m q
        have ⟨p6, p7⟩ := part_bd a m q a0 h1
        go_wp2
        go_round
        case rel => exact ⟨q + 1 + 1, by rw [HS.out], by go_num, by omega⟩
        case measure => simp [intOf]; omega
    · obtain rfl : k = m := by omega
      have hs := partSum_all a k h1
      go_wp2_with (go_at_call 19; (with_reducible refine (gold_awake _).mono ?_); rintro e w' ⟨rfl, rfl⟩)
      go_ret
      exact ⟨rfl, HB.out⟩

theorem GoldSplits_walk (a n : Int) (w : World) (wa : (Lit.int .i64 a).wf = true) (wn : (Lit.int .i64 n).wf = true) : Calls Try.prog 8 #[.int .i64 a, .int .i64 n] w fun e w' => e = .returned (.bool true) ∧ Below w.heap.size w w' := by
  by_cases h : goldR a = true ∧ 1 ≤ n ∧ n ≤ 64
  · obtain ⟨hr, h1, h2⟩ := h
    obtain ⟨m, rfl⟩ := Int.eq_ofNat_of_zero_le (show 0 ≤ n by omega)
    exact GoldSplits_yes a m hr (by omega) (by omega) w
  · exact GoldSplits_no a n h w
end Go.Proofs.Ytopdcjekdmaopaa
