/- Contracts: gold.Split; the law GoldSplits. -/
import Derived.Test.YtopdcjekdmaopaaGoldSums
namespace Go.Proofs.Ytopdcjekdmaopaa
open Go.RowKit
open Go.Lib (hid)
set_option linter.unusedVariables false

/-- part i of a, split into m -/
def part (a : Int) (m i : Nat) : Int := a / m + if (i : Int) < a % m then 1 else 0
def splitL (a : Int) (m : Nat) : List Int := (List.range m).map (part a m)
/-- the first k parts are laid, the others are noughts -/
def splitK (a : Int) (m k : Nat) : List Int := (List.range m).map fun i => if i < k then part a m i else 0

theorem splitK_zero (a : Int) (m : Nat) : splitK a m 0 = List.replicate m 0 := by
  apply List.ext_getElem?
  intro i
  by_cases h : i < m <;> simp [splitK, h]
theorem splitK_all (a : Int) (m : Nat) : splitK a m m = splitL a m := by
  unfold splitK splitL
  apply List.map_congr_left
  intro i hi
  simp at hi
  simp [hi]
theorem splitK_step (a : Int) (m k : Nat) (hk : k < m) (x : Int) (hx : x = part a m k) : (splitK a m k).set k x = splitK a m (k + 1) := by
  subst hx
  apply List.ext_getElem?
  intro i
  by_cases h : i = k
  · subst h; simp [splitK, hk]
  · rw [List.getElem?_set_ne (by omega)]
    by_cases hi : i < m
    · simp only [splitK, List.getElem?_map, List.getElem?_range hi, Option.map_some]
      congr 1
      by_cases h2 : i < k
      · simp [h2, show i < k + 1 by omega]
      · simp [h2, show ¬ i < k + 1 by omega]
    · simp [splitK, hi]
theorem splitK_at (a : Int) (m k : Nat) (hk : k < m) : (splitK a m k)[k]? = some 0 := by simp [splitK, hk]
theorem splitK_length (a : Int) (m k : Nat) : (splitK a m k).length = m := by simp [splitK]
theorem splitL_length (a : Int) (m : Nat) : (splitL a m).length = m := by simp [splitL]
theorem splitL_at (a : Int) (m k : Nat) (hk : k < m) : (splitL a m)[k]? = some (part a m k) := by simp [splitL, hk]

theorem part_bd (a : Int) (m k : Nat) (a0 : 0 ≤ a) (hm : 1 ≤ m) : 0 ≤ part a m k ∧ part a m k ≤ a := by
  have hq : 0 ≤ a / m := Int.ediv_nonneg a0 (by omega)
  have hr0 : 0 ≤ a % m := Int.emod_nonneg a (by omega)
  have hr1 : a % m < m := Int.emod_lt_of_pos a (by omega)
  have hd : a % m + m * (a / m) = a := Int.emod_add_mul_ediv a m
  have hm2 : 1 * (a / m) ≤ m * (a / m) := Int.mul_le_mul_of_nonneg_right (by omega) hq
  unfold part
  split <;> omega
theorem part_mono (a : Int) (m k : Nat) : part a m (k + 1) ≤ part a m k := by unfold part; split <;> split <;> omega
theorem part_first (a : Int) (m k : Nat) : part a m 0 - part a m k ≤ 1 := by unfold part; split <;> split <;> omega
/-- the sum of the first k parts -/
def partSum (a : Int) (m k : Nat) : Int := k * (a / m) + min (k : Int) (a % m)
theorem partSum_step (a : Int) (m k : Nat) : partSum a m (k + 1) = partSum a m k + part a m k := by
  unfold partSum part
  have : ((k + 1 : Nat) : Int) * (a / m) = (k : Int) * (a / m) + a / m := by
    rw [show ((k + 1 : Nat) : Int) = (k : Int) + 1 by omega, Int.add_mul, Int.one_mul]
  rw [this]
  split <;> omega
theorem partSum_zero (a : Int) (m : Nat) (hm : 1 ≤ m) : partSum a m 0 = 0 := by
  have hr0 : 0 ≤ a % m := Int.emod_nonneg a (by omega)
  unfold partSum
  simp; omega
theorem partSum_all (a : Int) (m : Nat) (hm : 1 ≤ m) : partSum a m m = a := by
  have hr1 : a % m < m := Int.emod_lt_of_pos a (by omega)
  have hd : a % m + m * (a / m) = a := Int.emod_add_mul_ediv a m
  unfold partSum
  omega
theorem partSum_bd (a : Int) (m k : Nat) (a0 : 0 ≤ a) (hm : 1 ≤ m) (hk : k ≤ m) : 0 ≤ partSum a m k ∧ partSum a m k ≤ a := by
  have hq : 0 ≤ a / m := Int.ediv_nonneg a0 (by omega)
  have hr0 : 0 ≤ a % m := Int.emod_nonneg a (by omega)
  have h1 := partSum_all a m hm
  have h2 : (k : Int) * (a / m) ≤ m * (a / m) := Int.mul_le_mul_of_nonneg_right (by omega) hq
  have h3 : 0 ≤ (k : Int) * (a / m) := Int.mul_nonneg (by omega) hq
  unfold partSum at *
  omega

/-- gold.Split of what may not be split -/
theorem gold_Split_no (a n : Int) (h : ¬ (goldR a = true ∧ 1 ≤ n ∧ n ≤ 64)) (w : World) : Calls Try.prog 26 #[.int .i64 a, .int .i64 n] w fun e w' => e = .returned (.tuple #[.slice none 0 0, .int .i64 11]) ∧ w = w' := by
  cases hr : goldR a
  · clear h
    go_enter Try.func26, Try.ntmps26
    go_wp2_with (go_at_call 15; (with_reducible refine (gold_Right _ _).mono ?_); rintro e w' ⟨rfl, rfl⟩)
    go_ret2
    exact ⟨rfl, rfl⟩
  · by_cases h1 : n < 1
    · clear h
      go_enter Try.func26, Try.ntmps26
      go_wp2_with (go_at_call 15; (with_reducible refine (gold_Right _ _).mono ?_); rintro e w' ⟨rfl, rfl⟩)
      go_ret2
      exact ⟨rfl, rfl⟩
    · have h2 : 64 < n := by
        rcases Int.lt_or_le 64 n with h2 | h2
        · exact h2
        · exact absurd ⟨hr, by omega, h2⟩ h
      clear h
      go_enter Try.func26, Try.ntmps26
      go_wp2_with (go_at_call 15; (with_reducible refine (gold_Right _ _).mono ?_); rintro e w' ⟨rfl, rfl⟩)
      go_ret2
      exact ⟨rfl, rfl⟩

theorem gold_Split_yes (a : Int) (m : Nat) (hr : goldR a = true) (h1 : 1 ≤ m) (h2 : m ≤ 64) (w : World) : Calls Try.prog 26 #[.int .i64 a, .int .i64 m] w fun e w' =>
    ∃ v, e = .returned (.tuple #[v, .int .i64 0]) ∧ w'.ownsRow w.heap.size 3 1 v m ((splitL a m).map (.int .i64)) ∧ Below w.heap.size w w' := by
  have hb : 0 ≤ a ∧ a ≤ 1099511627776 := by simpa [goldR] using hr
  obtain ⟨a0, a1⟩ := hb
  go_enter Try.func26, Try.ntmps26
  go_wp2_with (first | (go_at_call 15; (with_reducible refine (gold_Right _ _).mono ?_); rintro e w' ⟨rfl, rfl⟩) | (at_make; refine wpList_make T_ints rfl _ rfl _ _ rfl w.heap.size _ _ _ _ m m rfl rfl rfl rfl (Nat.le_refl _) ?b1 ?b3 ?_))
  case b1 => omega
  case b3 => omega
  intro w1 hown hg
  obtain ⟨g, hgq⟩ : ∃ g, g = w.heap.size := ⟨_, rfl⟩
  have hb1 : Below w.heap.size w w1 := (Below.refl _ _).grown hg (Nat.le_refl _) (fun k h => by cases h)
  rw [← List.map_replicate, ← splitK_zero a m] at hown
  rw [← hgq] at hown ⊢
  have Hg := hid (show w.heap.size ≤ g by omega)
  clear hg hgq
  go_wp2
  go_loopw [23] (fun v23 wr => ∃ (k : Nat), v23 = .int .i64 k ∧ k ≤ m ∧ wr.ownsRow g 3 1 (.slice (some ⟨g, 0, none⟩) m m) m ((splitK a m k).map (.int .i64)) ∧ Below w.heap.size w wr) (fun vi _ => m - (intOf vi).toNat)
  case atStart => exact ⟨0, rfl, by omega, hown, hb1⟩
  case round =>
    obtain ⟨k, rfl, hk, hown, hb⟩ := hrel
    by_cases hlt : k < m
    · have hc0 : wr.cell? ⟨g, k, none⟩ = some (.int .i64 0) := by
        rw [hown.cellAt k (by omega), List.getElem?_map, splitK_at a m k hlt]; rfl
      have hf0 : wr.frozen? ⟨g, k, none⟩ = false := hown.frozenAt k
      have HP := hid (part.eq_1 a m k)
      have ⟨p0, p1⟩ := part_bd a m k a0 h1
      by_cases hrr : (k : Int) < a % m
      · have hx : part a m k = a / m + 1 := by rw [HP.out, if_pos hrr]
        have q0 : 0 ≤ a / m := Int.ediv_nonneg a0 (by omega)
        have q1 : a / m ≤ 1099511627776 := by omega
        have hst := ((hown.stored k (.int .i64 (a / m))).1.stored k (.int .i64 (a / m + 1))).1
        rw [List.set_set, ← List.map_set, splitK_step a m k hlt _ hx.symm] at hst
        have HST := hid hst
        have hb' : Below w.heap.size w ((wr.setCell ⟨g, k, none⟩ (.int .i64 (a / m))).setCell ⟨g, k, none⟩ (.int .i64 (a / m + 1))) := (hb.setCell Hg.out _).setCell Hg.out _
        clear hst hown hx p0 p1
        go_wp2
        go_roundw
        case rel => exact ⟨k + 1, by go_num, by omega, HST.out, hb'⟩
        case measure => simp [intOf]; omega
      · have hx : part a m k = a / m := by rw [HP.out, if_neg hrr]; omega
        have hst := (hown.stored k (.int .i64 (a / m))).1
        rw [← List.map_set, splitK_step a m k hlt _ hx.symm] at hst
        have HST := hid hst
        have hb' : Below w.heap.size w (wr.setCell ⟨g, k, none⟩ (.int .i64 (a / m))) := hb.setCell Hg.out _
        clear hst hown hx p0 p1
        go_wp2
        go_roundw
        case rel => exact ⟨k + 1, by go_num, by omega, HST.out, hb'⟩
        case measure => simp [intOf]; omega
    · obtain rfl : k = m := by omega
      rw [splitK_all] at hown
      go_wp2
      go_ret2
      exact ⟨_, rfl, ownsRow_base hown Hg.out, hb⟩
end Go.Proofs.Ytopdcjekdmaopaa
