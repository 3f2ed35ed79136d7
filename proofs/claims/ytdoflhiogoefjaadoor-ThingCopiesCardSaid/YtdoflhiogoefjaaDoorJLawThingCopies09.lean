/- Joined texts, in this order: ThingRight. Each one's first remark says what it proves; no condition beyond those that its theorems name. -/
import Derived.Test.YtdoflhiogoefjaaDoorJLawThingCopies08
section
/- Places: contracts of thing.Place.Right and of the document's Right. -/
namespace Go.Proofs.YtdoflhiogoefjaaDoor
open Go.RowKit
open Go.Lib (hid)
set_option linter.unusedVariables false


set_option maxRecDepth 100000 in
set_option maxHeartbeats 2000000 in
theorem thing_Right (k h s : Int) (w : World) : Calls Tryd.prog 8 #[.agg #[.int .i64 k, .int .i64 h, .int .i64 s]] w fun e w' => e = .returned (.bool (rightP (k, h, s))) ∧ Below w.heap.size w w' := by
  by_cases k2 : k = 2
  · subst k2
    by_cases h1 : 1 ≤ h
    · have h1b : decide (1 ≤ h) = true := by simpa using h1
      by_cases s1 : 1 ≤ s
      · have s1b : decide (1 ≤ s) = true := by simpa using s1
        by_cases s4 : s ≤ 4
        · have s4b : decide (s ≤ 4) = true := by simpa using s4
          have HV : Hid (rightP (2, h, s) = true) := hid (by simp [rightP]; omega)
          clear h1
          clear s1
          clear s4
          go_enter Tryd.func8, Tryd.ntmps8
          go_wp2_with fail
          go_ret
          refine ⟨?_, Below.new _ _⟩
          first | (rw [HV.out]; done) | (rw [HV.out]; rfl)
        · have s4b : decide (s ≤ 4) = false := by simpa using s4
          have HV : Hid (rightP (2, h, s) = false) := hid (by simp [rightP]; omega)
          clear h1
          clear s1
          clear s4
          go_enter Tryd.func8, Tryd.ntmps8
          go_wp2_with fail
          go_ret
          refine ⟨?_, Below.new _ _⟩
          first | (rw [HV.out]; done) | (rw [HV.out]; rfl)
      · have s1b : decide (1 ≤ s) = false := by simpa using s1
        by_cases s4 : s ≤ 4
        · have s4b : decide (s ≤ 4) = true := by simpa using s4
          have HV : Hid (rightP (2, h, s) = false) := hid (by simp [rightP]; omega)
          clear h1
          clear s1
          clear s4
          go_enter Tryd.func8, Tryd.ntmps8
          go_wp2_with fail
          go_ret
          refine ⟨?_, Below.new _ _⟩
          first | (rw [HV.out]; done) | (rw [HV.out]; rfl)
        · have s4b : decide (s ≤ 4) = false := by simpa using s4
          exfalso; omega
    · have h1b : decide (1 ≤ h) = false := by simpa using h1
      by_cases s1 : 1 ≤ s
      · have s1b : decide (1 ≤ s) = true := by simpa using s1
        by_cases s4 : s ≤ 4
        · have s4b : decide (s ≤ 4) = true := by simpa using s4
          have HV : Hid (rightP (2, h, s) = false) := hid (by simp [rightP]; omega)
          clear h1
          clear s1
          clear s4
          go_enter Tryd.func8, Tryd.ntmps8
          go_wp2_with fail
          go_ret
          refine ⟨?_, Below.new _ _⟩
          first | (rw [HV.out]; done) | (rw [HV.out]; rfl)
        · have s4b : decide (s ≤ 4) = false := by simpa using s4
          have HV : Hid (rightP (2, h, s) = false) := hid (by simp [rightP]; omega)
          clear h1
          clear s1
          clear s4
          go_enter Tryd.func8, Tryd.ntmps8
          go_wp2_with fail
          go_ret
          refine ⟨?_, Below.new _ _⟩
          first | (rw [HV.out]; done) | (rw [HV.out]; rfl)
      · have s1b : decide (1 ≤ s) = false := by simpa using s1
        by_cases s4 : s ≤ 4
        · have s4b : decide (s ≤ 4) = true := by simpa using s4
          have HV : Hid (rightP (2, h, s) = false) := hid (by simp [rightP]; omega)
          clear h1
          clear s1
          clear s4
          go_enter Tryd.func8, Tryd.ntmps8
          go_wp2_with fail
          go_ret
          refine ⟨?_, Below.new _ _⟩
          first | (rw [HV.out]; done) | (rw [HV.out]; rfl)
        · have s4b : decide (s ≤ 4) = false := by simpa using s4
          exfalso; omega
  · have k2b : (k == 2) = false := by simpa using k2
    by_cases k1 : 1 ≤ k
    · have k1b : decide (1 ≤ k) = true := by simpa using k1
      by_cases k4 : k ≤ 4
      · have k4b : decide (k ≤ 4) = true := by simpa using k4
        by_cases h1 : 1 ≤ h
        · have h1b : decide (1 ≤ h) = true := by simpa using h1
          by_cases s0 : s = 0
          · have s0b : (s == 0) = true := by simpa using s0
            have HV : Hid (rightP (k, h, s) = true) := hid (by simp [rightP, k2]; omega)
            clear k1
            clear k4
            clear h1
            clear s0
            clear k2
            go_enter Tryd.func8, Tryd.ntmps8
            go_wp2_with fail
            go_ret
            refine ⟨?_, Below.new _ _⟩
            first | (rw [HV.out]; done) | (rw [HV.out]; rfl)
          · have s0b : (s == 0) = false := by simpa using s0
            have HV : Hid (rightP (k, h, s) = false) := hid (by simp [rightP, k2]; omega)
            clear k1
            clear k4
            clear h1
            clear s0
            clear k2
            go_enter Tryd.func8, Tryd.ntmps8
            go_wp2_with fail
            go_ret
            refine ⟨?_, Below.new _ _⟩
            first | (rw [HV.out]; done) | (rw [HV.out]; rfl)
        · have h1b : decide (1 ≤ h) = false := by simpa using h1
          by_cases s0 : s = 0
          · have s0b : (s == 0) = true := by simpa using s0
            have HV : Hid (rightP (k, h, s) = false) := hid (by simp [rightP, k2]; omega)
            clear k1
            clear k4
            clear h1
            clear s0
            clear k2
            go_enter Tryd.func8, Tryd.ntmps8
            go_wp2_with fail
            go_ret
            refine ⟨?_, Below.new _ _⟩
            first | (rw [HV.out]; done) | (rw [HV.out]; rfl)
          · have s0b : (s == 0) = false := by simpa using s0
            have HV : Hid (rightP (k, h, s) = false) := hid (by simp [rightP, k2]; omega)
            clear k1
            clear k4
            clear h1
            clear s0
            clear k2
            go_enter Tryd.func8, Tryd.ntmps8
            go_wp2_with fail
            go_ret
            refine ⟨?_, Below.new _ _⟩
            first | (rw [HV.out]; done) | (rw [HV.out]; rfl)
      · have k4b : decide (k ≤ 4) = false := by simpa using k4
        by_cases h1 : 1 ≤ h
        · have h1b : decide (1 ≤ h) = true := by simpa using h1
          by_cases s0 : s = 0
          · have s0b : (s == 0) = true := by simpa using s0
            have HV : Hid (rightP (k, h, s) = false) := hid (by simp [rightP, k2]; omega)
            clear k1
            clear k4
            clear h1
            clear s0
            clear k2
            go_enter Tryd.func8, Tryd.ntmps8
            go_wp2_with fail
            go_ret
            refine ⟨?_, Below.new _ _⟩
            first | (rw [HV.out]; done) | (rw [HV.out]; rfl)
          · have s0b : (s == 0) = false := by simpa using s0
            have HV : Hid (rightP (k, h, s) = false) := hid (by simp [rightP, k2]; omega)
            clear k1
            clear k4
            clear h1
            clear s0
            clear k2
            go_enter Tryd.func8, Tryd.ntmps8
            go_wp2_with fail
            go_ret
            refine ⟨?_, Below.new _ _⟩
            first | (rw [HV.out]; done) | (rw [HV.out]; rfl)
        · have h1b : decide (1 ≤ h) = false := by simpa using h1
          by_cases s0 : s = 0
          · have s0b : (s == 0) = true := by simpa using s0
            have HV : Hid (rightP (k, h, s) = false) := hid (by simp [rightP, k2]; omega)
            clear k1
            clear k4
            clear h1
            clear s0
            clear k2
            go_enter Tryd.func8, Tryd.ntmps8
            go_wp2_with fail
            go_ret
            refine ⟨?_, Below.new _ _⟩
            first | (rw [HV.out]; done) | (rw [HV.out]; rfl)
          · have s0b : (s == 0) = false := by simpa using s0
            have HV : Hid (rightP (k, h, s) = false) := hid (by simp [rightP, k2]; omega)
            clear k1
            clear k4
            clear h1
            clear s0
            clear k2
            go_enter Tryd.func8, Tryd.ntmps8
            go_wp2_with fail
            go_ret
            refine ⟨?_, Below.new _ _⟩
            first | (rw [HV.out]; done) | (rw [HV.out]; rfl)
    · have k1b : decide (1 ≤ k) = false := by simpa using k1
      by_cases k4 : k ≤ 4
      · have k4b : decide (k ≤ 4) = true := by simpa using k4
        by_cases h1 : 1 ≤ h
        · have h1b : decide (1 ≤ h) = true := by simpa using h1
          by_cases s0 : s = 0
          · have s0b : (s == 0) = true := by simpa using s0
            have HV : Hid (rightP (k, h, s) = false) := hid (by simp [rightP, k2]; omega)
            clear k1
            clear k4
            clear h1
            clear s0
            clear k2
            go_enter Tryd.func8, Tryd.ntmps8
            go_wp2_with fail
            go_ret
            refine ⟨?_, Below.new _ _⟩
            first | (rw [HV.out]; done) | (rw [HV.out]; rfl)
          · have s0b : (s == 0) = false := by simpa using s0
            have HV : Hid (rightP (k, h, s) = false) := hid (by simp [rightP, k2]; omega)
            clear k1
            clear k4
            clear h1
            clear s0
            clear k2
            go_enter Tryd.func8, Tryd.ntmps8
            go_wp2_with fail
            go_ret
            refine ⟨?_, Below.new _ _⟩
            first | (rw [HV.out]; done) | (rw [HV.out]; rfl)
        · have h1b : decide (1 ≤ h) = false := by simpa using h1
          by_cases s0 : s = 0
          · have s0b : (s == 0) = true := by simpa using s0
            have HV : Hid (rightP (k, h, s) = false) := hid (by simp [rightP, k2]; omega)
            clear k1
            clear k4
            clear h1
            clear s0
            clear k2
            go_enter Tryd.func8, Tryd.ntmps8
            go_wp2_with fail
            go_ret
            refine ⟨?_, Below.new _ _⟩
            first | (rw [HV.out]; done) | (rw [HV.out]; rfl)
          · have s0b : (s == 0) = false := by simpa using s0
            have HV : Hid (rightP (k, h, s) = false) := hid (by simp [rightP, k2]; omega)
            clear k1
            clear k4
            clear h1
            clear s0
            clear k2
            go_enter Tryd.func8, Tryd.ntmps8
            go_wp2_with fail
            go_ret
            refine ⟨?_, Below.new _ _⟩
            first | (rw [HV.out]; done) | (rw [HV.out]; rfl)
      · have k4b : decide (k ≤ 4) = false := by simpa using k4
        by_cases h1 : 1 ≤ h
        · have h1b : decide (1 ≤ h) = true := by simpa using h1
          by_cases s0 : s = 0
          · have s0b : (s == 0) = true := by simpa using s0
            exfalso; omega
          · have s0b : (s == 0) = false := by simpa using s0
            exfalso; omega
        · have h1b : decide (1 ≤ h) = false := by simpa using h1
          by_cases s0 : s = 0
          · have s0b : (s == 0) = true := by simpa using s0
            exfalso; omega
          · have s0b : (s == 0) = false := by simpa using s0
            exfalso; omega
set_option maxRecDepth 100000 in
set_option maxHeartbeats 2000000 in
theorem ref21_Right (k h s : Int) (w : World) : Calls Tryd.prog 9 #[.agg #[.int .i64 k, .int .i64 h, .int .i64 s]] w fun e w' => e = .returned (.bool (rightP (k, h, s))) ∧ Below w.heap.size w w' := by
  by_cases k2 : k = 2
  · subst k2
    by_cases h1 : h < 1
    · have h1b : decide (h < 1) = true := by simpa using h1
      by_cases s1 : 1 ≤ s
      · have s1b : decide (1 ≤ s) = true := by simpa using s1
        by_cases s4 : s ≤ 4
        · have s4b : decide (s ≤ 4) = true := by simpa using s4
          have HV : Hid (rightP (2, h, s) = false) := hid (by simp [rightP]; omega)
          clear h1
          clear s1
          clear s4
          go_enter Tryd.func9, Tryd.ntmps9
          go_wp2_with fail
          go_ret
          refine ⟨?_, Below.new _ _⟩
          first | (rw [HV.out]; done) | (rw [HV.out]; rfl)
        · have s4b : decide (s ≤ 4) = false := by simpa using s4
          have HV : Hid (rightP (2, h, s) = false) := hid (by simp [rightP]; omega)
          clear h1
          clear s1
          clear s4
          go_enter Tryd.func9, Tryd.ntmps9
          go_wp2_with fail
          go_ret
          refine ⟨?_, Below.new _ _⟩
          first | (rw [HV.out]; done) | (rw [HV.out]; rfl)
      · have s1b : decide (1 ≤ s) = false := by simpa using s1
        by_cases s4 : s ≤ 4
        · have s4b : decide (s ≤ 4) = true := by simpa using s4
          have HV : Hid (rightP (2, h, s) = false) := hid (by simp [rightP]; omega)
          clear h1
          clear s1
          clear s4
          go_enter Tryd.func9, Tryd.ntmps9
          go_wp2_with fail
          go_ret
          refine ⟨?_, Below.new _ _⟩
          first | (rw [HV.out]; done) | (rw [HV.out]; rfl)
        · have s4b : decide (s ≤ 4) = false := by simpa using s4
          exfalso; omega
    · have h1b : decide (h < 1) = false := by simpa using h1
      by_cases s1 : 1 ≤ s
      · have s1b : decide (1 ≤ s) = true := by simpa using s1
        by_cases s4 : s ≤ 4
        · have s4b : decide (s ≤ 4) = true := by simpa using s4
          have HV : Hid (rightP (2, h, s) = true) := hid (by simp [rightP]; omega)
          clear h1
          clear s1
          clear s4
          go_enter Tryd.func9, Tryd.ntmps9
          go_wp2_with fail
          go_ret
          refine ⟨?_, Below.new _ _⟩
          first | (rw [HV.out]; done) | (rw [HV.out]; rfl)
        · have s4b : decide (s ≤ 4) = false := by simpa using s4
          have HV : Hid (rightP (2, h, s) = false) := hid (by simp [rightP]; omega)
          clear h1
          clear s1
          clear s4
          go_enter Tryd.func9, Tryd.ntmps9
          go_wp2_with fail
          go_ret
          refine ⟨?_, Below.new _ _⟩
          first | (rw [HV.out]; done) | (rw [HV.out]; rfl)
      · have s1b : decide (1 ≤ s) = false := by simpa using s1
        by_cases s4 : s ≤ 4
        · have s4b : decide (s ≤ 4) = true := by simpa using s4
          have HV : Hid (rightP (2, h, s) = false) := hid (by simp [rightP]; omega)
          clear h1
          clear s1
          clear s4
          go_enter Tryd.func9, Tryd.ntmps9
          go_wp2_with fail
          go_ret
          refine ⟨?_, Below.new _ _⟩
          first | (rw [HV.out]; done) | (rw [HV.out]; rfl)
        · have s4b : decide (s ≤ 4) = false := by simpa using s4
          exfalso; omega
  · have k2b : (k == 2) = false := by simpa using k2
    by_cases k1 : k < 1
    · have k1b : decide (k < 1) = true := by simpa using k1
      by_cases k4 : 4 < k
      · have k4b : decide (4 < k) = true := by simpa using k4
        by_cases h1 : h < 1
        · have h1b : decide (h < 1) = true := by simpa using h1
          by_cases s0 : s = 0
          · have s0b : (s == 0) = true := by simpa using s0
            exfalso; omega
          · have s0b : (s == 0) = false := by simpa using s0
            exfalso; omega
        · have h1b : decide (h < 1) = false := by simpa using h1
          by_cases s0 : s = 0
          · have s0b : (s == 0) = true := by simpa using s0
            exfalso; omega
          · have s0b : (s == 0) = false := by simpa using s0
            exfalso; omega
      · have k4b : decide (4 < k) = false := by simpa using k4
        by_cases h1 : h < 1
        · have h1b : decide (h < 1) = true := by simpa using h1
          by_cases s0 : s = 0
          · have s0b : (s == 0) = true := by simpa using s0
            have HV : Hid (rightP (k, h, s) = false) := hid (by simp [rightP, k2]; omega)
            clear k1
            clear k4
            clear h1
            clear s0
            clear k2
            go_enter Tryd.func9, Tryd.ntmps9
            go_wp2_with fail
            go_ret
            refine ⟨?_, Below.new _ _⟩
            first | (rw [HV.out]; done) | (rw [HV.out]; rfl)
          · have s0b : (s == 0) = false := by simpa using s0
            have HV : Hid (rightP (k, h, s) = false) := hid (by simp [rightP, k2]; omega)
            clear k1
            clear k4
            clear h1
            clear s0
            clear k2
            go_enter Tryd.func9, Tryd.ntmps9
            go_wp2_with fail
            go_ret
            refine ⟨?_, Below.new _ _⟩
            first | (rw [HV.out]; done) | (rw [HV.out]; rfl)
        · have h1b : decide (h < 1) = false := by simpa using h1
          by_cases s0 : s = 0
          · have s0b : (s == 0) = true := by simpa using s0
            have HV : Hid (rightP (k, h, s) = false) := hid (by simp [rightP, k2]; omega)
            clear k1
            clear k4
            clear h1
            clear s0
            clear k2
            go_enter Tryd.func9, Tryd.ntmps9
            go_wp2_with fail
            go_ret
            refine ⟨?_, Below.new _ _⟩
            first | (rw [HV.out]; done) | (rw [HV.out]; rfl)
          · have s0b : (s == 0) = false := by simpa using s0
            have HV : Hid (rightP (k, h, s) = false) := hid (by simp [rightP, k2]; omega)
            clear k1
            clear k4
            clear h1
            clear s0
            clear k2
            go_enter Tryd.func9, Tryd.ntmps9
            go_wp2_with fail
            go_ret
            refine ⟨?_, Below.new _ _⟩
            first | (rw [HV.out]; done) | (rw [HV.out]; rfl)
    · have k1b : decide (k < 1) = false := by simpa using k1
      by_cases k4 : 4 < k
      · have k4b : decide (4 < k) = true := by simpa using k4
        by_cases h1 : h < 1
        · have h1b : decide (h < 1) = true := by simpa using h1
          by_cases s0 : s = 0
          · have s0b : (s == 0) = true := by simpa using s0
            have HV : Hid (rightP (k, h, s) = false) := hid (by simp [rightP, k2]; omega)
            clear k1
            clear k4
            clear h1
            clear s0
            clear k2
            go_enter Tryd.func9, Tryd.ntmps9
            go_wp2_with fail
            go_ret
            refine ⟨?_, Below.new _ _⟩
            first | (rw [HV.out]; done) | (rw [HV.out]; rfl)
          · have s0b : (s == 0) = false := by simpa using s0
            have HV : Hid (rightP (k, h, s) = false) := hid (by simp [rightP, k2]; omega)
            clear k1
            clear k4
            clear h1
            clear s0
            clear k2
            go_enter Tryd.func9, Tryd.ntmps9
            go_wp2_with fail
            go_ret
            refine ⟨?_, Below.new _ _⟩
            first | (rw [HV.out]; done) | (rw [HV.out]; rfl)
        · have h1b : decide (h < 1) = false := by simpa using h1
          by_cases s0 : s = 0
          · have s0b : (s == 0) = true := by simpa using s0
            have HV : Hid (rightP (k, h, s) = false) := hid (by simp [rightP, k2]; omega)
            clear k1
            clear k4
            clear h1
            clear s0
            clear k2
            go_enter Tryd.func9, Tryd.ntmps9
            go_wp2_with fail
            go_ret
            refine ⟨?_, Below.new _ _⟩
            first | (rw [HV.out]; done) | (rw [HV.out]; rfl)
          · have s0b : (s == 0) = false := by simpa using s0
            have HV : Hid (rightP (k, h, s) = false) := hid (by simp [rightP, k2]; omega)
            clear k1
            clear k4
            clear h1
            clear s0
            clear k2
            go_enter Tryd.func9, Tryd.ntmps9
            go_wp2_with fail
            go_ret
            refine ⟨?_, Below.new _ _⟩
            first | (rw [HV.out]; done) | (rw [HV.out]; rfl)
      · have k4b : decide (4 < k) = false := by simpa using k4
        by_cases h1 : h < 1
        · have h1b : decide (h < 1) = true := by simpa using h1
          by_cases s0 : s = 0
          · have s0b : (s == 0) = true := by simpa using s0
            have HV : Hid (rightP (k, h, s) = false) := hid (by simp [rightP, k2]; omega)
            clear k1
            clear k4
            clear h1
            clear s0
            clear k2
            go_enter Tryd.func9, Tryd.ntmps9
            go_wp2_with fail
            go_ret
            refine ⟨?_, Below.new _ _⟩
            first | (rw [HV.out]; done) | (rw [HV.out]; rfl)
          · have s0b : (s == 0) = false := by simpa using s0
            have HV : Hid (rightP (k, h, s) = false) := hid (by simp [rightP, k2]; omega)
            clear k1
            clear k4
            clear h1
            clear s0
            clear k2
            go_enter Tryd.func9, Tryd.ntmps9
            go_wp2_with fail
            go_ret
            refine ⟨?_, Below.new _ _⟩
            first | (rw [HV.out]; done) | (rw [HV.out]; rfl)
        · have h1b : decide (h < 1) = false := by simpa using h1
          by_cases s0 : s = 0
          · have s0b : (s == 0) = true := by simpa using s0
            have HV : Hid (rightP (k, h, s) = true) := hid (by simp [rightP, k2]; omega)
            clear k1
            clear k4
            clear h1
            clear s0
            clear k2
            go_enter Tryd.func9, Tryd.ntmps9
            go_wp2_with fail
            go_ret
            refine ⟨?_, Below.new _ _⟩
            first | (rw [HV.out]; done) | (rw [HV.out]; rfl)
          · have s0b : (s == 0) = false := by simpa using s0
            have HV : Hid (rightP (k, h, s) = false) := hid (by simp [rightP, k2]; omega)
            clear k1
            clear k4
            clear h1
            clear s0
            clear k2
            go_enter Tryd.func9, Tryd.ntmps9
            go_wp2_with fail
            go_ret
            refine ⟨?_, Below.new _ _⟩
            first | (rw [HV.out]; done) | (rw [HV.out]; rfl)
end Go.Proofs.YtdoflhiogoefjaaDoor
end
