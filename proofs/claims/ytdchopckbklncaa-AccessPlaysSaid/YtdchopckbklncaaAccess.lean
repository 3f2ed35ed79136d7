/- Contracts: access: Level, Needs, May; the document's answers; small. -/
import Derived.Test.YtdchopckbklncaaIntsOps
namespace Go.Proofs.Ytdchopckbklncaa
open Go.RowKit
open Go.Lib (hid)
set_option linter.unusedVariables false

def lvlF (o : Int) (lc lf lb : List Int) (p : Int) : Int := if p < 1 then 0 else if p = o then 4 else if p ∈ lb then 0 else if p ∈ lc then 3 else if p ∈ lf then 2 else 1
def needF (what : Int) : Int := if what = 1 then 1 else if what = 2 then 2 else if 3 ≤ what ∧ what ≤ 5 then 3 else if 6 ≤ what ∧ what ≤ 11 then 4 else 5
theorem ref18_On (l : List Int) (v : Value) (p : Int) (w : World) (hs : SlI w v l) (b : Bool) (hb : Hid (decide (p ∈ l) = b)) :
    Calls Try.prog 91 #[v, .int .i64 p] w fun e w' => e = .returned (.bool b) ∧ w = w' := by
  obtain ⟨a, c, rfl, hrd, h3, h4, h5⟩ := hs
  have h64 : l.length ≤ 9223372036854775807 := by omega
  clear h3 h4 h5
  go_enter Try.func91, Try.ntmps91
  go_wp2
  go_loop [5] (fun v5 => ∃ (k : Nat), v5 = .int .i64 k ∧ k ≤ l.length ∧ Hid (decide (p ∈ l.drop k) = b)) (fun v5 => l.length - (intOf v5).toNat)
  case atStart => exact ⟨0, rfl, by omega, hb⟩
  case round =>
    obtain ⟨k, rfl, hk, hsum⟩ := hrel
    by_cases hlt : k < l.length
    · obtain ⟨bb, off, y, rfl, hc, -, hd, -, -⟩ := hrd.int k hlt
      have h1 := hsum.out
      rw [hd] at h1
      by_cases hx : y = p
      · subst hx
        simp only [List.mem_cons, true_or, decide_true] at h1
        subst h1
        clear hd
        go_wp2
        go_ret
        exact ⟨rfl, rfl⟩
      · have h2 : decide (p ∈ l.drop (k + 1)) = b := by
          rw [← h1]
          simp [List.mem_cons, Ne.symm hx, show ¬ p = y from fun q => hx q.symm]
        have H1 := hid h2
        have hxb : (y == p) = false := by simpa using hx
        clear hd h1 h2
        go_wp2
        go_round
        case rel => exact ⟨k + 1, by go_num, by omega, H1⟩
        case measure => simp [intOf]; omega
    · have h1 := hsum.out
      rw [List.drop_of_length_le (by omega)] at h1
      simp only [List.not_mem_nil, decide_false] at h1
      subst h1
      go_wp2
      go_ret
      exact ⟨rfl, rfl⟩
set_option maxRecDepth 100000 in
set_option maxHeartbeats 4000000 in
theorem ref18_Needs (what : Int) (w : World) : Calls Try.prog 53 #[.int .i64 what] w fun e w' => e = .returned (.int .i64 (needF what)) ∧ w = w' := by
  obtain ⟨r, hr⟩ : ∃ r, needF what = r := ⟨_, rfl⟩
  rw [hr]
  unfold needF at hr
  by_cases h1 : what = 1
  · rw [if_pos h1] at hr; subst hr; subst h1
    go_enter Try.func53, Try.ntmps53
    go_wp2
    go_ret
    exact ⟨rfl, rfl⟩
  rw [if_neg h1] at hr
  have b1 : (what == 1) = false := by simpa using h1
  by_cases h2 : what = 2
  · rw [if_pos h2] at hr; subst hr; subst h2
    go_enter Try.func53, Try.ntmps53
    go_wp2
    go_ret
    exact ⟨rfl, rfl⟩
  rw [if_neg h2] at hr
  have b2 : (what == 2) = false := by simpa using h2
  by_cases h3 : 3 ≤ what ∧ what ≤ 5
  · rw [if_pos h3] at hr; subst hr
    obtain ⟨h3, h4⟩ := h3
    clear h1 h2
    go_enter Try.func53, Try.ntmps53
    go_wp2
    go_ret
    exact ⟨rfl, rfl⟩
  rw [if_neg h3] at hr
  by_cases h4 : 6 ≤ what ∧ what ≤ 11
  · rw [if_pos h4] at hr; subst hr
    obtain ⟨h5, h6⟩ := h4
    have h7 : 3 ≤ what := by omega
    have h8 : ¬ what ≤ 5 := by omega
    clear h1 h2 h3
    go_enter Try.func53, Try.ntmps53
    go_wp2
    go_ret
    exact ⟨rfl, rfl⟩
  rw [if_neg h4] at hr
  subst hr
  by_cases h5 : what < 3
  · have h6 : ¬ 3 ≤ what := by omega
    have h7 : ¬ 6 ≤ what := by omega
    clear h1 h2 h3 h4
    go_enter Try.func53, Try.ntmps53
    go_wp2
    go_ret
    exact ⟨rfl, rfl⟩
  · have h6 : 3 ≤ what := by omega
    have h7 : ¬ what ≤ 5 := by omega
    have h8 : 6 ≤ what := by omega
    have h9 : ¬ what ≤ 11 := by omega
    clear h1 h2 h3 h4 h5
    go_enter Try.func53, Try.ntmps53
    go_wp2
    go_ret
    exact ⟨rfl, rfl⟩
set_option maxRecDepth 100000 in
set_option maxHeartbeats 4000000 in
theorem ref18_Level (o : Int) (lc lf lb : List Int) (vc vf vb : Value) (p : Int) (w : World) (hc : SlI w vc lc) (hf : SlI w vf lf) (hb : SlI w vb lb) :
    Calls Try.prog 52 #[.int .i64 o, vc, vf, vb, .int .i64 p] w fun e w' => e = .returned (.int .i64 (lvlF o lc lf lb p)) ∧ w = w' := by
  obtain ⟨r, hr⟩ : ∃ r, lvlF o lc lf lb p = r := ⟨_, rfl⟩
  rw [hr]
  unfold lvlF at hr
  have HC := hid hc
  have HF := hid hf
  have HB := hid hb
  clear hc hf hb
  by_cases h1 : p < 1
  · rw [if_pos h1] at hr; subst hr
    go_enter Try.func52, Try.ntmps52
    go_wp2
    go_ret
    exact ⟨rfl, rfl⟩
  rw [if_neg h1] at hr
  by_cases h2 : p = o
  · rw [if_pos h2] at hr; subst hr; subst h2
    go_enter Try.func52, Try.ntmps52
    go_wp2
    go_ret
    exact ⟨rfl, rfl⟩
  rw [if_neg h2] at hr
  have b2 : (p == o) = false := by simpa using h2
  by_cases h3 : p ∈ lb
  · rw [if_pos h3] at hr; subst hr
    have H3 : Hid (decide (p ∈ lb) = true) := hid (by simpa using h3)
    clear h3 h2
    go_enter Try.func52, Try.ntmps52
    go_wp2_with fail
    refine (ref18_On lb vb p _ HB.out true H3).mono ?_
    rintro e w' ⟨rfl, rfl⟩
    go_wp2_with fail
    go_ret
    exact ⟨rfl, rfl⟩
  rw [if_neg h3] at hr
  have H3 : Hid (decide (p ∈ lb) = false) := hid (by simpa using h3)
  by_cases h4 : p ∈ lc
  · rw [if_pos h4] at hr; subst hr
    have H4 : Hid (decide (p ∈ lc) = true) := hid (by simpa using h4)
    clear h4 h3 h2
    go_enter Try.func52, Try.ntmps52
    go_wp2_with fail
    refine (ref18_On lb vb p _ HB.out false H3).mono ?_
    rintro e w' ⟨rfl, rfl⟩
    go_wp2_with fail
    refine (ref18_On lc vc p _ HC.out true H4).mono ?_
    rintro e w' ⟨rfl, rfl⟩
    go_wp2_with fail
    go_ret
    exact ⟨rfl, rfl⟩
  rw [if_neg h4] at hr
  have H4 : Hid (decide (p ∈ lc) = false) := hid (by simpa using h4)
  obtain ⟨b5, h5⟩ : ∃ b5, decide (p ∈ lf) = b5 := ⟨_, rfl⟩
  have H5 := hid h5
  have hr2 : (if b5 = true then (2 : Int) else 1) = r := by rw [← hr, ← h5]; simp
  clear hr h5 h4 h3 h2
  cases b5
  all_goals
    simp only [if_true, Bool.false_eq_true, if_false] at hr2
    subst hr2
    go_enter Try.func52, Try.ntmps52
    go_wp2_with fail
    refine (ref18_On lb vb p _ HB.out false H3).mono ?_
    rintro e w' ⟨rfl, rfl⟩
    go_wp2_with fail
    refine (ref18_On lc vc p _ HC.out false H4).mono ?_
    rintro e w' ⟨rfl, rfl⟩
    go_wp2_with fail
    refine (ref18_On lf vf p _ HF.out _ H5).mono ?_
    rintro e w' ⟨rfl, rfl⟩
    go_wp2_with fail
    go_ret
    exact ⟨rfl, rfl⟩
set_option maxRecDepth 100000 in
set_option maxHeartbeats 4000000 in
theorem acc_Needs (what : Int) (w : World) : Calls Try.prog 55 #[.int .i64 what] w fun e w' => e = .returned (.int .i64 (needF what)) ∧ Below w.heap.size w w' := by
  have HB : Hid (∀ o, Below w.heap.size w (w.alloc o)) := hid fun o => Below.new w o
  by_cases h0 : what < 0
  · rw [show needF what = 5 by unfold needF; rw [if_neg (by omega), if_neg (by omega), if_neg (by omega), if_neg (by omega)]]
    go_enter Try.func55, Try.ntmps55
    go_wp2
    go_ret
    exact ⟨rfl, HB.out _⟩
  by_cases h1 : 12 ≤ what
  · rw [show needF what = 5 by unfold needF; rw [if_neg (by omega), if_neg (by omega), if_neg (by omega), if_neg (by omega)]]
    go_enter Try.func55, Try.ntmps55
    go_wp2
    go_ret
    exact ⟨rfl, HB.out _⟩
  obtain h | h | h | h | h | h | h | h | h | h | h | h : what = 0 ∨ what = 1 ∨ what = 2 ∨ what = 3 ∨ what = 4 ∨ what = 5 ∨ what = 6 ∨ what = 7 ∨ what = 8 ∨ what = 9 ∨ what = 10 ∨ what = 11 := by omega
  all_goals
    subst h
    simp only [needF]
    clear h0 h1
    go_enter Try.func55, Try.ntmps55
    go_wp2
    go_ret
    exact ⟨rfl, HB.out _⟩
end Go.Proofs.Ytdchopckbklncaa
