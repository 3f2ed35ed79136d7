/- access.Level and May; deedholdlaw18: small, awake. -/
import Derived.Test.YtdchopckbklncaaAccess
import Derived.Test.YtdchopckbklncaaAccSet
namespace Go.Proofs.Ytdchopckbklncaa
open Go.RowKit
open Go.Lib (hid)
set_option linter.unusedVariables false

set_option maxRecDepth 100000 in
set_option maxHeartbeats 1000000 in
theorem acc_Level (o : Int) (lc lf lb : List Int) (vc vf vb : Value) (p : Int) (w : World) (hc : SlI w vc lc) (hf : SlI w vf lf) (hb : SlI w vb lb) :
    Calls Try.prog 54 #[.agg #[.int .i64 o, vc, vf, vb], .int .i64 p] w fun e w' => e = .returned (.int .i64 (lvlF o lc lf lb p)) ∧ Below w.heap.size w w' := by
  obtain ⟨r, hr⟩ : ∃ r, lvlF o lc lf lb p = r := ⟨_, rfl⟩
  rw [hr]
  unfold lvlF at hr
  have HB : Hid (∀ x, Below w.heap.size w (w.alloc x)) := hid fun x => Below.new w x
  have HC' : Hid (∀ x, SlI (w.alloc x) vc lc) := hid fun x => hc.below (Below.new w x)
  have HF' : Hid (∀ x, SlI (w.alloc x) vf lf) := hid fun x => hf.below (Below.new w x)
  have HB' : Hid (∀ x, SlI (w.alloc x) vb lb) := hid fun x => hb.below (Below.new w x)
  obtain ⟨ac, cc, rfl, -⟩ := hc
  obtain ⟨af, cf, rfl, -⟩ := hf
  obtain ⟨ab, cb, rfl, -⟩ := hb
  by_cases h1 : p < 1
  · rw [if_pos h1] at hr; subst hr
    go_enter Try.func54, Try.ntmps54
    go_wp2
    go_ret
    exact ⟨rfl, HB.out _⟩
  rw [if_neg h1] at hr
  by_cases h2 : p = o
  · rw [if_pos h2] at hr; subst hr; subst h2
    go_enter Try.func54, Try.ntmps54
    go_wp2
    go_ret
    exact ⟨rfl, HB.out _⟩
  rw [if_neg h2] at hr
  have b2 : (p == o) = false := by simpa using h2
  by_cases h3 : p ∈ lb
  · rw [if_pos h3] at hr; subst hr
    have H3 : Hid (decide (p ∈ lb) = true) := hid (by simpa using h3)
    clear h3 h2
    go_enter Try.func54, Try.ntmps54
    go_wp2_with fail
    refine (sl_Contains lb _ p _ (HB'.out _) true H3).mono ?_
    rintro e w' ⟨rfl, rfl⟩
    go_wp2_with fail
    go_ret
    exact ⟨rfl, HB.out _⟩
  rw [if_neg h3] at hr
  have H3 : Hid (decide (p ∈ lb) = false) := hid (by simpa using h3)
  by_cases h4 : p ∈ lc
  · rw [if_pos h4] at hr; subst hr
    have H4 : Hid (decide (p ∈ lc) = true) := hid (by simpa using h4)
    clear h4 h3 h2
    go_enter Try.func54, Try.ntmps54
    go_wp2_with fail
    refine (sl_Contains lb _ p _ (HB'.out _) false H3).mono ?_
    rintro e w' ⟨rfl, rfl⟩
    go_wp2_with fail
    refine (sl_Contains lc _ p _ (HC'.out _) true H4).mono ?_
    rintro e w' ⟨rfl, rfl⟩
    go_wp2_with fail
    go_ret
    exact ⟨rfl, HB.out _⟩
  rw [if_neg h4] at hr
  have H4 : Hid (decide (p ∈ lc) = false) := hid (by simpa using h4)
  obtain ⟨b5, h5⟩ : ∃ b5, decide (p ∈ lf) = b5 := ⟨_, rfl⟩
  have H5 := hid h5
  have hr2 : (if b5 = true then (2 : Int) else 1) = r := by rw [← hr, ← h5]; simp
  clear hr h5 h4 h3 h2
  cases b5
  all_goals
    simp only [if_true, Bool.false_eq_true, if_false] at hr2
    subst hr2
    go_enter Try.func54, Try.ntmps54
    go_wp2_with fail
    refine (sl_Contains lb _ p _ (HB'.out _) false H3).mono ?_
    rintro e w' ⟨rfl, rfl⟩
    go_wp2_with fail
    refine (sl_Contains lc _ p _ (HC'.out _) false H4).mono ?_
    rintro e w' ⟨rfl, rfl⟩
    go_wp2_with fail
    refine (sl_Contains lf _ p _ (HF'.out _) _ H5).mono ?_
    rintro e w' ⟨rfl, rfl⟩
    go_wp2_with fail
    go_ret
    exact ⟨rfl, HB.out _⟩
def mayF (lvl need : Int) : Int := if lvl < need then 31 else 0
theorem acc_May (o : Int) (lc lf lb : List Int) (vc vf vb : Value) (p what : Int) (w : World) (hc : SlI w vc lc) (hf : SlI w vf lf) (hb : SlI w vb lb) :
    Calls Try.prog 56 #[.agg #[.int .i64 o, vc, vf, vb], .int .i64 p, .int .i64 what] w fun e w' => e = .returned (.int .i64 (mayF (lvlF o lc lf lb p) (needF what))) ∧ Below w.heap.size w w' := by
  have HB : Hid (∀ x, Below w.heap.size w (w.alloc x)) := hid fun x => Below.new w x
  have HC : Hid (∀ x, SlI (w.alloc x) vc lc) := hid fun x => hc.below (Below.new w x)
  have HF : Hid (∀ x, SlI (w.alloc x) vf lf) := hid fun x => hf.below (Below.new w x)
  have HBB : Hid (∀ x, SlI (w.alloc x) vb lb) := hid fun x => hb.below (Below.new w x)
  obtain ⟨lv, hlv⟩ : ∃ lv, lv = lvlF o lc lf lb p := ⟨_, rfl⟩
  obtain ⟨nd, hnd⟩ : ∃ nd, nd = needF what := ⟨_, rfl⟩
  have HLV := hid hlv
  have HND := hid hnd
  rw [← hlv, ← hnd]
  obtain ⟨ac, cc, rfl, -⟩ := hc
  obtain ⟨af, cf, rfl, -⟩ := hf
  obtain ⟨ab, cb, rfl, -⟩ := hb
  unfold mayF
  clear hlv hnd
  by_cases h : lv < nd
  · rw [if_pos h]
    go_enter Try.func56, Try.ntmps56
    go_wp2_with fail
    refine (acc_Level o lc lf lb _ _ _ p _ (HC.out _) (HF.out _) (HBB.out _)).mono ?_
    rintro e w1 ⟨rfl, hb1⟩
    have HB1 := hid (Below.next (HB.out _) hb1)
    clear hb1
    rw [← HLV.out]
    go_wp2_with fail
    refine (acc_Needs what _).mono ?_
    rintro e w2 ⟨rfl, hb2⟩
    have HB2 := hid (Below.next HB1.out hb2)
    clear hb2
    rw [← HND.out]
    go_wp2_with fail
    go_ret
    exact ⟨rfl, HB2.out⟩
  · rw [if_neg h]
    go_enter Try.func56, Try.ntmps56
    go_wp2_with fail
    refine (acc_Level o lc lf lb _ _ _ p _ (HC.out _) (HF.out _) (HBB.out _)).mono ?_
    rintro e w1 ⟨rfl, hb1⟩
    have HB1 := hid (Below.next (HB.out _) hb1)
    clear hb1
    rw [← HLV.out]
    go_wp2_with fail
    refine (acc_Needs what _).mono ?_
    rintro e w2 ⟨rfl, hb2⟩
    have HB2 := hid (Below.next HB1.out hb2)
    clear hb2
    rw [← HND.out]
    go_wp2_with fail
    go_ret
    exact ⟨rfl, HB2.out⟩
theorem law18_small (o : Int) (lc lf lb : List Int) (vc vf vb : Value) (w : World) (hc : SlI w vc lc) (hf : SlI w vf lf) (hb : SlI w vb lb) (b : Bool) (hbb : Hid ((decide (lc.length ≤ 40) && decide (lf.length ≤ 40) && decide (lb.length ≤ 40)) = b)) :
    Calls Try.prog 50 #[.agg #[.int .i64 o, vc, vf, vb]] w fun e w' => e = .returned (.bool b) ∧ Below w.heap.size w w' := by
  have HB : Hid (∀ x, Below w.heap.size w (w.alloc x)) := hid fun x => Below.new w x
  obtain ⟨ac, cc, rfl, -⟩ := hc
  obtain ⟨af, cf, rfl, -⟩ := hf
  obtain ⟨ab, cb, rfl, -⟩ := hb
  by_cases h1 : lc.length ≤ 40
  · have h1' : (lc.length : Int) ≤ 40 := by omega
    by_cases h2 : lf.length ≤ 40
    · have h2' : (lf.length : Int) ≤ 40 := by omega
      have hb2 := hbb.out
      simp only [h1, h2, decide_true, Bool.true_and] at hb2
      have HB2 : Hid (decide ((lb.length : Int) ≤ 40) = b) := hid (by rw [← hb2]; simp; omega)
      clear hb2 h1 h2
      go_enter Try.func50, Try.ntmps50
      go_wp2
      go_ret
      exact ⟨by rw [← HB2.out]; rfl, HB.out _⟩
    · have h2' : ¬ (lf.length : Int) ≤ 40 := by omega
      have hb2 := hbb.out
      simp only [h1, h2, decide_true, decide_false, Bool.true_and, Bool.false_and] at hb2
      subst hb2
      clear h1 h2
      go_enter Try.func50, Try.ntmps50
      go_wp2
      go_ret
      exact ⟨rfl, HB.out _⟩
  · have h1' : ¬ (lc.length : Int) ≤ 40 := by omega
    have hb2 := hbb.out
    simp only [h1, decide_false, Bool.false_and] at hb2
    subst hb2
    clear h1
    go_enter Try.func50, Try.ntmps50
    go_wp2
    go_ret
    exact ⟨rfl, HB.out _⟩
end Go.Proofs.Ytdchopckbklncaa
