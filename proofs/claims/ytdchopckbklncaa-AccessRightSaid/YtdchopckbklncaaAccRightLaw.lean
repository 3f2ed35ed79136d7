/- The law AccessRight, walked. -/
import Derived.Test.YtdchopckbklncaaAccLawIn2
import Derived.Test.YtdchopckbklncaaAccLevels
namespace Go.Proofs.Ytdchopckbklncaa
open Go.RowKit Go.ChangeShapes Go.WideShapes Go.Deep Go.Joins
open Go.Lib (hid)
set_option linter.unusedVariables false

set_option maxRecDepth 100000 in
set_option maxHeartbeats 4000000 in
theorem AccessRight_walk {H : Type} {enc : TypeId × Value → H} {b0 : Nat} {d0 : DataW H} {p0 : List MemPlace} (v0 : Value) (list : Int) (w : World) (ok0 : Value.okWide Try.prog w .any b0 69 v0) (k0 : DataW.Trod enc Try.prog w 0 (fun _ => true) true 69 v0 d0 p0)
    (wl : (Lit.int .i64 list).wf = true) :
    Calls Try.prog 13 #[v0, .int .i64 list] w fun e w' => e = .returned (.bool true) ∧ Below w.heap.size w w' := by
  obtain ⟨x0, vc, vf, vb, y0, y1, y2, y3, n, rfl, -, -, t0, t1, t2, t3⟩ := open_agg4 Try.underlying69 (by kernel_rfl) (by kernel_rfl) ok0 k0
  obtain ⟨o, e0, -, -⟩ := DataW.trod_int u64_18 t0
  simp only [List.cons.injEq, and_true] at e0
  subst e0
  obtain ⟨lc, hc⟩ := open_sli t1
  obtain ⟨lf, hf⟩ := open_sli t2
  obtain ⟨lb, hb⟩ := open_sli t3
  clear ok0 k0 t0 t1 t2 t3 wl
  obtain ⟨b, hbb⟩ : ∃ b, (decide (lc.length ≤ 40) && decide (lf.length ≤ 40) && decide (lb.length ≤ 40)) = b := ⟨_, rfl⟩
  have HBL := hid hbb
  clear hbb
  cases b
  · have HC : Hid (SlI w vc lc) := hid hc
    have HF : Hid (SlI w vf lf) := hid hf
    have HBB : Hid (SlI w vb lb) := hid hb
    obtain ⟨ac, cc, rfl, -⟩ := hc
    obtain ⟨af, cf, rfl, -⟩ := hf
    obtain ⟨ab, cb, rfl, -⟩ := hb
    obtain ⟨w0, hw0⟩ : ∃ w0, w0 = w.alloc (.cells #[.int .i64 o, .slice ac lc.length cc, .slice af lf.length cf, .slice ab lb.length cb] 69) := ⟨_, rfl⟩
    have HW0 := hid hw0
    have HK0 : Hid (Below w.heap.size w w0) := hid (by rw [hw0]; exact Below.new _ _)
    clear hw0
    go_enter Try.func13, Try.ntmps13
    go_wp2_with fail
    rw [← HW0.out]
    refine (law18_small o lc lf lb _ _ _ _ (HC.out.below HK0.out) (HF.out.below HK0.out) (HBB.out.below HK0.out) false HBL).mono ?_
    rintro e w1 ⟨rfl, hb1⟩
    have HK1 := hid (Below.next HK0.out hb1)
    clear hb1
    go_wp2_with fail
    refine (law18_awake _).mono ?_
    rintro e w2 ⟨rfl, hb2⟩
    have HK2 := hid (Below.next HK1.out hb2)
    clear hb2
    go_wp2_with fail
    go_ret
    exact ⟨rfl, HK2.out⟩
  · by_cases h : list < 1 ∨ (1 ≤ list ∧ 3 < list)
    · exact law18_Right_no o list lc lf lb vc vf vb w hc hf hb h HBL
    · obtain h | h | h : list = 1 ∨ list = 2 ∨ list = 3 := by omega
      · subst h; exact law18_Right_1 o lc lf lb vc vf vb w hc hf hb HBL
      · subst h; exact law18_Right_2 o lc lf lb vc vf vb w hc hf hb HBL
      · subst h; exact law18_Right_3 o lc lf lb vc vf vb w hc hf hb HBL
end Go.Proofs.Ytdchopckbklncaa
