/- The law AccessLevels, walked. -/
import Derived.Test.YtdchopckbklncaaAccAwake
import Derived.Deep.Slices
import Derived.Deep.Fields
import Derived.ChangeSame
import Derived.OpenShut
import Derived.ChangeSlices
import Derived.Lib.SmallJoins
namespace Go.Proofs.Ytdchopckbklncaa
open Go.RowKit Go.ChangeShapes Go.WideShapes Go.Deep Go.Joins
open Go.Lib (hid)
set_option linter.unusedVariables false

theorem open_sli {H : Type} {enc : TypeId × Value → H} {w : World} {n : Nat} {v : Value} {y : DataW H × List MemPlace} (t4 : DataW.trod enc Try.prog w 0 (fun _ => true) true n 39 [v] = some y) : ∃ l : List Int, SlI w v l := by
  have hrow : ∃ (a : Option Addr) (len cap : Nat) (zs : List Int), v = .slice a len cap ∧ ((a = none ∧ len = 0 ∧ cap = 0 ∧ zs = []) ∨
      ∃ x, a = some x ∧ len ≤ cap ∧ cap ≤ maxLen ∧ zs.length = cap ∧ (∀ i, i < zs.length → w.cell? (x.add i) = some (.int .i64 (zs.getD i 0))) ∧ ∀ n ∈ zs, (Lit.int .i64 n).wf = true) := by
    rcases open_ints Try.underlying39 Try.underlying3 (by kernel_rfl) t4 with ⟨hcs, _⟩ | ⟨x, l, c, zs, hcs, _, hl, hm, hz, _, hcell, hwz⟩
    · simp at hcs
      exact ⟨none, 0, 0, [], hcs, .inl ⟨rfl, rfl, rfl, rfl⟩⟩
    · simp at hcs
      exact ⟨some x, l, c, zs, hcs, .inr ⟨_, rfl, hl, hm, by simpa using hz, hcell, hwz⟩⟩
  obtain ⟨la, len, lc, zs, rfl, hr⟩ := hrow
  obtain ⟨l, -, h, -⟩ := sli_of_row hr
  exact ⟨l, h⟩
theorem u64_18 : Try.prog.underlying 3 = some (.int .i64) := Try.underlying3
set_option maxRecDepth 100000 in
set_option maxHeartbeats 4000000 in
theorem AccessLevels_walk {H : Type} {enc : TypeId × Value → H} {b0 : Nat} {d0 : DataW H} {p0 : List MemPlace} (v0 : Value) (p what : Int) (w : World) (ok0 : Value.okWide Try.prog w .any b0 69 v0) (k0 : DataW.Trod enc Try.prog w 0 (fun _ => true) true 69 v0 d0 p0)
    (wp : (Lit.int .i64 p).wf = true) (ww : (Lit.int .i64 what).wf = true) :
    Calls Try.prog 10 #[v0, .int .i64 p, .int .i64 what] w fun e w' => e = .returned (.bool true) ∧ Below w.heap.size w w' := by
  obtain ⟨x0, vc, vf, vb, y0, y1, y2, y3, n, rfl, -, -, t0, t1, t2, t3⟩ := open_agg4 Try.underlying69 (by kernel_rfl) (by kernel_rfl) ok0 k0
  obtain ⟨o, e0, -, -⟩ := DataW.trod_int u64_18 t0
  simp only [List.cons.injEq, and_true] at e0
  subst e0
  obtain ⟨lc, hc⟩ := open_sli t1
  obtain ⟨lf, hf⟩ := open_sli t2
  obtain ⟨lb, hb⟩ := open_sli t3
  clear ok0 k0 t0 t1 t2 t3 wp ww
  have HB : Hid (∀ x, Below w.heap.size w (w.alloc x)) := hid fun x => Below.new w x
  have HC : Hid (SlI w vc lc) := hid hc
  have HF : Hid (SlI w vf lf) := hid hf
  have HBB : Hid (SlI w vb lb) := hid hb
  obtain ⟨ac, cc, rfl, -⟩ := hc
  obtain ⟨af, cf, rfl, -⟩ := hf
  obtain ⟨ab, cb, rfl, -⟩ := hb
  obtain ⟨b, hbb⟩ : ∃ b, (decide (lc.length ≤ 40) && decide (lf.length ≤ 40) && decide (lb.length ≤ 40)) = b := ⟨_, rfl⟩
  have HBL := hid hbb
  obtain ⟨lv, hlv⟩ : ∃ lv, lv = lvlF o lc lf lb p := ⟨_, rfl⟩
  obtain ⟨nd, hnd⟩ : ∃ nd, nd = needF what := ⟨_, rfl⟩
  have HLV := hid hlv
  have HND := hid hnd
  obtain ⟨w0, hw0⟩ : ∃ w0, w0 = w.alloc (.cells #[.int .i64 o, .slice ac lc.length cc, .slice af lf.length cf, .slice ab lb.length cb] 69) := ⟨_, rfl⟩
  have HW0 := hid hw0
  have hk0 : Below w.heap.size w w0 := by rw [hw0]; exact Below.new _ _
  have HBX : Hid (Blk w0 w.heap.size #[.int .i64 o, .slice ac lc.length cc, .slice af lf.length cf, .slice ab lb.length cb]) := hid (by rw [hw0]; exact Blk.new _ _ _)
  have HK0 := hid hk0
  clear hbb hlv hnd hw0 hk0
  cases b
  · go_enter Try.func10, Try.ntmps10
    go_wp2_with fail
    rw [← HW0.out]
    refine (law18_small o lc lf lb _ _ _ _ (HC.out.below HK0.out) (HF.out.below HK0.out) (HBB.out.below HK0.out) false HBL).mono ?_
    rintro e w1 ⟨rfl, hb1⟩
    have HK1 := hid (Below.next HK0.out hb1)
    clear hb1
    go_wp2_with fail
    refine (law18_awake _).mono ?_
    rintro e w2 ⟨rfl, hb2⟩
    have HK2 := hid (Below.next HK1.out hb2)
    clear hb2
    go_wp2_with fail
    go_ret
    exact ⟨rfl, HK2.out⟩
  · go_enter Try.func10, Try.ntmps10
    go_wp2_with fail
    rw [← HW0.out]
    refine (law18_small o lc lf lb _ _ _ _ (HC.out.below HK0.out) (HF.out.below HK0.out) (HBB.out.below HK0.out) true HBL).mono ?_
    rintro e w1 ⟨rfl, hb1⟩
    have HK1 := hid (Below.next HK0.out hb1)
    have hblk1 := HBX.out.below hb1
    have hc0 : w1.cell? ⟨w.heap.size, 0, none⟩ = some (.int .i64 o) := by rw [hblk1.cell]; rfl
    have hc1 : w1.cell? ⟨w.heap.size, 1, none⟩ = some (.slice ac lc.length cc) := by rw [hblk1.cell]; rfl
    have hc2 : w1.cell? ⟨w.heap.size, 2, none⟩ = some (.slice af lf.length cf) := by rw [hblk1.cell]; rfl
    have hc3 : w1.cell? ⟨w.heap.size, 3, none⟩ = some (.slice ab lb.length cb) := by rw [hblk1.cell]; rfl
    have HBLK1 := hid hblk1
    clear hb1 hblk1
    go_wp2_with fail
    refine (ref18_Level o lc lf lb _ _ _ p w1 (HC.out.below HK1.out) (HF.out.below HK1.out) (HBB.out.below HK1.out)).mono ?_
    rintro e w' ⟨rfl, rfl⟩
    rw [← HLV.out]
    go_wp2_with fail
    refine (ref18_Needs what w1).mono ?_
    rintro e w' ⟨rfl, rfl⟩
    rw [← HND.out]
    by_cases hlt : lv < nd
    · have hmy : mayF lv nd = 31 := if_pos hlt
      have HMY := hid hmy
      clear hmy
      go_wp2_with fail
      refine (acc_Level o lc lf lb _ _ _ p w1 (HC.out.below HK1.out) (HF.out.below HK1.out) (HBB.out.below HK1.out)).mono ?_
      rintro e w2 ⟨rfl, hb2⟩
      rw [← HLV.out]
      have HK2 := hid (Below.next HK1.out hb2)
      have HBLK2 := hid (HBLK1.out.below hb2)
      clear hb2 hc0 hc1 hc2 hc3
      go_wp2_with fail
      refine (acc_Needs what w2).mono ?_
      rintro e w3 ⟨rfl, hb3⟩
      rw [← HND.out]
      have HK3 := hid (Below.next HK2.out hb3)
      have hblk3 := HBLK2.out.below hb3
      have hc0 : w3.cell? ⟨w.heap.size, 0, none⟩ = some (.int .i64 o) := by rw [hblk3.cell]; rfl
      have hc1 : w3.cell? ⟨w.heap.size, 1, none⟩ = some (.slice ac lc.length cc) := by rw [hblk3.cell]; rfl
      have hc2 : w3.cell? ⟨w.heap.size, 2, none⟩ = some (.slice af lf.length cf) := by rw [hblk3.cell]; rfl
      have hc3 : w3.cell? ⟨w.heap.size, 3, none⟩ = some (.slice ab lb.length cb) := by rw [hblk3.cell]; rfl
      clear hb3 hblk3
      go_wp2_with fail
      refine (acc_May o lc lf lb _ _ _ p what w3 (HC.out.below HK3.out) (HF.out.below HK3.out) (HBB.out.below HK3.out)).mono ?_
      rintro e w4 ⟨rfl, hb4⟩
      rw [← HLV.out, ← HND.out, HMY.out]
      have HK4 := hid (Below.next HK3.out hb4)
      clear hb4 hc0 hc1 hc2 hc3
      go_wp2_with fail
      refine (law18_awake _).mono ?_
      rintro e w5 ⟨rfl, hb5⟩
      have HK5 := hid (Below.next HK4.out hb5)
      clear hb5
      go_wp2_with fail
      go_ret
      exact ⟨rfl, HK5.out⟩
    · have hmy : mayF lv nd = 0 := if_neg hlt
      have HMY := hid hmy
      clear hmy
      go_wp2_with fail
      refine (acc_Level o lc lf lb _ _ _ p w1 (HC.out.below HK1.out) (HF.out.below HK1.out) (HBB.out.below HK1.out)).mono ?_
      rintro e w2 ⟨rfl, hb2⟩
      rw [← HLV.out]
      have HK2 := hid (Below.next HK1.out hb2)
      have HBLK2 := hid (HBLK1.out.below hb2)
      clear hb2 hc0 hc1 hc2 hc3
      go_wp2_with fail
      refine (acc_Needs what w2).mono ?_
      rintro e w3 ⟨rfl, hb3⟩
      rw [← HND.out]
      have HK3 := hid (Below.next HK2.out hb3)
      have hblk3 := HBLK2.out.below hb3
      have hc0 : w3.cell? ⟨w.heap.size, 0, none⟩ = some (.int .i64 o) := by rw [hblk3.cell]; rfl
      have hc1 : w3.cell? ⟨w.heap.size, 1, none⟩ = some (.slice ac lc.length cc) := by rw [hblk3.cell]; rfl
      have hc2 : w3.cell? ⟨w.heap.size, 2, none⟩ = some (.slice af lf.length cf) := by rw [hblk3.cell]; rfl
      have hc3 : w3.cell? ⟨w.heap.size, 3, none⟩ = some (.slice ab lb.length cb) := by rw [hblk3.cell]; rfl
      clear hb3 hblk3
      go_wp2_with fail
      refine (acc_May o lc lf lb _ _ _ p what w3 (HC.out.below HK3.out) (HF.out.below HK3.out) (HBB.out.below HK3.out)).mono ?_
      rintro e w4 ⟨rfl, hb4⟩
      rw [← HLV.out, ← HND.out, HMY.out]
      have HK4 := hid (Below.next HK3.out hb4)
      clear hb4 hc0 hc1 hc2 hc3
      go_wp2_with fail
      refine (law18_awake _).mono ?_
      rintro e w5 ⟨rfl, hb5⟩
      have HK5 := hid (Below.next HK4.out hb5)
      clear hb5
      go_wp2_with fail
      go_ret
      exact ⟨rfl, HK5.out⟩
end Go.Proofs.Ytdchopckbklncaa
