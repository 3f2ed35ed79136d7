/- Joined texts, in this order: Law14Me, LawRtreeMeets. Each one's first remark says what it proves; no condition beyond those that its theorems name. -/
import Derived.Test.YtjbnfppnmljbmaaJLawRtreeMeets29
import Derived.Test.YtjbnfppnmljbmaaRows
import Derived.WalkKit
import Derived.ProofKit
import Derived.OpenShut
import Derived.ShutString
import Derived.ChangeOld
import Derived.Below
section
/- Law 14: RtreeMeets, RtreeAt. -/
namespace Go.Proofs.Ytjbnfppnmljbmaa
open Go.RowKit
open Go.Lib (hid)
set_option linter.unusedVariables false
attribute [local go_sem] Oper.semAt_some

def OutG (w : World) (n : Nat) (v60 : Value) (wr : World) : Prop := ∃ j : Nat, v60 = .int .i64 (j : Int) ∧ j ≤ n ∧ Hid (Below w.heap.size w wr)
set_option maxRecDepth 100000 in
set_option maxHeartbeats 4000000 in
theorem law14_At (L : List OpG) (a : Option Addr) (c : Nat) (px py : Int) (w : World) (hl : SlE OpGE 7 w (.slice a L.length c) L) (hx : px ≤ 9223372036854775807) (hy : py ≤ 9223372036854775807) :
    Calls Try.prog 8 #[.slice a L.length c, .int .i64 px, .int .i64 py] w fun e w' => e = .returned (.bool true) ∧ Below w.heap.size w w' := by
  have HL := hid hl
  have HXY := hid (And.intro hx hy)
  clear hl hx hy
  go_enter Try.func8, Try.ntmps8
  by_cases h120 : L.length ≤ 120
  case neg =>
    have c1 : ¬ (L.length : Int) ≤ 120 := by omega
    have c2 : (120 : Int) < (L.length : Int) := by omega
    go_wp2_with fail
    refine (law14_awake w).mono ?_
    rintro e w2 ⟨rfl, hb⟩
    have HZ := hid hb
    clear hb
    go_wp2_with fail
    go_ret
    exact ⟨rfl, HZ.out⟩
  have H120 := hid h120
  have c1 : ¬ (120 : Int) < (L.length : Int) := by omega
  clear h120
  go_wp2_with fail
  refine (law14_played L a c w HL.out H120.out).mono ?_
  rintro e w1 ⟨s, F, v, X, rfl, hbo, hX, -, hb1⟩
  have HBO := hid hbo
  have HX : Hid (X.length ≤ 120) := hid (by have := H120.out; omega)
  have HB := hid hb1
  clear hbo hX hb1
  go_wp2_with fail
  refine (rt_At w1 s px py).mono ?_
  rintro e w2 ⟨bT, bI, bx, bY, rfl, hT, hI, hx, hy, hb2⟩
  have HTI := hid (And.intro hT (And.intro hI (And.intro hx hy)))
  have HBO2 := hid (HBO.out.below hb2)
  have HB2 := hid (Below.next HB.out hb2)
  clear hT hI hx hy hb2
  go_wp2_with fail
  refine (law14_thingsL w2 bT bI s _ F X _ _ (tHolds px py) 0 HTI.out.1 HTI.out.2.1 HBO2.out.t (by have := HX.out; omega) (fun z hz => test_At _ _ z px py bx bY (HTI.out.2.2.1.below hz) (HTI.out.2.2.2.below hz) HTI.out.2.2.1.lt HTI.out.2.2.2.lt)).mono ?_
  rintro e w3 ⟨Y, hYp, hq⟩
  obtain ⟨v3, rfl, hs3, hb3⟩ := hq.whole
  have HY := hid (And.intro hYp hs3)
  have HBO3 := hid (HBO2.out.below hb3)
  have HB3 := hid (Below.next HB2.out hb3)
  clear hYp hs3 hb3 hq
  go_wp2_with fail
  refine (ref14_At w3 HBO3.out.l (by have := HX.out; omega) px py HXY.out.1 HXY.out.2).mono ?_
  rintro e w4 ⟨v4, rfl, ho4, hb4⟩
  have HO4 := hid (SlG.of_own ho4)
  have HY4 := hid (HY.out.2.below hb4)
  have HB4 := hid (Below.next HB3.out hb4)
  clear ho4 hb4
  go_wp2_with fail
  refine (ref14_Same w4 HY4.out HO4.out (by have := HX.out; have h1 := List.length_filter_le (fun x : Tg => tHolds px py x.1) X; rw [HY.out.1.length_eq]; unfold flR; omega) HY.out.1 (HY.out.1.nodup_iff.2 (HBO3.out.nd.sublist List.filter_sublist))).mono ?_
  rintro e w5 ⟨rfl, hb5⟩
  have HB5 := hid (Below.next HB4.out hb5)
  clear hb5
  go_wp2_with fail
  refine (law14_awake w5).mono ?_
  rintro e w6 ⟨rfl, hb6⟩
  have HB6 := hid (Below.next HB5.out hb6)
  clear hb6
  go_wp2_with fail
  go_ret
  exact ⟨rfl, HB6.out⟩
set_option maxRecDepth 100000 in
theorem RtreeAt_walk {H : Type} {enc : TypeId × Value → H} {b0 : Nat} {d0 : DataW H} {p0 : List MemPlace} (v0 : Value) (x1 x2 : Int) (w : World) (ok0 : Value.okWide Try.prog w .any b0 36 v0) (k0 : DataW.Trod enc Try.prog w 0 (fun _ => true) true 36 v0 d0 p0)
    (w1 : (Lit.int .i64 x1).wf = true) (w2 : (Lit.int .i64 x2).wf = true) :
    Calls Try.prog 8 #[v0, .int .i64 x1, .int .i64 x2] w fun e w' => e = .returned (.bool true) ∧ Below w.heap.size w w' := by
  obtain ⟨L, hl⟩ := open_opsG ok0 k0
  obtain ⟨a, c, rfl, h2⟩ := id hl
  exact law14_At L a c x1 x2 w hl (inG_of_wf w1).2 (inG_of_wf w2).2
set_option maxRecDepth 100000 in
set_option maxHeartbeats 8000000 in
theorem law14_Meets (L : List OpG) (a : Option Addr) (c : Nat) (ox oy oa ob stop : Int) (w : World) (hl : SlE OpGE 7 w (.slice a L.length c) L) :
    Calls Try.prog 5 #[.slice a L.length c, .agg #[.int .i64 ox, .int .i64 oy, .int .i64 oa, .int .i64 ob], .int .i64 stop] w fun e w' => e = .returned (.bool true) ∧ Below w.heap.size w w' := by
  have HL := hid hl
  clear hl
  go_enter Try.func5, Try.ntmps5
  by_cases h120 : L.length ≤ 120
  case neg =>
    have c1 : ¬ (L.length : Int) ≤ 120 := by omega
    have c2 : (120 : Int) < (L.length : Int) := by omega
    go_wp2_with fail
    refine (law14_awake _).mono ?_
    rintro e w2 ⟨rfl, hb⟩
    have HZ := hid (Below.next (Below.new w (.cells #[.int .i64 ox, .int .i64 oy, .int .i64 oa, .int .i64 ob] 33)) hb)
    clear hb
    go_wp2_with fail
    go_ret
    exact ⟨rfl, HZ.out⟩
  have H120 := hid h120
  have c1 : ¬ (120 : Int) < (L.length : Int) := by omega
  clear h120
  go_upto_region 3 with fail
  obtain ⟨w0, hw0⟩ : ∃ w0, w0 = w.alloc (.cells #[.int .i64 ox, .int .i64 oy, .int .i64 oa, .int .i64 ob] 33) := ⟨_, rfl⟩
  rw [← hw0]
  obtain ⟨bR, hbR⟩ : ∃ b, b = w.heap.size := ⟨_, rfl⟩
  rw [← hbR]
  have hb0 : Below w.heap.size w w0 := by rw [hw0]; exact Below.new _ _
  have HR0 : Hid (Blk w0 bR #[.int .i64 ox, .int .i64 oy, .int .i64 oa, .int .i64 ob]) := hid (by rw [hw0, hbR]; exact Blk.new _ _ _)
  have HB0 := hid hb0
  clear hw0 hbR hb0
  go_wp2_with fail
  refine (law14_played L a c w0 (HL.out.below opGKept HB0.out) H120.out).mono ?_
  rintro e w1 ⟨s, F, v, X, rfl, hbo, hX, -, hb1⟩
  have HBO1 := hid hbo
  have HX : Hid (X.length ≤ 120) := hid (by have := H120.out; omega)
  have HB1 := hid (Below.next HB0.out hb1)
  have HR1 := hid (HR0.out.below hb1)
  clear hbo hX hb1
  obtain ⟨p0, p1, p2, p3⟩ := HR1.out.c4r
  go_wp2_with fail
  refine (law14_ref ox oy oa ob w1).mono ?_
  rintro e w2 ⟨rfl, hb⟩
  have HBO2 := hid (HBO1.out.below hb)
  have HB2 := hid (Below.next HB1.out hb)
  have HR2 := hid (HR1.out.below hb)
  clear hb
  go_wp2_with fail
  obtain ⟨W, hW⟩ : ∃ W, flR (tMeets (ox, oy, oa, ob)) X = W := ⟨_, rfl⟩
  obtain ⟨N, hN⟩ : ∃ N, W.length = N := ⟨_, rfl⟩
  have HW := hid (And.intro hW hN)
  have HWL : Hid (N ≤ 120) := hid (by rw [← hN, ← hW]; exact Nat.le_trans (List.length_filter_le _ _) HX.out)
  have HWN : Hid (W.Nodup) := hid (by rw [← hW]; exact HBO2.out.nd.sublist List.filter_sublist)
  have hq := ref14_Meets w2 HBO2.out.l (by have := HX.out; omega) ox oy oa ob
  rw [hW] at hq
  refine hq.mono ?_
  rintro e w3 ⟨v9, rfl, ho9, hb⟩
  obtain ⟨a9, c9, hv9, -⟩ := ownsRow.rd ho9
  have hs9 := SlG.of_own ho9
  rw [hN] at hv9
  subst hv9
  have HS3 := hid hs9
  have HBO3 := hid (HBO2.out.below hb)
  have HB3 := hid (Below.next HB2.out hb)
  have HR3 := hid (HR2.out.below hb)
  clear hb
  clear hW hN hq ho9 hs9 p0 p1 p2 p3
  obtain ⟨p0, p1, p2, p3⟩ := HR3.out.c4r
  have hqn : decide (W ≠ []) = decide (0 < N) := by
    refine decide_eq_decide.2 ?_
    have h1 := HW.out.2
    cases W with
    | nil => simp at h1; subst h1; simp
    | cons y W => simp at h1; simp; omega
  have hany := rt_AnyL w3 s F X ox oy oa ob HBO3.out.t (by have := HX.out; omega) (decide (0 < N)) (by rw [HW.out.1]; exact hqn)
  have HANY := hid hany
  clear hqn hany
  go_wp2_with fail
  refine HANY.out.mono ?_
  rintro e w4 ⟨rfl, hb⟩
  have HS4 := hid (HS3.out.below hb)
  have HBO4 := hid (HBO3.out.below hb)
  have HB4 := hid (Below.next HB3.out hb)
  have HR4 := hid (HR3.out.below hb)
  clear hb
  clear p0 p1 p2 p3
  obtain ⟨p0, p1, p2, p3⟩ := HR4.out.c4r
  go_wp2_with fail
  refine (rt_Meets4 w4 s ox oy oa ob).mono ?_
  rintro e w5 ⟨bT, bI, rfl, hT, hI, hb⟩
  have HS5 := hid (HS4.out.below hb)
  have HTI := hid (And.intro hT hI)
  have HBO5 := hid (HBO4.out.below hb)
  have HB5 := hid (Below.next HB4.out hb)
  have HR5 := hid (HR4.out.below hb)
  clear hb
  clear p0 p1 p2 p3 hT hI
  go_wp2_with fail
  refine (law14_thingsL w5 bT bI s _ F X _ _ (tMeets (ox, oy, oa, ob)) 0 HTI.out.1 HTI.out.2 HBO5.out.t (by have := HX.out; omega) (fun z hz => test_Meets _ _ z ox oy oa ob)).mono ?_
  rintro e w6 ⟨Y, hYp, hq⟩
  obtain ⟨v6, rfl, hs6, hb⟩ := hq.whole
  rw [HW.out.1] at hYp
  have HY := hid (And.intro hYp hs6)
  have HS6 := hid (HS5.out.below hb)
  have HBO6 := hid (HBO5.out.below hb)
  have HB6 := hid (Below.next HB5.out hb)
  have HR6 := hid (HR5.out.below hb)
  clear hb
  clear hYp hs6 hq
  go_wp2_with fail
  have hsm := ref14_Same w6 HY.out.2 HS6.out (by rw [HY.out.1.length_eq, HW.out.2]; have := HWL.out; omega) HY.out.1 (HY.out.1.nodup_iff.2 HWN.out)
  refine hsm.mono ?_
  rintro e w7 ⟨rfl, hb⟩
  have HS7 := hid (HS6.out.below hb)
  have HBO7 := hid (HBO6.out.below hb)
  have HB7 := hid (Below.next HB6.out hb)
  have HR7 := hid (HR6.out.below hb)
  clear hb
  clear hsm
  by_cases hst : 1 ≤ stop ∧ stop ≤ (N : Int)
  case neg =>
    have HAW : Hid (Calls Try.prog 15 #[] w7 fun e w' => e = .returned (.bool true) ∧ Below w.heap.size w w') := hid ((law14_awake w7).mono (by
      rintro e w8 ⟨h1, hb⟩
      exact ⟨h1, Below.next HB7.out hb⟩))
    by_cases s1 : stop < 1
    · clear hst
      go_wp2_with fail
      refine HAW.out.mono ?_
      rintro e w8 ⟨rfl, hb⟩
      have HZ := hid hb
      clear hb
      go_wp2_with fail
      go_ret
      exact ⟨rfl, HZ.out⟩
    · have s2 : (N : Int) < stop := by omega
      have s3 : ¬ stop < 1 := s1
      clear hst
      go_wp2_with fail
      refine HAW.out.mono ?_
      rintro e w8 ⟨rfl, hb⟩
      have HZ := hid hb
      clear hb
      go_wp2_with fail
      go_ret
      exact ⟨rfl, HZ.out⟩
  obtain ⟨n, rfl⟩ : ∃ n : Nat, stop = (n : Int) := ⟨stop.toNat, by omega⟩
  have s1 : ¬ (n : Int) < 1 := by omega
  have s2 : ¬ (N : Int) < (n : Int) := by omega
  have HST := hid hst
  clear hst
  obtain ⟨p0, p1, p2, p3⟩ := HR7.out.c4r
  go_wp2_with fail
  refine (rt_Meets4 w7 s ox oy oa ob).mono ?_
  rintro e w8 ⟨bT2, bI2, rfl, hT, hI, hb⟩
  have HS8 := hid (HS7.out.below hb)
  have HTI2 := hid (And.intro hT hI)
  have HBO8 := hid (HBO7.out.below hb)
  have HB8 := hid (Below.next HB7.out hb)
  have HR8 := hid (HR7.out.below hb)
  clear hb
  clear p0 p1 p2 p3 hT hI
  go_wp2_with fail
  refine (law14_thingsL w8 bT2 bI2 s _ F X _ _ (tMeets (ox, oy, oa, ob)) n HTI2.out.1 HTI2.out.2 HBO8.out.t (by have := HX.out; omega) (fun z hz => test_Meets _ _ z ox oy oa ob)).mono ?_
  rintro e w9 ⟨Y2, hYp, v, Z, rfl, hpre, hz1, -, ho, hb⟩
  rw [HW.out.1] at hYp
  have hZn : Z.length = n := by
    have h1 := hz1 (by have := HST.out; rw [hYp.length_eq, HW.out.2]; exact this)
    omega
  have HZm : Hid (∀ x ∈ Z, x ∈ W) := hid (fun x hx => hYp.mem_iff.1 (hpre.subset hx))
  have HZd : Hid (Z.Nodup) := hid ((hYp.nodup_iff.2 HWN.out).sublist hpre.sublist)
  obtain ⟨av, cv, hv, -⟩ := ownsRow.rd ho
  have hsz := SlG.of_own ho
  rw [hZn] at hv
  subst hv
  have HSZ := hid hsz
  have HZN := hid hZn
  have HS9 := hid (HS8.out.below hb)
  have HBO9 := hid (HBO8.out.below hb)
  have HB9 := hid (Below.next HB8.out hb)
  have HR9 := hid (HR8.out.below hb)
  clear hb
  have HNN : Hid (n ≤ 120) := hid (by have h1 := HWL.out; have h2 := HST.out; omega)
  have hnn : n ≤ 120 := HNN.out
  clear hYp hpre hz1 hZn ho hsz
  go_wp2_with fail
  go_loopw [60] (fun v60 wr => OutG w9 n v60 wr) (fun v60 _ => n - (intOf v60).toNat)
  case atStart => exact ⟨0, rfl, by omega, hid (Below.refl _ _)⟩
  case round =>
    obtain ⟨i, rfl, hi, hb⟩ := hrel
    by_cases hlt : i < n
    · have j1 : (i : Int) < (n : Int) := by omega
      have j0 : (0 : Int) ≤ (i : Int) := by omega
      have j9 : (i : Int) < 120 := by omega
      have hsA := HSZ.out.below hb.out
      obtain ⟨a', c', e', hrd, hcc, -⟩ := hsA
      rw [HZN.out] at hcc
      simp only [Value.slice.injEq, HZN.out, true_and] at e'
      obtain ⟨rfl, rfl⟩ := e'
      have j2 : (i : Int) ≤ (cv : Int) := by omega
      have j3 : (i : Int).toNat = i := by omega
      have j5 : ¬ cv = i := by omega
      have j6 : i < cv := by omega
      have j7 : (i : Int) < (cv : Int) := by omega
      obtain ⟨b0, off, x, rfl, d0, d1, d2, d3, d4, hatj, -, htk⟩ := hrd.five i (by rw [HZN.out]; exact hlt)
      have hxB : x ∈ W := HZm.out x (List.mem_of_getElem? hatj)
      have hxA : x ∉ Z.take i := by
        intro q
        have h1 : (Z.take (i + 1)).Nodup := HZd.out.sublist (List.take_sublist _ _)
        rw [htk, List.nodup_append] at h1
        exact h1.2.2 x q x (by simp) rfl
      have hf1 : ∀ y, Below wr.heap.size wr y → Calls Try.prog 27 #[.slice a9 N c9, .agg #[.int .i64 x.1.1, .int .i64 x.1.2.1, .int .i64 x.1.2.2.1, .int .i64 x.1.2.2.2, .int .i64 x.2]] y fun e w' => ∃ r : Int, e = .returned (.int .i64 r) ∧ 0 ≤ r ∧ Below y.heap.size y w' := fun y hy => (ref14_Find y ((HS9.out.below hb.out).below hy) (by rw [HW.out.2]; have := HWL.out; omega) _ _ _ _ _).mono (by
        rintro e w' ⟨r, he, hr, hb2⟩
        rcases hr with ⟨k, hk, -⟩ | ⟨-, hk⟩
        · exact ⟨r, he, by omega, hb2⟩
        · exact absurd hxB hk)
      have hf2 : ∀ y, Below wr.heap.size wr y → Calls Try.prog 27 #[.slice (some ⟨b0, off, none⟩) i cv, .agg #[.int .i64 x.1.1, .int .i64 x.1.2.1, .int .i64 x.1.2.2.1, .int .i64 x.1.2.2.2, .int .i64 x.2]] y fun e w' => e = .returned (.int .i64 (-1)) ∧ Below y.heap.size y w' := fun y hy => (ref14_Find y (SlG.take (by rw [HZN.out]; exact (HSZ.out.below hb.out).below hy) (by rw [HZN.out]; omega)) (by rw [List.length_take]; omega) _ _ _ _ _).mono (by
        rintro e w' ⟨r, he, hr, hb2⟩
        rcases hr with ⟨k, -, hk1, hk⟩ | ⟨hk, -⟩
        · exact absurd (List.mem_of_getElem? hk) hxA
        · rw [hk] at he; exact ⟨he, hb2⟩)
      obtain ⟨⟨x1, x2, x3, x4⟩, x5⟩ := x
      simp only at d0 d1 d2 d3 d4 hf1 hf2
      have HF1 := hid hf1
      have HF2 := hid hf2
      clear hf1 hf2 hrd htk hatj hxA hxB hcc
      go_upto_region 15 with fail
      obtain ⟨wC, hwC⟩ : ∃ wC, wC = wr.alloc (.cells #[.int .i64 x1, .int .i64 x2, .int .i64 x3, .int .i64 x4, .int .i64 x5] 58) := ⟨_, rfl⟩
      rw [← hwC]
      obtain ⟨bY, hbY⟩ : ∃ b, b = wr.heap.size := ⟨_, rfl⟩
      rw [← hbY]
      have hbC : Below wr.heap.size wr wC := by rw [hwC]; exact Below.new _ _
      have hkC : Blk wC bY #[.int .i64 x1, .int .i64 x2, .int .i64 x3, .int .i64 x4, .int .i64 x5] := by rw [hwC, hbY]; exact Blk.new _ _ _
      have HBC := hid hbC
      obtain ⟨y0, y1, y2, y3, y4⟩ := hkC.c5g
      clear hwC hbY d0 d1 d2 d3 d4 hkC
      replace y0 := fun (y : World) (hy : Below wC.heap.size wC y) => cellOf_belowR hy y0
      replace y1 := fun (y : World) (hy : Below wC.heap.size wC y) => cellOf_belowR hy y1
      replace y2 := fun (y : World) (hy : Below wC.heap.size wC y) => cellOf_belowR hy y2
      replace y3 := fun (y : World) (hy : Below wC.heap.size wC y) => cellOf_belowR hy y3
      replace y4 := fun (y : World) (hy : Below wC.heap.size wC y) => cellOf_belowR hy y4
      have hyd := (Below.refl wC.heap.size wC).drew
      refine wp_region_kept [] (fun z => Below wC.heap.size wC z) (by kernel_rfl) (by assumption) (fun hH => ?_)
      refine wpK.take (i := 0) (v := _) (by simp only [List.getElem?_toArray, List.getElem?_cons_succ, List.getElem?_cons_zero]; rfl) (by kernel_rfl) (by kernel_rfl) (by kernel_rfl) (by kernel_rfl) (by kernel_rfl) (by exact fun _ _ _ h => h) (by first | exact Or.inl ⟨by rfl, by intro w hSw; go_simp; try with_reducible rfl⟩ | exact Or.inr ⟨by rfl, rfl⟩) hH ?_
      try simp only [Act.put, List.setIfInBounds_toArray, List.set_cons_zero, List.set_cons_succ]
      refine wpK.take (i := 1) (v := _) (by simp only [List.getElem?_toArray, List.getElem?_cons_succ, List.getElem?_cons_zero]; rfl) (by kernel_rfl) (by kernel_rfl) (by kernel_rfl) (by kernel_rfl) (by kernel_rfl) (by exact fun _ _ _ h => h) (by first | exact Or.inl ⟨by rfl, by intro w hSw; go_simp; try with_reducible rfl⟩ | exact Or.inr ⟨by rfl, rfl⟩) hH ?_
      try simp only [Act.put, List.setIfInBounds_toArray, List.set_cons_zero, List.set_cons_succ]
      refine wpK.step (i := 2) (by kernel_rfl) (by simp only [List.getElem?_toArray, List.getElem?_cons_succ, List.getElem?_cons_zero]; rfl) (fun K hK => ?_)
      go_simp
      (refine (HF1.out _ (Below.next HBC.out hyd)).mono ?_); rintro e w3 ⟨r, rfl, hr, hb3⟩; (have hk3 := Below.next hyd hb3); (have hr2 : ¬ r < 0 := by omega); (have hr3 : decide (r < 0) = false := by simp; omega); go_simp
      refine hK.out _ _ (by assumption) (fun hH => ?_)
      clear hK K
      try simp only [Act.put, List.setIfInBounds_toArray, List.set_cons_zero, List.set_cons_succ]
      refine wpK.take (i := 3) (v := _) (by simp only [List.getElem?_toArray, List.getElem?_cons_succ, List.getElem?_cons_zero]; rfl) (by kernel_rfl) (by kernel_rfl) (by kernel_rfl) (by kernel_rfl) (by kernel_rfl) (by exact fun _ _ _ h => h) (by first | exact Or.inl ⟨by rfl, by intro w hSw; go_simp; try with_reducible rfl⟩ | exact Or.inr ⟨by rfl, rfl⟩) hH ?_
      try simp only [Act.put, List.setIfInBounds_toArray, List.set_cons_zero, List.set_cons_succ]
      refine wpK.take (i := 4) (v := _) (by simp only [List.getElem?_toArray, List.getElem?_cons_succ, List.getElem?_cons_zero]; rfl) (by kernel_rfl) (by kernel_rfl) (by kernel_rfl) (by kernel_rfl) (by kernel_rfl) (by exact fun _ _ _ h => h) (by first | exact Or.inl ⟨by rfl, by intro w hSw; go_simp; try with_reducible rfl⟩ | exact Or.inr ⟨by rfl, rfl⟩) hH ?_
      try simp only [Act.put, List.setIfInBounds_toArray, List.set_cons_zero, List.set_cons_succ]
      refine wpK.take (i := 5) (v := _) (by simp only [List.getElem?_toArray, List.getElem?_cons_succ, List.getElem?_cons_zero]; rfl) (by kernel_rfl) (by kernel_rfl) (by kernel_rfl) (by kernel_rfl) (by kernel_rfl) (by exact fun _ _ _ h => h) (by first | exact Or.inl ⟨by rfl, by intro w hSw; go_simp; try with_reducible rfl⟩ | exact Or.inr ⟨by rfl, rfl⟩) hH ?_
      try simp only [Act.put, List.setIfInBounds_toArray, List.set_cons_zero, List.set_cons_succ]
      refine wpK.take (i := 6) (v := _) (by simp only [List.getElem?_toArray, List.getElem?_cons_succ, List.getElem?_cons_zero]; rfl) (by kernel_rfl) (by kernel_rfl) (by kernel_rfl) (by kernel_rfl) (by kernel_rfl) (by exact fun _ _ _ h => h) (by first | exact Or.inl ⟨by rfl, by intro w hSw; go_simp; try with_reducible rfl⟩ | exact Or.inr ⟨by rfl, rfl⟩) hH ?_
      try simp only [Act.put, List.setIfInBounds_toArray, List.set_cons_zero, List.set_cons_succ]
      refine wpK.take (i := 7) (v := _) (by simp only [List.getElem?_toArray, List.getElem?_cons_succ, List.getElem?_cons_zero]; rfl) (by kernel_rfl) (by kernel_rfl) (by kernel_rfl) (by kernel_rfl) (by kernel_rfl) (by exact fun _ _ _ h => h) (by first | exact Or.inl ⟨by rfl, by intro w hSw; go_simp; try with_reducible rfl⟩ | exact Or.inr ⟨by rfl, rfl⟩) hH ?_
      try simp only [Act.put, List.setIfInBounds_toArray, List.set_cons_zero, List.set_cons_succ]
      refine wpK.take (i := 8) (v := _) (by simp only [List.getElem?_toArray, List.getElem?_cons_succ, List.getElem?_cons_zero]; rfl) (by kernel_rfl) (by kernel_rfl) (by kernel_rfl) (by kernel_rfl) (by kernel_rfl) (by exact fun _ _ _ h => h) (by first | exact Or.inl ⟨by rfl, by intro w hSw; go_simp; try with_reducible rfl⟩ | exact Or.inr ⟨by rfl, rfl⟩) hH ?_
      try simp only [Act.put, List.setIfInBounds_toArray, List.set_cons_zero, List.set_cons_succ]
      refine wpK.step (i := 9) (by kernel_rfl) (by simp only [List.getElem?_toArray, List.getElem?_cons_succ, List.getElem?_cons_zero]; rfl) (fun K hK => ?_)
      go_simp
      (refine (HF2.out _ (Below.next HBC.out hk3)).mono ?_); rintro e w4 ⟨rfl, hb4⟩; (have hk4 := Below.next hk3 hb4); go_simp
      refine hK.out _ _ (by assumption) (fun hH => ?_)
      clear hK K
      try simp only [Act.put, List.setIfInBounds_toArray, List.set_cons_zero, List.set_cons_succ]
      refine wpK.take (i := 10) (v := _) (by simp only [List.getElem?_toArray, List.getElem?_cons_succ, List.getElem?_cons_zero]; rfl) (by kernel_rfl) (by kernel_rfl) (by kernel_rfl) (by kernel_rfl) (by kernel_rfl) (by exact fun _ _ _ h => h) (by first | exact Or.inl ⟨by rfl, by intro w hSw; go_simp; try with_reducible rfl⟩ | exact Or.inr ⟨by rfl, rfl⟩) hH ?_
      try simp only [Act.put, List.setIfInBounds_toArray, List.set_cons_zero, List.set_cons_succ]
      refine wpK.take (i := 11) (v := _) (by simp only [List.getElem?_toArray, List.getElem?_cons_succ, List.getElem?_cons_zero]; rfl) (by kernel_rfl) (by kernel_rfl) (by kernel_rfl) (by kernel_rfl) (by kernel_rfl) (by exact fun _ _ _ h => h) (by first | exact Or.inl ⟨by rfl, by intro w hSw; go_simp; try with_reducible rfl⟩ | exact Or.inr ⟨by rfl, rfl⟩) hH ?_
      try simp only [Act.put, List.setIfInBounds_toArray, List.set_cons_zero, List.set_cons_succ]
      refine wpK.done (by kernel_rfl) ?_ _
      have HB4 := hid (Below.next hb.out (Below.next HBC.out hk4))
      clear y0 y1 y2 y3 y4 hyd hH hk3 hk4 hb3 hb4 hbC
      go_wp2_with fail
      go_roundw
      case rel => exact ⟨i + 1, by go_num, by omega, HB4⟩
      case measure => simp [intOf]; omega
    · have j1 : ¬ (i : Int) < (n : Int) := by omega
      have HBZ := hid (Below.next HB9.out hb.out)
      go_wp2_with fail
      refine (law14_awake wr).mono ?_
      rintro e wz ⟨rfl, hb⟩
      have HZ := hid (Below.next HBZ.out hb)
      clear hb
      go_wp2_with fail
      go_ret
      exact ⟨rfl, HZ.out⟩
set_option maxRecDepth 100000 in
theorem RtreeMeets_walk {H : Type} {enc : TypeId × Value → H} {b0 b1 : Nat} {d0 d1 : DataW H} {p0 p1 : List MemPlace} (v0 v1 : Value) (x2 : Int) (w : World) (ok0 : Value.okWide Try.prog w .any b0 36 v0) (k0 : DataW.Trod enc Try.prog w 0 (fun _ => true) true 36 v0 d0 p0)
    (ok1 : Value.okWide Try.prog w .any b1 33 v1) (k1 : DataW.Trod enc Try.prog w 0 (fun _ => true) true 33 v1 d1 p1) (w2 : (Lit.int .i64 x2).wf = true) :
    Calls Try.prog 5 #[v0, v1, .int .i64 x2] w fun e w' => e = .returned (.bool true) ∧ Below w.heap.size w w' := by
  obtain ⟨L, hl⟩ := open_opsG ok0 k0
  obtain ⟨a, c, rfl, h2⟩ := id hl
  obtain ⟨⟨r1, r2, r3, r4⟩, rfl, -⟩ := open_rect ok1 k1
  exact law14_Meets L a c r1 r2 r3 r4 x2 w hl
end Go.Proofs.Ytjbnfppnmljbmaa
end
section
/- The law RtreeMeets returns true for every input, and what it is handed reads behind the call as it read before: no condition. (The frame follows the kit's proof-skeleton.) -/
namespace Go.Proofs.Ytjbnfppnmljbmaa.rtreeMeets
open Go.ChangeShapes Go.WideShapes Go.ChangeAt Go.RowKit
open Go.ChangeMaps (open_string shut_string)
set_option linter.unusedVariables false

theorem own : ownKnob Try.prog.godebug = none := by kernel_rfl
theorem laidOut : laidOutB Try.prog = true := by kernel_rfl

/-! ### the row's step -/
set_option maxRecDepth 100000 in
theorem lifted (os : Os) (started : os.Started) (H : Type) (enc : TypeId × Value → H) :
    ReturnsInHanded {} Try.checked os 5 .any (Rows.rtreeMeetsSpec.pre6 enc Try.prog Try.f5 Rows.rtreeMeetsRow.domain false) (Rows.rtreeMeetsSpec.post enc Try.prog Try.f5 false true false false) := by
  refine returnsInHanded_of_change (C := Try.checked) own started (by kernel_rfl) Try.func5
    (ChangeSpec.witness6 (enc := enc) (C := Try.checked) false ⟨#[], #[.slice none 0 0, .agg #[.int .i64 0, .int .i64 0, .int .i64 0, .int .i64 0], .int .i64 0], []⟩ 8 (by kernel_rfl) (by kernel_rfl) (by kernel_rfl) (by kernel_rfl)) ?_
  intro W base args ds gs before hval0 hW hcnd _
  have hval : ∀ (j : Nat) t v, Try.f5.params[j]? = some t → args[j]? = some v → Value.okWide Try.prog W .any base t v := hval0
  have hW' := hW
  obtain ⟨p, q, hA0, hV, rfl, hfz, hnd⟩ := hW
  have hA : DataW.TrodAll enc Try.prog W 0 (fun _ => true) true Try.f5.params.toList args.toList ds p := hA0
  rw [Try.params5] at hA hval
  obtain ⟨v0, vs0, d0, ds0, p0, q0, hargs, rfl, rfl, h0, r0⟩ := trodAll_cons hA
  obtain ⟨v1, vs1, d1, ds1, p1, q1, rfl, rfl, rfl, h1, r1⟩ := trodAll_cons r0
  obtain ⟨v2, vs2, d2, ds2, p2, q2, rfl, rfl, rfl, h2, r2⟩ := trodAll_cons r1
  obtain ⟨rfl, rfl, rfl⟩ := trodAll_nil r2
  obtain rfl : args = #[v0, v1, v2] := by cases args; simp_all
  obtain ⟨rfl, rfl⟩ := trodVars_none hV
  have k0 := h0
  have lt0 : ∀ x ∈ p0, x.block < W.heap.size := by obtain ⟨m, hm⟩ := k0; exact DataW.trod_lt m _ _ _ hm
  have ok0 := hval 0 36 v0 rfl rfl
  have k1 := h1
  have lt1 : ∀ x ∈ p1, x.block < W.heap.size := by obtain ⟨m, hm⟩ := k1; exact DataW.trod_lt m _ _ _ hm
  have ok1 := hval 1 33 v1 rfl rfl
  obtain ⟨a2, rfl, rfl, rfl, w2⟩ := open_int Try.underlying3 (hval 2 3 v2 rfl rfl) h2
  clear hA0 hval0
  refine (RtreeMeets_walk v0 v1 a2 W ok0 k0 ok1 k1 w2).mono fun e W' ⟨he, bel⟩ => ?_
  subst he
  exact ⟨_, rfl, _, _, _, [], _, [], hW', trodAll_mk1 (shut_bool Try.underlying4 _), (trodAll_cons_mk (Below.trod laidOut (by kernel_rfl) (of_decide_eq_true (by kernel_rfl)) k0 bel lt0) (trodAll_cons_mk (Below.trod laidOut (by kernel_rfl) (of_decide_eq_true (by kernel_rfl)) k1 bel lt1) (trodAll_cons_mk (shut_int Try.underlying3 w2) trodAll_mk0))), rfl, bel.frame _, fun h => by cases h⟩

theorem over : Rows.rtreeMeetsRow.holds Try.pinned (OpenSpec.ofChange Rows.rtreeMeetsSpec) :=
  OpenClaim.holds_of_wide 5 Try.f5 rfl rfl rfl rfl rfl rfl rfl ⟨rfl, rfl, rfl, rfl, rfl⟩ rfl rfl rfl rfl rfl (by kernel_rfl) Try.func5 (by kernel_rfl)
    (of_decide_eq_true (by kernel_rfl)) (by unfold Func.isWrapper; first | (rw [if_pos (by decide +kernel)]; kernel_rfl) | (rw [if_neg (by decide +kernel)]; exact ⟨rfl, rfl⟩))
    (fun os started H enc _ => lifted os started H enc)

/-- the statement -/
theorem proved : Rows.RtreeMeetsSaid := over
#print axioms proved
end Go.Proofs.Ytjbnfppnmljbmaa.rtreeMeets
end
