/- Joined texts, in this order: Law14Step. Each one's first remark says what it proves; no condition beyond those that its theorems name. -/
import Derived.Test.YtjbnfppnmljbmaaJLawRtreeBounds25
section
/- Contract of the law's step. -/
namespace Go.Proofs.Ytjbnfppnmljbmaa
open Go.RowKit
open Go.Lib (hid)
set_option linter.unusedVariables false
attribute [local go_sem] Oper.semAt_some

theorem set5g {x : World} {g : Nat} {c0 c1 c2 c3 c4 : Value} (h : Blk x g #[c0, c1, c2, c3, c4]) (u0 u1 u2 u3 u4 : Value) : ∃ wz, wz = ((((x.setCell ⟨g, 0, none⟩ u0).setCell ⟨g, 1, none⟩ u1).setCell ⟨g, 2, none⟩ u2).setCell ⟨g, 3, none⟩ u3).setCell ⟨g, 4, none⟩ u4 ∧ Blk wz g #[u0, u1, u2, u3, u4] ∧ Upd (fun k => k = g) x wz :=
  ⟨_, rfl, by simpa using ((((h.set 0 u0).set 1 u1).set 2 u2).set 3 u3).set 4 u4, ((((Upd.setCell x g 0 u0).trans (Upd.setCell _ g 1 u1) (fun _ _ q => q)).trans (Upd.setCell _ g 2 u2) (fun _ _ q => q)).trans (Upd.setCell _ g 3 u3) (fun _ _ q => q)).trans (Upd.setCell _ g 4 u4) (fun _ _ q => q)⟩
theorem lit_g0 (W : World) : (Instr.buildSlice 39 0 #[]).run Try.prog W = .ok (.slice (some ⟨W.heap.size, 0, none⟩) 0 0) (W.alloc (.cells #[] 58)) := by kernel_rfl
theorem lit_g1 (x y a b v : Int) (W : World) : (Instr.buildSlice 39 1 #[(0, .agg #[.int .i64 x, .int .i64 y, .int .i64 a, .int .i64 b, .int .i64 v])]).run Try.prog W = .ok (.slice (some ⟨W.heap.size, 0, none⟩) 1 1) (W.alloc (.cells #[.int .i64 x, .int .i64 y, .int .i64 a, .int .i64 b, .int .i64 v] 58)) := by kernel_rfl
theorem below_onG {w w1 w2 : World} (h : Below w.heap.size w w1) (k : Below w1.heap.size w1 w2) : Below w.heap.size w w2 := h.trans (k.mono h.size)
set_option maxRecDepth 100000 in
set_option maxHeartbeats 4000000 in
theorem law14_step0 (k ov oi x y a b : Int) (s : Nat) (F : Nat → Prop) (v : Value) (L : List Tg) (w : World) (h : BothG w s F v L) (hl : L.length ≤ 200) (hFl : ∀ k, F k → k < w.heap.size) :
    Calls Try.prog 16 #[.pointer (some ⟨s, 0, none⟩), v, .agg #[.int .i64 k, .int .i64 ov, .int .i64 oi, .int .i64 x, .int .i64 y, .int .i64 a, .int .i64 b]] w (StepPostG w F s (stepG L ⟨k, ov, oi, (x, y, a, b)⟩) v) := by
  have H := hid h
  have HL := hid hl
  have HFL := hid hFl
  clear h hl hFl
  go_enter Try.func16, Try.ntmps16
  go_upto_region 1 with fail
  obtain ⟨w1, hw⟩ : ∃ w1, w1 = w.alloc (.cells #[.int .i64 k, .int .i64 ov, .int .i64 oi, .int .i64 x, .int .i64 y, .int .i64 a, .int .i64 b] 41) := ⟨_, rfl⟩
  rw [← hw]
  obtain ⟨g5, hg⟩ : ∃ g, g = w.heap.size := ⟨_, rfl⟩
  rw [← hg]
  have HG5 := hid hg
  have hb : Below w.heap.size w w1 := by rw [hw]; exact Below.new _ _
  have hX : Blk w1 g5 #[.int .i64 k, .int .i64 ov, .int .i64 oi, .int .i64 x, .int .i64 y, .int .i64 a, .int .i64 b] := by rw [hw, hg]; exact Blk.new _ _ _
  have HX := hid hX
  have HB := hid hb
  clear hw hg hb
  go_cut [8] (fun v8 wx => ∃ b8 : Nat, v8 = .pointer (some ⟨b8, 0, none⟩) ∧ Hid (Blk wx b8 #[.int .i64 x, .int .i64 y, .int .i64 a, .int .i64 b, .int .i64 ov]) ∧ Hid (w1.heap.size ≤ b8) ∧ Hid (Below w1.heap.size w1 wx))
  case first =>
    have c1 : ∀ z, Below w1.heap.size w1 z → z.cell? ⟨g5, 1, none⟩ = some (.int .i64 ov) := fun z hz => by rw [(HX.out.below hz).cell]; rfl
    have c3 : ∀ z, Below w1.heap.size w1 z → z.cell? ⟨g5, 3, none⟩ = some (.int .i64 x) := fun z hz => by rw [(HX.out.below hz).cell]; rfl
    have c4 : ∀ z, Below w1.heap.size w1 z → z.cell? ⟨g5, 4, none⟩ = some (.int .i64 y) := fun z hz => by rw [(HX.out.below hz).cell]; rfl
    have c5 : ∀ z, Below w1.heap.size w1 z → z.cell? ⟨g5, 5, none⟩ = some (.int .i64 a) := fun z hz => by rw [(HX.out.below hz).cell]; rfl
    have c6 : ∀ z, Below w1.heap.size w1 z → z.cell? ⟨g5, 6, none⟩ = some (.int .i64 b) := fun z hz => by rw [(HX.out.below hz).cell]; rfl
    have hyd := (Below.refl w1.heap.size w1).drew
    clear hX
    refine wp_region_kept [7] (fun z => Below w1.heap.size w1 z) (by kernel_rfl) (by assumption) (fun hH => ?_)
    refine wpK.take (i := 0) (v := _) (by simp only [List.getElem?_toArray, List.getElem?_cons_succ, List.getElem?_cons_zero]; rfl) (by kernel_rfl) (by kernel_rfl) (by kernel_rfl) (by kernel_rfl) (by kernel_rfl) (by exact fun _ _ _ h => h) (by first | exact Or.inl ⟨by rfl, by intro w hSw; go_simp; try with_reducible rfl⟩ | exact Or.inr ⟨by rfl, rfl⟩) hH ?_
    try simp only [Act.put, List.setIfInBounds_toArray, List.set_cons_zero, List.set_cons_succ]
    refine wpK.take (i := 1) (v := _) (by simp only [List.getElem?_toArray, List.getElem?_cons_succ, List.getElem?_cons_zero]; rfl) (by kernel_rfl) (by kernel_rfl) (by kernel_rfl) (by kernel_rfl) (by kernel_rfl) (by exact fun _ _ _ h => h) (by first | exact Or.inl ⟨by rfl, by intro w hSw; go_simp; try with_reducible rfl⟩ | exact Or.inr ⟨by rfl, rfl⟩) hH ?_
    try simp only [Act.put, List.setIfInBounds_toArray, List.set_cons_zero, List.set_cons_succ]
    refine wpK.take (i := 3) (v := _) (by simp only [List.getElem?_toArray, List.getElem?_cons_succ, List.getElem?_cons_zero]; rfl) (by kernel_rfl) (by kernel_rfl) (by kernel_rfl) (by kernel_rfl) (by kernel_rfl) (by exact fun _ _ _ h => h) (by first | exact Or.inl ⟨by rfl, by intro w hSw; go_simp; try with_reducible rfl⟩ | exact Or.inr ⟨by rfl, rfl⟩) hH ?_
    try simp only [Act.put, List.setIfInBounds_toArray, List.set_cons_zero, List.set_cons_succ]
    refine wpK.take (i := 4) (v := _) (by simp only [List.getElem?_toArray, List.getElem?_cons_succ, List.getElem?_cons_zero]; rfl) (by kernel_rfl) (by kernel_rfl) (by kernel_rfl) (by kernel_rfl) (by kernel_rfl) (by exact fun _ _ _ h => h) (by first | exact Or.inl ⟨by rfl, by intro w hSw; go_simp; try with_reducible rfl⟩ | exact Or.inr ⟨by rfl, rfl⟩) hH ?_
    try simp only [Act.put, List.setIfInBounds_toArray, List.set_cons_zero, List.set_cons_succ]
    refine wpK.two (i := 2) (j := 6) (by kernel_rfl) (by simp only [List.getElem?_toArray, List.getElem?_cons_succ, List.getElem?_cons_zero]; rfl) (by simp only [List.getElem?_toArray, List.getElem?_cons_succ, List.getElem?_cons_zero]; rfl) (fun K hK => ?_) (fun K hK => ?_)
    · go_simp
      (refine (law14_ref x y a b _).mono ?_); rintro e w2 ⟨rfl, hb2⟩; (have hk2 : Below w1.heap.size w1 w2 := Below.next hH hb2); (try (have hblk8 := hblk8.below hb2)); go_simp
      refine hK.out _ _ (by assumption) (fun hH => ?_)
      clear hK K
      try simp only [Act.put, List.setIfInBounds_toArray, List.set_cons_zero, List.set_cons_succ]
      refine wpK.take (i := 5) (v := _) (by simp only [List.getElem?_toArray, List.getElem?_cons_succ, List.getElem?_cons_zero]; rfl) (by kernel_rfl) (by kernel_rfl) (by kernel_rfl) (by kernel_rfl) (by kernel_rfl) (by exact fun _ _ _ h => h) (by first | exact Or.inl ⟨by rfl, by intro w hSw; go_simp; try with_reducible rfl⟩ | exact Or.inr ⟨by rfl, rfl⟩) hH ?_
      try simp only [Act.put, List.setIfInBounds_toArray, List.set_cons_zero, List.set_cons_succ]
      refine wpK.step (i := 6) (by kernel_rfl) (by simp only [List.getElem?_toArray, List.getElem?_cons_succ, List.getElem?_cons_zero]; rfl) (fun K hK => ?_)
      go_simp
      (first | refine K_alloc (K := K) ?_ | refine K_allocD (K := K) ?_); intro g8 w8 hg8 hs8 hb8 hblk8; (try rw [← hg8]); (have hk8 : Below w1.heap.size w1 w8 := by first | exact Below.next hH hb8 | exact hb8); (have hgl : Hid (w1.heap.size ≤ g8) := hid (by rw [hg8]; exact hH.size)); clear hg8 hs8
      refine hK.out _ _ (by assumption) (fun hH => ?_)
      clear hK K
      try simp only [Act.put, List.setIfInBounds_toArray, List.set_cons_zero, List.set_cons_succ]
      refine wpK.late (i := 7) (by kernel_rfl) (by simp only [List.getElem?_toArray, List.getElem?_cons_succ, List.getElem?_cons_zero]; rfl) (by kernel_rfl) (fun K hK => ?_)
      (obtain ⟨p0, p1, p2, p3, p4⟩ := hblk8.c5g); (have f0 := hblk8.unfrozen 0); (have f1 := hblk8.unfrozen 1); (have f2 := hblk8.unfrozen 2); (have f3 := hblk8.unfrozen 3); (have f4 := hblk8.unfrozen 4); (obtain ⟨wz, hwz, hkz, huz⟩ := set5g hblk8 (.int .i64 x) (.int .i64 y) (.int .i64 a) (.int .i64 b) (.int .i64 ov)); (have HBZ : Hid (Below w1.heap.size w1 wz) := hid (hH.trans (huz.below hH.size (fun k _ q => by rw [q]; exact hgl.out)))); (have HWZ := hid hwz); (have HKZ := hid hkz); clear hwz hkz huz; go_simp; (try rw [← HWZ.out])
      refine hK.out _ _ ?_
      clear hK K
      try simp only [Act.put, List.setIfInBounds_toArray, List.set_cons_zero, List.set_cons_succ]
      refine wpK.done (by kernel_rfl) ?_ _
      go_wp2_with fail
      go_meet
      exact ⟨g8, rfl, HKZ, hgl, HBZ⟩
    · go_simp
      (first | refine K_alloc (K := K) ?_ | refine K_allocD (K := K) ?_); intro g8 w8 hg8 hs8 hb8 hblk8; (try rw [← hg8]); (have hk8 : Below w1.heap.size w1 w8 := by first | exact Below.next hH hb8 | exact hb8); (have hgl : Hid (w1.heap.size ≤ g8) := hid (by rw [hg8]; exact hH.size)); clear hg8 hs8
      refine hK.out _ _ (by assumption) (fun hH => ?_)
      clear hK K
      try simp only [Act.put, List.setIfInBounds_toArray, List.set_cons_zero, List.set_cons_succ]
      refine wpK.step (i := 2) (by kernel_rfl) (by simp only [List.getElem?_toArray, List.getElem?_cons_succ, List.getElem?_cons_zero]; rfl) (fun K hK => ?_)
      go_simp
      (refine (law14_ref x y a b _).mono ?_); rintro e w2 ⟨rfl, hb2⟩; (have hk2 : Below w1.heap.size w1 w2 := Below.next hH hb2); (try (have hblk8 := hblk8.below hb2)); go_simp
      refine hK.out _ _ (by assumption) (fun hH => ?_)
      clear hK K
      try simp only [Act.put, List.setIfInBounds_toArray, List.set_cons_zero, List.set_cons_succ]
      refine wpK.take (i := 5) (v := _) (by simp only [List.getElem?_toArray, List.getElem?_cons_succ, List.getElem?_cons_zero]; rfl) (by kernel_rfl) (by kernel_rfl) (by kernel_rfl) (by kernel_rfl) (by kernel_rfl) (by exact fun _ _ _ h => h) (by first | exact Or.inl ⟨by rfl, by intro w hSw; go_simp; try with_reducible rfl⟩ | exact Or.inr ⟨by rfl, rfl⟩) hH ?_
      try simp only [Act.put, List.setIfInBounds_toArray, List.set_cons_zero, List.set_cons_succ]
      refine wpK.late (i := 7) (by kernel_rfl) (by simp only [List.getElem?_toArray, List.getElem?_cons_succ, List.getElem?_cons_zero]; rfl) (by kernel_rfl) (fun K hK => ?_)
      (obtain ⟨p0, p1, p2, p3, p4⟩ := hblk8.c5g); (have f0 := hblk8.unfrozen 0); (have f1 := hblk8.unfrozen 1); (have f2 := hblk8.unfrozen 2); (have f3 := hblk8.unfrozen 3); (have f4 := hblk8.unfrozen 4); (obtain ⟨wz, hwz, hkz, huz⟩ := set5g hblk8 (.int .i64 x) (.int .i64 y) (.int .i64 a) (.int .i64 b) (.int .i64 ov)); (have HBZ : Hid (Below w1.heap.size w1 wz) := hid (hH.trans (huz.below hH.size (fun k _ q => by rw [q]; exact hgl.out)))); (have HWZ := hid hwz); (have HKZ := hid hkz); clear hwz hkz huz; go_simp; (try rw [← HWZ.out])
      refine hK.out _ _ ?_
      clear hK K
      try simp only [Act.put, List.setIfInBounds_toArray, List.set_cons_zero, List.set_cons_succ]
      refine wpK.done (by kernel_rfl) ?_ _
      go_wp2_with fail
      go_meet
      exact ⟨g8, rfl, HKZ, hgl, HBZ⟩
  case rest =>
  rename World => w2
  obtain ⟨b8, rfl, HK8, HL8, HB8⟩ := hcut
  have HN8 : Hid (¬ F b8) := hid (fun q => by have h1 := HFL.out b8 q; have h2 := HL8.out; have h3 := HB.out.size; omega)
  have HBA := hid (Below.next HB.out HB8.out)
  have HX2 := hid (HX.out.below HB8.out)
  have H2 := hid (H.out.below HBA.out)
  obtain ⟨c0, c1, c2, c3, c4⟩ := HK8.out.c5g
  clear hX
  go_wp2_with fail
  refine (ref14_Find w2 H2.out.l (by have := HL.out; omega) x y a b ov).mono ?_
  rintro e w3 ⟨r, rfl, hfr, hb3⟩
  have HFR := hid hfr
  have HB3 := hid (Below.next HBA.out hb3)
  have HX3 := hid (HX2.out.below hb3)
  have HK3 := hid (HK8.out.below hb3)
  have H3 := hid (H2.out.below hb3)
  clear hfr hb3 c0 c1 c2 c3 c4 HX HK8 HX2 H2
  obtain ⟨o0, o1, o2, o3, o4, o5, o6⟩ : w3.cell? ⟨g5, 0, none⟩ = some (.int .i64 k) ∧ w3.cell? ⟨g5, 1, none⟩ = some (.int .i64 ov) ∧ w3.cell? ⟨g5, 2, none⟩ = some (.int .i64 oi) ∧ w3.cell? ⟨g5, 3, none⟩ = some (.int .i64 x) ∧ w3.cell? ⟨g5, 4, none⟩ = some (.int .i64 y) ∧ w3.cell? ⟨g5, 5, none⟩ = some (.int .i64 a) ∧ w3.cell? ⟨g5, 6, none⟩ = some (.int .i64 b) :=
    ⟨by rw [HX3.out.cell]; rfl, by rw [HX3.out.cell]; rfl, by rw [HX3.out.cell]; rfl, by rw [HX3.out.cell]; rfl, by rw [HX3.out.cell]; rfl, by rw [HX3.out.cell]; rfl, by rw [HX3.out.cell]; rfl⟩
  have HSAME : Hid (∀ L', L' = L → StepPostG w F s L' v (.returned (.tuple #[v, .bool true])) w3) := hid (fun L' e => by
    subst e
    exact ⟨F, v, rfl, H3.out, Upd.of_below HB3.out, fun k q => .inl q, .inl rfl⟩)
  by_cases k1 : k = 1
  · subst k1
    have hst : stepG L ⟨1, ov, oi, (x, y, a, b)⟩ = insL L (x, y, a, b) ov := by
      unfold stepG
      rw [if_pos rfl]
    have hins := rt_Insert4 w3 s F L x y a b ov H3.out.t (by have := HL.out; omega)
    have HST := hid hst
    obtain ⟨q, hq⟩ : ∃ q, rightR (x, y, a, b) = q := ⟨_, rfl⟩
    have HQ := hid hq
    have hkeep : ∀ (F' : Nat → Prop) (w4 w5 : World), TreeIs w4 s F' L → Upd F w3 w4 → (∀ k, F' k → F k ∨ w3.heap.size ≤ k) → Below w4.heap.size w4 w5 → stepG L ⟨1, ov, oi, (x, y, a, b)⟩ = L → StepPostG w F s (stepG L ⟨1, ov, oi, (x, y, a, b)⟩) v (.returned (.tuple #[v, .bool true])) w5 := fun F' w4 w5 ht hu hF hb5 e => by
      rw [e]
      have hz := HB3.out.size
      have hz4 := hu.size
      have hz5 := hb5.size
      refine ⟨F', v, rfl, ⟨ht.below hb5, (H3.out.l.upd hu H3.out.apart).below hb5, fun k q1 q2 => ?_, H3.out.nd, fun k q1 => Nat.lt_of_lt_of_le (H3.out.low k q1) (by omega)⟩, ((Upd.of_below HB3.out).trans hu (fun _ _ q => q)).trans (Upd.of_below hb5) (fun _ _ q => q), fun k q => (hF k q).imp id (fun z => by omega), .inl rfl⟩
      rcases hF k q2 with z | z
      · exact H3.out.apart k q1 z
      · have := H3.out.low k q1; omega
    have HKEEP := hid hkeep
    cases q with
    | false =>
      have e1 : insE L (x, y, a, b) ov = 11 := by unfold insE; rw [if_pos hq]
      have e2 : insL L (x, y, a, b) ov = L := by unfold insL; rw [e1]; rfl
      rw [e1, e2] at hins
      rw [e2] at hst
      have HINS := hid hins
      have HST2 := hid hst
      clear hins e1 e2 hst HSAME HST hq hkeep
      go_wp2_with fail
      refine HINS.out.mono ?_
      intro e w4 hq
      obtain ⟨F', rfl, ht, hu, hF⟩ := hq
      have HK4 := hid (HK3.out.upd hu HN8.out)
      have HT := hid (And.intro ht (And.intro hu hF))
      obtain ⟨c0, c1, c2, c3, c4⟩ := HK4.out.c5g
      clear ht hu hF o0 o1 o2 o3 o4 o5 o6
      go_wp2_with fail
      refine (ref02_Right4 x y a b false HQ w4).mono ?_
      rintro e w5 ⟨rfl, hb5⟩
      have HP := hid (HKEEP.out F' w4 w5 HT.out.1 HT.out.2.1 HT.out.2.2 hb5 HST2.out)
      clear hb5 c0 c1 c2 c3 c4
      go_wp2_with fail
      go_ret2
      exact HP.out
    | true =>
      rcases HFR.out with ⟨i, rfl, hi, hxi⟩ | ⟨rfl, hx⟩
      · have hxm : (((x, y, a, b), ov) : Tg) ∈ L := List.mem_of_getElem? hxi
        have e1 : insE L (x, y, a, b) ov = 13 := by unfold insE; rw [if_neg (by rw [hq]; simp), if_pos hxm]
        have e2 : insL L (x, y, a, b) ov = L := by unfold insL; rw [e1]; rfl
        rw [e1, e2] at hins
        rw [e2] at hst
        have HINS := hid hins
        have HST2 := hid hst
        have i0 : (0 : Int) ≤ (i : Int) := by omega
        clear hins e1 e2 hst HSAME HST hq hkeep hxm hi hxi
        go_wp2_with fail
        refine HINS.out.mono ?_
        intro e w4 hq
        obtain ⟨F', rfl, ht, hu, hF⟩ := hq
        have HK4 := hid (HK3.out.upd hu HN8.out)
        have HT := hid (And.intro ht (And.intro hu hF))
        obtain ⟨c0, c1, c2, c3, c4⟩ := HK4.out.c5g
        clear ht hu hF o0 o1 o2 o3 o4 o5 o6
        go_wp2_with fail
        refine (ref02_Right4 x y a b true HQ w4).mono ?_
        rintro e w5 ⟨rfl, hb5⟩
        have HP := hid (HKEEP.out F' w4 w5 HT.out.1 HT.out.2.1 HT.out.2.2 hb5 HST2.out)
        clear hb5 c0 c1 c2 c3 c4
        go_wp2_with fail
        go_ret2
        exact HP.out
      · have e1 : insE L (x, y, a, b) ov = 0 := by unfold insE; rw [if_neg (by rw [hq]; simp), if_neg hx]
        have e2 : insL L (x, y, a, b) ov = L ++ [((x, y, a, b), ov)] := by unfold insL; rw [if_pos e1]
        have hnd2 : (L ++ [(((x, y, a, b), ov) : Tg)]).Nodup := by rw [← e2]; exact insL_nodup H3.out.nd
        rw [e1, e2] at hins
        rw [e2] at hst
        have HINS := hid hins
        have HST2 := hid hst
        have HND2 := hid hnd2
        clear hins e1 e2 hst HSAME HST hq hkeep hx hnd2
        go_wp2_with fail
        refine HINS.out.mono ?_
        intro e w4 hq
        obtain ⟨F', rfl, ht, hu, hF⟩ := hq
        have HK4 := hid (HK3.out.upd hu HN8.out)
        have HT := hid (And.intro ht (And.intro hu hF))
        have HSL := hid (H3.out.l.upd hu H3.out.apart)
        obtain ⟨c0, c1, c2, c3, c4⟩ := HK4.out.c5g
        clear ht hu hF o0 o1 o2 o3 o4 o5 o6
        go_wp2_with fail
        refine (ref02_Right4 x y a b true HQ w4).mono ?_
        rintro e w5 ⟨rfl, hb5⟩
        have HK5 := hid (HK4.out.below hb5)
        have HSL5 := hid (HSL.out.below hb5)
        have HB5 := hid hb5
        clear hb5 c0 c1 c2 c3 c4
        have HPOST : Hid (∀ v9 wE, wE.ownsRow w5.heap.size 58 5 v9 (L ++ [(((x, y, a, b), ov) : Tg)]).length (svG (L ++ [((x, y, a, b), ov)])) → Below w5.heap.size w5 wE → StepPostG w F s (stepG L ⟨1, ov, oi, (x, y, a, b)⟩) v (.returned (.tuple #[v9, .bool true])) wE) := hid (fun v9 wE ho hb9 => by
          rw [HST2.out]
          have hz := HB3.out.size
          have hz4 := HT.out.2.1.size
          have hz5 := HB5.out.size
          have hbb := Below.next HB5.out hb9
          refine ⟨fun k => F' k ∧ k < w4.heap.size, v9, rfl, ⟨(HT.out.1.weaken (fun k q1 q2 => ⟨q1, q2⟩)).below hbb, SlG.of_own ho, fun k q1 q2 => by have := (ho.lt k q1).1; omega, HND2.out, fun k q1 => (ho.lt k q1).2⟩, ?_, fun k q => ?_, .inr (fun k q1 => by have := (ho.lt k q1).1; omega)⟩
          · exact ((Upd.of_below HB3.out).trans HT.out.2.1 (fun _ _ q => q)).trans (Upd.of_below hbb) (fun _ _ q => q)
          · rcases HT.out.2.2 k q.1 with z | z
            · exact .inl z
            · exact .inr (by omega))
        go_upto_region 10 with fail
        have p0 : ∀ z, Below w5.heap.size w5 z → z.cell? ⟨b8, 0, none⟩ = some (.int .i64 x) := fun z hz => by rw [(HK5.out.below hz).cell]; rfl
        have p1 : ∀ z, Below w5.heap.size w5 z → z.cell? ⟨b8, 1, none⟩ = some (.int .i64 y) := fun z hz => by rw [(HK5.out.below hz).cell]; rfl
        have p2 : ∀ z, Below w5.heap.size w5 z → z.cell? ⟨b8, 2, none⟩ = some (.int .i64 a) := fun z hz => by rw [(HK5.out.below hz).cell]; rfl
        have p3 : ∀ z, Below w5.heap.size w5 z → z.cell? ⟨b8, 3, none⟩ = some (.int .i64 b) := fun z hz => by rw [(HK5.out.below hz).cell]; rfl
        have p4 : ∀ z, Below w5.heap.size w5 z → z.cell? ⟨b8, 4, none⟩ = some (.int .i64 ov) := fun z hz => by rw [(HK5.out.below hz).cell]; rfl
        have hyd := (Below.refl w5.heap.size w5).drew
        have hl2 := HL.out
        obtain ⟨av, cv, hv, -⟩ := HSL5.out
        subst hv
        refine wp_region_kept [9] (fun z => Below w5.heap.size w5 z) (by kernel_rfl) (by assumption) (fun hH => ?_)
        refine wpK.take (i := 1) (v := _) (by simp only [List.getElem?_toArray, List.getElem?_cons_succ, List.getElem?_cons_zero]; rfl) (by kernel_rfl) (by kernel_rfl) (by kernel_rfl) (by kernel_rfl) (by kernel_rfl) (by exact fun _ _ _ h => h) (by first | exact Or.inl ⟨by rfl, by intro w hSw; go_simp; try with_reducible rfl⟩ | exact Or.inr ⟨by rfl, rfl⟩) hH ?_
        try simp only [Act.put, List.setIfInBounds_toArray, List.set_cons_zero, List.set_cons_succ]
        refine wpK.take (i := 3) (v := _) (by simp only [List.getElem?_toArray, List.getElem?_cons_succ, List.getElem?_cons_zero]; rfl) (by kernel_rfl) (by kernel_rfl) (by kernel_rfl) (by kernel_rfl) (by kernel_rfl) (by exact fun _ _ _ h => h) (by first | exact Or.inl ⟨by rfl, by intro w hSw; go_simp; try with_reducible rfl⟩ | exact Or.inr ⟨by rfl, rfl⟩) hH ?_
        try simp only [Act.put, List.setIfInBounds_toArray, List.set_cons_zero, List.set_cons_succ]
        refine wpK.take (i := 6) (v := _) (by simp only [List.getElem?_toArray, List.getElem?_cons_succ, List.getElem?_cons_zero]; rfl) (by kernel_rfl) (by kernel_rfl) (by kernel_rfl) (by kernel_rfl) (by kernel_rfl) (by exact fun _ _ _ h => h) (by first | exact Or.inl ⟨by rfl, by intro w hSw; go_simp; try with_reducible rfl⟩ | exact Or.inr ⟨by rfl, rfl⟩) hH ?_
        try simp only [Act.put, List.setIfInBounds_toArray, List.set_cons_zero, List.set_cons_succ]
        refine wpK.take (i := 7) (v := _) (by simp only [List.getElem?_toArray, List.getElem?_cons_succ, List.getElem?_cons_zero]; rfl) (by kernel_rfl) (by kernel_rfl) (by kernel_rfl) (by kernel_rfl) (by kernel_rfl) (by exact fun _ _ _ h => h) (by first | exact Or.inl ⟨by rfl, by intro w hSw; go_simp; try with_reducible rfl⟩ | exact Or.inr ⟨by rfl, rfl⟩) hH ?_
        try simp only [Act.put, List.setIfInBounds_toArray, List.set_cons_zero, List.set_cons_succ]
        refine wpK.two (i := 0) (j := 4) (by kernel_rfl) (by simp only [List.getElem?_toArray, List.getElem?_cons_succ, List.getElem?_cons_zero]; rfl) (by simp only [List.getElem?_toArray, List.getElem?_cons_succ, List.getElem?_cons_zero]; rfl) (fun K hK => ?_) (fun K hK => ?_)
        · refine step_lit (us := #[]) (e := 58) (size := 5) (ps := #[]) rfl rfl (by simp) (lit_g0 _) rfl (by omega) ?_; intro g0 wB hg0 hb0 hs0 hown0; have hge0 : w5.heap.size ≤ g0 := (by have := hH.size; omega); have hk0 : Below w5.heap.size w5 wB := below_onG hH hb0; try (have hown8 := owns_below hown8 hb0)
          refine hK.out _ _ (by assumption) (fun hH => ?_)
          clear hK K
          try simp only [Act.put, List.setIfInBounds_toArray, List.set_cons_zero, List.set_cons_succ]
          refine wpK.two (i := 2) (j := 4) (by kernel_rfl) (by simp only [List.getElem?_toArray, List.getElem?_cons_succ, List.getElem?_cons_zero]; rfl) (by simp only [List.getElem?_toArray, List.getElem?_cons_succ, List.getElem?_cons_zero]; rfl) (fun K hK => ?_) (fun K hK => ?_)
          · have hrd2 := HSL5.out.below hH; obtain ⟨aa, cc, ee, hrd2, -, -, hcz2⟩ := hrd2; simp only [Value.slice.injEq] at ee; obtain ⟨rfl, -, rfl⟩ := ee; refine step_appN T_g14 rfl _ _ rfl g0 (.slice (some ⟨g0, 0, none⟩) 0 0) 0 [] rfl hown0 av L.length cv (svG L) rfl (svG_length L) (fun _ => hcz2) hrd2 (svG_oneCell L) (by omega) (by have := (hown0.lt g0 rfl).2; omega) ?_; intro v2 wC hown2 hg2 hnil2 hwh2; have hle2 : g0 ≤ wC.heap.size := (by have := hg2.size; have := (hown0.lt g0 rfl).2; omega); (have hk2 : Below w5.heap.size w5 wC := hH.grown hg2 hH.size (fun k hk => by simp [Value.ownBlock] at hk; omega)); try (have hown8 := Upd.owns (Upd.of_grown hg2) hown8 (fun k hk s => by simp [Value.ownBlock] at hk s; omega))
            refine hK.out _ _ (by assumption) (fun hH => ?_)
            clear hK K
            try simp only [Act.put, List.setIfInBounds_toArray, List.set_cons_zero, List.set_cons_succ]
            refine wpK.step (i := 4) (by kernel_rfl) (by simp only [List.getElem?_toArray, List.getElem?_cons_succ, List.getElem?_cons_zero]; rfl) (fun K hK => ?_)
            refine step_lit (us := #[.int .i64 x, .int .i64 y, .int .i64 a, .int .i64 b, .int .i64 ov]) (e := 58) (size := 5) (ps := #[(0, .agg #[.int .i64 x, .int .i64 y, .int .i64 a, .int .i64 b, .int .i64 ov])]) rfl rfl (by simp only [List.map_toArray, List.map_cons, List.map_nil]; rfl) (lit_g1 x y a b ov _) rfl (by omega) ?_; intro g8 wD hg8 hb8 hs8 hown8; have hge8 : w5.heap.size ≤ g8 := (by have := hH.size; omega); have hk8 : Below w5.heap.size w5 wD := below_onG hH hb8; (try have hown2 := owns_below hown2 hb8); (try have hown0 := owns_below hown0 hb8)
            refine hK.out _ _ (by assumption) (fun hH => ?_)
            clear hK K
            try simp only [Act.put, List.setIfInBounds_toArray, List.set_cons_zero, List.set_cons_succ]
            refine wpK.step (i := 5) (by kernel_rfl) (by simp only [List.getElem?_toArray, List.getElem?_cons_succ, List.getElem?_cons_zero]; rfl) (fun K hK => ?_)
            obtain ⟨a8, c8, e8, -, -, hr8, hcz8⟩ := ownsRow.rd hown8; simp only [Value.slice.injEq] at e8; obtain ⟨rfl, -, rfl⟩ := e8; refine step_appN T_g14 rfl _ _ rfl g0 v2 (0 + L.length) ([] ++ svG L) rfl hown2 (some ⟨g8, 0, none⟩) 1 1 _ rfl rfl (fun h => nomatch h) hr8 (by intro u hu; simp at hu; rcases hu with rfl | rfl | rfl | rfl | rfl <;> rfl) (by omega) (by first | omega | (have := hb8.size; omega)) ?_; intro v9 wE hown9 hg9 hnil9 hwh9; (have hk9 : Below w5.heap.size w5 wE := hH.grown hg9 hH.size (fun k hk => by have := (hown2.lt k hk).1; omega))
            refine hK.out _ _ (by assumption) (fun hH => ?_)
            clear hK K
            try simp only [Act.put, List.setIfInBounds_toArray, List.set_cons_zero, List.set_cons_succ]
            refine wpK.take (i := 8) (v := _) (by simp only [List.getElem?_toArray, List.getElem?_cons_succ, List.getElem?_cons_zero]; rfl) (by kernel_rfl) (by kernel_rfl) (by kernel_rfl) (by kernel_rfl) (by kernel_rfl) (by exact fun _ _ _ h => h) (by first | exact Or.inl ⟨by rfl, by intro w hSw; go_simp; try with_reducible rfl⟩ | exact Or.inr ⟨by rfl, rfl⟩) hH ?_
            try simp only [Act.put, List.setIfInBounds_toArray, List.set_cons_zero, List.set_cons_succ]
            refine wpK.late (i := 9) (by kernel_rfl) (by simp only [List.getElem?_toArray, List.getElem?_cons_succ, List.getElem?_cons_zero]; rfl) (by kernel_rfl) (fun K hK => ?_)
            go_simp
            refine hK.out _ _ ?_
            clear hK K
            try simp only [Act.put, List.setIfInBounds_toArray, List.set_cons_zero, List.set_cons_succ]
            refine wpK.done (by kernel_rfl) ?_ _
            have ho9 : wE.ownsRow w5.heap.size 58 5 v9 (L ++ [(((x, y, a, b), ov) : Tg)]).length (svG (L ++ [((x, y, a, b), ov)])) := by rw [svG_append]; exact ownsRow_base (by simpa [svG] using hown9) hge0
            have HO9 := hid ho9
            have HK9 := hid hk9
            clear ho9 hk9 hown9
            go_wp2
            go_ret2
            exact HPOST.out v9 wE HO9.out HK9.out
          · refine step_lit (us := #[.int .i64 x, .int .i64 y, .int .i64 a, .int .i64 b, .int .i64 ov]) (e := 58) (size := 5) (ps := #[(0, .agg #[.int .i64 x, .int .i64 y, .int .i64 a, .int .i64 b, .int .i64 ov])]) rfl rfl (by simp only [List.map_toArray, List.map_cons, List.map_nil]; rfl) (lit_g1 x y a b ov _) rfl (by omega) ?_; intro g8 wD hg8 hb8 hs8 hown8; have hge8 : w5.heap.size ≤ g8 := (by have := hH.size; omega); have hk8 : Below w5.heap.size w5 wD := below_onG hH hb8; (try have hown2 := owns_below hown2 hb8); (try have hown0 := owns_below hown0 hb8)
            refine hK.out _ _ (by assumption) (fun hH => ?_)
            clear hK K
            try simp only [Act.put, List.setIfInBounds_toArray, List.set_cons_zero, List.set_cons_succ]
            refine wpK.step (i := 2) (by kernel_rfl) (by simp only [List.getElem?_toArray, List.getElem?_cons_succ, List.getElem?_cons_zero]; rfl) (fun K hK => ?_)
            have hrd2 := HSL5.out.below hH; obtain ⟨aa, cc, ee, hrd2, -, -, hcz2⟩ := hrd2; simp only [Value.slice.injEq] at ee; obtain ⟨rfl, -, rfl⟩ := ee; refine step_appN T_g14 rfl _ _ rfl g0 (.slice (some ⟨g0, 0, none⟩) 0 0) 0 [] rfl hown0 av L.length cv (svG L) rfl (svG_length L) (fun _ => hcz2) hrd2 (svG_oneCell L) (by omega) (by have := (hown0.lt g0 rfl).2; omega) ?_; intro v2 wC hown2 hg2 hnil2 hwh2; have hle2 : g0 ≤ wC.heap.size := (by have := hg2.size; have := (hown0.lt g0 rfl).2; omega); (have hk2 : Below w5.heap.size w5 wC := hH.grown hg2 hH.size (fun k hk => by simp [Value.ownBlock] at hk; omega)); try (have hown8 := Upd.owns (Upd.of_grown hg2) hown8 (fun k hk s => by simp [Value.ownBlock] at hk s; omega))
            refine hK.out _ _ (by assumption) (fun hH => ?_)
            clear hK K
            try simp only [Act.put, List.setIfInBounds_toArray, List.set_cons_zero, List.set_cons_succ]
            refine wpK.step (i := 5) (by kernel_rfl) (by simp only [List.getElem?_toArray, List.getElem?_cons_succ, List.getElem?_cons_zero]; rfl) (fun K hK => ?_)
            obtain ⟨a8, c8, e8, -, -, hr8, hcz8⟩ := ownsRow.rd hown8; simp only [Value.slice.injEq] at e8; obtain ⟨rfl, -, rfl⟩ := e8; refine step_appN T_g14 rfl _ _ rfl g0 v2 (0 + L.length) ([] ++ svG L) rfl hown2 (some ⟨g8, 0, none⟩) 1 1 _ rfl rfl (fun h => nomatch h) hr8 (by intro u hu; simp at hu; rcases hu with rfl | rfl | rfl | rfl | rfl <;> rfl) (by omega) (by first | omega | (have := hb8.size; omega)) ?_; intro v9 wE hown9 hg9 hnil9 hwh9; (have hk9 : Below w5.heap.size w5 wE := hH.grown hg9 hH.size (fun k hk => by have := (hown2.lt k hk).1; omega))
            refine hK.out _ _ (by assumption) (fun hH => ?_)
            clear hK K
            try simp only [Act.put, List.setIfInBounds_toArray, List.set_cons_zero, List.set_cons_succ]
            refine wpK.take (i := 8) (v := _) (by simp only [List.getElem?_toArray, List.getElem?_cons_succ, List.getElem?_cons_zero]; rfl) (by kernel_rfl) (by kernel_rfl) (by kernel_rfl) (by kernel_rfl) (by kernel_rfl) (by exact fun _ _ _ h => h) (by first | exact Or.inl ⟨by rfl, by intro w hSw; go_simp; try with_reducible rfl⟩ | exact Or.inr ⟨by rfl, rfl⟩) hH ?_
            try simp only [Act.put, List.setIfInBounds_toArray, List.set_cons_zero, List.set_cons_succ]
            refine wpK.late (i := 9) (by kernel_rfl) (by simp only [List.getElem?_toArray, List.getElem?_cons_succ, List.getElem?_cons_zero]; rfl) (by kernel_rfl) (fun K hK => ?_)
            go_simp
            refine hK.out _ _ ?_
            clear hK K
            try simp only [Act.put, List.setIfInBounds_toArray, List.set_cons_zero, List.set_cons_succ]
            refine wpK.done (by kernel_rfl) ?_ _
            have ho9 : wE.ownsRow w5.heap.size 58 5 v9 (L ++ [(((x, y, a, b), ov) : Tg)]).length (svG (L ++ [((x, y, a, b), ov)])) := by rw [svG_append]; exact ownsRow_base (by simpa [svG] using hown9) hge0
            have HO9 := hid ho9
            have HK9 := hid hk9
            clear ho9 hk9 hown9
            go_wp2
            go_ret2
            exact HPOST.out v9 wE HO9.out HK9.out
        · refine step_lit (us := #[.int .i64 x, .int .i64 y, .int .i64 a, .int .i64 b, .int .i64 ov]) (e := 58) (size := 5) (ps := #[(0, .agg #[.int .i64 x, .int .i64 y, .int .i64 a, .int .i64 b, .int .i64 ov])]) rfl rfl (by simp only [List.map_toArray, List.map_cons, List.map_nil]; rfl) (lit_g1 x y a b ov _) rfl (by omega) ?_; intro g8 wD hg8 hb8 hs8 hown8; have hge8 : w5.heap.size ≤ g8 := (by have := hH.size; omega); have hk8 : Below w5.heap.size w5 wD := below_onG hH hb8; (try have hown2 := owns_below hown2 hb8); (try have hown0 := owns_below hown0 hb8)
          refine hK.out _ _ (by assumption) (fun hH => ?_)
          clear hK K
          try simp only [Act.put, List.setIfInBounds_toArray, List.set_cons_zero, List.set_cons_succ]
          refine wpK.step (i := 0) (by kernel_rfl) (by simp only [List.getElem?_toArray, List.getElem?_cons_succ, List.getElem?_cons_zero]; rfl) (fun K hK => ?_)
          refine step_lit (us := #[]) (e := 58) (size := 5) (ps := #[]) rfl rfl (by simp) (lit_g0 _) rfl (by omega) ?_; intro g0 wB hg0 hb0 hs0 hown0; have hge0 : w5.heap.size ≤ g0 := (by have := hH.size; omega); have hk0 : Below w5.heap.size w5 wB := below_onG hH hb0; try (have hown8 := owns_below hown8 hb0)
          refine hK.out _ _ (by assumption) (fun hH => ?_)
          clear hK K
          try simp only [Act.put, List.setIfInBounds_toArray, List.set_cons_zero, List.set_cons_succ]
          refine wpK.step (i := 2) (by kernel_rfl) (by simp only [List.getElem?_toArray, List.getElem?_cons_succ, List.getElem?_cons_zero]; rfl) (fun K hK => ?_)
          have hrd2 := HSL5.out.below hH; obtain ⟨aa, cc, ee, hrd2, -, -, hcz2⟩ := hrd2; simp only [Value.slice.injEq] at ee; obtain ⟨rfl, -, rfl⟩ := ee; refine step_appN T_g14 rfl _ _ rfl g0 (.slice (some ⟨g0, 0, none⟩) 0 0) 0 [] rfl hown0 av L.length cv (svG L) rfl (svG_length L) (fun _ => hcz2) hrd2 (svG_oneCell L) (by omega) (by have := (hown0.lt g0 rfl).2; omega) ?_; intro v2 wC hown2 hg2 hnil2 hwh2; have hle2 : g0 ≤ wC.heap.size := (by have := hg2.size; have := (hown0.lt g0 rfl).2; omega); (have hk2 : Below w5.heap.size w5 wC := hH.grown hg2 hH.size (fun k hk => by simp [Value.ownBlock] at hk; omega)); try (have hown8 := Upd.owns (Upd.of_grown hg2) hown8 (fun k hk s => by simp [Value.ownBlock] at hk s; omega))
          refine hK.out _ _ (by assumption) (fun hH => ?_)
          clear hK K
          try simp only [Act.put, List.setIfInBounds_toArray, List.set_cons_zero, List.set_cons_succ]
          refine wpK.step (i := 5) (by kernel_rfl) (by simp only [List.getElem?_toArray, List.getElem?_cons_succ, List.getElem?_cons_zero]; rfl) (fun K hK => ?_)
          obtain ⟨a8, c8, e8, -, -, hr8, hcz8⟩ := ownsRow.rd hown8; simp only [Value.slice.injEq] at e8; obtain ⟨rfl, -, rfl⟩ := e8; refine step_appN T_g14 rfl _ _ rfl g0 v2 (0 + L.length) ([] ++ svG L) rfl hown2 (some ⟨g8, 0, none⟩) 1 1 _ rfl rfl (fun h => nomatch h) hr8 (by intro u hu; simp at hu; rcases hu with rfl | rfl | rfl | rfl | rfl <;> rfl) (by omega) (by first | omega | (have := hb8.size; omega)) ?_; intro v9 wE hown9 hg9 hnil9 hwh9; (have hk9 : Below w5.heap.size w5 wE := hH.grown hg9 hH.size (fun k hk => by have := (hown2.lt k hk).1; omega))
          refine hK.out _ _ (by assumption) (fun hH => ?_)
          clear hK K
          try simp only [Act.put, List.setIfInBounds_toArray, List.set_cons_zero, List.set_cons_succ]
          refine wpK.take (i := 8) (v := _) (by simp only [List.getElem?_toArray, List.getElem?_cons_succ, List.getElem?_cons_zero]; rfl) (by kernel_rfl) (by kernel_rfl) (by kernel_rfl) (by kernel_rfl) (by kernel_rfl) (by exact fun _ _ _ h => h) (by first | exact Or.inl ⟨by rfl, by intro w hSw; go_simp; try with_reducible rfl⟩ | exact Or.inr ⟨by rfl, rfl⟩) hH ?_
          try simp only [Act.put, List.setIfInBounds_toArray, List.set_cons_zero, List.set_cons_succ]
          refine wpK.late (i := 9) (by kernel_rfl) (by simp only [List.getElem?_toArray, List.getElem?_cons_succ, List.getElem?_cons_zero]; rfl) (by kernel_rfl) (fun K hK => ?_)
          go_simp
          refine hK.out _ _ ?_
          clear hK K
          try simp only [Act.put, List.setIfInBounds_toArray, List.set_cons_zero, List.set_cons_succ]
          refine wpK.done (by kernel_rfl) ?_ _
          have ho9 : wE.ownsRow w5.heap.size 58 5 v9 (L ++ [(((x, y, a, b), ov) : Tg)]).length (svG (L ++ [((x, y, a, b), ov)])) := by rw [svG_append]; exact ownsRow_base (by simpa [svG] using hown9) hge0
          have HO9 := hid ho9
          have HK9 := hid hk9
          clear ho9 hk9 hown9
          go_wp2
          go_ret2
          exact HPOST.out v9 wE HO9.out HK9.out
  · by_cases k2 : k = 2
    · subst k2
      have hst : stepG L ⟨2, ov, oi, (x, y, a, b)⟩ = L.erase ((x, y, a, b), ov) := by
        unfold stepG
        rw [if_neg k1, if_pos rfl]
      have hdel := rt_Delete4 w3 s F L x y a b ov H3.out.t (by have := HL.out; omega)
      have HST := hid hst
      rcases HFR.out with ⟨i, rfl, hi, hxi⟩ | ⟨rfl, hx⟩
      · have hxm : (((x, y, a, b), ov) : Tg) ∈ L := List.mem_of_getElem? hxi
        have e1 : delE L ((x, y, a, b), ov) = 0 := by unfold delE; rw [if_pos hxm]
        rw [e1] at hdel
        have HDEL := hid hdel
        have HIX := hid (eraseIdx_erase H3.out.nd hxi)
        have i0 : ¬ (i : Int) < 0 := by omega
        clear hdel hxm e1 hi hxi hst HSAME
        go_wp2_with fail
        refine HDEL.out.mono ?_
        intro e w4 hq
        obtain ⟨F', rfl, ht, hu, hF⟩ := hq
        have HU := hid hu
        have HF := hid hF
        have hsl : SlG w4 v L := H3.out.l.upd hu H3.out.apart
        have HSL := hid hsl
        have HT := hid ht
        clear ht hu hF hsl o0 o1 o2 o3 o4 o5 o6
        go_wp2_with fail
        refine (ref14_Without w4 HSL.out (by have := HL.out; omega) i).mono ?_
        rintro e w5 ⟨v', rfl, hown, hb5⟩
        rw [HIX.out] at hown
        have hn2 : (L.erase ((x, y, a, b), ov)).Nodup := H3.out.nd.sublist List.erase_sublist
        have HP : Hid (StepPostG w F s (stepG L ⟨2, ov, oi, (x, y, a, b)⟩) v (.returned (.tuple #[v', .bool true])) w5) := hid (by
          rw [HST.out]
          have hz := HB3.out.size
          have hz4 := HU.out.size
          refine ⟨fun k => F' k ∧ k < w4.heap.size, v', rfl, ⟨(HT.out.weaken (fun k q1 q2 => ⟨q1, q2⟩)).below hb5, SlG.of_own hown, fun k q1 q2 => by have := (hown.lt k q1).1; omega, hn2, fun k q1 => (hown.lt k q1).2⟩, ?_, fun k q => ?_, .inr (fun k q1 => by have := (hown.lt k q1).1; omega)⟩
          · exact ((Upd.of_below HB3.out).trans HU.out (fun _ _ q => q)).trans (Upd.of_below hb5) (fun _ _ q => q)
          · rcases HF.out k q.1 with z | z
            · exact .inl z
            · exact .inr (by omega))
        clear hown hb5 hn2
        go_wp2_with fail
        go_ret2
        exact HP.out
      · have e1 : delE L ((x, y, a, b), ov) = 14 := by unfold delE; rw [if_neg hx]
        have e2 : L.erase ((x, y, a, b), ov) = L := List.erase_of_not_mem hx
        rw [e1, e2] at hdel
        rw [e2] at hst
        have HDEL := hid hdel
        have HST2 := hid hst
        clear hdel hx e1 e2 hst HSAME HST
        go_wp2_with fail
        refine HDEL.out.mono ?_
        intro e w4 hq
        obtain ⟨F', rfl, ht, hu, hF⟩ := hq
        have HP : Hid (StepPostG w F s (stepG L ⟨2, ov, oi, (x, y, a, b)⟩) v (.returned (.tuple #[v, .bool true])) w4) := hid (by
          rw [HST2.out]
          have hz := HB3.out.size
          have hz4 := hu.size
          refine ⟨F', v, rfl, ⟨ht, H3.out.l.upd hu H3.out.apart, fun k q1 q2 => ?_, H3.out.nd, fun k q1 => Nat.lt_of_lt_of_le (H3.out.low k q1) hz4⟩, (Upd.of_below HB3.out).trans hu (fun _ _ q => q), fun k q => (hF k q).imp id (fun z => by omega), .inl rfl⟩
          rcases hF k q2 with z | z
          · exact H3.out.apart k q1 z
          · have := H3.out.low k q1; omega)
        clear ht hu hF o0 o1 o2 o3 o4 o5 o6
        go_wp2_with fail
        go_ret2
        exact HP.out
    · by_cases k3 : k = 3
      · have hl1 : (L.length : Int) ≤ 200 := by have := HL.out; omega
        by_cases hin : 0 ≤ oi ∧ oi < (L.length : Int)
        · obtain ⟨i, rfl⟩ : ∃ i : Nat, oi = (i : Int) := ⟨oi.toNat, by omega⟩
          have hi : i < L.length := by omega
          have hst : stepG L ⟨k, ov, (i : Int), (x, y, a, b)⟩ = L.eraseIdx i := by
            unfold stepG
            rw [if_neg k1, if_neg k2, if_pos ⟨k3, hin.1, hin.2⟩]
            simp
          have HST := hid hst
          subst k3
          obtain ⟨av, cv, hv, hrd, -⟩ := H3.out.l
          subst hv
          obtain ⟨b0, off, ⟨⟨x1, x2, x3, x4⟩, x5⟩, rfl, d0, d1, d2, d3, d4, hat, -, -⟩ := hrd.five i hi
          simp only at d0 d1 d2 d3 d4
          have hxm : (((x1, x2, x3, x4), x5) : Tg) ∈ L := List.mem_of_getElem? hat
          have HIX := hid (eraseIdx_erase H3.out.nd hat)
          have hdel : ∀ z, Below w3.heap.size w3 z → Calls Try.prog 47 #[.pointer (some ⟨s, 0, none⟩), .agg #[.int .i64 x1, .int .i64 x2, .int .i64 x3, .int .i64 x4], .int .i64 x5] z (RtPost z s F 0 (L.erase ((x1, x2, x3, x4), x5))) := fun z hz => by
            have := rt_Delete4 z s F L x1 x2 x3 x4 x5 (H3.out.t.below hz) (by have := HL.out; omega)
            rw [show delE L ((x1, x2, x3, x4), x5) = 0 by unfold delE; rw [if_pos hxm]] at this
            exact this
          have HDEL := hid hdel
          have hg5 : ¬ F g5 := fun q => by have := HFL.out g5 q; have := HG5.out; omega
          have hb0 : ¬ F b0 := H3.out.apart b0 rfl
          have i0 : (0 : Int) ≤ (i : Int) := by omega
          have i1 : (i : Int) < (L.length : Int) := by omega
          have i2 : (i : Int).toNat = i := by omega
          have i3 : decide (L.length ≤ i) = false := decide_eq_false (by omega)
          clear hdel hxm hat hrd hst hin HSAME
          go_upto_region 18 with fail
          replace o2 := fun (z : World) (hz : Upd F w3 z) => hz.cell o2 hg5
          replace d0 := fun (z : World) (hz : Upd F w3 z) => hz.cell d0 hb0
          replace d1 := fun (z : World) (hz : Upd F w3 z) => hz.cell d1 hb0
          replace d2 := fun (z : World) (hz : Upd F w3 z) => hz.cell d2 hb0
          replace d3 := fun (z : World) (hz : Upd F w3 z) => hz.cell d3 hb0
          replace d4 := fun (z : World) (hz : Upd F w3 z) => hz.cell d4 hb0
          have hyb := (Below.refl w3.heap.size w3).drew
          have hyd : Upd F w3 w3.drew := Upd.of_below hyb
          clear o0 o1 o3 o4 o5 o6
          refine wp_region_kept [21] (fun z => Upd F w3 z) (by kernel_rfl) (by assumption) (fun hH => ?_)
          refine wpK.take (i := 0) (v := _) (by simp only [List.getElem?_toArray, List.getElem?_cons_succ, List.getElem?_cons_zero]; rfl) (by kernel_rfl) (by kernel_rfl) (by kernel_rfl) (by kernel_rfl) (by kernel_rfl) (by exact fun _ _ _ h => h) (by first | exact Or.inl ⟨by rfl, by intro w hSw; go_simp; try with_reducible rfl⟩ | exact Or.inr ⟨by rfl, rfl⟩) hH ?_
          try simp only [Act.put, List.setIfInBounds_toArray, List.set_cons_zero, List.set_cons_succ]
          refine wpK.take (i := 1) (v := _) (by simp only [List.getElem?_toArray, List.getElem?_cons_succ, List.getElem?_cons_zero]; rfl) (by kernel_rfl) (by kernel_rfl) (by kernel_rfl) (by kernel_rfl) (by kernel_rfl) (by exact fun _ _ _ h => h) (by first | exact Or.inl ⟨by rfl, by intro w hSw; go_simp; try with_reducible rfl⟩ | exact Or.inr ⟨by rfl, rfl⟩) hH ?_
          try simp only [Act.put, List.setIfInBounds_toArray, List.set_cons_zero, List.set_cons_succ]
          refine wpK.take (i := 2) (v := _) (by simp only [List.getElem?_toArray, List.getElem?_cons_succ, List.getElem?_cons_zero]; rfl) (by kernel_rfl) (by kernel_rfl) (by kernel_rfl) (by kernel_rfl) (by kernel_rfl) (by exact fun _ _ _ h => h) (by first | exact Or.inl ⟨by rfl, by intro w hSw; go_simp; try with_reducible rfl⟩ | exact Or.inr ⟨by rfl, rfl⟩) hH ?_
          try simp only [Act.put, List.setIfInBounds_toArray, List.set_cons_zero, List.set_cons_succ]
          refine wpK.take (i := 4) (v := _) (by simp only [List.getElem?_toArray, List.getElem?_cons_succ, List.getElem?_cons_zero]; rfl) (by kernel_rfl) (by kernel_rfl) (by kernel_rfl) (by kernel_rfl) (by kernel_rfl) (by exact fun _ _ _ h => h) (by first | exact Or.inl ⟨by rfl, by intro w hSw; go_simp; try with_reducible rfl⟩ | exact Or.inr ⟨by rfl, rfl⟩) hH ?_
          try simp only [Act.put, List.setIfInBounds_toArray, List.set_cons_zero, List.set_cons_succ]
          refine wpK.take (i := 5) (v := _) (by simp only [List.getElem?_toArray, List.getElem?_cons_succ, List.getElem?_cons_zero]; rfl) (by kernel_rfl) (by kernel_rfl) (by kernel_rfl) (by kernel_rfl) (by kernel_rfl) (by exact fun _ _ _ h => h) (by first | exact Or.inl ⟨by rfl, by intro w hSw; go_simp; try with_reducible rfl⟩ | exact Or.inr ⟨by rfl, rfl⟩) hH ?_
          try simp only [Act.put, List.setIfInBounds_toArray, List.set_cons_zero, List.set_cons_succ]
          refine wpK.take (i := 6) (v := _) (by simp only [List.getElem?_toArray, List.getElem?_cons_succ, List.getElem?_cons_zero]; rfl) (by kernel_rfl) (by kernel_rfl) (by kernel_rfl) (by kernel_rfl) (by kernel_rfl) (by exact fun _ _ _ h => h) (by first | exact Or.inl ⟨by rfl, by intro w hSw; go_simp; try with_reducible rfl⟩ | exact Or.inr ⟨by rfl, rfl⟩) hH ?_
          try simp only [Act.put, List.setIfInBounds_toArray, List.set_cons_zero, List.set_cons_succ]
          refine wpK.take (i := 7) (v := _) (by simp only [List.getElem?_toArray, List.getElem?_cons_succ, List.getElem?_cons_zero]; rfl) (by kernel_rfl) (by kernel_rfl) (by kernel_rfl) (by kernel_rfl) (by kernel_rfl) (by exact fun _ _ _ h => h) (by first | exact Or.inl ⟨by rfl, by intro w hSw; go_simp; try with_reducible rfl⟩ | exact Or.inr ⟨by rfl, rfl⟩) hH ?_
          try simp only [Act.put, List.setIfInBounds_toArray, List.set_cons_zero, List.set_cons_succ]
          refine wpK.take (i := 8) (v := _) (by simp only [List.getElem?_toArray, List.getElem?_cons_succ, List.getElem?_cons_zero]; rfl) (by kernel_rfl) (by kernel_rfl) (by kernel_rfl) (by kernel_rfl) (by kernel_rfl) (by exact fun _ _ _ h => h) (by first | exact Or.inl ⟨by rfl, by intro w hSw; go_simp; try with_reducible rfl⟩ | exact Or.inr ⟨by rfl, rfl⟩) hH ?_
          try simp only [Act.put, List.setIfInBounds_toArray, List.set_cons_zero, List.set_cons_succ]
          refine wpK.take (i := 9) (v := _) (by simp only [List.getElem?_toArray, List.getElem?_cons_succ, List.getElem?_cons_zero]; rfl) (by kernel_rfl) (by kernel_rfl) (by kernel_rfl) (by kernel_rfl) (by kernel_rfl) (by exact fun _ _ _ h => h) (by first | exact Or.inl ⟨by rfl, by intro w hSw; go_simp; try with_reducible rfl⟩ | exact Or.inr ⟨by rfl, rfl⟩) hH ?_
          try simp only [Act.put, List.setIfInBounds_toArray, List.set_cons_zero, List.set_cons_succ]
          refine wpK.take (i := 10) (v := _) (by simp only [List.getElem?_toArray, List.getElem?_cons_succ, List.getElem?_cons_zero]; rfl) (by kernel_rfl) (by kernel_rfl) (by kernel_rfl) (by kernel_rfl) (by kernel_rfl) (by exact fun _ _ _ h => h) (by first | exact Or.inl ⟨by rfl, by intro w hSw; go_simp; try with_reducible rfl⟩ | exact Or.inr ⟨by rfl, rfl⟩) hH ?_
          try simp only [Act.put, List.setIfInBounds_toArray, List.set_cons_zero, List.set_cons_succ]
          refine wpK.take (i := 12) (v := _) (by simp only [List.getElem?_toArray, List.getElem?_cons_succ, List.getElem?_cons_zero]; rfl) (by kernel_rfl) (by kernel_rfl) (by kernel_rfl) (by kernel_rfl) (by kernel_rfl) (by exact fun _ _ _ h => h) (by first | exact Or.inl ⟨by rfl, by intro w hSw; go_simp; try with_reducible rfl⟩ | exact Or.inr ⟨by rfl, rfl⟩) hH ?_
          try simp only [Act.put, List.setIfInBounds_toArray, List.set_cons_zero, List.set_cons_succ]
          refine wpK.take (i := 13) (v := _) (by simp only [List.getElem?_toArray, List.getElem?_cons_succ, List.getElem?_cons_zero]; rfl) (by kernel_rfl) (by kernel_rfl) (by kernel_rfl) (by kernel_rfl) (by kernel_rfl) (by exact fun _ _ _ h => h) (by first | exact Or.inl ⟨by rfl, by intro w hSw; go_simp; try with_reducible rfl⟩ | exact Or.inr ⟨by rfl, rfl⟩) hH ?_
          try simp only [Act.put, List.setIfInBounds_toArray, List.set_cons_zero, List.set_cons_succ]
          refine wpK.take (i := 14) (v := _) (by simp only [List.getElem?_toArray, List.getElem?_cons_succ, List.getElem?_cons_zero]; rfl) (by kernel_rfl) (by kernel_rfl) (by kernel_rfl) (by kernel_rfl) (by kernel_rfl) (by exact fun _ _ _ h => h) (by first | exact Or.inl ⟨by rfl, by intro w hSw; go_simp; try with_reducible rfl⟩ | exact Or.inr ⟨by rfl, rfl⟩) hH ?_
          try simp only [Act.put, List.setIfInBounds_toArray, List.set_cons_zero, List.set_cons_succ]
          refine wpK.take (i := 15) (v := _) (by simp only [List.getElem?_toArray, List.getElem?_cons_succ, List.getElem?_cons_zero]; rfl) (by kernel_rfl) (by kernel_rfl) (by kernel_rfl) (by kernel_rfl) (by kernel_rfl) (by exact fun _ _ _ h => h) (by first | exact Or.inl ⟨by rfl, by intro w hSw; go_simp; try with_reducible rfl⟩ | exact Or.inr ⟨by rfl, rfl⟩) hH ?_
          try simp only [Act.put, List.setIfInBounds_toArray, List.set_cons_zero, List.set_cons_succ]
          refine wpK.take (i := 16) (v := _) (by simp only [List.getElem?_toArray, List.getElem?_cons_succ, List.getElem?_cons_zero]; rfl) (by kernel_rfl) (by kernel_rfl) (by kernel_rfl) (by kernel_rfl) (by kernel_rfl) (by exact fun _ _ _ h => h) (by first | exact Or.inl ⟨by rfl, by intro w hSw; go_simp; try with_reducible rfl⟩ | exact Or.inr ⟨by rfl, rfl⟩) hH ?_
          try simp only [Act.put, List.setIfInBounds_toArray, List.set_cons_zero, List.set_cons_succ]
          refine wpK.take (i := 17) (v := _) (by simp only [List.getElem?_toArray, List.getElem?_cons_succ, List.getElem?_cons_zero]; rfl) (by kernel_rfl) (by kernel_rfl) (by kernel_rfl) (by kernel_rfl) (by kernel_rfl) (by exact fun _ _ _ h => h) (by first | exact Or.inl ⟨by rfl, by intro w hSw; go_simp; try with_reducible rfl⟩ | exact Or.inr ⟨by rfl, rfl⟩) hH ?_
          try simp only [Act.put, List.setIfInBounds_toArray, List.set_cons_zero, List.set_cons_succ]
          refine wpK.step (i := 3) (by kernel_rfl) (by simp only [List.getElem?_toArray, List.getElem?_cons_succ, List.getElem?_cons_zero]; rfl) (fun K hK => ?_)
          go_simp
          (refine (ref14_Without _ (H3.out.l.upd hyd H3.out.apart) (by have := HL.out; omega) i).mono ?_); rintro e w6 ⟨v', rfl, hown, hb6⟩; (have hbb6 := Below.next hyb hb6); (have hk6 : Upd F w3 w6 := Upd.of_below hbb6); (have HOWN := hid hown); clear hown; go_simp
          refine hK.out _ _ (by assumption) (fun hH => ?_)
          clear hK K
          try simp only [Act.put, List.setIfInBounds_toArray, List.set_cons_zero, List.set_cons_succ]
          refine wpK.step (i := 11) (by kernel_rfl) (by simp only [List.getElem?_toArray, List.getElem?_cons_succ, List.getElem?_cons_zero]; rfl) (fun K hK => ?_)
          go_simp
          (refine (law14_back x1 x2 x3 x4 _).mono ?_); rintro e w7 ⟨rfl, hb7⟩; (have hbb7 := Below.next hbb6 hb7); (have hk7 : Upd F w3 w7 := Upd.of_below hbb7); (have HB7 := hid hb7); go_simp
          refine hK.out _ _ (by assumption) (fun hH => ?_)
          clear hK K
          try simp only [Act.put, List.setIfInBounds_toArray, List.set_cons_zero, List.set_cons_succ]
          refine wpK.step (i := 18) (by kernel_rfl) (by simp only [List.getElem?_toArray, List.getElem?_cons_succ, List.getElem?_cons_zero]; rfl) (fun K hK => ?_)
          go_simp
          (refine (HDEL.out _ hbb7).mono ?_); rintro e w8 ⟨F', rfl, ht8, hu8, hF8⟩; (have hk8 : Upd F w3 w8 := hk7.trans hu8 (fun _ _ q => q)); (have HT8 := hid ht8); (have HU8 := hid hu8); (have HF8 := hid hF8); clear ht8 hu8 hF8; go_simp
          refine hK.out _ _ (by assumption) (fun hH => ?_)
          clear hK K
          try simp only [Act.put, List.setIfInBounds_toArray, List.set_cons_zero, List.set_cons_succ]
          refine wpK.take (i := 19) (v := _) (by simp only [List.getElem?_toArray, List.getElem?_cons_succ, List.getElem?_cons_zero]; rfl) (by kernel_rfl) (by kernel_rfl) (by kernel_rfl) (by kernel_rfl) (by kernel_rfl) (by exact fun _ _ _ h => h) (by first | exact Or.inl ⟨by rfl, by intro w hSw; go_simp; try with_reducible rfl⟩ | exact Or.inr ⟨by rfl, rfl⟩) hH ?_
          try simp only [Act.put, List.setIfInBounds_toArray, List.set_cons_zero, List.set_cons_succ]
          refine wpK.take (i := 20) (v := _) (by simp only [List.getElem?_toArray, List.getElem?_cons_succ, List.getElem?_cons_zero]; rfl) (by kernel_rfl) (by kernel_rfl) (by kernel_rfl) (by kernel_rfl) (by kernel_rfl) (by exact fun _ _ _ h => h) (by first | exact Or.inl ⟨by rfl, by intro w hSw; go_simp; try with_reducible rfl⟩ | exact Or.inr ⟨by rfl, rfl⟩) hH ?_
          try simp only [Act.put, List.setIfInBounds_toArray, List.set_cons_zero, List.set_cons_succ]
          refine wpK.late (i := 21) (by kernel_rfl) (by simp only [List.getElem?_toArray, List.getElem?_cons_succ, List.getElem?_cons_zero]; rfl) (by kernel_rfl) (fun K hK => ?_)
          go_simp
          refine hK.out _ _ ?_
          clear hK K
          try simp only [Act.put, List.setIfInBounds_toArray, List.set_cons_zero, List.set_cons_succ]
          refine wpK.done (by kernel_rfl) ?_ _
          have hz7 := hbb7.size
          have hz6 := hbb6.size
          have hzz := HB7.out.size
          have hzy := hyb.size
          have HBB := hid hbb7
          have HP : Hid (StepPostG w F s (stepG L ⟨3, ov, (i : Int), (x, y, a, b)⟩) (.slice (some ⟨b0, off, none⟩) L.length cv) (.returned (.tuple #[v', .bool true])) w8) := hid (by
            rw [HST.out]
            have hown := HOWN.out
            have hz3 := HB3.out.size
            refine ⟨F', v', rfl, ⟨by rw [HIX.out]; exact HT8.out, ?_, fun k q1 q2 => ?_, ?_, fun k q1 => ?_⟩, ?_, fun k q => ?_, .inr (fun k q1 => ?_)⟩
            · exact ((SlG.of_own hown).below HB7.out).upd HU8.out (fun k q1 q2 => by have h1 := (hown.lt k q1).1; have h2 := HFL.out k q2; omega)
            · have h1 := hown.lt k q1
              rcases HF8.out k q2 with z | z
              · have := HFL.out k z; omega
              · omega
            · rw [HIX.out]; exact H3.out.nd.sublist List.erase_sublist
            · have h1 := hown.lt k q1; have h2 := HU8.out.size; omega
            · exact ((Upd.of_below HB3.out).trans (Upd.of_below HBB.out) (fun _ _ q => q)).trans HU8.out (fun _ _ q => q)
            · rcases HF8.out k q with z | z
              · exact .inl z
              · exact .inr (by omega)
            · have h1 := hown.lt k q1; omega)
          clear hz7 hz6 hzz hzy hbb7 hbb6 hk6 hk7 hk8 hyb hyd o2 d0 d1 d2 d3 d4
          go_wp2_with fail
          go_ret2
          exact HP.out
        · have hst : stepG L ⟨k, ov, oi, (x, y, a, b)⟩ = L := by
            unfold stepG
            rw [if_neg k1, if_neg k2, if_neg (fun q => hin ⟨q.2.1, q.2.2⟩)]
          have HS := hid (HSAME.out _ hst)
          subst k3
          obtain ⟨av, cv, hv, hrd, -⟩ := H3.out.l
          subst hv
          by_cases h0 : 0 ≤ oi
          · have h1 : ¬ oi < (L.length : Int) := fun q => hin ⟨h0, q⟩
            clear hst hin hrd
            go_wp2_with fail
            go_ret2
            exact HS.out
          · clear hst hin hrd
            go_wp2_with fail
            go_ret2
            exact HS.out
      · have hst : stepG L ⟨k, ov, oi, (x, y, a, b)⟩ = L := by
          unfold stepG
          rw [if_neg k1, if_neg k2, if_neg (fun q => k3 q.1)]
        have HS := hid (HSAME.out _ hst)
        clear hst
        go_wp2_with fail
        go_ret2
        exact HS.out
theorem law14_step (o : OpG) (s : Nat) (F : Nat → Prop) (v : Value) (L : List Tg) (w : World) (h : BothG w s F v L) (hl : L.length ≤ 200) :
    Calls Try.prog 16 #[.pointer (some ⟨s, 0, none⟩), v, opV o] w (StepPostG w F s (stepG L o) v) := by
  obtain ⟨k, ov, oi, x, y, a, b⟩ := o
  refine (law14_step0 k ov oi x y a b s (fun k => F k ∧ k < w.heap.size) v L w ⟨h.t.weaken (fun k q1 q2 => ⟨q1, q2⟩), h.l, fun k q1 q2 => h.apart k q1 q2.1, h.nd, h.low⟩ hl (fun k q => q.2)).mono ?_
  rintro e w' ⟨F', v', h1, h2, h3, h4, h5⟩
  exact ⟨F', v', h1, h2, h3.mono (fun k _ q => q.1), fun k q => (h4 k q).imp (fun z => z.1) id, h5⟩
end Go.Proofs.Ytjbnfppnmljbmaa
end
