/- Joined texts, in this order: QuadCopy. Each one's first remark says what it proves; no condition beyond those that its theorems name. -/
import Derived.Test.YtjbnfppnmljbmaaGreatJLawLandCopies16
section
/- Contracts of quad's copied, Copy. -/
namespace Go.Proofs.YtjbnfppnmljbmaaGreat
open Go.RowKit Go.Deep
open Go.Lib (hid)
set_option linter.unusedVariables false
attribute [local go_sem] Oper.semAt_some

def zS : Sq := ⟨0, 0, []⟩
def CqPost (k : Nat) (w : World) (s : Sq) (e : Ending) (w' : World) : Prop :=
  ∃ s', e = .returned (.agg #[c0S s', .int .u8 s'.v]) ∧ SqAt k w' s' ∧ (blkS k s').Nodup ∧ (∀ q ∈ blkS k s', w.heap.size ≤ q) ∧ (∀ X Y, lvS k s' X Y = lvS k s X Y) ∧ s'.v = s.v ∧ Below w.heap.size w w'
def CqSpec (k : Nat) : Prop := ∀ (s : Sq) (w : World), SqAt k w s → Calls Tryz.prog 65 #[.agg #[c0S s, .int .u8 s.v]] w (CqPost k w s)
structure CqI (k : Nat) (w wr : World) (g1 g2 g3 : Nat) (s : Sq) (ms : List Sq) (i : Nat) : Prop where
  len : ms.length = i
  le : i ≤ 4
  b1 : Blk wr g1 #[.pointer (some ⟨s.b, 0, none⟩), .int .u8 s.v]
  b2 : Blk wr g2 #[.pointer none, .int .u8 0]
  b3 : Blk wr g3 ((ms ++ List.replicate (4 - i) zS).flatMap cellS).toArray
  kids : ∀ m ∈ ms, SqAt k wr m
  nd : (ms.flatMap (blkS k)).Nodup
  lo : ∀ q ∈ ms.flatMap (blkS k), g3 < q ∧ q < wr.heap.size
  lv : ∀ j, j < i → ∀ X Y, lvS k (ms.getD j default) X Y = lvS k (s.ks.getD j default) X Y
  below : Below w.heap.size w wr
theorem c0S_ptr (s : Sq) : ∃ p, c0S s = .pointer p := by unfold c0S; split <;> exact ⟨_, rfl⟩
theorem CqI.next {k : Nat} {w wr wc : World} {g1 g2 g3 : Nat} {s : Sq} {ms : List Sq} {i : Nat} (h : CqI k w wr g1 g2 g3 s ms i) (hi : i < 4) (h12 : g1 < g2 ∧ g2 < g3) {m : Sq} (hb : Below wr.heap.size wr wc) (hg0 : w.heap.size ≤ g1) {wb : World} (hbb : Below wr.heap.size wr wb) (hm : SqAt k wc m) (hnd : (blkS k m).Nodup) (hlo : ∀ q ∈ blkS k m, wb.heap.size ≤ q) (hlv : ∀ X Y, lvS k m X Y = lvS k (s.ks.getD i default) X Y) :
    CqI k w ((wc.setCell ⟨g3, i * 2, none⟩ (c0S m)).setCell ⟨g3, i * 2 + 1, none⟩ (.int .u8 m.v)) g1 g2 g3 s (ms ++ [m]) (i + 1) := by
  obtain ⟨wz, hwz⟩ : ∃ wz, wz = (wc.setCell ⟨g3, i * 2, none⟩ (c0S m)).setCell ⟨g3, i * 2 + 1, none⟩ (.int .u8 m.v) := ⟨_, rfl⟩
  rw [← hwz]
  have hu : Upd (fun b => b = g3) wc wz := by rw [hwz]; exact (Upd.setCell wc g3 _ _).trans (Upd.setCell _ g3 _ _) (fun _ _ q => q)
  have h3 := h.b3.below hb
  have hlt3 := h.b3.lt
  have z1 := hb.size
  have z2 := hu.size
  have z3 := hbb.size
  have h4 : (ms ++ List.replicate (4 - i) zS).length = 4 := by rw [List.length_append, h.len, List.length_replicate]; omega
  have hks := kid_set h4 hi m
  have hset : (ms ++ List.replicate (4 - i) zS).set i m = (ms ++ [m]) ++ List.replicate (4 - (i + 1)) zS := by
    rw [List.set_append_right _ _ (by rw [h.len]; omega), h.len, Nat.sub_self, show 4 - i = (4 - (i + 1)) + 1 by omega, List.replicate_succ, List.set_cons_zero]
    simp
  have hnew : Blk wz g3 (((ms ++ [m]) ++ List.replicate (4 - (i + 1)) zS).flatMap cellS).toArray := by
    rw [← hset, ← hks, hwz]
    have := (h3.set (i * 2) (c0S m)).set (i * 2 + 1) (.int .u8 m.v)
    exact this
  refine ⟨by rw [List.length_append, h.len]; rfl, by omega, (h.b1.below hb).upd hu (by omega), (h.b2.below hb).upd hu (by omega), hnew, ?_, ?_, ?_, ?_, (Below.next h.below hb).trans (hu.below (Nat.le_trans h.below.size z1) (fun b _ q => by omega))⟩
  · intro q hq
    rcases List.mem_append.1 hq with hq | hq
    · exact ((h.kids q hq).below hb).upd hu (fun b hbq e => by
        have := (h.lo b (List.mem_flatMap.2 ⟨q, hq, hbq⟩)).1
        omega)
    · rw [List.mem_singleton] at hq
      subst hq
      exact hm.upd hu (fun b hbq e => by have := hlo b hbq; omega)
  · rw [List.flatMap_append, List.flatMap_cons, List.flatMap_nil, List.append_nil, List.nodup_append]
    refine ⟨h.nd, hnd, fun a ha b hb2 e => ?_⟩
    have := (h.lo a ha).2
    have := hlo b hb2
    omega
  · intro q hq
    rw [List.flatMap_append, List.flatMap_cons, List.flatMap_nil, List.append_nil] at hq
    rcases List.mem_append.1 hq with hq | hq
    · have := h.lo q hq; omega
    · have := hlo q hq
      have := hm.lt q hq
      omega
  · intro j hj X Y
    by_cases e : j < i
    · rw [← h.lv j e X Y]
      simp only [List.getD_eq_getElem?_getD]
      rw [List.getElem?_append_left (by rw [h.len]; exact e)]
    · obtain rfl : j = i := by omega
      rw [← hlv X Y]
      simp only [List.getD_eq_getElem?_getD]
      rw [List.getElem?_append_right (by rw [h.len]; exact Nat.le_refl _), h.len, Nat.sub_self]
      rfl
theorem Blk.c2q {w : World} {g : Nat} {c0 c1 : Value} (h : Blk w g #[c0, c1]) : w.cell? ⟨g, 0, none⟩ = some c0 ∧ w.cell? ⟨g, 1, none⟩ = some c1 := ⟨by rw [h.cell]; rfl, by rw [h.cell]; rfl⟩
theorem set2q {x : World} {g : Nat} {c0 c1 : Value} (h : Blk x g #[c0, c1]) (u0 u1 : Value) : ∃ wz, wz = (x.setCell ⟨g, 0, none⟩ u0).setCell ⟨g, 1, none⟩ u1 ∧ Blk wz g #[u0, u1] ∧ Upd (fun k => k = g) x wz :=
  ⟨_, rfl, by simpa using (h.set 0 u0).set 1 u1, (Upd.setCell x g 0 u0).trans (Upd.setCell _ g 1 u1) (fun _ _ q => q)⟩
set_option maxRecDepth 100000 in
set_option maxHeartbeats 4000000 in
theorem copied_qleaf (k : Nat) (s : Sq) (w : World) (hs : SqAt k w s) (hk : s.ks = []) : Calls Tryz.prog 65 #[.agg #[c0S s, .int .u8 s.v]] w (CqPost k w s) := by
  have HS := hid hs
  have HK := hid hk
  rw [c0S_leaf hk]
  obtain ⟨sv, hsv⟩ : ∃ sv, s.v = sv := ⟨_, rfl⟩
  rw [hsv]
  have HSV := hid hsv
  clear hs hk hsv
  go_enter Tryz.func65, Tryz.ntmps65
  go_upto_region 1 with fail
  generalize hW : World.alloc (World.alloc w _) _ = w1
  obtain ⟨g1, hg1⟩ : ∃ g, g = w.heap.size := ⟨_, rfl⟩
  obtain ⟨g2, hg2⟩ : ∃ g, g = w.heap.size + 1 := ⟨_, rfl⟩
  have hz : (World.alloc w (.cells #[.pointer none, .int .u8 sv] 107)).heap.size = w.heap.size + 1 := by simp
  try rw [hz]
  try rw [← hg2]
  try rw [← hg1]
  have hb1 : Below w.heap.size w w1 := by rw [← hW]; exact Below.next (Below.new _ _) (Below.new _ _)
  have h1 : Blk w1 g1 #[.pointer none, .int .u8 sv] := by rw [← hW, hg1]; exact (Blk.new w _ _).below (Below.new _ _)
  have h2 : Blk w1 g2 #[.pointer none, .int .u8 0] := by rw [← hW, hg2, ← hz]; exact Blk.new _ _ _
  have HB1 := hid hb1
  have HG := hid hg2
  clear hW hg1 hg2 hz hb1
  obtain ⟨x0, x1⟩ := h1.c2q
  obtain ⟨p0, p1⟩ := h2.c2q
  have f0 := h2.unfrozen 0
  have f1 := h2.unfrozen 1
  obtain ⟨wz, hwz, hkz, huz⟩ := set2q h2 (.pointer none) (.int .u8 sv)
  have HWZ := hid hwz
  have HKZ := hid hkz
  have HBZ := hid (HB1.out.trans (huz.below HB1.out.size (fun b _ e => by have := HG.out; omega)))
  clear hwz hkz huz h1 h2
  go_wp2_with fail
  try rw [← HWZ.out]
  obtain ⟨y0, y1⟩ := HKZ.out.c2q
  refine bodyPost_ret (results_cell1 rfl _ _ _ rfl (by go_simp; rfl)) rfl ?_
  refine ⟨s, by rw [c0S_leaf HK.out, HSV.out], HS.out.below HBZ.out, ?_, ?_, fun _ _ => rfl, rfl, HBZ.out⟩
  · cases k with
    | zero => simp [blkS]
    | succ k => simp [blkS, HK.out]
  · cases k with
    | zero => simp [blkS]
    | succ k => simp [blkS, HK.out]
set_option maxRecDepth 100000 in
set_option maxHeartbeats 8000000 in
theorem copied_qnode (k : Nat) (ih : CqSpec k) (s : Sq) (w : World) (hs : SqAt (k + 1) w s) (hk : s.ks ≠ []) : Calls Tryz.prog 65 #[.agg #[c0S s, .int .u8 s.v]] w (CqPost (k + 1) w s) := by
  have HIH := hid ih
  obtain ⟨hby, hcase⟩ := hs
  rcases hcase with e | ⟨h4, hblk, hkids⟩
  · exact absurd e hk
  have HS : Hid (s.ks.length = 4 ∧ Blk w s.b (s.ks.flatMap cellS).toArray ∧ ∀ m ∈ s.ks, SqAt k w m) := hid ⟨h4, hblk, hkids⟩
  have HK := hid hk
  have HBY := hid hby
  rw [c0S_node hk]
  obtain ⟨sv, hsv⟩ : ∃ sv, s.v = sv := ⟨_, rfl⟩
  obtain ⟨sb, hsb⟩ : ∃ sb, s.b = sb := ⟨_, rfl⟩
  rw [hsv, hsb]
  have HSV := hid (And.intro hsv hsb)
  clear hk hsv hsb ih hby h4 hblk hkids
  go_enter Tryz.func65, Tryz.ntmps65
  go_upto_region 1 with fail
  generalize hW : World.alloc (World.alloc w _) _ = w1
  obtain ⟨g1, hg1⟩ : ∃ g, g = w.heap.size := ⟨_, rfl⟩
  obtain ⟨g2, hg2⟩ : ∃ g, g = w.heap.size + 1 := ⟨_, rfl⟩
  have hz : (World.alloc w (.cells #[.pointer (some ⟨sb, 0, none⟩), .int .u8 sv] 107)).heap.size = w.heap.size + 1 := by simp
  try rw [hz]
  try rw [← hg2]
  try rw [← hg1]
  have hb1 : Below w.heap.size w w1 := by rw [← hW]; exact Below.next (Below.new _ _) (Below.new _ _)
  have h1 : Blk w1 g1 #[.pointer (some ⟨sb, 0, none⟩), .int .u8 sv] := by rw [← hW, hg1]; exact (Blk.new w _ _).below (Below.new _ _)
  have H1 := hid h1
  have H2 : Hid (Blk w1 g2 #[.pointer none, .int .u8 0]) := hid (by rw [← hW, hg2, ← hz]; exact Blk.new _ _ _)
  have HB1 := hid hb1
  have HG : Hid (g1 = w.heap.size ∧ g2 = w.heap.size + 1 ∧ w1.heap.size = w.heap.size + 2) := hid ⟨hg1, hg2, by rw [← hW]; simp⟩
  clear hW hg1 hg2 hz hb1
  obtain ⟨x0, x1⟩ := h1.c2q
  clear h1
  go_upto_region 3 with fail
  obtain ⟨w3, hw3⟩ : ∃ w3, w3 = w1.alloc (.cells #[.pointer none, .int .u8 0, .pointer none, .int .u8 0, .pointer none, .int .u8 0, .pointer none, .int .u8 0] 142) := ⟨_, rfl⟩
  try rw [← hw3]
  obtain ⟨g3, hg3⟩ : ∃ g, g = w1.heap.size := ⟨_, rfl⟩
  try rw [← hg3]
  have hb3 : Below w1.heap.size w1 w3 := by rw [hw3]; exact Below.new _ _
  have HG3 : Hid (g1 = w.heap.size ∧ g2 = w.heap.size + 1 ∧ g3 = w.heap.size + 2) := hid (by have := HG.out; omega)
  have HI0 : Hid (CqI k w w3 g1 g2 g3 s [] 0) := hid (by
    refine ⟨rfl, by omega, ?_, H2.out.below hb3, ?_, by simp, by simp, by simp, fun j hj => by omega, Below.next HB1.out hb3⟩
    · rw [HSV.out.1, HSV.out.2]; exact H1.out.below hb3
    · rw [hw3, hg3]; exact Blk.new _ _ _)
  clear hw3 hg3 hb3 x0 x1
  obtain ⟨x0, x1⟩ := HI0.out.b1.c2q
  rw [HSV.out.2] at x0
  go_wp2_with fail
  go_loopw [13] (fun v13 wr => ∃ (i : Nat) (ms : List Sq), v13 = .int .i64 (i : Int) ∧ i ≤ 4 ∧ Hid (CqI k w wr g1 g2 g3 s ms i)) (fun v13 _ => 4 - (intOf v13).toNat)
  case atStart => exact ⟨0, [], rfl, by omega, HI0⟩
  case round =>
    clear HI0 x0 x1
    obtain ⟨i, ms, rfl, hi4, HI⟩ := hrel
    by_cases hlt : i < 4
    · have i1 : (i : Int) < 4 := by omega
      have i0 : (0 : Int) ≤ (i : Int) := by omega
      have i2 : (i : Int).toNat = i := by omega
      have i3 : decide (4 ≤ i) = false := decide_eq_false (by omega)
      have HKB := hid (HS.out.2.1.below HI.out.below)
      obtain ⟨e0, e1⟩ := kid_cells HS.out.1 hlt
      obtain ⟨m, hm⟩ : ∃ m, s.ks.getD i default = m := ⟨_, rfl⟩
      rw [hm] at e0 e1
      have HM : Hid (s.ks.getD i default = m) := hid hm
      have HMK : Hid (SqAt k w m) := hid (HS.out.2.2 m (by
        rw [← hm, List.getD_eq_getElem?_getD, List.getElem?_eq_getElem (by rw [HS.out.1]; exact hlt)]
        exact List.getElem_mem _))
      obtain ⟨p, hp⟩ := c0S_ptr m
      obtain ⟨mv, hmv⟩ : ∃ mv, m.v = mv := ⟨_, rfl⟩
      rw [hp] at e0
      rw [hmv] at e1
      have c0 : wr.cell? ⟨sb, i * 2, none⟩ = some (.pointer p) := by have := HKB.out; rw [HSV.out.2] at this; rw [this.cell, e0]
      have c1 : wr.cell? ⟨sb, i * 2 + 1, none⟩ = some (.int .u8 mv) := by have := HKB.out; rw [HSV.out.2] at this; rw [this.cell, e1]
      have HIHM : Hid (∀ z, Below wr.heap.size wr z → Calls Tryz.prog 65 #[.agg #[.pointer p, .int .u8 mv]] z (CqPost k z m)) := hid (fun z hz => by
        have := HIH.out m z ((HMK.out.below HI.out.below).below hz)
        rw [hp, hmv] at this
        exact this)
      clear e0 e1 hm hp hmv
      go_upto_region 5 with fail
      replace c0 := fun (z : World) (hz : Below wr.heap.size wr z) => cellOf_belowR hz c0
      replace c1 := fun (z : World) (hz : Below wr.heap.size wr z) => cellOf_belowR hz c1
      have hyd := (Below.refl wr.heap.size wr).drew
      refine wp_region_kept [6] (fun z => Below wr.heap.size wr z) (by kernel_rfl) (by assumption) (fun hH => ?_)
      refine wpK.take (i := 0) (v := _) (by simp only [List.getElem?_toArray, List.getElem?_cons_succ, List.getElem?_cons_zero]; rfl) (by kernel_rfl) (by kernel_rfl) (by kernel_rfl) (by kernel_rfl) (by kernel_rfl) (by exact fun _ _ _ h => h) (by first | exact Or.inl ⟨by rfl, by intro w hSw; go_simp; try with_reducible rfl⟩ | exact Or.inr ⟨by rfl, rfl⟩) hH ?_
      try simp only [Act.put, List.setIfInBounds_toArray, List.set_cons_zero, List.set_cons_succ]
      refine wpK.take (i := 1) (v := _) (by simp only [List.getElem?_toArray, List.getElem?_cons_succ, List.getElem?_cons_zero]; rfl) (by kernel_rfl) (by kernel_rfl) (by kernel_rfl) (by kernel_rfl) (by kernel_rfl) (by exact fun _ _ _ h => h) (by first | exact Or.inl ⟨by rfl, by intro w hSw; go_simp; try with_reducible rfl⟩ | exact Or.inr ⟨by rfl, rfl⟩) hH ?_
      try simp only [Act.put, List.setIfInBounds_toArray, List.set_cons_zero, List.set_cons_succ]
      refine wpK.take (i := 2) (v := _) (by simp only [List.getElem?_toArray, List.getElem?_cons_succ, List.getElem?_cons_zero]; rfl) (by kernel_rfl) (by kernel_rfl) (by kernel_rfl) (by kernel_rfl) (by kernel_rfl) (by exact fun _ _ _ h => h) (by first | exact Or.inl ⟨by rfl, by intro w hSw; go_simp; try with_reducible rfl⟩ | exact Or.inr ⟨by rfl, rfl⟩) hH ?_
      try simp only [Act.put, List.setIfInBounds_toArray, List.set_cons_zero, List.set_cons_succ]
      refine wpK.take (i := 3) (v := _) (by simp only [List.getElem?_toArray, List.getElem?_cons_succ, List.getElem?_cons_zero]; rfl) (by kernel_rfl) (by kernel_rfl) (by kernel_rfl) (by kernel_rfl) (by kernel_rfl) (by exact fun _ _ _ h => h) (by first | exact Or.inl ⟨by rfl, by intro w hSw; go_simp; try with_reducible rfl⟩ | exact Or.inr ⟨by rfl, rfl⟩) hH ?_
      try simp only [Act.put, List.setIfInBounds_toArray, List.set_cons_zero, List.set_cons_succ]
      refine wpK.step (i := 4) (by kernel_rfl) (by simp only [List.getElem?_toArray, List.getElem?_cons_succ, List.getElem?_cons_zero]; rfl) (fun K hK => ?_)
      go_simp
      (first | refine K_alloc (K := K) ?_ | refine K_allocD (K := K) ?_); intro g5 w5 hg5 hs5 hb5 hblk5; (try rw [← hg5]); (have hk5 : Below wr.heap.size wr w5 := by first | exact Below.next hH hb5 | exact hb5); (have hgl : Hid (wr.heap.size ≤ g5) := hid (by rw [hg5]; exact hH.size)); clear hg5 hs5
      refine hK.out _ _ (by assumption) (fun hH => ?_)
      clear hK K
      try simp only [Act.put, List.setIfInBounds_toArray, List.set_cons_zero, List.set_cons_succ]
      refine wpK.take (i := 5) (v := _) (by simp only [List.getElem?_toArray, List.getElem?_cons_succ, List.getElem?_cons_zero]; rfl) (by kernel_rfl) (by kernel_rfl) (by kernel_rfl) (by kernel_rfl) (by kernel_rfl) (by exact fun _ _ _ h => h) (by first | exact Or.inl ⟨by rfl, by intro w hSw; go_simp; try with_reducible rfl⟩ | exact Or.inr ⟨by rfl, rfl⟩) hH ?_
      try simp only [Act.put, List.setIfInBounds_toArray, List.set_cons_zero, List.set_cons_succ]
      refine wpK.late (i := 6) (by kernel_rfl) (by simp only [List.getElem?_toArray, List.getElem?_cons_succ, List.getElem?_cons_zero]; rfl) (by kernel_rfl) (fun K hK => ?_)
      (obtain ⟨p0, p1⟩ := hblk5.c2q); (have f0 := hblk5.unfrozen 0); (have f1 := hblk5.unfrozen 1); (obtain ⟨wz, hwz, hkz, huz⟩ := set2q hblk5 (.pointer p) (.int .u8 mv)); (have HBZ : Hid (Below wr.heap.size wr wz) := hid (hH.trans (huz.below hH.size (fun k _ q => by rw [q]; exact hgl.out)))); (have HWZ := hid hwz); (have HKZ := hid hkz); clear hwz hkz huz; go_simp; (try rw [← HWZ.out])
      refine hK.out _ _ ?_
      clear hK K
      try simp only [Act.put, List.setIfInBounds_toArray, List.set_cons_zero, List.set_cons_succ]
      refine wpK.done (by kernel_rfl) ?_ _
      clear c0 c1 hyd hH hk5 hb5 hblk5 p0 p1 f0 f1
      obtain ⟨y0, y1⟩ := HKZ.out.c2q
      go_wp2_with fail
      refine (HIHM.out wz HBZ.out).mono ?_
      rintro e wc ⟨m', rfl, hm1, hm2, hm3, hm4, hm5, hm6⟩
      have HNX := hid (HI.out.next hlt ⟨by have := HG3.out; omega, by have := HG3.out; omega⟩ (Below.next HBZ.out hm6) (by have := HG3.out; omega) HBZ.out hm1 hm2 hm3 (fun X Y => by rw [hm4, HM.out]))
      have HB3 := hid (HI.out.b3.below (Below.next HBZ.out hm6))
      have h4 : (ms ++ List.replicate (4 - i) zS).length = 4 := by rw [List.length_append, HI.out.len, List.length_replicate]; omega
      obtain ⟨e0, e1⟩ := kid_cells h4 hlt
      obtain ⟨p', hp'⟩ := c0S_ptr m'
      obtain ⟨mv', hmv'⟩ : ∃ mv, m'.v = mv := ⟨_, rfl⟩
      rw [hp', hmv'] at HNX ⊢
      have q0 : wc.cell? ⟨g3, i * 2, none⟩ = some (c0S ((ms ++ List.replicate (4 - i) zS).getD i default)) := by rw [HB3.out.cell, e0]
      have q1 : wc.cell? ⟨g3, i * 2 + 1, none⟩ = some (.int .u8 ((ms ++ List.replicate (4 - i) zS).getD i default).v) := by rw [HB3.out.cell, e1]
      obtain ⟨u0, hu0⟩ : ∃ u, c0S ((ms ++ List.replicate (4 - i) zS).getD i default) = u := ⟨_, rfl⟩
      obtain ⟨u1, hu1⟩ : ∃ u, Value.int .u8 ((ms ++ List.replicate (4 - i) zS).getD i default).v = u := ⟨_, rfl⟩
      rw [hu0] at q0
      rw [hu1] at q1
      have f0 : wc.frozen? ⟨g3, i * 2, none⟩ = false := HB3.out.unfrozen _
      have f1 : wc.frozen? ⟨g3, i * 2 + 1, none⟩ = false := HB3.out.unfrozen _
      obtain ⟨wn, hwn⟩ : ∃ wn, wn = (wc.setCell ⟨g3, i * 2, none⟩ (.pointer p')).setCell ⟨g3, i * 2 + 1, none⟩ (.int .u8 mv') := ⟨_, rfl⟩
      rw [← hwn] at HNX
      have HWN := hid hwn
      clear hwn hm1 hm2 hm3 hm4 hm5 hm6 e0 e1 hp' hmv' hu0 hu1 h4 y0 y1
      go_wp2_with fail
      try rw [← HWN.out]
      go_roundw
      case rel => exact ⟨i + 1, ms ++ [m'], by go_num, by omega, HNX⟩
      case measure => simp [intOf]; omega
    · obtain rfl : i = 4 := by omega
      have i1 : ¬ ((4 : Nat) : Int) < 4 := by omega
      obtain ⟨x0, x1⟩ := HI.out.b1.c2q
      obtain ⟨p0, p1⟩ := HI.out.b2.c2q
      have f0 := HI.out.b1.unfrozen 0
      obtain ⟨wa, hwa⟩ : ∃ wa, wa = wr.setCell ⟨g1, 0, none⟩ (.pointer (some ⟨g3, 0, none⟩)) := ⟨_, rfl⟩
      have hua : Upd (fun b => b = g1) wr wa := by rw [hwa]; exact Upd.setCell _ _ _ _
      have hka : Blk wa g1 #[.pointer (some ⟨g3, 0, none⟩), .int .u8 sv] := by
        have := HI.out.b1.set 0 (.pointer (some ⟨g3, 0, none⟩))
        rw [← hwa, HSV.out.1] at this
        simpa using this
      have h2a := HI.out.b2.upd hua (by have := HG3.out; omega)
      have HWA := hid hwa
      have HUA := hid hua
      have HKA := hid hka
      have H2A := hid h2a
      clear hwa hua hka h2a p0 p1
      go_upto_region 9 with fail
      try rw [← HWA.out]
      clear x0 x1 f0
      obtain ⟨x0, x1⟩ := HKA.out.c2q
      obtain ⟨p0, p1⟩ := H2A.out.c2q
      have f0 := H2A.out.unfrozen 0
      have f1 := H2A.out.unfrozen 1
      obtain ⟨wz, hwz, hkz, huz⟩ := set2q H2A.out (.pointer (some ⟨g3, 0, none⟩)) (.int .u8 sv)
      have HWZ := hid hwz
      have HKZ := hid hkz
      have HUZ := hid huz
      clear hwz hkz huz
      go_wp2_with fail
      try rw [← HWZ.out]
      obtain ⟨y0, y1⟩ := HKZ.out.c2q
      refine bodyPost_ret (results_cell1 rfl _ _ _ rfl (by go_simp; rfl)) rfl ?_
      have hu : Upd (fun b => b = g1 ∨ b = g2) wr wz := (HUA.out.mono (fun _ _ q => .inl q)).trans HUZ.out (fun _ _ q => .inr q)
      have hg := HG3.out
      have hne : ms ≠ [] := fun e => by have := HI.out.len; rw [e] at this; simp at this
      have hmine : ∀ q ∈ ms.flatMap (blkS k), ¬ (q = g1 ∨ q = g2) := fun q hq z => by have := (HI.out.lo q hq).1; omega
      have hb3 := HI.out.b3
      rw [show List.replicate (4 - 4) zS = [] from rfl, List.append_nil] at hb3
      have hbl : blkS (k + 1) ⟨g3, sv, ms⟩ = g3 :: ms.flatMap (blkS k) := by unfold blkS; rw [if_neg hne]
      refine ⟨⟨g3, sv, ms⟩, by rw [c0S_node hne], ⟨by rw [← HSV.out.1]; exact HBY.out, .inr ⟨HI.out.len, hb3.upd hu (by omega), fun m hm => (HI.out.kids m hm).upd hu (fun q hq => hmine q (List.mem_flatMap.2 ⟨m, hm, hq⟩))⟩⟩, ?_, ?_, ?_, HSV.out.1.symm, HI.out.below.trans (hu.below HI.out.below.size (fun b _ q => by rcases q with q | q <;> omega))⟩
      · rw [hbl, List.nodup_cons]
        exact ⟨fun z => by have := (HI.out.lo _ z).1; omega, HI.out.nd⟩
      · intro q hq
        rw [hbl] at hq
        rcases List.mem_cons.1 hq with e | hq
        · omega
        · have := (HI.out.lo q hq).1; omega
      · intro X Y
        unfold lvS
        rw [if_neg hne, if_neg HK.out, range4, range4]
        have l0 := HI.out.lv 0 (by omega)
        have l1 := HI.out.lv 1 (by omega)
        have l2 := HI.out.lv 2 (by omega)
        have l3 := HI.out.lv 3 (by omega)
        simp only [l0, l1, l2, l3]
theorem copied_quad : ∀ k, CqSpec k
  | 0 => fun s w hs => copied_qleaf 0 s w hs hs.2
  | k + 1 => fun s w hs => by
    by_cases h : s.ks = []
    · exact copied_qleaf _ s w hs h
    · exact copied_qnode k (copied_quad k) s w hs h
/-- what a copy's maker gives -/
def QCopyPost (w : World) (k : Nat) (s : Sq) (e : Ending) (w' : World) : Prop := ∃ (q' : Nat) (s' : Sq), e = .returned (.pointer (some ⟨q', 0, none⟩)) ∧ QuadAt w' q' (fun b => w.heap.size ≤ b ∧ b < w'.heap.size) k s' ∧ (∀ X Y, lvS k s' X Y = lvS k s X Y) ∧ Below w.heap.size w w'
set_option maxRecDepth 100000 in
set_option maxHeartbeats 4000000 in
theorem quad_Copy (w : World) (q : Nat) (F : Nat → Prop) (k : Nat) (s : Sq) (h : QuadAt w q F k s) : Calls Tryz.prog 44 #[.pointer (some ⟨q, 0, none⟩)] w (QCopyPost w k s) := by
  obtain ⟨S, hS⟩ : ∃ S, sd k = S := ⟨_, rfl⟩
  have HS := hid hS
  have HQ := hid h
  obtain ⟨x0, x1, x2⟩ := h.c3
  obtain ⟨p, hp⟩ := c0S_ptr s
  obtain ⟨sv, hsv⟩ : ∃ sv, s.v = sv := ⟨_, rfl⟩
  have HCC : Hid (∀ z, Below w.heap.size w z → Calls Tryz.prog 65 #[.agg #[.pointer p, .int .u8 sv]] z (CqPost k z s)) := hid (fun z hz => by
    have := copied_quad k s z (h.sq.below hz)
    rw [hp, hsv] at this
    exact this)
  rw [hS] at x0
  rw [hp] at x1
  rw [hsv] at x2
  clear h hS hp hsv
  go_enter Tryz.func44, Tryz.ntmps44
  go_upto_region 1 with fail
  replace x0 := fun (z : World) (hz : Below w.heap.size w z) => cellOf_belowR hz x0
  replace x1 := fun (z : World) (hz : Below w.heap.size w z) => cellOf_belowR hz x1
  replace x2 := fun (z : World) (hz : Below w.heap.size w z) => cellOf_belowR hz x2
  have hyd := (Below.refl w.heap.size w).drew
  have HZD : Hid (w.heap.size ≤ w.drew.heap.size) := hid hyd.size
  refine wp_region_kept [11] (fun z => Below w.heap.size w z) (by kernel_rfl) (by assumption) (fun hH => ?_)
  refine wpK.take (i := 0) (v := _) (by simp only [List.getElem?_toArray, List.getElem?_cons_succ, List.getElem?_cons_zero]; rfl) (by kernel_rfl) (by kernel_rfl) (by kernel_rfl) (by kernel_rfl) (by kernel_rfl) (by exact fun _ _ _ h => h) (by first | exact Or.inl ⟨by rfl, by intro w hSw; go_simp; try with_reducible rfl⟩ | exact Or.inr ⟨by rfl, rfl⟩) hH ?_
  try simp only [Act.put, List.setIfInBounds_toArray, List.set_cons_zero, List.set_cons_succ]
  refine wpK.take (i := 1) (v := _) (by simp only [List.getElem?_toArray, List.getElem?_cons_succ, List.getElem?_cons_zero]; rfl) (by kernel_rfl) (by kernel_rfl) (by kernel_rfl) (by kernel_rfl) (by kernel_rfl) (by exact fun _ _ _ h => h) (by first | exact Or.inl ⟨by rfl, by intro w hSw; go_simp; try with_reducible rfl⟩ | exact Or.inr ⟨by rfl, rfl⟩) hH ?_
  try simp only [Act.put, List.setIfInBounds_toArray, List.set_cons_zero, List.set_cons_succ]
  refine wpK.take (i := 2) (v := _) (by simp only [List.getElem?_toArray, List.getElem?_cons_succ, List.getElem?_cons_zero]; rfl) (by kernel_rfl) (by kernel_rfl) (by kernel_rfl) (by kernel_rfl) (by kernel_rfl) (by exact fun _ _ _ h => h) (by first | exact Or.inl ⟨by rfl, by intro w hSw; go_simp; try with_reducible rfl⟩ | exact Or.inr ⟨by rfl, rfl⟩) hH ?_
  try simp only [Act.put, List.setIfInBounds_toArray, List.set_cons_zero, List.set_cons_succ]
  refine wpK.take (i := 3) (v := _) (by simp only [List.getElem?_toArray, List.getElem?_cons_succ, List.getElem?_cons_zero]; rfl) (by kernel_rfl) (by kernel_rfl) (by kernel_rfl) (by kernel_rfl) (by kernel_rfl) (by exact fun _ _ _ h => h) (by first | exact Or.inl ⟨by rfl, by intro w hSw; go_simp; try with_reducible rfl⟩ | exact Or.inr ⟨by rfl, rfl⟩) hH ?_
  try simp only [Act.put, List.setIfInBounds_toArray, List.set_cons_zero, List.set_cons_succ]
  refine wpK.take (i := 4) (v := _) (by simp only [List.getElem?_toArray, List.getElem?_cons_succ, List.getElem?_cons_zero]; rfl) (by kernel_rfl) (by kernel_rfl) (by kernel_rfl) (by kernel_rfl) (by kernel_rfl) (by exact fun _ _ _ h => h) (by first | exact Or.inl ⟨by rfl, by intro w hSw; go_simp; try with_reducible rfl⟩ | exact Or.inr ⟨by rfl, rfl⟩) hH ?_
  try simp only [Act.put, List.setIfInBounds_toArray, List.set_cons_zero, List.set_cons_succ]
  refine wpK.take (i := 5) (v := _) (by simp only [List.getElem?_toArray, List.getElem?_cons_succ, List.getElem?_cons_zero]; rfl) (by kernel_rfl) (by kernel_rfl) (by kernel_rfl) (by kernel_rfl) (by kernel_rfl) (by exact fun _ _ _ h => h) (by first | exact Or.inl ⟨by rfl, by intro w hSw; go_simp; try with_reducible rfl⟩ | exact Or.inr ⟨by rfl, rfl⟩) hH ?_
  try simp only [Act.put, List.setIfInBounds_toArray, List.set_cons_zero, List.set_cons_succ]
  refine wpK.take (i := 6) (v := _) (by simp only [List.getElem?_toArray, List.getElem?_cons_succ, List.getElem?_cons_zero]; rfl) (by kernel_rfl) (by kernel_rfl) (by kernel_rfl) (by kernel_rfl) (by kernel_rfl) (by exact fun _ _ _ h => h) (by first | exact Or.inl ⟨by rfl, by intro w hSw; go_simp; try with_reducible rfl⟩ | exact Or.inr ⟨by rfl, rfl⟩) hH ?_
  try simp only [Act.put, List.setIfInBounds_toArray, List.set_cons_zero, List.set_cons_succ]
  refine wpK.take (i := 7) (v := _) (by simp only [List.getElem?_toArray, List.getElem?_cons_succ, List.getElem?_cons_zero]; rfl) (by kernel_rfl) (by kernel_rfl) (by kernel_rfl) (by kernel_rfl) (by kernel_rfl) (by exact fun _ _ _ h => h) (by first | exact Or.inl ⟨by rfl, by intro w hSw; go_simp; try with_reducible rfl⟩ | exact Or.inr ⟨by rfl, rfl⟩) hH ?_
  try simp only [Act.put, List.setIfInBounds_toArray, List.set_cons_zero, List.set_cons_succ]
  refine wpK.step (i := 8) (by kernel_rfl) (by simp only [List.getElem?_toArray, List.getElem?_cons_succ, List.getElem?_cons_zero]; rfl) (fun K hK => ?_)
  go_simp
  (refine (HCC.out _ hH).mono ?_); rintro e wc ⟨m', rfl, hm1, hm2, hm3, hm4, hm5, hm6⟩; (have hkc : Below w.heap.size w wc := Below.next hH hm6); (have HM : Hid (SqAt k wc m' ∧ (blkS k m').Nodup ∧ (∀ q ∈ blkS k m', w.heap.size ≤ q) ∧ ∀ X Y, lvS k m' X Y = lvS k s X Y) := hid ⟨hm1, hm2, fun q hq => Nat.le_trans hH.size (hm3 q hq), hm4⟩); (have HHC : Hid (Below w.heap.size w wc) := hid hkc); (obtain ⟨p', hp'⟩ := c0S_ptr m'); (obtain ⟨mv', hmv'⟩ : ∃ mv, m'.v = mv := ⟨_, rfl⟩); (have HPV := hid (And.intro hp' hmv')); (rw [hp', hmv']); clear hm1 hm2 hm3 hm4 hm5 hm6 hp' hmv'; go_simp
  refine hK.out _ _ (by assumption) (fun hH => ?_)
  clear hK K
  try simp only [Act.put, List.setIfInBounds_toArray, List.set_cons_zero, List.set_cons_succ]
  refine wpK.take (i := 9) (v := _) (by simp only [List.getElem?_toArray, List.getElem?_cons_succ, List.getElem?_cons_zero]; rfl) (by kernel_rfl) (by kernel_rfl) (by kernel_rfl) (by kernel_rfl) (by kernel_rfl) (by exact fun _ _ _ h => h) (by first | exact Or.inl ⟨by rfl, by intro w hSw; go_simp; try with_reducible rfl⟩ | exact Or.inr ⟨by rfl, rfl⟩) hH ?_
  try simp only [Act.put, List.setIfInBounds_toArray, List.set_cons_zero, List.set_cons_succ]
  refine wpK.step (i := 10) (by kernel_rfl) (by simp only [List.getElem?_toArray, List.getElem?_cons_succ, List.getElem?_cons_zero]; rfl) (fun K hK => ?_)
  go_simp
  (first | refine K_alloc (K := K) ?_ | refine K_allocD (K := K) ?_); intro g8 w8 hg8 hs8 hb8 hblk8; (try rw [← hg8]); (have hk8 : Below w.heap.size w w8 := by first | exact Below.next hH hb8 | exact hb8); (have HG8 : Hid (g8 = wc.heap.size ∧ Below wc.heap.size wc w8) := hid ⟨hg8, hb8⟩); clear hg8 hs8
  refine hK.out _ _ (by assumption) (fun hH => ?_)
  clear hK K
  try simp only [Act.put, List.setIfInBounds_toArray, List.set_cons_zero, List.set_cons_succ]
  refine wpK.late (i := 11) (by kernel_rfl) (by simp only [List.getElem?_toArray, List.getElem?_cons_succ, List.getElem?_cons_zero]; rfl) (by kernel_rfl) (fun K hK => ?_)
  go_simp
  refine hK.out _ _ ?_
  clear hK K
  try simp only [Act.put, List.setIfInBounds_toArray, List.set_cons_zero, List.set_cons_succ]
  refine wpK.done (by kernel_rfl) ?_ _
  have HB8 := hid hblk8
  have HK8 := hid hk8
  clear x0 x1 x2 hyd hH hkc hk8 hb8 hblk8
  go_wp2_with fail
  go_ret
  have z0 := HHC.out.size
  have z1 := HG8.out.1
  have z2 := HG8.out.2.size
  have z3 := HB8.out.lt
  refine ⟨g8, m', rfl, ⟨?_, HM.out.1.below HG8.out.2, ?_, ?_, HQ.out.le⟩, HM.out.2.2.2, HK8.out⟩
  · have := HB8.out
    unfold rootC
    rw [HS.out, HPV.out.1, HPV.out.2]
    exact this
  · rw [List.nodup_cons]
    exact ⟨fun z => by have := HM.out.1.lt _ z; omega, HM.out.2.1⟩
  · intro b hb
    rcases List.mem_cons.1 hb with rfl | hb
    · exact ⟨by omega, z3⟩
    · have h1 := HM.out.2.2.1 b hb
      have h2 := HM.out.1.lt b hb
      exact ⟨h1, by omega⟩
end Go.Proofs.YtjbnfppnmljbmaaGreat
end
