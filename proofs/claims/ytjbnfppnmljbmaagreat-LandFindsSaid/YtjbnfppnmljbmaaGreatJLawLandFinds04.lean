/- Joined texts, in this order: RtBound, RtPick, LayRt, RtSl. Each one's first remark says what it proves; no condition beyond those that its theorems name. -/
import Derived.Test.YtjbnfppnmljbmaaGreatJLawLandFinds02
import Derived.Test.YtjbnfppnmljbmaaGreatJLawLandFinds03
import Derived.Shelf.SlGeneric
import Derived.Ground.SlgnProg
import Derived.Shelf.SlicesE.Delete
import Derived.Ground.SlsfProg
import Derived.Shelf.SlSortCmp.Insertion1
import Derived.Test.YtjbnfppnmljbmaaGreatProg
section
/- Contracts of rtree's bound and fit. -/
namespace Go.Proofs.YtjbnfppnmljbmaaGreat
open Go.RowKit
open Go.Lib (hid)
set_option linter.unusedVariables false

theorem rect_Join (r o : R4) (w : World) : Calls Tryz.prog 121 #[rV r, rV o] w fun e w' => e = .returned (rV (joinR r o)) ∧ Below w.heap.size w w' := rect_Join4 r.1 r.2.1 r.2.2.1 r.2.2.2 o.1 o.2.1 o.2.2.1 o.2.2.2 w
theorem boundR_snoc (l : List R4) (b : R4) : boundR (l ++ [b]) = joinR (boundR l) b := by unfold boundR; rw [List.foldl_append]; rfl
theorem cellOf_belowR {w w' : World} (h : Below w.heap.size w w') {a : Addr} {v : Value} (hc : w.cell? a = some v) : w'.cell? a = some v := by
  rw [h.cell (World.block_lt_of_cell? w a hc)]
  exact hc
/-- at p stands a node with a rectangle -/
def RAt (w : World) (p : Nat) (r : R4) : Prop := w.cell? ⟨p, 0, none⟩ = some (.int .i64 r.1) ∧ w.cell? ⟨p, 1, none⟩ = some (.int .i64 r.2.1) ∧ w.cell? ⟨p, 2, none⟩ = some (.int .i64 r.2.2.1) ∧ w.cell? ⟨p, 3, none⟩ = some (.int .i64 r.2.2.2)
theorem RAt.below {w w' : World} {p : Nat} {r : R4} (h : RAt w p r) (hb : Below w.heap.size w w') : RAt w' p r :=
  ⟨cellOf_belowR hb h.1, cellOf_belowR hb h.2.1, cellOf_belowR hb h.2.2.1, cellOf_belowR hb h.2.2.2⟩
theorem NodeAt.rat {d : Nat} {w : World} {n : Nd} (h : NodeAt d w n) : RAt w n.p n.r := by
  have hb := h.blk
  unfold cellsN at hb
  exact ⟨by rw [hb.cell]; rfl, by rw [hb.cell]; rfl, by rw [hb.cell]; rfl, by rw [hb.cell]; rfl⟩
/-- a slice that reads as nodes -/
structure SlN (w : World) (a : Option Addr) (n c : Nat) (ks : List Nd) : Prop where
  len : n = ks.length
  rd : Rd w a (ks.map ptrN)
  cap : n ≤ c ∧ c ≤ 9223372036854775807
  rat : ∀ k ∈ ks, RAt w k.p k.r
theorem SlN.below {w w' : World} {a : Option Addr} {n c : Nat} {ks : List Nd} (h : SlN w a n c ks) (hb : Below w.heap.size w w') : SlN w' a n c ks :=
  ⟨h.len, h.rd.below' hb, h.cap, fun k hk => (h.rat k hk).below hb⟩
theorem SlN.at {w : World} {a : Option Addr} {n c : Nat} {ks : List Nd} (h : SlN w a n c ks) {i : Nat} (hi : i < n) : ∃ b off k, a = some ⟨b, off, none⟩ ∧ ks[i]? = some k ∧ w.cell? ⟨b, off + i, none⟩ = some (.pointer (some ⟨k.p, 0, none⟩)) ∧ RAt w k.p k.r ∧ ks.take (i + 1) = ks.take i ++ [k] := by
  have hi2 : i < ks.length := by rw [← h.len]; exact hi
  obtain ⟨b, off, ha, hc⟩ := h.rd i (by simpa using hi2)
  refine ⟨b, off, ks[i], ha, List.getElem?_eq_getElem hi2, ?_, h.rat _ (List.getElem_mem hi2), ?_⟩
  · rw [hc, List.getElem?_map, List.getElem?_eq_getElem hi2]; rfl
  · rw [List.take_succ_eq_append_getElem hi2]
theorem SlN.of_own {w : World} {v : Value} {ks : List Nd} (h : ownP w v ks) (hr : ∀ k ∈ ks, RAt w k.p k.r) : ∃ a c, v = .slice a ks.length c ∧ SlN w a ks.length c ks := by
  obtain ⟨a, cap, rfl, h1, h2, hrd, h3⟩ := ownsRow.rd h
  exact ⟨a, cap, rfl, ⟨rfl, hrd, ⟨h1, by unfold maxLen at h2; omega⟩, hr⟩⟩
def BoundR (w : World) (g1 g2 n : Nat) (ks : List Nd) (v8 : Value) (wr : World) : Prop :=
  ∃ k : Nat, v8 = .int .i64 (k : Int) ∧ k ≤ n ∧ Hid (∃ q, boundR ((ks.take k).map (·.r)) = q ∧ Blk wr g2 #[.int .i64 q.1, .int .i64 q.2.1, .int .i64 q.2.2.1, .int .i64 q.2.2.2]) ∧ Hid (Blk wr g1 #[.int .i64 0, .int .i64 0, .int .i64 0, .int .i64 0]) ∧ Hid (Below w.heap.size w wr)
set_option maxRecDepth 100000 in
set_option maxHeartbeats 4000000 in
theorem rt_bound (ks : List Nd) (a : Option Addr) (n c : Nat) (w : World) (h : SlN w a n c ks) (hn : n ≤ 1000) :
    Calls Tryz.prog 112 #[.slice a n c] w fun e w' => e = .returned (rV (boundR (ks.map (·.r)))) ∧ Below w.heap.size w w' := by
  have H := hid h
  clear h
  go_enter Tryz.func112, Tryz.ntmps112
  go_upto_region 2 with fail
  generalize hW : World.alloc (World.alloc w _) _ = w1
  obtain ⟨g1, hg⟩ : ∃ g, g = w.heap.size := ⟨_, rfl⟩
  obtain ⟨g2, hgo⟩ : ∃ go, go = w.heap.size + 1 := ⟨_, rfl⟩
  have hz : (World.alloc w (.cells #[.int .i64 0, .int .i64 0, .int .i64 0, .int .i64 0] 25)).heap.size = w.heap.size + 1 := by simp
  try rw [hz]
  try rw [← hgo]
  try rw [← hg]
  have hb : Below w.heap.size w w1 := by rw [← hW]; exact Below.next (Below.new _ _) (Below.new _ _)
  have HX : Hid (Blk w1 g1 #[.int .i64 0, .int .i64 0, .int .i64 0, .int .i64 0]) := hid (by rw [← hW, hg]; exact (Blk.new w _ _).below (Below.new _ _))
  have HO : Hid (Blk w1 g2 #[.int .i64 0, .int .i64 0, .int .i64 0, .int .i64 0]) := hid (by rw [← hW, hgo, ← hz]; exact Blk.new _ _ _)
  have HB := hid hb
  have HGG : Hid (g1 = w.heap.size ∧ g2 = w.heap.size + 1) := hid ⟨hg, hgo⟩
  clear hW hg hgo hz hb
  go_wp2_with fail
  go_loopw [8] (fun v8 wr => BoundR w g1 g2 n ks v8 wr) (fun v8 _ => n - (intOf v8).toNat)
  case atStart => exact ⟨0, rfl, by omega, hid ⟨_, rfl, by simpa [boundR, zR] using HO.out⟩, HX, HB⟩
  case round =>
    clear HX HO HB
    obtain ⟨i, rfl, hi, hq, HX, HB⟩ := hrel
    obtain ⟨q, hq1, hq2⟩ := hq.out
    have HQ := hid hq1
    have HO := hid hq2
    clear hq hq1 hq2
    obtain ⟨qx, qy, qa, qb⟩ := q
    by_cases hlt : i < n
    · have j1 : (i : Int) < (n : Int) := by omega
      have j0 : (0 : Int) ≤ (i : Int) := by omega
      obtain ⟨b, off, k, rfl, hk, hc, hr, htk⟩ := (H.out.below HB.out).at hlt
      have HTK := hid htk
      obtain ⟨jq, hjq⟩ : ∃ z, joinR (qx, qy, qa, qb) k.r = z := ⟨_, rfl⟩
      have HJQ := hid hjq
      have hj := rect_Join (qx, qy, qa, qb) k.r
      rw [hjq] at hj
      obtain ⟨kr, hkr⟩ : ∃ z, k.r = z := ⟨_, rfl⟩
      have HKR := hid hkr
      rw [hkr] at hr hj
      clear hkr
      obtain ⟨kx, ky, ka, kb⟩ := kr
      obtain ⟨jx, jy, ja, jb⟩ := jq
      simp only [rV] at hj
      obtain ⟨r0, r1, r2, r3⟩ := hr
      simp only at r0 r1 r2 r3
      have HJ := hid hj
      obtain ⟨p, hp⟩ : ∃ p, k.p = p := ⟨_, rfl⟩
      rw [hp] at hc r0 r1 r2 r3
      clear hk hp htk hjq hj
      go_upto_region 5 with fail
      replace r0 := fun (y : World) (hy : Below wr.heap.size wr y) => cellOf_belowR hy r0
      replace r1 := fun (y : World) (hy : Below wr.heap.size wr y) => cellOf_belowR hy r1
      replace r2 := fun (y : World) (hy : Below wr.heap.size wr y) => cellOf_belowR hy r2
      replace r3 := fun (y : World) (hy : Below wr.heap.size wr y) => cellOf_belowR hy r3
      have c0 : ∀ z, Below wr.heap.size wr z → z.cell? ⟨g2, 0, none⟩ = some (.int .i64 qx) := fun z hz => by rw [(HO.out.below hz).cell]; rfl
      have c1 : ∀ z, Below wr.heap.size wr z → z.cell? ⟨g2, 1, none⟩ = some (.int .i64 qy) := fun z hz => by rw [(HO.out.below hz).cell]; rfl
      have c2 : ∀ z, Below wr.heap.size wr z → z.cell? ⟨g2, 2, none⟩ = some (.int .i64 qa) := fun z hz => by rw [(HO.out.below hz).cell]; rfl
      have c3 : ∀ z, Below wr.heap.size wr z → z.cell? ⟨g2, 3, none⟩ = some (.int .i64 qb) := fun z hz => by rw [(HO.out.below hz).cell]; rfl
      have hyd := (Below.refl wr.heap.size wr).drew
      refine wp_region_kept [6] (fun z => Below wr.heap.size wr z) (by kernel_rfl) (by assumption) (fun hH => ?_)
      refine wpK.take (i := 0) (v := _) (by simp only [List.getElem?_toArray, List.getElem?_cons_succ, List.getElem?_cons_zero]; rfl) (by kernel_rfl) (by kernel_rfl) (by kernel_rfl) (by kernel_rfl) (by kernel_rfl) (by exact fun _ _ _ h => h) (by first | exact Or.inl ⟨by rfl, by intro w hSw; go_simp; try with_reducible rfl⟩ | exact Or.inr ⟨by rfl, rfl⟩) hH ?_
      try simp only [Act.put, List.setIfInBounds_toArray, List.set_cons_zero, List.set_cons_succ]
      refine wpK.take (i := 1) (v := _) (by simp only [List.getElem?_toArray, List.getElem?_cons_succ, List.getElem?_cons_zero]; rfl) (by kernel_rfl) (by kernel_rfl) (by kernel_rfl) (by kernel_rfl) (by kernel_rfl) (by exact fun _ _ _ h => h) (by first | exact Or.inl ⟨by rfl, by intro w hSw; go_simp; try with_reducible rfl⟩ | exact Or.inr ⟨by rfl, rfl⟩) hH ?_
      try simp only [Act.put, List.setIfInBounds_toArray, List.set_cons_zero, List.set_cons_succ]
      refine wpK.take (i := 2) (v := _) (by simp only [List.getElem?_toArray, List.getElem?_cons_succ, List.getElem?_cons_zero]; rfl) (by kernel_rfl) (by kernel_rfl) (by kernel_rfl) (by kernel_rfl) (by kernel_rfl) (by exact fun _ _ _ h => h) (by first | exact Or.inl ⟨by rfl, by intro w hSw; go_simp; try with_reducible rfl⟩ | exact Or.inr ⟨by rfl, rfl⟩) hH ?_
      try simp only [Act.put, List.setIfInBounds_toArray, List.set_cons_zero, List.set_cons_succ]
      refine wpK.take (i := 3) (v := _) (by simp only [List.getElem?_toArray, List.getElem?_cons_succ, List.getElem?_cons_zero]; rfl) (by kernel_rfl) (by kernel_rfl) (by kernel_rfl) (by kernel_rfl) (by kernel_rfl) (by exact fun _ _ _ h => h) (by first | exact Or.inl ⟨by rfl, by intro w hSw; go_simp; try with_reducible rfl⟩ | exact Or.inr ⟨by rfl, rfl⟩) hH ?_
      try simp only [Act.put, List.setIfInBounds_toArray, List.set_cons_zero, List.set_cons_succ]
      refine wpK.take (i := 4) (v := _) (by simp only [List.getElem?_toArray, List.getElem?_cons_succ, List.getElem?_cons_zero]; rfl) (by kernel_rfl) (by kernel_rfl) (by kernel_rfl) (by kernel_rfl) (by kernel_rfl) (by exact fun _ _ _ h => h) (by first | exact Or.inl ⟨by rfl, by intro w hSw; go_simp; try with_reducible rfl⟩ | exact Or.inr ⟨by rfl, rfl⟩) hH ?_
      try simp only [Act.put, List.setIfInBounds_toArray, List.set_cons_zero, List.set_cons_succ]
      refine wpK.step (i := 5) (by kernel_rfl) (by simp only [List.getElem?_toArray, List.getElem?_cons_succ, List.getElem?_cons_zero]; rfl) (fun K hK => ?_)
      go_simp
      (refine (HJ.out _).mono ?_); rintro e w5 ⟨rfl, hb5⟩; (have hk5 := Below.next hyd hb5); (have HO5 := hid (HO.out.below hk5)); (obtain ⟨d0, d1, d2, d3⟩ := HO5.out.c4r); (obtain ⟨f0, f1, f2, f3⟩ := HO5.out.f4r); go_simp
      refine hK.out _ _ (by assumption) (fun hH => ?_)
      clear hK K
      try simp only [Act.put, List.setIfInBounds_toArray, List.set_cons_zero, List.set_cons_succ]
      refine wpK.late (i := 6) (by kernel_rfl) (by simp only [List.getElem?_toArray, List.getElem?_cons_succ, List.getElem?_cons_zero]; rfl) (by kernel_rfl) (fun K hK => ?_)
      go_simp
      refine hK.out _ _ ?_
      clear hK K
      try simp only [Act.put, List.setIfInBounds_toArray, List.set_cons_zero, List.set_cons_succ]
      refine wpK.done (by kernel_rfl) ?_ _
      obtain ⟨w6, hw6, hk6, hu6⟩ := set4r HO5.out (.int .i64 jx) (.int .i64 jy) (.int .i64 ja) (.int .i64 jb)
      rw [← hw6]
      have HB6 := hid ((Below.next HB.out hk5).trans (hu6.below (Below.next HB.out hk5).size (fun k _ q => by rw [q]; have := HGG.out; omega)))
      have HO6 := hid hk6
      have HX6 := hid ((HX.out.below hk5).upd hu6 (fun q => by have := HGG.out; omega))
      have HQ6 : Hid (boundR ((ks.take (i + 1)).map (·.r)) = (jx, jy, ja, jb)) := hid (by rw [HTK.out, List.map_append, List.map_cons, List.map_nil, boundR_snoc, HQ.out]; exact HJQ.out)
      clear hw6 hk6 hu6 d0 d1 d2 d3 f0 f1 f2 f3 c0 c1 c2 c3 r0 r1 r2 r3 hc
      go_wp2_with fail
      go_roundw
      case rel => exact ⟨i + 1, by go_num, by omega, hid ⟨_, HQ6.out, HO6.out⟩, HX6, HB6⟩
      case measure => simp [intOf]; omega
    · have j1 : ¬ (i : Int) < (n : Int) := by omega
      have HE : Hid (boundR (ks.map (·.r)) = (qx, qy, qa, qb)) := hid (by rw [← HQ.out, List.take_of_length_le (by rw [← H.out.len]; omega)])
      obtain ⟨w9, hw9, hk9, hu9⟩ := set4r HX.out (.int .i64 qx) (.int .i64 qy) (.int .i64 qa) (.int .i64 qb)
      have HW9 := hid hw9
      have HK9 := hid hk9
      have HB9 := hid (HB.out.trans (hu9.below HB.out.size (fun k _ q => by rw [q]; have := HGG.out; omega)))
      clear hw9 hk9 hu9
      obtain ⟨c0, c1, c2, c3⟩ := HX.out.c4r
      obtain ⟨f0, f1, f2, f3⟩ := HX.out.f4r
      obtain ⟨d0, d1, d2, d3⟩ := HO.out.c4r
      go_wp2_with fail
      try rw [← HW9.out]
      clear c0 c1 c2 c3 f0 f1 f2 f3 d0 d1 d2 d3
      obtain ⟨z0, z1, z2, z3⟩ := HK9.out.c4r
      refine bodyPost_ret (results_cell1 rfl _ _ _ rfl (by go_simp; rfl)) rfl ?_
      exact ⟨by rw [HE.out]; rfl, HB9.out⟩
end Go.Proofs.YtjbnfppnmljbmaaGreat
end
section
/- Contracts of rtree's pick. -/
namespace Go.Proofs.YtjbnfppnmljbmaaGreat
open Go.RowKit
open Go.Lib (hid)
set_option linter.unusedVariables false

theorem rect_Growth (r o : R4) (w : World) : Calls Tryz.prog 118 #[rV r, rV o] w fun e w' => ∃ n : Int, e = .returned (.int .i64 n) ∧ -65536 ≤ n ∧ n ≤ 65536 ∧ Below w.heap.size w w' := rect_Growth4 r.1 r.2.1 r.2.2.1 r.2.2.2 o.1 o.2.1 o.2.2.1 o.2.2.2 w
theorem rect_Area (r : R4) (w : World) : Calls Tryz.prog 51 #[rV r] w fun e w' => ∃ n : Int, e = .returned (.int .i64 n) ∧ 0 ≤ n ∧ n ≤ 65536 ∧ Below w.heap.size w w' :=
  (rect_Area4 r.1 r.2.1 r.2.2.1 r.2.2.2 w).mono (fun e w' h => ⟨_, h.1, (areaR_bd r).1, (areaR_bd r).2, h.2⟩)
set_option maxRecDepth 100000 in
set_option maxHeartbeats 2000000 in
theorem rt_pick1 (p q b : Nat) (r s t : R4) (w : World) (hr : RAt w p r) (hs : RAt w q s) (ht : RAt w b t) :
    Calls Tryz.prog 117 #[.pointer (some ⟨p, 0, none⟩), .pointer (some ⟨q, 0, none⟩), .pointer (some ⟨b, 0, none⟩)] w fun e w' => ∃ n : Int, e = .returned (.int .i64 n) ∧ Below w.heap.size w w' := by
  obtain ⟨rx, ry, ra, rb⟩ := r
  obtain ⟨sx, sy, sa, sb⟩ := s
  obtain ⟨tx, ty, ta, tb⟩ := t
  have hg1 := rect_Growth (rx, ry, ra, rb) (tx, ty, ta, tb)
  have hg2 := rect_Growth (sx, sy, sa, sb) (tx, ty, ta, tb)
  have ha1 := rect_Area (rx, ry, ra, rb)
  have ha2 := rect_Area (sx, sy, sa, sb)
  simp only [rV] at hg1 hg2 ha1 ha2
  have HG1 := hid hg1
  have HG2 := hid hg2
  have HA1 := hid ha1
  have HA2 := hid ha2
  have HR := hid hr
  have HS := hid hs
  have HT := hid ht
  clear hg1 hg2 ha1 ha2 hr hs ht
  go_enter Tryz.func117, Tryz.ntmps117
  go_upto_region 1 with fail
  have r0 : ∀ y, Below w.heap.size w y → y.cell? ⟨p, 0, none⟩ = some (.int .i64 rx) := fun y hy => cellOf_belowR hy (HR.out).1
  have r1 : ∀ y, Below w.heap.size w y → y.cell? ⟨p, 1, none⟩ = some (.int .i64 ry) := fun y hy => cellOf_belowR hy (HR.out).2.1
  have r2 : ∀ y, Below w.heap.size w y → y.cell? ⟨p, 2, none⟩ = some (.int .i64 ra) := fun y hy => cellOf_belowR hy (HR.out).2.2.1
  have r3 : ∀ y, Below w.heap.size w y → y.cell? ⟨p, 3, none⟩ = some (.int .i64 rb) := fun y hy => cellOf_belowR hy (HR.out).2.2.2
  have s0 : ∀ y, Below w.heap.size w y → y.cell? ⟨q, 0, none⟩ = some (.int .i64 sx) := fun y hy => cellOf_belowR hy (HS.out).1
  have s1 : ∀ y, Below w.heap.size w y → y.cell? ⟨q, 1, none⟩ = some (.int .i64 sy) := fun y hy => cellOf_belowR hy (HS.out).2.1
  have s2 : ∀ y, Below w.heap.size w y → y.cell? ⟨q, 2, none⟩ = some (.int .i64 sa) := fun y hy => cellOf_belowR hy (HS.out).2.2.1
  have s3 : ∀ y, Below w.heap.size w y → y.cell? ⟨q, 3, none⟩ = some (.int .i64 sb) := fun y hy => cellOf_belowR hy (HS.out).2.2.2
  have t0 : ∀ y, Below w.heap.size w y → y.cell? ⟨b, 0, none⟩ = some (.int .i64 tx) := fun y hy => cellOf_belowR hy (HT.out).1
  have t1 : ∀ y, Below w.heap.size w y → y.cell? ⟨b, 1, none⟩ = some (.int .i64 ty) := fun y hy => cellOf_belowR hy (HT.out).2.1
  have t2 : ∀ y, Below w.heap.size w y → y.cell? ⟨b, 2, none⟩ = some (.int .i64 ta) := fun y hy => cellOf_belowR hy (HT.out).2.2.1
  have t3 : ∀ y, Below w.heap.size w y → y.cell? ⟨b, 3, none⟩ = some (.int .i64 tb) := fun y hy => cellOf_belowR hy (HT.out).2.2.2
  have hyd := (Below.refl w.heap.size w).drew
  refine wp_region_kept [13] (fun z => Below w.heap.size w z) (by kernel_rfl) (by assumption) (fun hH => ?_)
  refine wpK.take (i := 0) (v := _) (by simp only [List.getElem?_toArray, List.getElem?_cons_succ, List.getElem?_cons_zero]; rfl) (by kernel_rfl) (by kernel_rfl) (by kernel_rfl) (by kernel_rfl) (by kernel_rfl) (by exact fun _ _ _ h => h) (by first | exact Or.inl ⟨by rfl, by intro w hSw; go_simp; try with_reducible rfl⟩ | exact Or.inr ⟨by rfl, rfl⟩) hH ?_
  try simp only [Act.put, List.setIfInBounds_toArray, List.set_cons_zero, List.set_cons_succ]
  refine wpK.take (i := 1) (v := _) (by simp only [List.getElem?_toArray, List.getElem?_cons_succ, List.getElem?_cons_zero]; rfl) (by kernel_rfl) (by kernel_rfl) (by kernel_rfl) (by kernel_rfl) (by kernel_rfl) (by exact fun _ _ _ h => h) (by first | exact Or.inl ⟨by rfl, by intro w hSw; go_simp; try with_reducible rfl⟩ | exact Or.inr ⟨by rfl, rfl⟩) hH ?_
  try simp only [Act.put, List.setIfInBounds_toArray, List.set_cons_zero, List.set_cons_succ]
  refine wpK.take (i := 2) (v := _) (by simp only [List.getElem?_toArray, List.getElem?_cons_succ, List.getElem?_cons_zero]; rfl) (by kernel_rfl) (by kernel_rfl) (by kernel_rfl) (by kernel_rfl) (by kernel_rfl) (by exact fun _ _ _ h => h) (by first | exact Or.inl ⟨by rfl, by intro w hSw; go_simp; try with_reducible rfl⟩ | exact Or.inr ⟨by rfl, rfl⟩) hH ?_
  try simp only [Act.put, List.setIfInBounds_toArray, List.set_cons_zero, List.set_cons_succ]
  refine wpK.take (i := 3) (v := _) (by simp only [List.getElem?_toArray, List.getElem?_cons_succ, List.getElem?_cons_zero]; rfl) (by kernel_rfl) (by kernel_rfl) (by kernel_rfl) (by kernel_rfl) (by kernel_rfl) (by exact fun _ _ _ h => h) (by first | exact Or.inl ⟨by rfl, by intro w hSw; go_simp; try with_reducible rfl⟩ | exact Or.inr ⟨by rfl, rfl⟩) hH ?_
  try simp only [Act.put, List.setIfInBounds_toArray, List.set_cons_zero, List.set_cons_succ]
  refine wpK.take (i := 4) (v := _) (by simp only [List.getElem?_toArray, List.getElem?_cons_succ, List.getElem?_cons_zero]; rfl) (by kernel_rfl) (by kernel_rfl) (by kernel_rfl) (by kernel_rfl) (by kernel_rfl) (by exact fun _ _ _ h => h) (by first | exact Or.inl ⟨by rfl, by intro w hSw; go_simp; try with_reducible rfl⟩ | exact Or.inr ⟨by rfl, rfl⟩) hH ?_
  try simp only [Act.put, List.setIfInBounds_toArray, List.set_cons_zero, List.set_cons_succ]
  refine wpK.take (i := 6) (v := _) (by simp only [List.getElem?_toArray, List.getElem?_cons_succ, List.getElem?_cons_zero]; rfl) (by kernel_rfl) (by kernel_rfl) (by kernel_rfl) (by kernel_rfl) (by kernel_rfl) (by exact fun _ _ _ h => h) (by first | exact Or.inl ⟨by rfl, by intro w hSw; go_simp; try with_reducible rfl⟩ | exact Or.inr ⟨by rfl, rfl⟩) hH ?_
  try simp only [Act.put, List.setIfInBounds_toArray, List.set_cons_zero, List.set_cons_succ]
  refine wpK.take (i := 7) (v := _) (by simp only [List.getElem?_toArray, List.getElem?_cons_succ, List.getElem?_cons_zero]; rfl) (by kernel_rfl) (by kernel_rfl) (by kernel_rfl) (by kernel_rfl) (by kernel_rfl) (by exact fun _ _ _ h => h) (by first | exact Or.inl ⟨by rfl, by intro w hSw; go_simp; try with_reducible rfl⟩ | exact Or.inr ⟨by rfl, rfl⟩) hH ?_
  try simp only [Act.put, List.setIfInBounds_toArray, List.set_cons_zero, List.set_cons_succ]
  refine wpK.take (i := 8) (v := _) (by simp only [List.getElem?_toArray, List.getElem?_cons_succ, List.getElem?_cons_zero]; rfl) (by kernel_rfl) (by kernel_rfl) (by kernel_rfl) (by kernel_rfl) (by kernel_rfl) (by exact fun _ _ _ h => h) (by first | exact Or.inl ⟨by rfl, by intro w hSw; go_simp; try with_reducible rfl⟩ | exact Or.inr ⟨by rfl, rfl⟩) hH ?_
  try simp only [Act.put, List.setIfInBounds_toArray, List.set_cons_zero, List.set_cons_succ]
  refine wpK.take (i := 9) (v := _) (by simp only [List.getElem?_toArray, List.getElem?_cons_succ, List.getElem?_cons_zero]; rfl) (by kernel_rfl) (by kernel_rfl) (by kernel_rfl) (by kernel_rfl) (by kernel_rfl) (by exact fun _ _ _ h => h) (by first | exact Or.inl ⟨by rfl, by intro w hSw; go_simp; try with_reducible rfl⟩ | exact Or.inr ⟨by rfl, rfl⟩) hH ?_
  try simp only [Act.put, List.setIfInBounds_toArray, List.set_cons_zero, List.set_cons_succ]
  refine wpK.take (i := 10) (v := _) (by simp only [List.getElem?_toArray, List.getElem?_cons_succ, List.getElem?_cons_zero]; rfl) (by kernel_rfl) (by kernel_rfl) (by kernel_rfl) (by kernel_rfl) (by kernel_rfl) (by exact fun _ _ _ h => h) (by first | exact Or.inl ⟨by rfl, by intro w hSw; go_simp; try with_reducible rfl⟩ | exact Or.inr ⟨by rfl, rfl⟩) hH ?_
  try simp only [Act.put, List.setIfInBounds_toArray, List.set_cons_zero, List.set_cons_succ]
  refine wpK.step (i := 5) (by kernel_rfl) (by simp only [List.getElem?_toArray, List.getElem?_cons_succ, List.getElem?_cons_zero]; rfl) (fun K hK => ?_)
  go_simp
  (refine (HG1.out _).mono ?_); rintro e w2 ⟨n1, rfl, hn1, hm1, hb2⟩; (have hk2 := Below.next hyd hb2); go_simp
  refine hK.out _ _ (by assumption) (fun hH => ?_)
  clear hK K
  try simp only [Act.put, List.setIfInBounds_toArray, List.set_cons_zero, List.set_cons_succ]
  refine wpK.step (i := 11) (by kernel_rfl) (by simp only [List.getElem?_toArray, List.getElem?_cons_succ, List.getElem?_cons_zero]; rfl) (fun K hK => ?_)
  go_simp
  (refine (HG2.out _).mono ?_); rintro e w3 ⟨n2, rfl, hn2, hm2, hb3⟩; (have hk3 := Below.next hk2 hb3); (have hwr : IntKind.i64.wrap (n1 - n2) = n1 - n2 := by rw [IntKind.wrap_i64]; omega); (have HK3 := hid hk3); go_simp
  refine hK.out _ _ (by assumption) (fun hH => ?_)
  clear hK K
  try simp only [Act.put, List.setIfInBounds_toArray, List.set_cons_zero, List.set_cons_succ]
  refine wpK.take (i := 12) (v := _) (by simp only [List.getElem?_toArray, List.getElem?_cons_succ, List.getElem?_cons_zero]; rfl) (by kernel_rfl) (by kernel_rfl) (by kernel_rfl) (by kernel_rfl) (by kernel_rfl) (by exact fun _ _ _ h => h) (by first | exact Or.inl ⟨by rfl, by intro w hSw; go_simp; try with_reducible rfl⟩ | exact Or.inr ⟨by rfl, rfl⟩) hH ?_
  try simp only [Act.put, List.setIfInBounds_toArray, List.set_cons_zero, List.set_cons_succ]
  refine wpK.late (i := 13) (by kernel_rfl) (by simp only [List.getElem?_toArray, List.getElem?_cons_succ, List.getElem?_cons_zero]; rfl) (by kernel_rfl) (fun K hK => ?_)
  go_simp
  refine hK.out _ _ ?_
  clear hK K
  try simp only [Act.put, List.setIfInBounds_toArray, List.set_cons_zero, List.set_cons_succ]
  refine wpK.done (by kernel_rfl) ?_ _
  obtain ⟨n, hn⟩ : ∃ n, n = n1 - n2 := ⟨_, rfl⟩
  rw [← hn]
  clear hn hwr hn1 hn2 hm1 hm2 hb2 hb3 hk2 hk3 hyd hH r0 r1 r2 r3 s0 s1 s2 s3 t0 t1 t2 t3
  by_cases h0 : n = 0
  · subst h0
    go_upto_region 4 with fail
    have r0 : ∀ y, Below w3.heap.size w3 y → y.cell? ⟨p, 0, none⟩ = some (.int .i64 rx) := fun y hy => cellOf_belowR hy ((HR.out.below HK3.out)).1
    have r1 : ∀ y, Below w3.heap.size w3 y → y.cell? ⟨p, 1, none⟩ = some (.int .i64 ry) := fun y hy => cellOf_belowR hy ((HR.out.below HK3.out)).2.1
    have r2 : ∀ y, Below w3.heap.size w3 y → y.cell? ⟨p, 2, none⟩ = some (.int .i64 ra) := fun y hy => cellOf_belowR hy ((HR.out.below HK3.out)).2.2.1
    have r3 : ∀ y, Below w3.heap.size w3 y → y.cell? ⟨p, 3, none⟩ = some (.int .i64 rb) := fun y hy => cellOf_belowR hy ((HR.out.below HK3.out)).2.2.2
    have s0 : ∀ y, Below w3.heap.size w3 y → y.cell? ⟨q, 0, none⟩ = some (.int .i64 sx) := fun y hy => cellOf_belowR hy ((HS.out.below HK3.out)).1
    have s1 : ∀ y, Below w3.heap.size w3 y → y.cell? ⟨q, 1, none⟩ = some (.int .i64 sy) := fun y hy => cellOf_belowR hy ((HS.out.below HK3.out)).2.1
    have s2 : ∀ y, Below w3.heap.size w3 y → y.cell? ⟨q, 2, none⟩ = some (.int .i64 sa) := fun y hy => cellOf_belowR hy ((HS.out.below HK3.out)).2.2.1
    have s3 : ∀ y, Below w3.heap.size w3 y → y.cell? ⟨q, 3, none⟩ = some (.int .i64 sb) := fun y hy => cellOf_belowR hy ((HS.out.below HK3.out)).2.2.2
    have hyd := (Below.refl w3.heap.size w3).drew
    refine wp_region_kept [11] (fun z => Below w3.heap.size w3 z) (by kernel_rfl) (by assumption) (fun hH => ?_)
    refine wpK.take (i := 0) (v := _) (by simp only [List.getElem?_toArray, List.getElem?_cons_succ, List.getElem?_cons_zero]; rfl) (by kernel_rfl) (by kernel_rfl) (by kernel_rfl) (by kernel_rfl) (by kernel_rfl) (by exact fun _ _ _ h => h) (by first | exact Or.inl ⟨by rfl, by intro w hSw; go_simp; try with_reducible rfl⟩ | exact Or.inr ⟨by rfl, rfl⟩) hH ?_
    try simp only [Act.put, List.setIfInBounds_toArray, List.set_cons_zero, List.set_cons_succ]
    refine wpK.take (i := 1) (v := _) (by simp only [List.getElem?_toArray, List.getElem?_cons_succ, List.getElem?_cons_zero]; rfl) (by kernel_rfl) (by kernel_rfl) (by kernel_rfl) (by kernel_rfl) (by kernel_rfl) (by exact fun _ _ _ h => h) (by first | exact Or.inl ⟨by rfl, by intro w hSw; go_simp; try with_reducible rfl⟩ | exact Or.inr ⟨by rfl, rfl⟩) hH ?_
    try simp only [Act.put, List.setIfInBounds_toArray, List.set_cons_zero, List.set_cons_succ]
    refine wpK.take (i := 2) (v := _) (by simp only [List.getElem?_toArray, List.getElem?_cons_succ, List.getElem?_cons_zero]; rfl) (by kernel_rfl) (by kernel_rfl) (by kernel_rfl) (by kernel_rfl) (by kernel_rfl) (by exact fun _ _ _ h => h) (by first | exact Or.inl ⟨by rfl, by intro w hSw; go_simp; try with_reducible rfl⟩ | exact Or.inr ⟨by rfl, rfl⟩) hH ?_
    try simp only [Act.put, List.setIfInBounds_toArray, List.set_cons_zero, List.set_cons_succ]
    refine wpK.take (i := 3) (v := _) (by simp only [List.getElem?_toArray, List.getElem?_cons_succ, List.getElem?_cons_zero]; rfl) (by kernel_rfl) (by kernel_rfl) (by kernel_rfl) (by kernel_rfl) (by kernel_rfl) (by exact fun _ _ _ h => h) (by first | exact Or.inl ⟨by rfl, by intro w hSw; go_simp; try with_reducible rfl⟩ | exact Or.inr ⟨by rfl, rfl⟩) hH ?_
    try simp only [Act.put, List.setIfInBounds_toArray, List.set_cons_zero, List.set_cons_succ]
    refine wpK.take (i := 5) (v := _) (by simp only [List.getElem?_toArray, List.getElem?_cons_succ, List.getElem?_cons_zero]; rfl) (by kernel_rfl) (by kernel_rfl) (by kernel_rfl) (by kernel_rfl) (by kernel_rfl) (by exact fun _ _ _ h => h) (by first | exact Or.inl ⟨by rfl, by intro w hSw; go_simp; try with_reducible rfl⟩ | exact Or.inr ⟨by rfl, rfl⟩) hH ?_
    try simp only [Act.put, List.setIfInBounds_toArray, List.set_cons_zero, List.set_cons_succ]
    refine wpK.take (i := 6) (v := _) (by simp only [List.getElem?_toArray, List.getElem?_cons_succ, List.getElem?_cons_zero]; rfl) (by kernel_rfl) (by kernel_rfl) (by kernel_rfl) (by kernel_rfl) (by kernel_rfl) (by exact fun _ _ _ h => h) (by first | exact Or.inl ⟨by rfl, by intro w hSw; go_simp; try with_reducible rfl⟩ | exact Or.inr ⟨by rfl, rfl⟩) hH ?_
    try simp only [Act.put, List.setIfInBounds_toArray, List.set_cons_zero, List.set_cons_succ]
    refine wpK.take (i := 7) (v := _) (by simp only [List.getElem?_toArray, List.getElem?_cons_succ, List.getElem?_cons_zero]; rfl) (by kernel_rfl) (by kernel_rfl) (by kernel_rfl) (by kernel_rfl) (by kernel_rfl) (by exact fun _ _ _ h => h) (by first | exact Or.inl ⟨by rfl, by intro w hSw; go_simp; try with_reducible rfl⟩ | exact Or.inr ⟨by rfl, rfl⟩) hH ?_
    try simp only [Act.put, List.setIfInBounds_toArray, List.set_cons_zero, List.set_cons_succ]
    refine wpK.take (i := 8) (v := _) (by simp only [List.getElem?_toArray, List.getElem?_cons_succ, List.getElem?_cons_zero]; rfl) (by kernel_rfl) (by kernel_rfl) (by kernel_rfl) (by kernel_rfl) (by kernel_rfl) (by exact fun _ _ _ h => h) (by first | exact Or.inl ⟨by rfl, by intro w hSw; go_simp; try with_reducible rfl⟩ | exact Or.inr ⟨by rfl, rfl⟩) hH ?_
    try simp only [Act.put, List.setIfInBounds_toArray, List.set_cons_zero, List.set_cons_succ]
    refine wpK.step (i := 4) (by kernel_rfl) (by simp only [List.getElem?_toArray, List.getElem?_cons_succ, List.getElem?_cons_zero]; rfl) (fun K hK => ?_)
    go_simp
    (refine (HA1.out _).mono ?_); rintro e w4 ⟨m1, rfl, hn1, hm1, hb4⟩; (have hk4 := Below.next hyd hb4); go_simp
    refine hK.out _ _ (by assumption) (fun hH => ?_)
    clear hK K
    try simp only [Act.put, List.setIfInBounds_toArray, List.set_cons_zero, List.set_cons_succ]
    refine wpK.step (i := 9) (by kernel_rfl) (by simp only [List.getElem?_toArray, List.getElem?_cons_succ, List.getElem?_cons_zero]; rfl) (fun K hK => ?_)
    go_simp
    (refine (HA2.out _).mono ?_); rintro e w5 ⟨m2, rfl, hn2, hm2, hb5⟩; (have hk5 := Below.next hk4 hb5); (have hwr : IntKind.i64.wrap (m1 - m2) = m1 - m2 := by rw [IntKind.wrap_i64]; omega); go_simp
    refine hK.out _ _ (by assumption) (fun hH => ?_)
    clear hK K
    try simp only [Act.put, List.setIfInBounds_toArray, List.set_cons_zero, List.set_cons_succ]
    refine wpK.take (i := 10) (v := _) (by simp only [List.getElem?_toArray, List.getElem?_cons_succ, List.getElem?_cons_zero]; rfl) (by kernel_rfl) (by kernel_rfl) (by kernel_rfl) (by kernel_rfl) (by kernel_rfl) (by exact fun _ _ _ h => h) (by first | exact Or.inl ⟨by rfl, by intro w hSw; go_simp; try with_reducible rfl⟩ | exact Or.inr ⟨by rfl, rfl⟩) hH ?_
    try simp only [Act.put, List.setIfInBounds_toArray, List.set_cons_zero, List.set_cons_succ]
    refine wpK.late (i := 11) (by kernel_rfl) (by simp only [List.getElem?_toArray, List.getElem?_cons_succ, List.getElem?_cons_zero]; rfl) (by kernel_rfl) (fun K hK => ?_)
    go_simp
    refine hK.out _ _ ?_
    clear hK K
    try simp only [Act.put, List.setIfInBounds_toArray, List.set_cons_zero, List.set_cons_succ]
    refine wpK.done (by kernel_rfl) ?_ _
    go_wp2_with fail
    go_ret
    exact ⟨_, rfl, Below.next HK3.out hk5⟩
  · go_wp2_with fail
    go_ret
    exact ⟨_, rfl, HK3.out⟩
def MinR (w : World) (n : Nat) (ks : List Nd) (v5 v6 : Value) (wr : World) : Prop :=
  ∃ (i p : Nat), v5 = .pointer (some ⟨p, 0, none⟩) ∧ v6 = .int .i64 (i : Int) ∧ i ≤ n ∧ Hid (∃ k ∈ ks, k.p = p) ∧ Hid (Below w.heap.size w wr)
set_option maxRecDepth 100000 in
set_option maxHeartbeats 2000000 in
theorem rt_MinFunc (ks : List Nd) (a : Option Addr) (n c b : Nat) (t : R4) (w : World) (h : SlN w a n c ks) (ht : RAt w b t) (h0 : 0 < n) (hn : n ≤ 1000) :
    Calls Tryz.prog 116 #[.slice a n c, .func (.func 117) #[] #[.pointer (some ⟨b, 0, none⟩)]] w fun e w' => ∃ k ∈ ks, e = .returned (ptrN k) ∧ Below w.heap.size w w' := by
  have H := hid h
  have HT := hid ht
  have hn1 : ¬ (n : Int) < 1 := by omega
  obtain ⟨ba, off, k0, rfl, hk0, hc0, -, -⟩ := h.at h0
  simp only [Nat.add_zero] at hc0
  have HK0 := hid (List.mem_of_getElem? hk0)
  have j0 : (0 : Int) < (n : Int) := by omega
  clear h ht hk0
  go_enter Tryz.func116, Tryz.ntmps116
  go_wp2_with fail
  clear hc0
  go_loopw [5, 6] (fun v5 v6 wr => MinR w n ks v5 v6 wr) (fun _ v6 _ => n - (intOf v6).toNat)
  case atStart => exact ⟨1, k0.p, rfl, rfl, by omega, hid ⟨k0, HK0.out, rfl⟩, hid (Below.refl _ _)⟩
  case round =>
    obtain ⟨i, p, rfl, rfl, hi, HP, HB⟩ := hrel
    by_cases hlt : i < n
    · have j1 : (i : Int) < (n : Int) := by omega
      have j2 : (0 : Int) ≤ (i : Int) := by omega
      obtain ⟨ba2, off2, k, e2, hk, hc, hr, -⟩ := (H.out.below HB.out).at hlt
      simp only [Option.some.injEq, Addr.mk.injEq, and_true] at e2
      obtain ⟨rfl, rfl⟩ := e2
      have HKM := hid (List.mem_of_getElem? hk)
      have HRK := hid hr
      obtain ⟨q, hq⟩ : ∃ q, k.p = q := ⟨_, rfl⟩
      rw [hq] at hc HRK
      have HQ := hid hq
      clear hk hr hq
      go_wp2_with fail
      obtain ⟨k2, hk2, e2⟩ := HP.out
      have hr2 := H.out.rat k2 hk2
      rw [e2] at hr2
      refine (rt_pick1 q p b k.r k2.r t wr HRK.out (hr2.below HB.out) (HT.out.below HB.out)).mono ?_
      rintro e w2 ⟨m, rfl, hb⟩
      have HB2 := hid (Below.next HB.out hb)
      have hc2 := cellOf_belowR hb hc
      clear hb hk2 e2 hr2 hc
      by_cases hm : m < 0
      · go_wp2_with fail
        go_roundw
        case rel => exact ⟨i + 1, q, rfl, by go_num, by omega, hid ⟨k, HKM.out, HQ.out⟩, HB2⟩
        case measure => simp [intOf]; omega
      · go_wp2_with fail
        go_roundw
        case rel => exact ⟨i + 1, p, rfl, by go_num, by omega, HP, HB2⟩
        case measure => simp [intOf]; omega
    · have j1 : ¬ (i : Int) < (n : Int) := by omega
      go_wp2_with fail
      go_ret
      obtain ⟨k, hk, e⟩ := HP.out
      exact ⟨k, hk, by rw [← e]; rfl, HB.out⟩
/-- the cells of a node -/
def cells7 (r : R4) (kv : Value) (v : Int) (d : Int) : Array Value := #[.int .i64 r.1, .int .i64 r.2.1, .int .i64 r.2.2.1, .int .i64 r.2.2.2, kv, .int .i64 v, .int .i64 d]
theorem Blk.c7 {w : World} {p : Nat} {r : R4} {kv : Value} {v d : Int} (h : Blk w p (cells7 r kv v d)) : RAt w p r ∧ w.cell? ⟨p, 4, none⟩ = some kv ∧ w.cell? ⟨p, 5, none⟩ = some (.int .i64 v) ∧ w.cell? ⟨p, 6, none⟩ = some (.int .i64 d) := by
  unfold cells7 at h
  exact ⟨⟨by rw [h.cell]; rfl, by rw [h.cell]; rfl, by rw [h.cell]; rfl, by rw [h.cell]; rfl⟩, by rw [h.cell]; rfl, by rw [h.cell]; rfl, by rw [h.cell]; rfl⟩
set_option maxRecDepth 100000 in
set_option maxHeartbeats 2000000 in
theorem rt_pick (ks : List Nd) (a : Option Addr) (n c p : Nat) (v d : Int) (r0 r : R4) (w : World) (hp : Blk w p (cells7 r0 (.slice a n c) v d)) (h : SlN w a n c ks) (h0 : 0 < n) (hn : n ≤ 1000) :
    Calls Tryz.prog 110 #[.pointer (some ⟨p, 0, none⟩), rV r] w fun e w' => ∃ k ∈ ks, e = .returned (ptrN k) ∧ Below w.heap.size w w' := by
  obtain ⟨rx, ry, ra, rb⟩ := r
  simp only [rV]
  have H := hid h
  have HP := hid hp
  clear h hp
  go_enter Tryz.func110, Tryz.ntmps110
  go_upto_region 1 with fail
  obtain ⟨w1, hw⟩ : ∃ w1, w1 = w.alloc (.cells #[.int .i64 rx, .int .i64 ry, .int .i64 ra, .int .i64 rb] 25) := ⟨_, rfl⟩
  rw [← hw]
  obtain ⟨g, hg⟩ : ∃ g, g = w.heap.size := ⟨_, rfl⟩
  rw [← hg]
  have hb : Below w.heap.size w w1 := by rw [hw]; exact Below.new _ _
  have HX : Hid (Blk w1 g #[.int .i64 rx, .int .i64 ry, .int .i64 ra, .int .i64 rb]) := hid (by rw [hw, hg]; exact Blk.new _ _ _)
  have HB := hid hb
  obtain ⟨-, c4, -⟩ := (HP.out.below hb).c7
  clear hw hg hb
  go_wp2_with fail
  refine (rt_MinFunc ks a n c g (rx, ry, ra, rb) w1 (H.out.below HB.out) HX.out.c4r h0 hn).mono ?_
  rintro e w2 ⟨k, hk, rfl, hb⟩
  have HK := hid hk
  have HB2 := hid (Below.next HB.out hb)
  clear hk hb c4
  unfold ptrN
  go_wp2_with fail
  go_ret
  exact ⟨k, HK.out, rfl, HB2.out⟩
end Go.Proofs.YtjbnfppnmljbmaaGreat
end
section
/- Layings of the shelf's contracts at this dump (printed by the shelf's lay-plain). -/
namespace Go.Proofs
open Go.Shelf
def Tryz.lays_SlLaysE_n45_107_ren : Go.Shelf.Ren := ⟨fun | 45 => 107 | n => n, fun | 22 => 118 | 23 => 111 | 3 => 3 | 4 => 4 | 0 => 0 | n => n, fun | n => n⟩
theorem Tryz.lays_SlLaysE_n45_107 : Go.Proofs.SlLaysE.n45 Tryz.prog Tryz.lays_SlLaysE_n45_107_ren := {
  mixed := by kernel_rfl
  f45 := ⟨Tryz.f107.name, by decide, Tryz.func107.trans (congrArg some (by kernel_rfl))⟩
  t0 := Tryz.underlying0
  a0 := Tryz.isAgg0
  z0 := Tryz.sizeOf0
  v0 := Tryz.zeroValue0
  t3 := Tryz.underlying3
  a3 := Tryz.isAgg3
  z3 := Tryz.sizeOf3
  v3 := Tryz.zeroValue3
  t4 := Tryz.underlying4
  a4 := Tryz.isAgg4
  z4 := Tryz.sizeOf4
  v4 := Tryz.zeroValue4
  t22 := Tryz.underlying118
  a22 := Tryz.isAgg118
  z22 := Tryz.sizeOf118
  v22 := Tryz.zeroValue118
  a23 := Tryz.isAgg111
  z23 := Tryz.sizeOf111 }
def Tryz.lays_SlLaysF_n20_114_ren : Go.Shelf.Ren := ⟨fun | 20 => 114 | n => n, fun | 24 => 111 | 22 => 118 | 3 => 3 | 25 => 141 | 4 => 4 | 0 => 0 | n => n, fun | n => n⟩
theorem Tryz.lays_SlLaysF_n20_114 : Go.Proofs.SlLaysF.n20 Tryz.prog Tryz.lays_SlLaysF_n20_114_ren := {
  mixed := by kernel_rfl
  f20 := ⟨Tryz.f114.name, by decide, Tryz.func114.trans (congrArg some (by kernel_rfl))⟩
  t0 := Tryz.underlying0
  a0 := Tryz.isAgg0
  z0 := Tryz.sizeOf0
  v0 := Tryz.zeroValue0
  t3 := Tryz.underlying3
  a3 := Tryz.isAgg3
  z3 := Tryz.sizeOf3
  v3 := Tryz.zeroValue3
  t4 := Tryz.underlying4
  a4 := Tryz.isAgg4
  z4 := Tryz.sizeOf4
  v4 := Tryz.zeroValue4
  t22 := Tryz.underlying118
  a22 := Tryz.isAgg118
  z22 := Tryz.sizeOf118
  v22 := Tryz.zeroValue118
  a24 := Tryz.isAgg111
  z24 := Tryz.sizeOf111
  t25 := Tryz.underlying141
  a25 := Tryz.isAgg141
  z25 := Tryz.sizeOf141
  v25 := Tryz.zeroValue141 }
end Go.Proofs
end
section
/- Contracts: slices.Clone and Delete at nodes. -/
namespace Go.Proofs.YtjbnfppnmljbmaaGreat
open Go.RowKit
open Go.Lib (hid)
open Go.Sort (putRow putCells Holds)
set_option linter.unusedVariables false

def encN : Option Nat → Value
  | some p => .pointer (some ⟨p, 0, none⟩)
  | none => .pointer none
theorem encN_one : OneCell encN := fun x => by cases x <;> rfl
abbrev ptrs (l : List Nd) : List Value := l.map ptrN
theorem ptrs_one (l : List Nd) : ∀ u ∈ ptrs l, u.oneCell' = true := by
  intro u hu
  obtain ⟨k, -, rfl⟩ := List.mem_map.1 hu
  rfl
theorem T_nodes : SlT Tryz.prog 118 111 (.pointer none) 1 8 := SlT.mk' Tryz.underlying118 (by kernel_rfl) rfl (by decide) (by decide)
theorem zero_ptrN (w : World) : (zeroValue 111).run Tryz.prog w = .ok (encN none) w := by kernel_rfl
theorem putRow_blk {w : World} {g : Nat} {cur : Array Value} {e : TypeId} (q : Nat) (D : Array (Option Nat)) (hg : w.heap[g]? = some (.cells cur e (0, 0))) :
    (putRow encN (Go.Sort.ahead w q) g 0 D).heap[g]? = some (.cells (putCells encN 0 D cur) e (0, 0)) := by
  show (w.heap.modify g _)[g]? = _
  rw [Array.getElem?_modify, if_pos rfl, hg]
  rfl
theorem putRow_upd (w : World) (g q : Nat) (D : Array (Option Nat)) : Upd (fun k => k = g) w (putRow encN (Go.Sort.ahead w q) g 0 D) := by
  refine ⟨rfl, rfl, rfl, ?_, fun k hk hn => ?_⟩
  · show _ ≤ (w.heap.modify g _).size
    simp
  · show (w.heap.modify g _)[k]? = _
    rw [Array.getElem?_modify, if_neg (fun e => hn e.symm)]
theorem putRow_size (w : World) (g q : Nat) (D : Array (Option Nat)) : (putRow encN (Go.Sort.ahead w q) g 0 D).heap.size = w.heap.size := by
  show (w.heap.modify g _).size = _
  simp
theorem putCells_take (D : Array (Option Nat)) (cur : Array Value) (m : Nat) (hm : m ≤ D.size) (hD : D.size ≤ cur.size) : (putCells encN 0 D cur).toList.take m = (D.toList.take m).map encN := by
  apply List.ext_getElem?
  intro k
  rw [List.getElem?_take, List.getElem?_map, List.getElem?_take]
  by_cases h : k < m
  · rw [if_pos h, if_pos h, Array.getElem?_toList, Array.getElem?_toList]
    unfold putCells
    rw [Array.getElem?_mapIdx, Array.getElem?_eq_getElem (by omega : k < cur.size), Array.getElem?_eq_getElem (by omega : k < D.size)]
    simp only [Option.map_some]
    rw [if_pos ⟨Nat.zero_le _, by omega⟩, Nat.sub_zero, getElem!_pos D k (by omega)]
  · rw [if_neg h, if_neg h]; rfl
theorem ptrs_enc (l : List Nd) : (l.map (fun n => some n.p)).map encN = l.map ptrN := by rw [List.map_map]; rfl
/-- Delete of one node of an own row -/
theorem sl_DelN (l : List Nd) (i : Nat) (sv : Value) (j : Int) (w : World) (h : ownP w sv l) (hi : i < l.length) (hj : j = (i : Int) + 1) :
    Calls Tryz.prog 107 #[sv, .int .i64 (i : Int), .int .i64 j] w fun e w' => ∃ a c, e = .returned (.slice a (l.length - 1) c) ∧ ownP w' (.slice a (l.length - 1) c) (l.eraseIdx i) ∧ Upd (fun k => sv.ownBlock = some k) w w' ∧ (Value.slice a (l.length - 1) c).ownBlock = sv.ownBlock ∧ w'.heap.size = w.heap.size := by
  subst hj
  have hel : (l.eraseIdx i).length = l.length - 1 := by rw [List.length_eraseIdx, if_pos hi]
  rcases h.2 with ⟨-, hq⟩ | ⟨g, c, cur, rfl, hb, hg, hnc, hcm, hcs, htake⟩
  · omega
  · simp only [Nat.mul_one] at hcs htake
    have hblk : Blk w g cur := ⟨_, hg⟩
    obtain ⟨D, hD⟩ : ∃ D : Array (Option Nat), D = (l.map (fun n => some n.p)).toArray := ⟨_, rfl⟩
    have hDs : D.size = l.length := by rw [hD]; simp
    have hH : Holds encN w g 0 D := fun k hk => by
      refine ⟨?_, hblk.unfrozen _⟩
      rw [Nat.zero_add, hblk.cell, ← Array.getElem?_toList]
      have : cur.toList[k]? = (l.map ptrN)[k]? := by rw [← htake, List.getElem?_take, if_pos (by omega)]
      rw [this, ← ptrs_enc, List.getElem?_map]
      have h2 : (l.map (fun n => some n.p))[k]? = some D[k]! := by
        rw [getElem!_pos D k hk]
        have : D[k]? = some D[k] := Array.getElem?_eq_getElem hk
        rw [← this, hD]; simp
      rw [h2]; rfl
    obtain ⟨i0, hi0, -, hz1, -⟩ := T_nodes.info
    have hdel := AnyE.slices_Delete Tryz.lays_SlLaysE_n45_107 encN encN_one none zero_ptrN i0 hi0 hz1 g 0 c i (i + 1) D w hH (by omega) (by unfold maxLen at hcm; omega) (by omega) (by omega)
    rw [hDs] at hdel
    refine hdel.mono ?_
    rintro e w' ⟨rfl, q, rfl⟩
    obtain ⟨D2, hD2⟩ : ∃ D2, D2 = (D.toList.take i ++ D.toList.drop (i + 1) ++ List.replicate (i + 1 - i) none).toArray := ⟨_, rfl⟩
    rw [← hD2, Nat.add_sub_cancel_left]
    have hD2s : D2.size = l.length := by rw [hD2]; simp; omega
    refine ⟨_, _, rfl, ⟨by simp [hel], .inr ⟨g, c, _, by rw [hel], hb, putRow_blk q D2 hg, by omega, hcm, by unfold putCells; simp; omega, ?_⟩⟩, (putRow_upd w g q D2).mono (fun k _ e => by rw [e]; rfl), rfl, putRow_size w g q D2⟩
    rw [hel, Nat.mul_one, putCells_take D2 cur (l.length - 1) (by omega) (by omega), ← ptrs_enc, hD2, Nat.add_sub_cancel_left, hD]
    refine congrArg (List.map encN) ?_
    rw [List.take_append_of_le_length (by simp; omega), List.take_of_length_le (by simp; omega)]
    simp [List.eraseIdx_eq_take_drop_succ]
set_option maxRecDepth 100000 in
theorem sl_CloneN (l : List Nd) (a : Option Addr) (n c : Nat) (w : World) (h : SlN w a n c l) (hn1 : 0 < n) (hb : n ≤ 1000) : Calls Tryz.prog 120 #[.slice a n c] w fun e w' =>
    ∃ a' c', e = .returned (.slice a' n c') ∧ w'.ownsRow w.heap.size 111 1 (.slice a' n c') l.length (ptrs l) ∧ Below w.heap.size w w' := by
  obtain ⟨rfl, h1, h2, -⟩ := h
  have hn := fun (w : World) (a : Option Addr) (n c : Nat) => Lib.run_eql_slice_nil (P := Tryz.prog) w 118 111 a n c 0 0 Tryz.underlying118
  obtain ⟨b, off, ha, -⟩ := h1 0 (by simpa using hn1)
  subst ha
  have hr2 : Rd (w.alloc (.cells #[] 111)) (some ⟨b, off, none⟩) (ptrs l) := h1.below' ((Below.refl _ _).alloc (Nat.le_refl _) _)
  have hown : (w.alloc (.cells #[] 111)).ownsRow w.heap.size 111 1 (.slice (some ⟨w.heap.size, 0, none⟩) 0 0) 0 [] := World.ownsRow_made w #[] 0 (Nat.le_refl _) (by omega) (by simp)
  have HO := hid (ptrs_one l)
  clear h1 h2
  go_enter Tryz.func120, Tryz.ntmps120
  go_wp2_with (at_builtin; refine wpList_appendN T_nodes _ rfl _ _ rfl w.heap.size _ _ _ rfl hown _ _ _ (ptrs l) rfl ?c1 (fun _ h => nomatch h) hr2 HO.out ?c2 ?c3 ?_)
  case c1 => simp
  case c2 => omega
  case c3 => simp
  intro v' w' hown' hg hnil
  have hb' : Below w.heap.size w w' := ((Below.refl _ _).alloc (Nat.le_refl _) _).grown hg (by simp) (fun k hk => by simp [Value.ownBlock] at hk; omega)
  have hown2 : w'.ownsRow w.heap.size 111 1 v' l.length (ptrs l) := by simpa using hown'
  obtain ⟨a', c', rfl, -⟩ := ownsRow.rd hown2
  clear hg hnil hown hown'
  go_wp2
  go_ret
  exact ⟨_, _, rfl, hown2, hb'⟩
end Go.Proofs.YtjbnfppnmljbmaaGreat
end
