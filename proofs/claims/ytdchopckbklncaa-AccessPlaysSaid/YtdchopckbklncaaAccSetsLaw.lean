/- The law AccessSets, walked. -/
import Derived.Test.YtdchopckbklncaaAccSetMath
import Derived.Test.YtdchopckbklncaaAccLawRight
import Derived.Test.YtdchopckbklncaaAccHRight
import Derived.Test.YtdchopckbklncaaAccEq
import Derived.Test.YtdchopckbklncaaAccLaw
import Derived.Test.YtdchopckbklncaaAccAwake
import Derived.Test.YtdchopckbklncaaInv
import Derived.Test.YtdchopckbklncaaApp0
import Derived.Deep.DeepCutAuto
namespace Go.Proofs.Ytdchopckbklncaa
open Go.RowKit
open Go.Lib (hid)
set_option linter.unusedVariables false

theorem idxP_n (m : Nat) (h1 : 1 ≤ m) (h3 : m ≤ 3) (g : Nat) (w : World) : (Instr.index 87 (.agg #[.pointer (some ⟨g, 1, none⟩), .pointer (some ⟨g, 2, none⟩), .pointer (some ⟨g, 3, none⟩)]) (.int .i64 ((m : Int) - 1))).run Try.prog w = .ok (.pointer (some ⟨g, m, none⟩)) w := by
  obtain rfl | rfl | rfl : m = 1 ∨ m = 2 ∨ m = 3 := by omega
  · exact idx3_1 g w
  · exact idx3_2 g w
  · exact idx3_3 g w
/-- a slice of numbers of the call's own, whatever it holds -/
def Wr (w : World) (B : Nat) (v : Value) : Prop := ∃ n xs, w.ownsRow B 3 1 v n xs
theorem Wr.set {w : World} {B : Nat} {v : Value} (h : Wr w B v) (g i : Nat) (u : Value) : Wr (w.setCell ⟨g, i, none⟩ u) B v := by
  obtain ⟨n, xs, h⟩ := h
  rcases h.2 with ⟨rfl, rfl⟩ | ⟨g', cap, cur, rfl, hb, hg, hnc, hcm, hcs, htake⟩
  · exact ⟨0, [], World.ownsRow_nil _ _ _ _⟩
  · by_cases hgg : g' = g
    · subst hgg
      exact ⟨n, (cur.setIfInBounds i u).toList.take (n * 1), by simp; omega, .inr ⟨g', cap, _, rfl, hb, heap_setCell_same w g' i cur _ u hg, hnc, hcm, by simpa using hcs, rfl⟩⟩
    · exact ⟨n, xs, h.1, .inr ⟨g', cap, cur, rfl, hb, (heap_setCell_other w ⟨g, i, none⟩ g' u hgg).trans hg, hnc, hcm, hcs, htake⟩⟩
theorem Wr.below {w w' : World} {B : Nat} {v : Value} (h : Wr w B v) (hb : Below w.heap.size w w') : Wr w' B v := by
  obtain ⟨n, xs, h⟩ := h
  exact ⟨n, xs, owns_below h hb⟩
structure Inv3 (wr : World) (B gS : Nat) (u1 u2 u3 : Value) (w : World) : Prop where
  bel : Below B wr w
  w1 : Wr w B u1
  w2 : Wr w B u2
  w3 : Wr w B u3
  blk : Blk w gS #[u1, u2, u3]
theorem Inv3.set {wr w : World} {B gS : Nat} {u1 u2 u3 : Value} (h : Inv3 wr B gS u1 u2 u3 w) (g i : Nat) (u : Value) (h1 : B ≤ g) (h2 : g ≠ gS) : Inv3 wr B gS u1 u2 u3 (w.setCell ⟨g, i, none⟩ u) :=
  ⟨h.bel.setCell h1 _, h.w1.set _ _ _, h.w2.set _ _ _, h.w3.set _ _ _, h.blk.upd (Upd.setCell w g i u) (fun e => h2 e.symm)⟩
theorem Wr.at {w : World} {B : Nat} {a : Option Addr} {len cap : Nat} (h : Wr w B (.slice a len cap)) (i : Nat) (hi : i < len) : ∃ g x, a = some ⟨g, 0, none⟩ ∧ w.cell? ⟨g, i, none⟩ = some x ∧ w.frozen? ⟨g, i, none⟩ = false ∧ len ≤ 9223372036854775807 ∧ (Value.slice a len cap).ownBlock = some g := by
  obtain ⟨n, xs, h⟩ := h
  rcases h.2 with ⟨e, rfl⟩ | ⟨g', cap', cur, e, hb, hg, hnc, hcm, hcs, htake⟩
  · simp only [Value.slice.injEq] at e
    omega
  · simp only [Value.slice.injEq] at e
    obtain ⟨rfl, rfl, rfl⟩ := e
    have hblk : Blk w g' cur := ⟨_, hg⟩
    have hi2 : i < cur.size := by omega
    exact ⟨g', cur[i], rfl, by rw [hblk.cell]; exact Array.getElem?_eq_getElem hi2, hblk.unfrozen i, by unfold maxLen at hcm; omega, rfl⟩
/-- one list of a house is put anew -/
theorem put_house {w : World} {g : Nat} {o : Int} {u1 u2 u3 v : Value} {lc lf lb l' : List Int} (hblk : Blk w g #[.int .i64 o, u1, u2, u3]) (h1 : SlI w u1 lc) (h2 : SlI w u2 lf) (h3 : SlI w u3 lb) (hv : SlI w v l')
    (n1 : ∀ k, u1.ownBlock = some k → k ≠ g) (n2 : ∀ k, u2.ownBlock = some k → k ≠ g) (n3 : ∀ k, u3.ownBlock = some k → k ≠ g) (nv : ∀ k, v.ownBlock = some k → k ≠ g) {n : Nat} (hn1 : 1 ≤ n) (hn3 : n ≤ 3) :
    ∃ x1 x2 x3, Blk (w.setCell ⟨g, n, none⟩ v) g #[.int .i64 o, x1, x2, x3] ∧ SlI (w.setCell ⟨g, n, none⟩ v) x1 (if n = 1 then l' else lc) ∧ SlI (w.setCell ⟨g, n, none⟩ v) x2 (if n = 2 then l' else lf) ∧ SlI (w.setCell ⟨g, n, none⟩ v) x3 (if n = 3 then l' else lb) := by
  have hS := Upd.setCell w g n v
  have h9 := hblk.set n v
  have k1 := h1.upd hS (fun k hk e => n1 k hk e)
  have k2 := h2.upd hS (fun k hk e => n2 k hk e)
  have k3 := h3.upd hS (fun k hk e => n3 k hk e)
  have kv := hv.upd hS (fun k hk e => nv k hk e)
  obtain rfl | rfl | rfl : n = 1 ∨ n = 2 ∨ n = 3 := by omega
  · exact ⟨v, u2, u3, by simpa using h9, by simpa using kv, by simpa using k2, by simpa using k3⟩
  · exact ⟨u1, v, u3, by simpa using h9, by simpa using k1, by simpa using kv, by simpa using k3⟩
  · exact ⟨u1, u2, v, by simpa using h9, by simpa using k1, by simpa using k2, by simpa using kv⟩
set_option maxRecDepth 100000 in
set_option maxHeartbeats 8000000 in
/-- a right house of the law's size -/
theorem law18_Sets (o list p : Int) (lc lf lb : List Int) (vc vf vb : Value) (w : World) (hc : SlI w vc lc) (hf : SlI w vf lf) (hb : SlI w vb lb) (hs1 : lc.length ≤ 40) (hs2 : lf.length ≤ 40) (hs3 : lb.length ≤ 40) (ho1 : 1 ≤ o) (ho2 : o ≤ 256) (hr1 : RightL lc o) (hr2 : RightL lf o) (hr3 : RightL lb o) :
    Calls Try.prog 12 #[.agg #[.int .i64 o, vc, vf, vb], .int .i64 list, .int .i64 p] w fun e w' => e = .returned (.bool true) ∧ Below w.heap.size w w' := by
  have HC0 : Hid (SlI w vc lc) := hid hc
  have HF0 : Hid (SlI w vf lf) := hid hf
  have HB0 : Hid (SlI w vb lb) := hid hb
  obtain ⟨ac, cc, rfl, -⟩ := hc
  obtain ⟨af, cf, rfl, -⟩ := hf
  obtain ⟨ab, cb, rfl, -⟩ := hb
  have HR1 := hid hr1
  have HR2 := hid hr2
  have HR3 := hid hr3
  clear hr1 hr2 hr3
  obtain ⟨w0, hw0⟩ : ∃ w0, w0 = w.alloc (.cells #[.int .i64 o, .slice ac lc.length cc, .slice af lf.length cf, .slice ab lb.length cb] 69) := ⟨_, rfl⟩
  have HW0 := hid hw0
  have HK0 : Hid (Below w.heap.size w w0) := hid (by rw [hw0]; exact Below.new _ _)
  have HBLK : Hid (Blk w0 w.heap.size #[.int .i64 o, .slice ac lc.length cc, .slice af lf.length cf, .slice ab lb.length cb]) := hid (by rw [hw0]; exact Blk.new _ _ _)
  have HC := hid (HC0.out.below HK0.out)
  have HF := hid (HF0.out.below HK0.out)
  have HB := hid (HB0.out.below HK0.out)
  clear hw0 HC0 HF0 HB0
  obtain ⟨hy0, hy1, hy2, hy3, -⟩ := HBLK.out.c4
  go_enter Try.func12, Try.ntmps12
  go_wp2_with fail
  rw [← HW0.out]
  refine (law18_small o lc lf lb _ _ _ _ HC.out HF.out HB.out true (hid (by simp [hs1, hs2, hs3]))).mono ?_
  rintro e w1 ⟨rfl, hb1⟩
  have HK1 := hid hb1
  obtain ⟨hy0, hy1, hy2, hy3, -⟩ := (HBLK.out.below hb1).c4
  clear hb1
  go_wp2_with fail
  refine (law18_right o lc lf lb _ _ _ _ (HC.out.below HK1.out) (HF.out.below HK1.out) (HB.out.below HK1.out) true true true true (by simp [ho1, ho2]) (hid ((rightL_iff _ _).2 HR1.out)) (hid ((rightL_iff _ _).2 HR2.out)) (hid ((rightL_iff _ _).2 HR3.out))).mono ?_
  rintro e w2 ⟨rfl, hb2⟩
  have HK2 := hid (Below.next HK1.out hb2)
  clear hb2 hy0 hy1 hy2 hy3
  have hq1 : ∀ x, Below w2.heap.size w2 x → x.cell? ⟨w.heap.size, 1, none⟩ = some (.slice ac lc.length cc) := fun x hb => (HBLK.out.below (Below.next HK2.out hb)).c4.2.1
  have hq2 : ∀ x, Below w2.heap.size w2 x → x.cell? ⟨w.heap.size, 2, none⟩ = some (.slice af lf.length cf) := fun x hb => (HBLK.out.below (Below.next HK2.out hb)).c4.2.2.1
  have hq3 : ∀ x, Below w2.heap.size w2 x → x.cell? ⟨w.heap.size, 3, none⟩ = some (.slice ab lb.length cb) := fun x hb => (HBLK.out.below (Below.next HK2.out hb)).c4.2.2.2.1
  go_upto_region 3 with fail
  go_cut [7, 8, 9] (fun c7 c8 c9 wx => OwnI wx w2.heap.size c7 lc ∧ OwnI wx w2.heap.size c8 lf ∧ OwnI wx w2.heap.size c9 lb ∧ Below w2.heap.size w2 wx)
  case first =>
    have hk0 := (Below.refl w2.heap.size w2).drew
    refine wp_region_kept [] (fun x => Below w2.heap.size w2 x) (by kernel_rfl) (by assumption) (fun hH => ?_)
    refine wpK.take (i := 1) (v := _) (by simp only [List.getElem?_toArray, List.getElem?_cons_succ, List.getElem?_cons_zero]; rfl) (by kernel_rfl) (by kernel_rfl) (by kernel_rfl) (by kernel_rfl) (by kernel_rfl) (by exact fun _ _ _ h => h) (by first | exact Or.inl ⟨by rfl, by intro w hSw; go_simp; try with_reducible rfl⟩ | exact Or.inr ⟨by rfl, rfl⟩) hH ?_
    try simp only [Act.put, List.setIfInBounds_toArray, List.set_cons_zero, List.set_cons_succ]
    refine wpK.take (i := 2) (v := _) (by simp only [List.getElem?_toArray, List.getElem?_cons_succ, List.getElem?_cons_zero]; rfl) (by kernel_rfl) (by kernel_rfl) (by kernel_rfl) (by kernel_rfl) (by kernel_rfl) (by exact fun _ _ _ h => h) (by first | exact Or.inl ⟨by rfl, by intro w hSw; go_simp; try with_reducible rfl⟩ | exact Or.inr ⟨by rfl, rfl⟩) hH ?_
    try simp only [Act.put, List.setIfInBounds_toArray, List.set_cons_zero, List.set_cons_succ]
    refine wpK.take (i := 5) (v := _) (by simp only [List.getElem?_toArray, List.getElem?_cons_succ, List.getElem?_cons_zero]; rfl) (by kernel_rfl) (by kernel_rfl) (by kernel_rfl) (by kernel_rfl) (by kernel_rfl) (by exact fun _ _ _ h => h) (by first | exact Or.inl ⟨by rfl, by intro w hSw; go_simp; try with_reducible rfl⟩ | exact Or.inr ⟨by rfl, rfl⟩) hH ?_
    try simp only [Act.put, List.setIfInBounds_toArray, List.set_cons_zero, List.set_cons_succ]
    refine wpK.take (i := 6) (v := _) (by simp only [List.getElem?_toArray, List.getElem?_cons_succ, List.getElem?_cons_zero]; rfl) (by kernel_rfl) (by kernel_rfl) (by kernel_rfl) (by kernel_rfl) (by kernel_rfl) (by exact fun _ _ _ h => h) (by first | exact Or.inl ⟨by rfl, by intro w hSw; go_simp; try with_reducible rfl⟩ | exact Or.inr ⟨by rfl, rfl⟩) hH ?_
    try simp only [Act.put, List.setIfInBounds_toArray, List.set_cons_zero, List.set_cons_succ]
    refine wpK.take (i := 9) (v := _) (by simp only [List.getElem?_toArray, List.getElem?_cons_succ, List.getElem?_cons_zero]; rfl) (by kernel_rfl) (by kernel_rfl) (by kernel_rfl) (by kernel_rfl) (by kernel_rfl) (by exact fun _ _ _ h => h) (by first | exact Or.inl ⟨by rfl, by intro w hSw; go_simp; try with_reducible rfl⟩ | exact Or.inr ⟨by rfl, rfl⟩) hH ?_
    try simp only [Act.put, List.setIfInBounds_toArray, List.set_cons_zero, List.set_cons_succ]
    refine wpK.take (i := 10) (v := _) (by simp only [List.getElem?_toArray, List.getElem?_cons_succ, List.getElem?_cons_zero]; rfl) (by kernel_rfl) (by kernel_rfl) (by kernel_rfl) (by kernel_rfl) (by kernel_rfl) (by exact fun _ _ _ h => h) (by first | exact Or.inl ⟨by rfl, by intro w hSw; go_simp; try with_reducible rfl⟩ | exact Or.inr ⟨by rfl, rfl⟩) hH ?_
    try simp only [Act.put, List.setIfInBounds_toArray, List.set_cons_zero, List.set_cons_succ]
    refine wpK.inv (le := fun w w' => Below w.heap.size w w') (fun w => Below.refl _ w) (fun _ _ _ h k => Below.next h k) (m := 0) [0, 3, 4, 7, 8, 11, 12, 13, 14] (fun i => match i with | 3 => [0] | 7 => [4] | 11 => [8] | 12 => [3] | 13 => [7] | 14 => [11] | _ => []) (fun i => match i with | 0 => fun u w => ∃ g, u 0 = .slice (some ⟨g, 0, none⟩) 0 0 ∧ w2.heap.size ≤ g ∧ w.heap[g]? = some (.cells #[] 3 (0, 0)) | 3 => fun u w => OwnI w w2.heap.size (u 3) lc | 4 => fun u w => ∃ g, u 4 = .slice (some ⟨g, 0, none⟩) 0 0 ∧ w2.heap.size ≤ g ∧ w.heap[g]? = some (.cells #[] 3 (0, 0)) | 7 => fun u w => OwnI w w2.heap.size (u 7) lf | 8 => fun u w => ∃ g, u 8 = .slice (some ⟨g, 0, none⟩) 0 0 ∧ w2.heap.size ≤ g ∧ w.heap[g]? = some (.cells #[] 3 (0, 0)) | 11 => fun u w => OwnI w w2.heap.size (u 11) lb | 12 => fun u w => u 12 = u 3 | 13 => fun u w => u 13 = u 7 | 14 => fun u w => u 14 = u 11 | _ => fun _ _ => True) (by kernel_rfl) ⟨(fun u w w' hb h => by obtain ⟨g, h1, h2, h3⟩ := h; exact ⟨g, h1, h2, by rw [hb.block g (Array.getElem?_eq_some_iff.1 h3).1]; exact h3⟩), (fun u w w' hb h => h.below hb), (fun u w w' hb h => by obtain ⟨g, h1, h2, h3⟩ := h; exact ⟨g, h1, h2, by rw [hb.block g (Array.getElem?_eq_some_iff.1 h3).1]; exact h3⟩), (fun u w w' hb h => h.below hb), (fun u w w' hb h => by obtain ⟨g, h1, h2, h3⟩ := h; exact ⟨g, h1, h2, by rw [hb.block g (Array.getElem?_eq_some_iff.1 h3).1]; exact h3⟩), (fun u w w' hb h => h.below hb), (fun _ _ _ _ h => h), (fun _ _ _ _ h => h), (fun _ _ _ _ h => h), trivial⟩ ⟨(by dsimp only; intro u j v w h1 h2 h; have e0 := upd_ne u v (Ne.symm h1); simp only [e0]; exact h), (by dsimp only; intro u j v w h1 h2 h; simp only [List.mem_cons, List.not_mem_nil, or_false, not_or] at h2; have e0 := upd_ne u v (Ne.symm h1); have e1 := upd_ne u v (Ne.symm h2); simp only [e0, e1]; exact h), (by dsimp only; intro u j v w h1 h2 h; have e0 := upd_ne u v (Ne.symm h1); simp only [e0]; exact h), (by dsimp only; intro u j v w h1 h2 h; simp only [List.mem_cons, List.not_mem_nil, or_false, not_or] at h2; have e0 := upd_ne u v (Ne.symm h1); have e1 := upd_ne u v (Ne.symm h2); simp only [e0, e1]; exact h), (by dsimp only; intro u j v w h1 h2 h; have e0 := upd_ne u v (Ne.symm h1); simp only [e0]; exact h), (by dsimp only; intro u j v w h1 h2 h; simp only [List.mem_cons, List.not_mem_nil, or_false, not_or] at h2; have e0 := upd_ne u v (Ne.symm h1); have e1 := upd_ne u v (Ne.symm h2); simp only [e0, e1]; exact h), (by dsimp only; intro u j v w h1 h2 h; simp only [List.mem_cons, List.not_mem_nil, or_false, not_or] at h2; have e0 := upd_ne u v (Ne.symm h1); have e1 := upd_ne u v (Ne.symm h2); simp only [e0, e1]; exact h), (by dsimp only; intro u j v w h1 h2 h; simp only [List.mem_cons, List.not_mem_nil, or_false, not_or] at h2; have e0 := upd_ne u v (Ne.symm h1); have e1 := upd_ne u v (Ne.symm h2); simp only [e0, e1]; exact h), (by dsimp only; intro u j v w h1 h2 h; simp only [List.mem_cons, List.not_mem_nil, or_false, not_or] at h2; have e0 := upd_ne u v (Ne.symm h1); have e1 := upd_ne u v (Ne.symm h2); simp only [e0, e1]; exact h), trivial⟩ (fun _ h => Below.next hH h) (fun u => ?_)
    generalize hacts : acts _ _ u _ = A_
    simp only [acts, dstOf, List.getElem?_toArray, List.getElem?_cons_succ, List.getElem?_cons_zero, Option.bind_some, Act.put, List.setIfInBounds_toArray, List.set_cons_succ, List.set_cons_zero] at hacts
    subst hacts
    refine ⟨⟨?_, ?_, ?_, ?_, ?_, ?_, ?_, ?_, ?_, trivial⟩, ?_⟩
    · intro wx hw h_
      clear h_
      apply wpOp_stepI (i := 0) (le := fun w w' => Below w.heap.size w w') (φ := fun v w' => (fun u w => ∃ g, u 0 = .slice (some ⟨g, 0, none⟩) 0 0 ∧ w2.heap.size ≤ g ∧ w.heap[g]? = some (.cells #[] 3 (0, 0))) (upd u 0 v) w')
      · simp only [List.getElem?_toArray, List.getElem?_cons_succ, List.getElem?_cons_zero]; rfl
      · rfl
      intro K hK
      go_simp
      refine hK.out (.slice (some ⟨wx.heap.size, 0, none⟩) 0 0) _ (Below.new _ _) ⟨wx.heap.size, rfl, hw.size, heap_alloc_new wx _⟩
    · intro wx hw h_
      have h_0 : (fun u w => ∃ g, u 0 = .slice (some ⟨g, 0, none⟩) 0 0 ∧ w2.heap.size ≤ g ∧ w.heap[g]? = some (.cells #[] 3 (0, 0))) u wx := h_.1
      try dsimp only at h_0
      clear h_
      apply wpOp_stepI (i := 3) (le := fun w w' => Below w.heap.size w w') (φ := fun v w' => (fun u w => OwnI w w2.heap.size (u 3) lc) (upd u 3 v) w')
      · simp only [List.getElem?_toArray, List.getElem?_cons_succ, List.getElem?_cons_zero]; rfl
      · rfl
      intro K hK
      obtain ⟨g, e0, hg1, hg2⟩ := h_0
      have hsl := HC.out.below (Below.next HK2.out (Below.next hk0 hw))
      obtain ⟨a', c', e1, hrd, -, -, hcn⟩ := hsl
      simp only [Value.slice.injEq] at e1
      obtain ⟨rfl, -, rfl⟩ := e1
      refine step_app0 T_ints18 rfl _ _ rfl w2.heap.size g e0 hg2 hg1 _ _ _ (iv lc) rfl (by simp [iv]) (fun _ h => hcn h) hrd (iv_oneCell _) (by omega) ?_
      intro v' w' hown hb hne
      exact hK.out v' w' hb hown
    · intro wx hw h_
      clear h_
      apply wpOp_stepI (i := 4) (le := fun w w' => Below w.heap.size w w') (φ := fun v w' => (fun u w => ∃ g, u 4 = .slice (some ⟨g, 0, none⟩) 0 0 ∧ w2.heap.size ≤ g ∧ w.heap[g]? = some (.cells #[] 3 (0, 0))) (upd u 4 v) w')
      · simp only [List.getElem?_toArray, List.getElem?_cons_succ, List.getElem?_cons_zero]; rfl
      · rfl
      intro K hK
      go_simp
      refine hK.out (.slice (some ⟨wx.heap.size, 0, none⟩) 0 0) _ (Below.new _ _) ⟨wx.heap.size, rfl, hw.size, heap_alloc_new wx _⟩
    · intro wx hw h_
      have h_4 : (fun u w => ∃ g, u 4 = .slice (some ⟨g, 0, none⟩) 0 0 ∧ w2.heap.size ≤ g ∧ w.heap[g]? = some (.cells #[] 3 (0, 0))) u wx := h_.1
      try dsimp only at h_4
      clear h_
      apply wpOp_stepI (i := 7) (le := fun w w' => Below w.heap.size w w') (φ := fun v w' => (fun u w => OwnI w w2.heap.size (u 7) lf) (upd u 7 v) w')
      · simp only [List.getElem?_toArray, List.getElem?_cons_succ, List.getElem?_cons_zero]; rfl
      · rfl
      intro K hK
      obtain ⟨g, e0, hg1, hg2⟩ := h_4
      have hsl := HF.out.below (Below.next HK2.out (Below.next hk0 hw))
      obtain ⟨a', c', e1, hrd, -, -, hcn⟩ := hsl
      simp only [Value.slice.injEq] at e1
      obtain ⟨rfl, -, rfl⟩ := e1
      refine step_app0 T_ints18 rfl _ _ rfl w2.heap.size g e0 hg2 hg1 _ _ _ (iv lf) rfl (by simp [iv]) (fun _ h => hcn h) hrd (iv_oneCell _) (by omega) ?_
      intro v' w' hown hb hne
      exact hK.out v' w' hb hown
    · intro wx hw h_
      clear h_
      apply wpOp_stepI (i := 8) (le := fun w w' => Below w.heap.size w w') (φ := fun v w' => (fun u w => ∃ g, u 8 = .slice (some ⟨g, 0, none⟩) 0 0 ∧ w2.heap.size ≤ g ∧ w.heap[g]? = some (.cells #[] 3 (0, 0))) (upd u 8 v) w')
      · simp only [List.getElem?_toArray, List.getElem?_cons_succ, List.getElem?_cons_zero]; rfl
      · rfl
      intro K hK
      go_simp
      refine hK.out (.slice (some ⟨wx.heap.size, 0, none⟩) 0 0) _ (Below.new _ _) ⟨wx.heap.size, rfl, hw.size, heap_alloc_new wx _⟩
    · intro wx hw h_
      have h_8 : (fun u w => ∃ g, u 8 = .slice (some ⟨g, 0, none⟩) 0 0 ∧ w2.heap.size ≤ g ∧ w.heap[g]? = some (.cells #[] 3 (0, 0))) u wx := h_.1
      try dsimp only at h_8
      clear h_
      apply wpOp_stepI (i := 11) (le := fun w w' => Below w.heap.size w w') (φ := fun v w' => (fun u w => OwnI w w2.heap.size (u 11) lb) (upd u 11 v) w')
      · simp only [List.getElem?_toArray, List.getElem?_cons_succ, List.getElem?_cons_zero]; rfl
      · rfl
      intro K hK
      obtain ⟨g, e0, hg1, hg2⟩ := h_8
      have hsl := HB.out.below (Below.next HK2.out (Below.next hk0 hw))
      obtain ⟨a', c', e1, hrd, -, -, hcn⟩ := hsl
      simp only [Value.slice.injEq] at e1
      obtain ⟨rfl, -, rfl⟩ := e1
      refine step_app0 T_ints18 rfl _ _ rfl w2.heap.size g e0 hg2 hg1 _ _ _ (iv lb) rfl (by simp [iv]) (fun _ h => hcn h) hrd (iv_oneCell _) (by omega) ?_
      intro v' w' hown hb hne
      exact hK.out v' w' hb hown
    · intro wx hw h_
      have h_3 : (fun u w => OwnI w w2.heap.size (u 3) lc) u wx := h_.1
      try dsimp only at h_3
      clear h_
      apply wpOp_stepI (i := 12) (le := fun w w' => Below w.heap.size w w') (φ := fun v w' => (fun u w => u 12 = u 3) (upd u 12 v) w')
      · simp only [List.getElem?_toArray, List.getElem?_cons_succ, List.getElem?_cons_zero]; rfl
      · rfl
      intro K hK
      go_simp
      exact hK.out (u 3) _ (Below.refl _ _) rfl
    · intro wx hw h_
      have h_7 : (fun u w => OwnI w w2.heap.size (u 7) lf) u wx := h_.1
      try dsimp only at h_7
      clear h_
      apply wpOp_stepI (i := 13) (le := fun w w' => Below w.heap.size w w') (φ := fun v w' => (fun u w => u 13 = u 7) (upd u 13 v) w')
      · simp only [List.getElem?_toArray, List.getElem?_cons_succ, List.getElem?_cons_zero]; rfl
      · rfl
      intro K hK
      go_simp
      exact hK.out (u 7) _ (Below.refl _ _) rfl
    · intro wx hw h_
      have h_11 : (fun u w => OwnI w w2.heap.size (u 11) lb) u wx := h_.1
      try dsimp only at h_11
      clear h_
      apply wpOp_stepI (i := 14) (le := fun w w' => Below w.heap.size w w') (φ := fun v w' => (fun u w => u 14 = u 11) (upd u 14 v) w')
      · simp only [List.getElem?_toArray, List.getElem?_cons_succ, List.getElem?_cons_zero]; rfl
      · rfl
      intro K hK
      go_simp
      exact hK.out (u 11) _ (Below.refl _ _) rfl
    · intro wx hw h_
      have h_0 : (fun u w => ∃ g, u 0 = .slice (some ⟨g, 0, none⟩) 0 0 ∧ w2.heap.size ≤ g ∧ w.heap[g]? = some (.cells #[] 3 (0, 0))) u wx := h_.1
      try dsimp only at h_0
      have h_3 : (fun u w => OwnI w w2.heap.size (u 3) lc) u wx := h_.2.1
      try dsimp only at h_3
      have h_4 : (fun u w => ∃ g, u 4 = .slice (some ⟨g, 0, none⟩) 0 0 ∧ w2.heap.size ≤ g ∧ w.heap[g]? = some (.cells #[] 3 (0, 0))) u wx := h_.2.2.1
      try dsimp only at h_4
      have h_7 : (fun u w => OwnI w w2.heap.size (u 7) lf) u wx := h_.2.2.2.1
      try dsimp only at h_7
      have h_8 : (fun u w => ∃ g, u 8 = .slice (some ⟨g, 0, none⟩) 0 0 ∧ w2.heap.size ≤ g ∧ w.heap[g]? = some (.cells #[] 3 (0, 0))) u wx := h_.2.2.2.2.1
      try dsimp only at h_8
      have h_11 : (fun u w => OwnI w w2.heap.size (u 11) lb) u wx := h_.2.2.2.2.2.1
      try dsimp only at h_11
      have h_12 : (fun u w => u 12 = u 3) u wx := h_.2.2.2.2.2.2.1
      try dsimp only at h_12
      have h_13 : (fun u w => u 13 = u 7) u wx := h_.2.2.2.2.2.2.2.1
      try dsimp only at h_13
      have h_14 : (fun u w => u 14 = u 11) u wx := h_.2.2.2.2.2.2.2.2.1
      try dsimp only at h_14
      clear h_
      refine wpK.done (by kernel_rfl) ?_ _
      have hr1 : OwnI wx w2.heap.size (u 12) lc := by rw [h_12]; exact h_3
      have hr2 : OwnI wx w2.heap.size (u 13) lf := by rw [h_13]; exact h_7
      have hr3 : OwnI wx w2.heap.size (u 14) lb := by rw [h_14]; exact h_11
      clear h_0 h_3 h_4 h_7 h_8 h_11 h_12 h_13 h_14
      have hB := Below.next hk0 hw
      have HX := hid (And.intro hr1 (And.intro hr2 (And.intro hr3 hB)))
      clear hr1 hr2 hr3 hB hw hk0 hH hq1 hq2 hq3
      go_wp2_with fail
      go_meet
      exact HX.out
  case rest =>
  obtain ⟨hx1, hx2, hx3, hbx⟩ := hcut
  obtain ⟨q1, d1, rfl, -⟩ := ownsRow.rd hx1
  obtain ⟨q2, d2, rfl, -⟩ := ownsRow.rd hx2
  obtain ⟨q3, d3, rfl, -⟩ := ownsRow.rd hx3
  have HKC := hid (Below.next HK2.out hbx)
  have HX1 := hid hx1
  have HX2 := hid hx2
  have HX3 := hid hx3
  clear hx1 hx2 hx3 hbx hq1 hq2 hq3 HK1
  go_wp2_with fail
  obtain ⟨ws, hws⟩ : ∃ ws, ws = wc.alloc (.cells #[.bool true, .bool false] 4) := ⟨_, rfl⟩
  rw [← hws]
  have hbs : Below wc.heap.size wc ws := by rw [hws]; exact Below.new _ _
  have HBB : Hid (Blk ws wc.heap.size #[.bool true, .bool false]) := hid (by rw [hws]; exact Blk.new _ _ _)
  have HKS := hid (Below.next HKC.out hbs)
  have HBS := hid hbs
  clear hws hbs
  go_loopw [43] (fun v43 wr => ∃ (k : Nat), v43 = .int .i64 k ∧ k ≤ 2 ∧ Hid (Below ws.heap.size ws wr)) (fun v43 _ => 2 - (intOf v43).toNat)
  case atStart => exact ⟨0, rfl, by omega, hid (Below.refl _ _)⟩
  case round =>
    obtain ⟨k, rfl, hk2, HBR⟩ := hrel
    obtain ⟨hy0, hy1, hy2, hy3, -⟩ := ((HBLK.out.below HKS.out).below HBR.out).c4
    by_cases hlt : k < 2
    · obtain ⟨on, hon⟩ : ∃ on : Bool, wr.cell? ⟨wc.heap.size, k, none⟩ = some (.bool on) := by
        have hb := HBB.out.below HBR.out
        rw [hb.cell]
        obtain rfl | rfl : k = 0 ∨ k = 1 := by omega
        · exact ⟨true, rfl⟩
        · exact ⟨false, rfl⟩
      have HKR := hid (Below.next HKS.out HBR.out)
      go_wp2_with fail
      refine (acc_Set o list p on lc lf lb _ _ _ _ (HC.out.below HKR.out) (HF.out.below HKR.out) (HB.out.below HKR.out) (by omega) (by omega) (by omega) HR1.out.le HR2.out.le HR3.out.le).mono ?_
      rintro e w4 ⟨v4, err, rfl, herr, hb4, hv4⟩
      have HB4 := hid hb4
      have HK4 := hid (Below.next HKR.out hb4)
      have HERR : Hid (wrongF o lc lf lb list p on = err) := hid herr.symm
      clear hb4 herr hy0 hy1 hy2 hy3 hon
      obtain ⟨hy0, hy1, hy2, hy3, -⟩ := (HBLK.out.below HK4.out).c4
      rcases hv4 with ⟨h0, rfl⟩ | ⟨h0, uc, uf, ub, rfl, hu1, hu2, hu3⟩
      · have h0b : (err != 0) = true := by simpa using h0
        clear h0 hy0 hy1 hy2 hy3
        go_upto_region 8 with fail
        obtain ⟨w5, hw5⟩ : ∃ w5, w5 = w4.alloc (.cells #[.int .i64 0, .slice none 0 0, .slice none 0 0, .slice none 0 0] 69) := ⟨_, rfl⟩
        rw [← hw5]
        have HK5 : Hid (Below w4.heap.size w4 w5) := hid (by rw [hw5]; exact Below.new _ _)
        have HG5 : Hid (Blk w5 w4.heap.size #[.int .i64 0, .slice none 0 0, .slice none 0 0, .slice none 0 0]) := hid (by rw [hw5]; exact Blk.new _ _ _)
        have HK05 := hid (Below.next HK4.out HK5.out)
        clear hw5
        obtain ⟨hy0, hy1, hy2, hy3, -⟩ := (HBLK.out.below HK05.out).c4
        go_wp2_with fail
        refine (law18_wrong o list p on lc lf lb _ _ _ _ (HC.out.below HK05.out) (HF.out.below HK05.out) (HB.out.below HK05.out) (by omega) (by omega) (by omega) err HERR).mono ?_
        rintro e w6 ⟨rfl, hb6⟩
        have HK6 := hid (Below.next HK5.out hb6)
        obtain ⟨hz0, hz1, hz2, hz3, -⟩ := (HG5.out.below hb6).c4
        clear hb6
        go_wp2_with fail
        refine (acc_Equal 0 0 [] [] [] [] [] [] _ _ _ _ _ _ _ (SlI.nil _) (SlI.nil _) (SlI.nil _) (SlI.nil _) (SlI.nil _) (SlI.nil _) true true true true rfl (hid rfl) (hid rfl) (hid rfl)).mono ?_
        rintro e w7 ⟨rfl, hb7⟩
        have HBE := hid (Below.next HBR.out (Below.next HB4.out (Below.next HK6.out hb7)))
        clear hb7 hz0 hz1 hz2 hz3
        go_wp2_with fail
        go_roundw
        case rel => exact ⟨k + 1, by go_num, by omega, HBE⟩
        case measure => simp [intOf]; omega
      · subst h0
        obtain ⟨m1, hm1⟩ : ∃ m1, (if list = 1 then newL lc p on else lc) = m1 := ⟨_, rfl⟩
        obtain ⟨m2, hm2⟩ : ∃ m2, (if list = 2 then newL lf p on else lf) = m2 := ⟨_, rfl⟩
        obtain ⟨m3, hm3⟩ : ∃ m3, (if list = 3 then newL lb p on else lb) = m3 := ⟨_, rfl⟩
        rw [hm1] at hu1
        rw [hm2] at hu2
        rw [hm3] at hu3
        have HM1 := hid hm1
        have HM2 := hid hm2
        have HM3 := hid hm3
        have HU1 := hid hu1
        have HU2 := hid hu2
        have HU3 := hid hu3
        clear hm1 hm2 hm3 hy0 hy1 hy2 hy3
        obtain ⟨qc, dc, rfl, -⟩ := ownsRow.rd hu1
        obtain ⟨qf, df, rfl, -⟩ := ownsRow.rd hu2
        obtain ⟨qb, db, rfl, -⟩ := ownsRow.rd hu3
        clear hu1 hu2 hu3
        go_upto_region 8 with fail
        obtain ⟨w5, hw5⟩ : ∃ w5, w5 = w4.alloc (.cells #[.int .i64 o, .slice qc m1.length dc, .slice qf m2.length df, .slice qb m3.length db] 69) := ⟨_, rfl⟩
        rw [← hw5]
        have HK5 : Hid (Below w4.heap.size w4 w5) := hid (by rw [hw5]; exact Below.new _ _)
        have HG5 : Hid (Blk w5 w4.heap.size #[.int .i64 o, .slice qc m1.length dc, .slice qf m2.length df, .slice qb m3.length db]) := hid (by rw [hw5]; exact Blk.new _ _ _)
        have HK05 := hid (Below.next HK4.out HK5.out)
        clear hw5
        obtain ⟨hy0, hy1, hy2, hy3, -⟩ := (HBLK.out.below HK05.out).c4
        go_wp2_with fail
        refine (law18_wrong o list p on lc lf lb _ _ _ _ (HC.out.below HK05.out) (HF.out.below HK05.out) (HB.out.below HK05.out) (by omega) (by omega) (by omega) 0 HERR).mono ?_
        rintro e w6 ⟨rfl, hb6⟩
        have HK6 := hid (Below.next HK5.out hb6)
        have HK56 := hid hb6
        have HK46 := hid (Below.next HK4.out HK6.out)
        obtain ⟨hn1, hn3, hp1, hp2, hes⟩ := wrongF_zero HERR.out
        obtain ⟨n, rfl⟩ : ∃ n : Nat, list = (n : Int) := ⟨list.toNat, by omega⟩
        rw [Int.toNat_natCast] at hes
        have hn1' : 1 ≤ n := by omega
        have hn3' : n ≤ 3 := by omega
        have HES := hid hes
        clear hb6 hes hy0 hy1 hy2 hy3
        obtain ⟨hy0, hy1, hy2, hy3, -⟩ := (HBLK.out.below HK46.out).c4
        go_upto_region 13 with fail
        obtain ⟨w7, hw7⟩ : ∃ w7, w7 = w6.alloc (.cells #[.int .i64 o, .slice q1 lc.length d1, .slice q2 lf.length d2, .slice q3 lb.length d3] 69) := ⟨_, rfl⟩
        rw [← hw7]
        have HK7 : Hid (Below w6.heap.size w6 w7) := hid (by rw [hw7]; exact Below.new _ _)
        have HG7 : Hid (Blk w7 w6.heap.size #[.int .i64 o, .slice q1 lc.length d1, .slice q2 lf.length d2, .slice q3 lb.length d3]) := hid (by rw [hw7]; exact Blk.new _ _ _)
        clear hw7 hy0 hy1 hy2 hy3
        have hidx := idxP_n n hn1' hn3' w6.heap.size
        have HM : Hid (((if n = 1 then docL (pickL n lc lf lb) p on else lc) = m1 ∧ (if n = 2 then docL (pickL n lc lf lb) p on else lf) = m2 ∧ (if n = 3 then docL (pickL n lc lf lb) p on else lb) = m3) ∧ RightL m1 o ∧ RightL m2 o ∧ RightL m3 o) := hid (by
          have hes := HES.out
          have h1 := HM1.out
          have h2 := HM2.out
          have h3 := HM3.out
          have e1 : ((n : Int) = 1) = (n = 1) := by apply propext; omega
          have e2 : ((n : Int) = 2) = (n = 2) := by apply propext; omega
          have e3 : ((n : Int) = 3) = (n = 3) := by apply propext; omega
          simp only [e1] at h1
          simp only [e2] at h2
          simp only [e3] at h3
          obtain rfl | rfl | rfl : n = 1 ∨ n = 2 ∨ n = 3 := by omega
          · simp only [pickL] at hes ⊢
            simp at h1 h2 h3 hes ⊢
            rw [newL_doc HR1.out hes] at h1
            exact ⟨⟨h1, h2, h3⟩, h1 ▸ docL_right HR1.out hes hp1 hp2, h2 ▸ HR2.out, h3 ▸ HR3.out⟩
          · simp only [pickL] at hes ⊢
            simp at h1 h2 h3 hes ⊢
            rw [newL_doc HR2.out hes] at h2
            exact ⟨⟨h1, h2, h3⟩, h1 ▸ HR1.out, h2 ▸ docL_right HR2.out hes hp1 hp2, h3 ▸ HR3.out⟩
          · simp only [pickL] at hes ⊢
            simp at h1 h2 h3 hes ⊢
            rw [newL_doc HR3.out hes] at h3
            exact ⟨⟨h1, h2, h3⟩, h1 ▸ HR1.out, h2 ▸ HR2.out, h3 ▸ docL_right HR3.out hes hp1 hp2⟩)
        have HC6 := hid (Below.next HBS.out (Below.next HBR.out (Below.next HB4.out HK6.out)))
        have HC7 := hid (Below.next HC6.out HK7.out)
        obtain ⟨ln, hln⟩ : ∃ ln, pickL n lc lf lb = ln := ⟨_, rfl⟩
        obtain ⟨un, hun⟩ : ∃ un, pickL n (Value.slice q1 lc.length d1) (Value.slice q2 lf.length d2) (Value.slice q3 lb.length d3) = un := ⟨_, rfl⟩
        have hlen : ln.length ≤ 1000 := by rw [← hln]; unfold pickL; split; omega; split; omega; omega
        have hcl : w7.cell? ⟨w6.heap.size, n, none⟩ = some un := by
          rw [HG7.out.cell, ← hun]
          obtain rfl | rfl | rfl : n = 1 ∨ n = 2 ∨ n = 3 := by omega
          all_goals rfl
        have HUN : Hid (SlI w7 un ln) := hid (by
          rw [← hln, ← hun]; unfold pickL
          split
          · exact (HX1.out.below HC7.out).sli
          · split
            · exact (HX2.out.below HC7.out).sli
            · exact (HX3.out.below HC7.out).sli)
        have HD1 : Hid ((if n = 1 then docL ln p on else lc) = m1) := hid (by rw [← hln]; exact HM.out.1.1)
        have HD2 : Hid ((if n = 2 then docL ln p on else lf) = m2) := hid (by rw [← hln]; exact HM.out.1.2.1)
        have HD3 : Hid ((if n = 3 then docL ln p on else lb) = m3) := hid (by rw [← hln]; exact HM.out.1.2.2)
        obtain ⟨qu, cu, rfl⟩ : ∃ qu cu, un = .slice qu ln.length cu := by obtain ⟨a, c, h, -⟩ := HUN.out; exact ⟨a, c, h⟩
        clear hln hun
        go_upto_if 84 with fail
        go_cut [84] (fun _ wx => Below w6.heap.size w6 wx ∧ ∃ x1 x2 x3, Blk wx w6.heap.size #[.int .i64 o, x1, x2, x3] ∧ SlI wx x1 m1 ∧ SlI wx x2 m2 ∧ SlI wx x3 m3)
        case first =>
          have hc7 : True := trivial
          cases on with
          | true =>
            go_wp2_with fail
            refine (ref18_With ln _ p _ HUN.out hlen).mono ?_
            rintro e w8 ⟨v8, rfl, hown8, hb8⟩
            obtain ⟨e8, f8, rfl, -⟩ := ownsRow.rd hown8
            have hblk8 := HG7.out.below hb8
            have hc8 : w8.cell? ⟨w6.heap.size, n, none⟩ = some (.slice qu ln.length cu) := by rw [hblk8.cell]; rw [HG7.out.cell] at hcl; exact hcl
            have hf8 := hblk8.unfrozen n
            have HP : Hid (Below w6.heap.size w6 (w8.setCell ⟨w6.heap.size, n, none⟩ (.slice e8 (withF ln p false).length f8)) ∧ ∃ x1 x2 x3, Blk (w8.setCell ⟨w6.heap.size, n, none⟩ (.slice e8 (withF ln p false).length f8)) w6.heap.size #[.int .i64 o, x1, x2, x3] ∧ SlI (w8.setCell ⟨w6.heap.size, n, none⟩ (.slice e8 (withF ln p false).length f8)) x1 m1 ∧ SlI (w8.setCell ⟨w6.heap.size, n, none⟩ (.slice e8 (withF ln p false).length f8)) x2 m2 ∧ SlI (w8.setCell ⟨w6.heap.size, n, none⟩ (.slice e8 (withF ln p false).length f8)) x3 m3) := hid (by
              have h78 : Below wc.heap.size wc w8 := Below.next HC7.out hb8
              obtain ⟨x1, x2, x3, hb, z1, z2, z3⟩ := put_house hblk8 (HX1.out.below h78).sli (HX2.out.below h78).sli (HX3.out.below h78).sli (OwnI.sli hown8)
                (fun k hk => by have := (HX1.out.lt k hk).2; have := HC6.out.size; omega) (fun k hk => by have := (HX2.out.lt k hk).2; have := HC6.out.size; omega) (fun k hk => by have := (HX3.out.lt k hk).2; have := HC6.out.size; omega)
                (fun k hk => by have := (hown8.lt k hk).1; have := HG7.out.lt; omega) hn1' hn3'
              have e1 := HD1.out
              have e2 := HD2.out
              have e3 := HD3.out
              rw [show docL ln p true = withF ln p false from by simp [docL]] at e1 e2 e3
              rw [e1] at z1; rw [e2] at z2; rw [e3] at z3
              exact ⟨(Below.next HK7.out hb8).setCell (Nat.le_refl _) _, x1, x2, x3, hb, z1, z2, z3⟩)
            clear hown8 hb8 hblk8 hidx hcl hc7
            go_wp2_with fail
            go_meet
            exact HP.out
          | false =>
            go_wp2_with fail
            refine (ref18_Without ln _ p _ HUN.out hlen).mono ?_
            rintro e w8 ⟨v8, rfl, hown8, hb8⟩
            obtain ⟨e8, f8, rfl, -⟩ := ownsRow.rd hown8
            have hblk8 := HG7.out.below hb8
            have hc8 : w8.cell? ⟨w6.heap.size, n, none⟩ = some (.slice qu ln.length cu) := by rw [hblk8.cell]; rw [HG7.out.cell] at hcl; exact hcl
            have hf8 := hblk8.unfrozen n
            have HP : Hid (Below w6.heap.size w6 (w8.setCell ⟨w6.heap.size, n, none⟩ (.slice e8 (ln.filter (fun x => x != p)).length f8)) ∧ ∃ x1 x2 x3, Blk (w8.setCell ⟨w6.heap.size, n, none⟩ (.slice e8 (ln.filter (fun x => x != p)).length f8)) w6.heap.size #[.int .i64 o, x1, x2, x3] ∧ SlI (w8.setCell ⟨w6.heap.size, n, none⟩ (.slice e8 (ln.filter (fun x => x != p)).length f8)) x1 m1 ∧ SlI (w8.setCell ⟨w6.heap.size, n, none⟩ (.slice e8 (ln.filter (fun x => x != p)).length f8)) x2 m2 ∧ SlI (w8.setCell ⟨w6.heap.size, n, none⟩ (.slice e8 (ln.filter (fun x => x != p)).length f8)) x3 m3) := hid (by
              have h78 : Below wc.heap.size wc w8 := Below.next HC7.out hb8
              obtain ⟨x1, x2, x3, hb, z1, z2, z3⟩ := put_house hblk8 (HX1.out.below h78).sli (HX2.out.below h78).sli (HX3.out.below h78).sli (OwnI.sli hown8)
                (fun k hk => by have := (HX1.out.lt k hk).2; have := HC6.out.size; omega) (fun k hk => by have := (HX2.out.lt k hk).2; have := HC6.out.size; omega) (fun k hk => by have := (HX3.out.lt k hk).2; have := HC6.out.size; omega)
                (fun k hk => by have := (hown8.lt k hk).1; have := HG7.out.lt; omega) hn1' hn3'
              have e1 := HD1.out
              have e2 := HD2.out
              have e3 := HD3.out
              rw [show docL ln p false = ln.filter (fun x => x != p) from by simp [docL]] at e1 e2 e3
              rw [e1] at z1; rw [e2] at z2; rw [e3] at z3
              exact ⟨(Below.next HK7.out hb8).setCell (Nat.le_refl _) _, x1, x2, x3, hb, z1, z2, z3⟩)
            clear hown8 hb8 hblk8 hidx hcl hc7
            go_wp2_with fail
            go_meet
            exact HP.out
        case rest =>
        obtain ⟨hb8, x1, x2, x3, hg8, hz1, hz2, hz3⟩ := hcut
        obtain ⟨t1, y1, rfl, -⟩ := id hz1
        obtain ⟨t2, y2, rfl, -⟩ := id hz2
        obtain ⟨t3, y3, rfl, -⟩ := id hz3
        have HZ1 := hid hz1
        have HZ2 := hid hz2
        have HZ3 := hid hz3
        have HK48 := hid (Below.next HK6.out hb8)
        have HG58 := hid ((HG5.out.below HK56.out).below hb8)
        obtain ⟨hx0, hx1, hx2, hx3, -⟩ := hg8.c4
        have HS1 := hid (HU1.out.below HK48.out).sli
        have HS2 := hid (HU2.out.below HK48.out).sli
        have HS3 := hid (HU3.out.below HK48.out).sli
        obtain ⟨hg0, hg1, hg2, hg3, -⟩ := HG58.out.c4
        have hoo : (o == o) = true := by simp
        clear hb8 hg8 hz1 hz2 hz3 hy0 hy1 hy2 hy3 hidx hcl
        go_wp2_with fail
        refine (acc_Equal o o m1 m2 m3 m1 m2 m3 _ _ _ _ _ _ _ HS1.out HS2.out HS3.out HZ1.out HZ2.out HZ3.out true true true true hoo (hid (by simp)) (hid (by simp)) (hid (by simp))).mono ?_
        rintro e w9 ⟨rfl, hb9⟩
        have HK49 := hid (Below.next HK48.out hb9)
        have HG59 := hid (HG58.out.below hb9)
        clear hg0 hg1 hg2 hg3 hx0 hx1 hx2 hx3 hb9 HS1 HS2 HS3
        have HS1 := hid (HU1.out.below HK49.out).sli
        have HS2 := hid (HU2.out.below HK49.out).sli
        have HS3 := hid (HU3.out.below HK49.out).sli
        obtain ⟨hg0, hg1, hg2, hg3, -⟩ := HG59.out.c4
        go_wp2_with fail
        refine (acc_Right o m1 m2 m3 _ _ _ _ HS1.out HS2.out HS3.out true (hid (by rw [(rightL_iff _ _).2 HM.out.2.1, (rightL_iff _ _).2 HM.out.2.2.1, (rightL_iff _ _).2 HM.out.2.2.2]; simp [ho1, ho2]))).mono ?_
        rintro e wa ⟨rfl, hba⟩
        have HK4a := hid (Below.next HK49.out hba)
        have HG5a := hid (HG59.out.below hba)
        clear hg0 hg1 hg2 hg3 hba HS1 HS2 HS3
        obtain ⟨hg0, hg1, hg2, hg3, -⟩ := HG5a.out.c4
        have HV1 := hid (HU1.out.below HK4a.out)
        have HV2 := hid (HU2.out.below HK4a.out)
        have HV3 := hid (HU3.out.below HK4a.out)
        have HBRa := hid (Below.next HB4.out HK4a.out)
        go_wp2_with fail
        obtain ⟨wS, hwS⟩ : ∃ wS, wS = wa.alloc (.cells #[.slice qc m1.length dc, .slice qf m2.length df, .slice qb m3.length db] 39) := ⟨_, rfl⟩
        rw [← hwS]
        have hbS : Below wa.heap.size wa wS := by rw [hwS]; exact Below.new _ _
        have HINV : Hid (Inv3 wr wr.heap.size wa.heap.size (.slice qc m1.length dc) (.slice qf m2.length df) (.slice qb m3.length db) wS) := hid ⟨Below.next HBRa.out hbS, ⟨_, _, HV1.out.below hbS⟩, ⟨_, _, HV2.out.below hbS⟩, ⟨_, _, HV3.out.below hbS⟩, by rw [hwS]; exact Blk.new _ _ _⟩
        have HNE : Hid ((∀ k, (Value.slice qc m1.length dc).ownBlock = some k → wr.heap.size ≤ k ∧ k ≠ wa.heap.size) ∧ (∀ k, (Value.slice qf m2.length df).ownBlock = some k → wr.heap.size ≤ k ∧ k ≠ wa.heap.size) ∧ (∀ k, (Value.slice qb m3.length db).ownBlock = some k → wr.heap.size ≤ k ∧ k ≠ wa.heap.size)) :=
          hid ⟨fun k hk => by have := HV1.out.lt k hk; omega, fun k hk => by have := HV2.out.lt k hk; omega, fun k hk => by have := HV3.out.lt k hk; omega⟩
        clear hwS hbS hg0 hg1 hg2 hg3
        obtain ⟨wo, rfl⟩ : ∃ wo : World, wo = wr := ⟨_, rfl⟩
        go_loopw [120] (fun v120 wl => ∃ (j : Nat), v120 = .int .i64 j ∧ j ≤ 3 ∧ Hid (Inv3 wo wo.heap.size wa.heap.size (.slice qc m1.length dc) (.slice qf m2.length df) (.slice qb m3.length db) wl)) (fun v120 _ => 3 - (intOf v120).toNat)
        case atStart => exact ⟨0, rfl, by omega, HINV⟩
        case round =>
          obtain ⟨j, rfl, hj3, HI⟩ := hrel
          by_cases hj : j < 3
          · obtain ⟨a, len, cap, hcell, hWr, hne⟩ : ∃ a len cap, wr.cell? ⟨wa.heap.size, j, none⟩ = some (.slice a len cap) ∧ Wr wr wo.heap.size (.slice a len cap) ∧ (∀ k, (Value.slice a len cap).ownBlock = some k → wo.heap.size ≤ k ∧ k ≠ wa.heap.size) := by
              obtain rfl | rfl | rfl : j = 0 ∨ j = 1 ∨ j = 2 := by omega
              · exact ⟨_, _, _, by rw [HI.out.blk.cell]; rfl, HI.out.w1, HNE.out.1⟩
              · exact ⟨_, _, _, by rw [HI.out.blk.cell]; rfl, HI.out.w2, HNE.out.2.1⟩
              · exact ⟨_, _, _, by rw [HI.out.blk.cell]; rfl, HI.out.w3, HNE.out.2.2⟩
            have HWR := hid hWr
            have HNEJ := hid hne
            clear hWr hne
            go_wp2_with fail
            obtain ⟨wj, rfl⟩ : ∃ wj : World, wj = wr := ⟨_, rfl⟩
            go_loopw [126] (fun v126 wl => ∃ (i : Nat), v126 = .int .i64 i ∧ i ≤ len ∧ Hid (Inv3 wo wo.heap.size wa.heap.size (.slice qc m1.length dc) (.slice qf m2.length df) (.slice qb m3.length db) wl) ∧ Hid (Wr wl wo.heap.size (.slice a len cap))) (fun v126 _ => len - (intOf v126).toNat)
            case atStart => exact ⟨0, rfl, by omega, HI, HWR⟩
            case round =>
              obtain ⟨i, rfl, hil, HI2, HW2⟩ := hrel
              by_cases hi : i < len
              · obtain ⟨gi, xi, rfl, hci, hfi, hlen64, hgo⟩ := HW2.out.at i hi
                have hgg := HNEJ.out gi hgo
                have HI3 := hid (HI2.out.set gi i (.int .i64 9) hgg.1 hgg.2)
                have HW3 := hid (HW2.out.set gi i (.int .i64 9))
                clear hgg hgo
                go_wp2_with fail
                go_roundw
                case rel => exact ⟨i + 1, by go_num, by omega, HI3, HW3⟩
                case measure => simp [intOf]; omega
              · go_wp2_with fail
                go_roundw
                case rel => exact ⟨j + 1, by go_num, by omega, HI2⟩
                case measure => simp [intOf]; omega
          · have HBE := hid (Below.next HBR.out HI.out.bel)
            go_wp2_with fail
            go_roundw
            case rel => exact ⟨k + 1, by go_num, by omega, HBE⟩
            case measure => simp [intOf]; omega
    · have HKR := hid (Below.next HKS.out HBR.out)
      have HCR := hid (Below.next HBS.out HBR.out)
      go_wp2_with fail
      refine (law18_same lc lc _ _ _ (HC.out.below HKR.out) (HX1.out.below HCR.out).sli true (hid (by simp))).mono ?_
      rintro e w4 ⟨rfl, hb4⟩
      have HK4 := hid (Below.next HKR.out hb4)
      have HC4 := hid (Below.next HCR.out hb4)
      clear hb4 hy0 hy1 hy2 hy3
      obtain ⟨hy0, hy1, hy2, hy3, -⟩ := (HBLK.out.below HK4.out).c4
      go_wp2_with fail
      refine (law18_same lf lf _ _ _ (HF.out.below HK4.out) (HX2.out.below HC4.out).sli true (hid (by simp))).mono ?_
      rintro e w5 ⟨rfl, hb5⟩
      have HK5 := hid (Below.next HK4.out hb5)
      have HC5 := hid (Below.next HC4.out hb5)
      clear hb5 hy0 hy1 hy2 hy3
      obtain ⟨hy0, hy1, hy2, hy3, -⟩ := (HBLK.out.below HK5.out).c4
      go_wp2_with fail
      refine (law18_same lb lb _ _ _ (HB.out.below HK5.out) (HX3.out.below HC5.out).sli true (hid (by simp))).mono ?_
      rintro e w6 ⟨rfl, hb6⟩
      have HK6 := hid (Below.next HK5.out hb6)
      clear hb6 hy0 hy1 hy2 hy3
      go_wp2_with fail
      refine (law18_awake _).mono ?_
      rintro e w7 ⟨rfl, hb7⟩
      have HK7 := hid (Below.next HK0.out (Below.next HK6.out hb7))
      clear hb7
      go_wp2_with fail
      go_ret
      exact ⟨rfl, HK7.out⟩
end Go.Proofs.Ytdchopckbklncaa
