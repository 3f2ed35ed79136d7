/- Joined texts, in this order: RtCopy, LayMaps, LandCopy, LandCopies. Each one's first remark says what it proves; no condition beyond those that its theorems name. -/
import Derived.Test.YtjbnfppnmljbmaaGreatJLawLandCopies13
import Derived.Shelf.SlGeneric
import Derived.Ground.SlmcProg
import Derived.Shelf.SlMaps.Clone
import Derived.Test.YtjbnfppnmljbmaaGreatProg
import Derived.Test.YtjbnfppnmljbmaaGreatJLawLandCopies19
import Derived.Test.YtjbnfppnmljbmaaGreatJLawLandCopies28
import Derived.Test.YtjbnfppnmljbmaaGreatJLawLandCopies26
import Derived.Test.YtjbnfppnmljbmaaGreatJLawLandCopies27
section
/- Contract of rtree's Copy: another tree of new memory, with the same things. -/
namespace Go.Proofs.YtjbnfppnmljbmaaGreat
open Go.RowKit
open Go.Lib (hid)
set_option linter.unusedVariables false
attribute [local go_sem] Oper.semAt_some

def SameN : Nat → Nd → Nd → Prop
  | 0, n, m => m.r = n.r ∧ m.v = n.v
  | d + 1, n, m => m.r = n.r ∧ m.v = n.v ∧ m.ks.length = n.ks.length ∧ ∀ (i : Nat) (x y : Nd), n.ks[i]? = some x → m.ks[i]? = some y → SameN d x y
theorem SameN.r : ∀ {d : Nat} {n m : Nd}, SameN d n m → m.r = n.r
  | 0, _, _, h => h.1
  | _ + 1, _, _, h => h.1
theorem map_sameN {β : Type} {l m : List Nd} {f : Nd → β} (hl : m.length = l.length) (h : ∀ (i : Nat) (x y : Nd), l[i]? = some x → m[i]? = some y → f y = f x) : m.map f = l.map f := by
  apply List.ext_getElem?
  intro i
  rw [List.getElem?_map, List.getElem?_map]
  by_cases hi : i < l.length
  · have h1 : l[i]? = some l[i] := List.getElem?_eq_getElem hi
    have h2 : m[i]? = some (m[i]'(by omega)) := List.getElem?_eq_getElem (by omega)
    rw [h1, h2]; simp only [Option.map_some]; rw [h i _ _ h1 h2]
  · rw [List.getElem?_eq_none (by omega), List.getElem?_eq_none (by omega)]
theorem SameN.thg : ∀ {d : Nat} {n m : Nd}, SameN d n m → thgN d m = thgN d n
  | 0, n, m, h => by simp [thgN, h.1, h.2]
  | d + 1, n, m, h => by
    simp only [thgN]
    rw [List.flatMap_def, List.flatMap_def, map_sameN h.2.2.1 (fun i x y hx hy => SameN.thg (h.2.2.2 i x y hx hy))]
theorem SameN.shape : ∀ {d : Nat} {n m : Nd}, SameN d n m → ShapeN d n → ShapeN d m
  | 0, n, m, h, k => by show RightR m.r; rw [h.1]; exact k
  | d + 1, n, m, h, k => by
    refine ⟨by rw [h.2.2.1]; exact k.1, ?_, fun y hy => ?_⟩
    · rw [h.1, map_sameN h.2.2.1 (fun i x y hx hy => (h.2.2.2 i x y hx hy).r)]; exact k.2.1
    · obtain ⟨i, hi⟩ := List.mem_iff_getElem?.1 hy
      have hil : i < n.ks.length := by rw [← h.2.2.1]; exact (List.getElem?_eq_some_iff.1 hi).1
      exact SameN.shape (h.2.2.2 i _ y (List.getElem?_eq_getElem hil) hi) (k.2.2 _ (List.getElem_mem hil))
theorem SameN.shape1 {d : Nat} {n m : Nd} (h : SameN (d + 1) n m) (k : Shape1 d n) : Shape1 d m := by
  refine ⟨by rw [h.2.2.1]; exact k.len, ?_, fun y hy => ?_⟩
  · rw [h.1, map_sameN h.2.2.1 (fun i x y hx hy => (h.2.2.2 i x y hx hy).r)]; exact k.bnd
  · obtain ⟨i, hi⟩ := List.mem_iff_getElem?.1 hy
    have hil : i < n.ks.length := by rw [← h.2.2.1]; exact (List.getElem?_eq_some_iff.1 hi).1
    exact SameN.shape (h.2.2.2 i _ y (List.getElem?_eq_getElem hil) hi) (k.kids _ (List.getElem_mem hil))
def CopyPost (d : Nat) (w : World) (n : Nd) (e : Ending) (w' : World) : Prop :=
  ∃ m : Nd, e = .returned (ptrN m) ∧ NodeAt d w' m ∧ (blkN d m).Nodup ∧ (∀ k ∈ blkN d m, w.heap.size ≤ k) ∧ Below w.heap.size w w' ∧ SameN d n m
/-- a copy under way -/
structure CopyI (d : Nat) (D : Int) (w wr : World) (g : Nat) (n : Nd) (ks ms : List Nd) (v : Value) : Prop where
  blk : Blk wr g (cells7 n.r v n.v D)
  own : wr.ownsRow 0 111 1 v ms.length (ptrs ms)
  node : ∀ m ∈ ms, NodeAt d wr m
  nd : (g :: (v.ownBlock.toList ++ ms.flatMap (blkN d))).Nodup
  fr : ∀ k ∈ g :: (v.ownBlock.toList ++ ms.flatMap (blkN d)), w.heap.size ≤ k ∧ k < wr.heap.size
  same : ∀ (i : Nat) (x y : Nd), ks[i]? = some x → ms[i]? = some y → SameN d x y
  below : Below w.heap.size w wr
  nil : ms = [] → v = .slice none 0 0
theorem CopyI.next {d g : Nat} {D : Int} {w wr wB wD wE : World} {n x y : Nd} {ks ms : List Nd} {v v9 : Value} (h : CopyI d D w wr g n ks ms v) (hx : ks[ms.length]? = some x)
    (hB : Below wr.heap.size wr wB) (hp : NodeAt d wB y) (hnd : (blkN d y).Nodup) (hfr : ∀ k ∈ blkN d y, wr.heap.size ≤ k) (hs : SameN d x y)
    (hD : Below wB.heap.size wB wD) (hg : wD.grownBy wE v.ownBlock) (ho : wE.ownsRow 0 111 1 v9 (ms ++ [y]).length (ptrs (ms ++ [y]))) (hwh : ∀ k, v9.ownBlock = some k → v.ownBlock = some k ∨ wD.heap.size ≤ k) :
    CopyI d D w (wE.setCell ⟨g, 4, none⟩ v9) g n ks (ms ++ [y]) v9 := by
  have hzB := hB.size
  have hzD := hD.size
  have hzE := hg.size
  have hBD := Below.next hB hD
  have huW : Upd (fun k => v.ownBlock = some k) wr wE := (Upd.of_below hBD).trans (Upd.of_grown hg) (fun _ _ q => q)
  have huS := Upd.setCell wE g 4 v9
  have hzS := huS.size
  have hu : Upd (fun k => v.ownBlock = some k ∨ k = g) wr (wE.setCell ⟨g, 4, none⟩ v9) := (huW.mono (fun _ _ q => .inl q)).trans huS (fun _ _ q => .inr q)
  have huB : Upd (fun k => v.ownBlock = some k ∨ k = g) wB (wE.setCell ⟨g, 4, none⟩ v9) := (((Upd.of_below hD).trans (Upd.of_grown hg) (fun _ _ q => q)).mono (fun _ _ q => .inl q)).trans huS (fun _ _ q => .inr q)
  obtain ⟨n1, n2⟩ := List.nodup_cons.1 h.nd
  obtain ⟨n3, n4, n5⟩ := List.nodup_append.1 n2
  have hgl := (h.fr g (by simp)).2
  have hvl : ∀ k, v.ownBlock = some k → w.heap.size ≤ k ∧ k < wr.heap.size := fun k hk => h.fr k (by simp [hk])
  have hml : ∀ k ∈ ms.flatMap (blkN d), w.heap.size ≤ k ∧ k < wr.heap.size := fun k hk => h.fr k (by simp only [List.mem_cons, List.mem_append]; exact .inr (.inr hk))
  have hvg : ∀ k, v.ownBlock = some k → k ≠ g := fun k hk e => n1 (by subst e; simp [hk])
  have hvm : ∀ k, v.ownBlock = some k → k ∉ ms.flatMap (blkN d) := fun k hk q => n5 k (by simp [hk]) k q rfl
  have hgm : g ∉ ms.flatMap (blkN d) := fun q => n1 (List.mem_append_right _ q)
  have hyl := hp.lt
  have h9 : ∀ k, v9.ownBlock = some k → (v.ownBlock = some k ∨ wD.heap.size ≤ k) ∧ k < wE.heap.size := fun k hk => ⟨hwh k hk, (ho.lt k hk).2⟩
  have h9g : ∀ k, v9.ownBlock = some k → k ≠ g := fun k hk => by
    rcases (h9 k hk).1 with q | q
    · exact hvg k q
    · omega
  have hwr := h.below.size
  refine ⟨?_, Upd.owns huS ho (fun k hk q => h9g k hk q), fun m hm => ?_, ?_, ?_, ?_, ?_, fun e => by simp at e⟩
  · have h1 := (h.blk.upd huW (fun q => hvg g q rfl)).set 4 v9
    simpa [cells7] using h1
  · rcases List.mem_append.1 hm with hm | hm
    · refine (h.node m hm).upd hu (fun k hk q => ?_)
      have hk2 : k ∈ ms.flatMap (blkN d) := List.mem_flatMap.2 ⟨m, hm, hk⟩
      rcases q with q | q
      · exact hvm k q hk2
      · subst q; exact hgm hk2
    · simp only [List.mem_singleton] at hm
      subst hm
      refine hp.upd huB (fun k hk q => ?_)
      have := hfr k hk
      rcases q with q | q
      · have := (hvl k q).2; omega
      · omega
  · rw [List.nodup_cons, List.flatMap_append, List.nodup_append]
    have e1 : [y].flatMap (blkN d) = blkN d y := by simp
    rw [e1]
    refine ⟨fun q => ?_, ?_, ?_, fun k hk j hj e => ?_⟩
    · simp only [List.mem_append, Option.mem_toList] at q
      rcases q with q | q | q
      · exact h9g g q rfl
      · exact hgm q
      · have := hfr g q; omega
    · cases v9.ownBlock <;> simp
    · rw [List.nodup_append]
      exact ⟨n4, hnd, fun k hk j hj e => by have := (hml k hk).2; have := hfr j hj; omega⟩
    · subst e
      simp only [Option.mem_toList] at hk
      rcases List.mem_append.1 hj with hj | hj
      · rcases (h9 k hk).1 with q | q
        · exact hvm k q hj
        · have := (hml k hj).2; omega
      · have h1 := hfr k hj
        have h2 := hyl k hj
        rcases (h9 k hk).1 with q | q
        · have := (hvl k q).2; omega
        · omega
  · intro k hk
    rw [List.flatMap_append] at hk
    have e1 : [y].flatMap (blkN d) = blkN d y := by simp
    rw [e1] at hk
    simp only [List.mem_cons, List.mem_append, Option.mem_toList] at hk
    rcases hk with rfl | hk | hk | hk
    · have := (h.fr k (by simp)).1; omega
    · have := h9 k hk
      rcases this.1 with q | q
      · have := hvl k q; omega
      · omega
    · have := hml k hk; omega
    · have := hfr k hk; have := hyl k hk; omega
  · intro i x' y' hx' hy'
    by_cases hi : i < ms.length
    · rw [List.getElem?_append_left hi] at hy'
      exact h.same i x' y' hx' hy'
    · have hi2 : i = ms.length := by
        have := (List.getElem?_eq_some_iff.1 hy').1
        simp at this; omega
      subst hi2
      rw [List.getElem?_append_right (Nat.le_refl _)] at hy'
      simp at hy'
      subst hy'
      rw [hx] at hx'
      cases hx'
      exact hs
  · refine Below.setCell (p := ⟨g, 4, none⟩) ?_ (by have := (h.fr g (by simp)).1; show _ ≤ g; omega) _
    exact (h.below.trans (hBD.mono hwr)).grown hg (by omega) (fun k hk => (hvl k hk).1)
def CopyR (d : Nat) (D : Int) (w : World) (g : Nat) (n : Nd) (ks : List Nd) (m : Nat) (v15 : Value) (wr : World) : Prop := ∃ (i : Nat) (ms : List Nd) (v : Value), v15 = .int .i64 (i : Int) ∧ i ≤ m ∧ Hid (CopyI d D w wr g n ks ms v) ∧ Hid (ms.length = i)
def CopyGen (d : Nat) (D : Int) (w : World) (n : Nd) (ks : List Nd) (e : Ending) (w' : World) : Prop := ∃ (g : Nat) (ms : List Nd) (v : Value), e = .returned (.pointer (some ⟨g, 0, none⟩)) ∧ CopyI d D w w' g n ks ms v ∧ ms.length = ks.length
set_option maxRecDepth 100000 in
set_option maxHeartbeats 4000000 in
theorem copied_gen (d : Nat) (D : Int) (w : World) (n : Nd) (ks : List Nd) (hb : Blk w n.p (cells7 n.r n.kv n.v D)) (ho : w.ownsRow 0 111 1 n.kv ks.length (ptrs ks)) (h4 : ks.length ≤ 4)
    (hk : ∀ x ∈ ks, ∀ z, Below w.heap.size w z → Calls Tryz.prog 66 #[ptrN x] z (CopyPost d z x)) :
    Calls Tryz.prog 66 #[ptrN n] w (CopyGen d D w n ks) := by
  obtain ⟨p, ⟨x, y, a, b⟩, kv, vv, nks⟩ := n
  obtain ⟨nn, hnn⟩ : ∃ nn, nn = (⟨p, (x, y, a, b), kv, vv, nks⟩ : Nd) := ⟨_, rfl⟩
  rw [← hnn]
  have hR : nn.r = (x, y, a, b) ∧ nn.v = vv ∧ nn.p = p := by rw [hnn]; exact ⟨rfl, rfl, rfl⟩
  have HR := hid hR
  simp only at hb ho
  obtain ⟨av, cv, hkv, -⟩ := ownsRow.rd ho
  obtain ⟨m, hm⟩ : ∃ m, ks.length = m := ⟨_, rfl⟩
  rw [hm] at hkv ho
  subst hkv
  have HO := hid ho
  have HBK := hid hb
  have HK := hid hk
  have HM := hid hm
  rw [hm] at h4
  unfold ptrN
  rw [hR.2.2]
  obtain ⟨c0, c1, c2, c3⟩ : w.cell? ⟨p, 0, none⟩ = some (.int .i64 x) ∧ w.cell? ⟨p, 1, none⟩ = some (.int .i64 y) ∧ w.cell? ⟨p, 2, none⟩ = some (.int .i64 a) ∧ w.cell? ⟨p, 3, none⟩ = some (.int .i64 b) := hb.c7.1
  obtain ⟨-, c4, c5, c6⟩ := hb.c7
  clear ho hb hk hm hnn hR
  go_enter Tryz.func66, Tryz.ntmps66
  go_upto_region 2 with fail
  obtain ⟨w1, hw1⟩ : ∃ w1, w1 = w.alloc (.cells #[.int .i64 x, .int .i64 y, .int .i64 a, .int .i64 b, .slice av m cv, .int .i64 vv, .int .i64 D] 120) := ⟨_, rfl⟩
  rw [← hw1]
  obtain ⟨g, hg⟩ : ∃ g, g = w.heap.size := ⟨_, rfl⟩
  rw [← hg]
  have hb1 : Below w.heap.size w w1 := by rw [hw1]; exact Below.new _ _
  have hk1 : Blk w1 g (cells7 (x, y, a, b) (.slice av m cv) vv D) := by rw [hw1, hg]; exact Blk.new _ _ _
  have f4 : w1.frozen? ⟨g, 4, none⟩ = false := hk1.unfrozen 4
  have e4 : w1.cell? ⟨g, 4, none⟩ = some (.slice av m cv) := hk1.c7.2.1
  have HG := hid hg
  clear hw1 hg c0 c1 c2 c3 c4 c5 c6
  go_upto_region 3 with fail
  obtain ⟨w2, hw2⟩ : ∃ w2, w2 = w1.setCell ⟨g, 4, none⟩ (.slice none 0 0) := ⟨_, rfl⟩
  rw [← hw2]
  have hb2 : Below w.heap.size w w2 := by rw [hw2]; exact hb1.setCell (p := ⟨g, 4, none⟩) (by have := HG.out; show _ ≤ g; omega) _
  have HI0 : Hid (CopyI d D w w2 g nn ks [] (.slice none 0 0)) := hid (by
    have hu := Upd.setCell w1 g 4 (.slice none 0 0)
    rw [← hw2] at hu
    have hk2 : Blk w2 g (cells7 (x, y, a, b) (.slice none 0 0) vv D) := by rw [hw2]; simpa [cells7] using hk1.set 4 (.slice none 0 0)
    refine ⟨by rw [HR.out.1, HR.out.2.1]; exact hk2, by simpa [ptrs] using World.ownsRow_nil _ _ _ _, fun m hm => by simp at hm, by simp [Value.ownBlock], fun k hk => ?_, fun i x y _ hy => by simp at hy, hb2, fun _ => rfl⟩
    simp [Value.ownBlock] at hk
    subst hk
    exact ⟨by have := HG.out; omega, hk2.lt⟩)
  have c4 : w2.cell? ⟨p, 4, none⟩ = some (.slice av m cv) := (HBK.out.below hb2).c7.2.1
  clear hw2 hb1 hb2 hk1 f4 e4
  go_wp2_with fail
  go_loopw [15] (fun v15 wr => CopyR d D w g nn ks m v15 wr) (fun v15 _ => m - (intOf v15).toNat)
  case atStart => exact ⟨0, [], _, rfl, by omega, HI0, hid rfl⟩
  case round =>
    clear HI0 c4
    obtain ⟨i, ms, v, rfl, hi, HI, HL⟩ := hrel
    by_cases hlt : i < m
    · have j1 : (i : Int) < (m : Int) := by omega
      have j0 : (0 : Int) ≤ (i : Int) := by omega
      have j2 : (i : Int).toNat = i := by omega
      have j4 : (i : Int) < 4 := by omega
      have hkl : i < ks.length := by rw [HM.out]; exact hlt
      obtain ⟨xk, hxk⟩ : ∃ xk, ks[i]? = some xk := ⟨_, List.getElem?_eq_getElem hkl⟩
      have HX : Hid (ks[ms.length]? = some xk) := hid (by rw [HL.out]; exact hxk)
      obtain ⟨a', c', e', -, -, hrd, -⟩ := ownsRow.rd HO.out
      simp only [Value.slice.injEq, true_and] at e'
      obtain ⟨rfl, rfl⟩ := e'
      obtain ⟨b0, off, rfl, hc⟩ := (hrd.below' HI.out.below) i (by simpa [ptrs] using hkl)
      rw [show (ptrs ks)[i]? = some (ptrN xk) by simp [ptrs, hxk]] at hc
      have hcall := fun z (hz : Below wr.heap.size wr z) => HK.out xk (List.mem_of_getElem? hxk) z (Below.next HI.out.below hz)
      unfold ptrN at hc hcall
      obtain ⟨q, hq⟩ : ∃ q, xk.p = q := ⟨_, rfl⟩
      rw [hq] at hc hcall
      have HC := hid hcall
      obtain ⟨av2, cv2, hv, -⟩ := ownsRow.rd HI.out.own
      rw [HL.out] at hv
      subst hv
      clear hrd hxk hcall hq
      go_upto_region 6 with fail
      obtain ⟨S, hS⟩ : ∃ S : Nat → Prop, S = fun k => Value.ownBlock (.slice av2 i cv2) = some k := ⟨_, rfl⟩
      have hSg : ¬ S g := by
        rw [hS]
        intro q2
        exact (List.nodup_cons.1 HI.out.nd).1 (by simp only [List.mem_append, Option.mem_toList]; exact .inl q2)
      have HS := hid hS
      have g4 : ∀ z, Upd S wr z → z.cell? ⟨g, 4, none⟩ = some (.slice av2 i cv2) := fun z hz => (HI.out.blk.upd hz hSg).c7.2.1
      have fg : ∀ z, Upd S wr z → z.frozen? ⟨g, 4, none⟩ = false := fun z hz => (HI.out.blk.upd hz hSg).unfrozen 4
      have hyb := (Below.refl wr.heap.size wr).drew
      have hyd : Upd S wr wr.drew := Upd.of_below hyb
      clear hS hSg hc
      refine wp_region_kept [7] (fun z => Upd S wr z) (by kernel_rfl) (by assumption) (fun hH => ?_)
      refine wpK.take (i := 0) (v := _) (by simp only [List.getElem?_toArray, List.getElem?_cons_succ, List.getElem?_cons_zero]; rfl) (by kernel_rfl) (by kernel_rfl) (by kernel_rfl) (by kernel_rfl) (by kernel_rfl) (by exact fun _ _ _ h => h) (by first | exact Or.inl ⟨by rfl, by intro w hSw; go_simp; try with_reducible rfl⟩ | exact Or.inr ⟨by rfl, rfl⟩) hH ?_
      try simp only [Act.put, List.setIfInBounds_toArray, List.set_cons_zero, List.set_cons_succ]
      refine wpK.take (i := 1) (v := _) (by simp only [List.getElem?_toArray, List.getElem?_cons_succ, List.getElem?_cons_zero]; rfl) (by kernel_rfl) (by kernel_rfl) (by kernel_rfl) (by kernel_rfl) (by kernel_rfl) (by exact fun _ _ _ h => h) (by first | exact Or.inl ⟨by rfl, by intro w hSw; go_simp; try with_reducible rfl⟩ | exact Or.inr ⟨by rfl, rfl⟩) hH ?_
      try simp only [Act.put, List.setIfInBounds_toArray, List.set_cons_zero, List.set_cons_succ]
      refine wpK.take (i := 2) (v := _) (by simp only [List.getElem?_toArray, List.getElem?_cons_succ, List.getElem?_cons_zero]; rfl) (by kernel_rfl) (by kernel_rfl) (by kernel_rfl) (by kernel_rfl) (by kernel_rfl) (by exact fun _ _ _ h => h) (by first | exact Or.inl ⟨by rfl, by intro w hSw; go_simp; try with_reducible rfl⟩ | exact Or.inr ⟨by rfl, rfl⟩) hH ?_
      try simp only [Act.put, List.setIfInBounds_toArray, List.set_cons_zero, List.set_cons_succ]
      refine wpK.step (i := 3) (by kernel_rfl) (by simp only [List.getElem?_toArray, List.getElem?_cons_succ, List.getElem?_cons_zero]; rfl) (fun K hK => ?_)
      go_simp
      (refine (HC.out _ hyb).mono ?_); rintro e w3 ⟨yk, rfl, hn3, hnd3, hfr3, hb3, hs3⟩; (have hbb3 := Below.next hyb hb3); (have hk3 : Upd S wr w3 := Upd.of_below hbb3); (have HN3 := hid (And.intro hn3 (And.intro hnd3 (And.intro hfr3 hs3)))); clear hn3 hnd3 hfr3 hs3; (unfold ptrN); obtain ⟨py, hpy⟩ : ∃ py, yk.p = py := ⟨_, rfl⟩; (rw [hpy]); (have HPY := hid hpy); clear hpy; go_simp
      refine hK.out _ _ (by assumption) (fun hH => ?_)
      clear hK K
      try simp only [Act.put, List.setIfInBounds_toArray, List.set_cons_zero, List.set_cons_succ]
      refine wpK.step (i := 4) (by kernel_rfl) (by simp only [List.getElem?_toArray, List.getElem?_cons_succ, List.getElem?_cons_zero]; rfl) (fun K hK => ?_)
      refine step_lit (us := #[.pointer (some ⟨py, 0, none⟩)]) (e := 111) (size := 1) (ps := #[(0, .pointer (some ⟨py, 0, none⟩))]) rfl rfl (by simp only [List.map_toArray, List.map_cons, List.map_nil]; rfl) (lit_ptr py _) rfl (by omega) ?_; intro g8 wD hg8 hb8 hs8 hown8; have hbbD := Below.next hbb3 hb8; have HB8 := hid hb8; have hk8 : Upd S wr wD := Upd.of_below hbbD
      refine hK.out _ _ (by assumption) (fun hH => ?_)
      clear hK K
      try simp only [Act.put, List.setIfInBounds_toArray, List.set_cons_zero, List.set_cons_succ]
      refine wpK.step (i := 5) (by kernel_rfl) (by simp only [List.getElem?_toArray, List.getElem?_cons_succ, List.getElem?_cons_zero]; rfl) (fun K hK => ?_)
      obtain ⟨a8, c8, e8, -, -, hr8, hcz8⟩ := ownsRow.rd hown8; simp only [Value.slice.injEq] at e8; obtain ⟨rfl, -, rfl⟩ := e8; refine step_appN T_nodes rfl _ _ rfl 0 (.slice av2 i cv2) i (ptrs ms) rfl (owns_below (by have := HI.out.own; rw [HL.out] at this; exact this) hbbD) (some ⟨g8, 0, none⟩) 1 1 _ rfl rfl (fun h => nomatch h) hr8 (by intro u hu; simp at hu; subst hu; rfl) (by omega) (by omega) ?_; intro v9 wE hown9 hg9 hnil9 hwh9; have hk9 : Upd S wr wE := (Upd.of_below hbbD).trans (Upd.of_grown hg9) (fun k _ q => by rw [HS.out]; exact q); obtain ⟨a9, c9, he9, -⟩ := ownsRow.rd hown9; subst he9
      refine hK.out _ _ (by assumption) (fun hH => ?_)
      clear hK K
      try simp only [Act.put, List.setIfInBounds_toArray, List.set_cons_zero, List.set_cons_succ]
      refine wpK.take (i := 6) (v := _) (by simp only [List.getElem?_toArray, List.getElem?_cons_succ, List.getElem?_cons_zero]; rfl) (by kernel_rfl) (by kernel_rfl) (by kernel_rfl) (by kernel_rfl) (by kernel_rfl) (by exact fun _ _ _ h => h) (by first | exact Or.inl ⟨by rfl, by intro w hSw; go_simp; try with_reducible rfl⟩ | exact Or.inr ⟨by rfl, rfl⟩) hH ?_
      try simp only [Act.put, List.setIfInBounds_toArray, List.set_cons_zero, List.set_cons_succ]
      refine wpK.late (i := 7) (by kernel_rfl) (by simp only [List.getElem?_toArray, List.getElem?_cons_succ, List.getElem?_cons_zero]; rfl) (by kernel_rfl) (fun K hK => ?_)
      go_simp
      refine hK.out _ _ ?_
      clear hK K
      try simp only [Act.put, List.setIfInBounds_toArray, List.set_cons_zero, List.set_cons_succ]
      refine wpK.done (by kernel_rfl) ?_ _
      have hnx := HI.out.next HX.out hbb3 HN3.out.1 HN3.out.2.1 (fun k hk => HN3.out.2.2.1 k hk) HN3.out.2.2.2 HB8.out hg9 (v9 := .slice a9 (i + 1) c9) (by
        have e1 : (ms ++ [yk]).length = i + 1 := by simp [HL.out]
        have e2 : ptrs (ms ++ [yk]) = ptrs ms ++ [.pointer (some ⟨py, 0, none⟩)] := by simp [ptrs, ptrN, HPY.out]
        rw [e1, e2]; exact hown9) hwh9
      have HNX := hid hnx
      have HL9 : Hid ((ms ++ [yk]).length = i + 1) := hid (by simp [HL.out])
      clear hnx hown9 hg9 hk9 hnil9 hwh9 hbbD hk8 hbb3 hk3 g4 fg hyd hyb hr8 hcz8 hown8 hb8 hb3 hH
      go_wp2_with fail
      go_roundw
      case rel => exact ⟨i + 1, _, _, by go_num, by omega, HNX, HL9⟩
      case measure => simp [intOf]; omega
    · have j1 : ¬ (i : Int) < (m : Int) := by omega
      go_wp2_with fail
      go_ret
      exact ⟨g, ms, v, rfl, HI.out, by rw [HL.out, HM.out]; omega⟩
theorem CopyI.post {d g : Nat} {w w' : World} {n : Nd} {ms : List Nd} {v : Value} (h : CopyI d ((d + 1 : Nat) : Int) w w' g n n.ks ms v) (hl : ms.length = n.ks.length) : CopyPost (d + 1) w n (.returned (.pointer (some ⟨g, 0, none⟩))) w' :=
  ⟨⟨g, n.r, v, n.v, ms⟩, rfl, ⟨h.blk, h.own, h.node⟩, h.nd, fun k hk => (h.fr k hk).1, h.below, rfl, rfl, hl, h.same⟩
theorem copied_leaf (w : World) (n : Nd) (h : NodeAt 0 w n) : Calls Tryz.prog 66 #[ptrN n] w (CopyPost 0 w n) := by
  refine (copied_gen 0 0 w n [] h.1 (by rw [h.2]; simpa [ptrs] using World.ownsRow_nil _ _ _ _) (by simp) (fun x hx => by simp at hx)).mono ?_
  rintro e w' ⟨g, ms, v, rfl, hi, hl⟩
  obtain rfl : ms = [] := by simpa using hl
  obtain rfl := hi.nil rfl
  exact ⟨⟨g, n.r, .slice none 0 0, n.v, []⟩, rfl, ⟨hi.blk, rfl⟩, by simp [blkN], fun k hk => (hi.fr k (by simp [blkN] at hk; simp [hk])).1, hi.below, rfl, rfl⟩
theorem copied_all : ∀ (d : Nat) (w : World) (n : Nd), NodeAt (d + 1) w n → Shape1 d n → Calls Tryz.prog 66 #[ptrN n] w (CopyPost (d + 1) w n)
  | 0, w, n, h, hs => by
    refine (copied_gen 0 _ w n n.ks h.1 h.2.1 hs.len (fun x hx z hz => copied_leaf z x ((h.2.2 x hx).below hz))).mono ?_
    rintro e w' ⟨g, ms, v, rfl, hi, hl⟩
    exact hi.post hl
  | d + 1, w, n, h, hs => by
    refine (copied_gen (d + 1) _ w n n.ks h.1 h.2.1 hs.len (fun x hx z hz => copied_all d z x ((h.2.2 x hx).below hz) (hs.kids x hx).one)).mono ?_
    rintro e w' ⟨g, ms, v, rfl, hi, hl⟩
    exact hi.post hl
set_option maxRecDepth 100000 in
set_option maxHeartbeats 4000000 in
theorem rt_Copy (w : World) (s : Nat) (F : Nat → Prop) (L : List Tg) (h : TreeIs w s F L) :
    Calls Tryz.prog 45 #[.pointer (some ⟨s, 0, none⟩)] w fun e w' => ∃ s2 : Nat, e = .returned (.pointer (some ⟨s2, 0, none⟩)) ∧ TreeIs w' s2 (fun k => w.heap.size ≤ k) L ∧ Below w.heap.size w w' := by
  obtain ⟨d, n, ht, -, h2, hp⟩ := h
  have hcp := fun z (hz : Below w.heap.size w z) => copied_all d z n (ht.node.below hz) ht.sh
  have hbs := ht.blk
  have HT := hid ht
  have H2 := hid h2
  have HP := hid hp
  unfold ptrN at hcp hbs
  obtain ⟨q, hq⟩ : ∃ q, n.p = q := ⟨_, rfl⟩
  rw [hq] at hcp hbs
  obtain ⟨C, hC⟩ : ∃ C : Int, (L.length : Int) = C := ⟨_, rfl⟩
  rw [hC] at hbs
  have HCC := hid hC
  have HC := hid hcp
  obtain ⟨c0, c1, -⟩ := hbs.c2
  clear ht h2 hp hcp hbs hq hC
  go_enter Tryz.func45, Tryz.ntmps45
  go_upto_region 1 with fail
  replace c0 := fun (z : World) (hz : Below w.heap.size w z) => cellOf_belowR hz c0
  replace c1 := fun (z : World) (hz : Below w.heap.size w z) => cellOf_belowR hz c1
  have hyd := (Below.refl w.heap.size w).drew
  refine wp_region_kept [11] (fun z => Below w.heap.size w z) (by kernel_rfl) (by assumption) (fun hH => ?_)
  refine wpK.take (i := 0) (v := _) (by simp only [List.getElem?_toArray, List.getElem?_cons_succ, List.getElem?_cons_zero]; rfl) (by kernel_rfl) (by kernel_rfl) (by kernel_rfl) (by kernel_rfl) (by kernel_rfl) (by exact fun _ _ _ h => h) (by first | exact Or.inl ⟨by rfl, by intro w hSw; go_simp; try with_reducible rfl⟩ | exact Or.inr ⟨by rfl, rfl⟩) hH ?_
  try simp only [Act.put, List.setIfInBounds_toArray, List.set_cons_zero, List.set_cons_succ]
  refine wpK.take (i := 1) (v := _) (by simp only [List.getElem?_toArray, List.getElem?_cons_succ, List.getElem?_cons_zero]; rfl) (by kernel_rfl) (by kernel_rfl) (by kernel_rfl) (by kernel_rfl) (by kernel_rfl) (by exact fun _ _ _ h => h) (by first | exact Or.inl ⟨by rfl, by intro w hSw; go_simp; try with_reducible rfl⟩ | exact Or.inr ⟨by rfl, rfl⟩) hH ?_
  try simp only [Act.put, List.setIfInBounds_toArray, List.set_cons_zero, List.set_cons_succ]
  refine wpK.take (i := 2) (v := _) (by simp only [List.getElem?_toArray, List.getElem?_cons_succ, List.getElem?_cons_zero]; rfl) (by kernel_rfl) (by kernel_rfl) (by kernel_rfl) (by kernel_rfl) (by kernel_rfl) (by exact fun _ _ _ h => h) (by first | exact Or.inl ⟨by rfl, by intro w hSw; go_simp; try with_reducible rfl⟩ | exact Or.inr ⟨by rfl, rfl⟩) hH ?_
  try simp only [Act.put, List.setIfInBounds_toArray, List.set_cons_zero, List.set_cons_succ]
  refine wpK.take (i := 3) (v := _) (by simp only [List.getElem?_toArray, List.getElem?_cons_succ, List.getElem?_cons_zero]; rfl) (by kernel_rfl) (by kernel_rfl) (by kernel_rfl) (by kernel_rfl) (by kernel_rfl) (by exact fun _ _ _ h => h) (by first | exact Or.inl ⟨by rfl, by intro w hSw; go_simp; try with_reducible rfl⟩ | exact Or.inr ⟨by rfl, rfl⟩) hH ?_
  try simp only [Act.put, List.setIfInBounds_toArray, List.set_cons_zero, List.set_cons_succ]
  refine wpK.take (i := 5) (v := _) (by simp only [List.getElem?_toArray, List.getElem?_cons_succ, List.getElem?_cons_zero]; rfl) (by kernel_rfl) (by kernel_rfl) (by kernel_rfl) (by kernel_rfl) (by kernel_rfl) (by exact fun _ _ _ h => h) (by first | exact Or.inl ⟨by rfl, by intro w hSw; go_simp; try with_reducible rfl⟩ | exact Or.inr ⟨by rfl, rfl⟩) hH ?_
  try simp only [Act.put, List.setIfInBounds_toArray, List.set_cons_zero, List.set_cons_succ]
  refine wpK.take (i := 6) (v := _) (by simp only [List.getElem?_toArray, List.getElem?_cons_succ, List.getElem?_cons_zero]; rfl) (by kernel_rfl) (by kernel_rfl) (by kernel_rfl) (by kernel_rfl) (by kernel_rfl) (by exact fun _ _ _ h => h) (by first | exact Or.inl ⟨by rfl, by intro w hSw; go_simp; try with_reducible rfl⟩ | exact Or.inr ⟨by rfl, rfl⟩) hH ?_
  try simp only [Act.put, List.setIfInBounds_toArray, List.set_cons_zero, List.set_cons_succ]
  refine wpK.take (i := 7) (v := _) (by simp only [List.getElem?_toArray, List.getElem?_cons_succ, List.getElem?_cons_zero]; rfl) (by kernel_rfl) (by kernel_rfl) (by kernel_rfl) (by kernel_rfl) (by kernel_rfl) (by exact fun _ _ _ h => h) (by first | exact Or.inl ⟨by rfl, by intro w hSw; go_simp; try with_reducible rfl⟩ | exact Or.inr ⟨by rfl, rfl⟩) hH ?_
  try simp only [Act.put, List.setIfInBounds_toArray, List.set_cons_zero, List.set_cons_succ]
  refine wpK.take (i := 8) (v := _) (by simp only [List.getElem?_toArray, List.getElem?_cons_succ, List.getElem?_cons_zero]; rfl) (by kernel_rfl) (by kernel_rfl) (by kernel_rfl) (by kernel_rfl) (by kernel_rfl) (by exact fun _ _ _ h => h) (by first | exact Or.inl ⟨by rfl, by intro w hSw; go_simp; try with_reducible rfl⟩ | exact Or.inr ⟨by rfl, rfl⟩) hH ?_
  try simp only [Act.put, List.setIfInBounds_toArray, List.set_cons_zero, List.set_cons_succ]
  refine wpK.step (i := 4) (by kernel_rfl) (by simp only [List.getElem?_toArray, List.getElem?_cons_succ, List.getElem?_cons_zero]; rfl) (fun K hK => ?_)
  go_simp
  (refine (HC.out _ hyd).mono ?_); rintro e w3 ⟨m, rfl, hn3, hnd3, hfr3, hb3, hs3⟩; (have hk3 := Below.next hyd hb3); (have HN3 := hid (And.intro hn3 (And.intro hnd3 (And.intro hfr3 hs3)))); clear hn3 hnd3 hfr3 hs3; (unfold ptrN); obtain ⟨py, hpy⟩ : ∃ py, m.p = py := ⟨_, rfl⟩; (rw [hpy]); (have HPY := hid hpy); clear hpy; go_simp
  refine hK.out _ _ (by assumption) (fun hH => ?_)
  clear hK K
  try simp only [Act.put, List.setIfInBounds_toArray, List.set_cons_zero, List.set_cons_succ]
  refine wpK.take (i := 9) (v := _) (by simp only [List.getElem?_toArray, List.getElem?_cons_succ, List.getElem?_cons_zero]; rfl) (by kernel_rfl) (by kernel_rfl) (by kernel_rfl) (by kernel_rfl) (by kernel_rfl) (by exact fun _ _ _ h => h) (by first | exact Or.inl ⟨by rfl, by intro w hSw; go_simp; try with_reducible rfl⟩ | exact Or.inr ⟨by rfl, rfl⟩) hH ?_
  try simp only [Act.put, List.setIfInBounds_toArray, List.set_cons_zero, List.set_cons_succ]
  refine wpK.step (i := 10) (by kernel_rfl) (by simp only [List.getElem?_toArray, List.getElem?_cons_succ, List.getElem?_cons_zero]; rfl) (fun K hK => ?_)
  go_simp
  (first | refine K_alloc (K := K) ?_ | refine K_allocD (K := K) ?_); intro g8 w8 hg8 hs8 hb8 hblk8; (try rw [← hg8]); (have HG8 := hid (And.intro hg8 (And.intro hb8 hblk8))); (have hk8 := Below.next hk3 hb8); clear hg8 hs8
  refine hK.out _ _ (by assumption) (fun hH => ?_)
  clear hK K
  try simp only [Act.put, List.setIfInBounds_toArray, List.set_cons_zero, List.set_cons_succ]
  refine wpK.late (i := 11) (by kernel_rfl) (by simp only [List.getElem?_toArray, List.getElem?_cons_succ, List.getElem?_cons_zero]; rfl) (by kernel_rfl) (fun K hK => ?_)
  go_simp
  refine hK.out _ _ ?_
  clear hK K
  try simp only [Act.put, List.setIfInBounds_toArray, List.set_cons_zero, List.set_cons_succ]
  refine wpK.done (by kernel_rfl) ?_ _
  have HB3 := hid hk3
  clear c0 c1 hyd hb3 hk3 hb8 hblk8 hH
  have HK8 := hid hk8
  clear hk8
  go_wp2_with fail
  go_ret
  obtain ⟨hg8, hb8, hblk8⟩ := HG8.out
  have hsz := HB3.out.size
  refine ⟨g8, rfl, ⟨d, m, ⟨?_, (HN3.out.1).below hb8, ?_, HN3.out.2.2.2.shape1 HT.out.sh⟩, fun k hk => ?_, ?_, ?_⟩, HK8.out⟩
  · unfold ptrN; rw [HPY.out, HCC.out]; exact hblk8
  · rw [List.nodup_cons]
    exact ⟨fun q => by have := HN3.out.1.lt g8 q; omega, HN3.out.2.1⟩
  · rcases List.mem_cons.1 hk with rfl | hk
    · omega
    · exact HN3.out.2.2.1 k hk
  · rw [HN3.out.2.2.2.2.2.1]; exact H2.out
  · rw [HN3.out.2.2.2.thg]; exact HP.out
end Go.Proofs.YtjbnfppnmljbmaaGreat
end
section
/- Layings of the shelf's contracts at this dump (printed by the shelf's lay-plain). -/
namespace Go.Proofs
open Go.Shelf
def Tryz.lays_SlLaysW_n5_46_ren : Go.Shelf.Ren := ⟨fun | 5 => 46 | 7 => 67 | n => n, fun | 23 => 74 | 25 => 3 | 3 => 25 | 4 => 4 | 20 => 20 | n => n, fun | n => n⟩
theorem Tryz.lays_SlLaysW_n5_46 : Go.Proofs.SlLaysW.n5 Tryz.prog Tryz.lays_SlLaysW_n5_46_ren := {
  mixed := by kernel_rfl
  f5 := ⟨Tryz.f46.name, by decide, Tryz.func46.trans (congrArg some (by kernel_rfl))⟩
  f7 := Tryz.func67.trans (congrArg some (by kernel_rfl))
  t4 := Tryz.underlying4
  a4 := Tryz.isAgg4
  z4 := Tryz.sizeOf4
  v4 := Tryz.zeroValue4
  t20 := Tryz.underlying20
  a20 := Tryz.isAgg20
  z20 := Tryz.sizeOf20
  v20 := Tryz.zeroValue20
  t23 := Tryz.underlying74
  a23 := Tryz.isAgg74
  z23 := Tryz.sizeOf74
  v23 := Tryz.zeroValue74 }
end Go.Proofs
end
section
/- Contract of land's Copy. -/
namespace Go.Proofs.YtjbnfppnmljbmaaGreat
open Go.RowKit Go.Deep Go.Shelf
open Go.Lib (hid)
set_option linter.unusedVariables false
attribute [local go_sem] Oper.semAt_some

theorem heap_alloc_newL (w : World) {es : Array MapEntry} {clock : Nat} : (w.alloc (.map es clock)).heap[w.heap.size]? = some (.map es clock) := World.alloc_heap_new w _
def LCopyPost (w : World) (k : Nat) (B : List R4) (P : List Pl) (e : Ending) (w' : World) : Prop := ∃ l' : Nat, e = .returned (.pointer (some ⟨l', 0, none⟩)) ∧ LandIs w' l' (fun b => w.heap.size ≤ b) k B P ∧ Below w.heap.size w w'
set_option maxRecDepth 100000 in
set_option maxHeartbeats 8000000 in
theorem land_Copy (w : World) (l : Nat) (F : Nat → Prop) (k : Nat) (B : List R4) (P : List Pl) (h : LandIs w l F k B P) : Calls Tryz.prog 26 #[.pointer (some ⟨l, 0, none⟩)] w (LCopyPost w k B P) := by
  obtain ⟨q, t, mb, Fq, Ft, s, M, h⟩ := h
  have HL := hid h
  obtain ⟨c0, c1, c2⟩ := h.c3
  obtain ⟨es, clock, hmh, hst, hes⟩ := h.map
  have HES := hid (And.intro hst hes)
  have HMC : Hid (∀ y, Below w.heap.size w y → y.heap[mb]? = some (.map es clock)) := hid (fun y hy => (hy.block mb h.map.lt).trans hmh)
  clear h hmh hst hes
  go_enter Tryz.func26, Tryz.ntmps26
  go_upto_region 1 with fail
  replace c0 := fun (z : World) (hz : Below w.heap.size w z) => cellOf_belowR hz c0
  replace c1 := fun (z : World) (hz : Below w.heap.size w z) => cellOf_belowR hz c1
  replace c2 := fun (z : World) (hz : Below w.heap.size w z) => cellOf_belowR hz c2
  have hyd := (Below.refl w.heap.size w).drew
  refine wp_region_kept [17] (fun z => Below w.heap.size w z) (by kernel_rfl) (by assumption) (fun hH => ?_)
  refine wpK.take (i := 0) (v := _) (by simp only [List.getElem?_toArray, List.getElem?_cons_succ, List.getElem?_cons_zero]; rfl) (by kernel_rfl) (by kernel_rfl) (by kernel_rfl) (by kernel_rfl) (by kernel_rfl) (by exact fun _ _ _ h => h) (by first | exact Or.inl ⟨by rfl, by intro w hSw; go_simp; try with_reducible rfl⟩ | exact Or.inr ⟨by rfl, rfl⟩) hH ?_
  try simp only [Act.put, List.setIfInBounds_toArray, List.set_cons_zero, List.set_cons_succ]
  refine wpK.take (i := 1) (v := _) (by simp only [List.getElem?_toArray, List.getElem?_cons_succ, List.getElem?_cons_zero]; rfl) (by kernel_rfl) (by kernel_rfl) (by kernel_rfl) (by kernel_rfl) (by kernel_rfl) (by exact fun _ _ _ h => h) (by first | exact Or.inl ⟨by rfl, by intro w hSw; go_simp; try with_reducible rfl⟩ | exact Or.inr ⟨by rfl, rfl⟩) hH ?_
  try simp only [Act.put, List.setIfInBounds_toArray, List.set_cons_zero, List.set_cons_succ]
  refine wpK.take (i := 2) (v := _) (by simp only [List.getElem?_toArray, List.getElem?_cons_succ, List.getElem?_cons_zero]; rfl) (by kernel_rfl) (by kernel_rfl) (by kernel_rfl) (by kernel_rfl) (by kernel_rfl) (by exact fun _ _ _ h => h) (by first | exact Or.inl ⟨by rfl, by intro w hSw; go_simp; try with_reducible rfl⟩ | exact Or.inr ⟨by rfl, rfl⟩) hH ?_
  try simp only [Act.put, List.setIfInBounds_toArray, List.set_cons_zero, List.set_cons_succ]
  refine wpK.take (i := 3) (v := _) (by simp only [List.getElem?_toArray, List.getElem?_cons_succ, List.getElem?_cons_zero]; rfl) (by kernel_rfl) (by kernel_rfl) (by kernel_rfl) (by kernel_rfl) (by kernel_rfl) (by exact fun _ _ _ h => h) (by first | exact Or.inl ⟨by rfl, by intro w hSw; go_simp; try with_reducible rfl⟩ | exact Or.inr ⟨by rfl, rfl⟩) hH ?_
  try simp only [Act.put, List.setIfInBounds_toArray, List.set_cons_zero, List.set_cons_succ]
  refine wpK.take (i := 5) (v := _) (by simp only [List.getElem?_toArray, List.getElem?_cons_succ, List.getElem?_cons_zero]; rfl) (by kernel_rfl) (by kernel_rfl) (by kernel_rfl) (by kernel_rfl) (by kernel_rfl) (by exact fun _ _ _ h => h) (by first | exact Or.inl ⟨by rfl, by intro w hSw; go_simp; try with_reducible rfl⟩ | exact Or.inr ⟨by rfl, rfl⟩) hH ?_
  try simp only [Act.put, List.setIfInBounds_toArray, List.set_cons_zero, List.set_cons_succ]
  refine wpK.take (i := 6) (v := _) (by simp only [List.getElem?_toArray, List.getElem?_cons_succ, List.getElem?_cons_zero]; rfl) (by kernel_rfl) (by kernel_rfl) (by kernel_rfl) (by kernel_rfl) (by kernel_rfl) (by exact fun _ _ _ h => h) (by first | exact Or.inl ⟨by rfl, by intro w hSw; go_simp; try with_reducible rfl⟩ | exact Or.inr ⟨by rfl, rfl⟩) hH ?_
  try simp only [Act.put, List.setIfInBounds_toArray, List.set_cons_zero, List.set_cons_succ]
  refine wpK.take (i := 7) (v := _) (by simp only [List.getElem?_toArray, List.getElem?_cons_succ, List.getElem?_cons_zero]; rfl) (by kernel_rfl) (by kernel_rfl) (by kernel_rfl) (by kernel_rfl) (by kernel_rfl) (by exact fun _ _ _ h => h) (by first | exact Or.inl ⟨by rfl, by intro w hSw; go_simp; try with_reducible rfl⟩ | exact Or.inr ⟨by rfl, rfl⟩) hH ?_
  try simp only [Act.put, List.setIfInBounds_toArray, List.set_cons_zero, List.set_cons_succ]
  refine wpK.take (i := 8) (v := _) (by simp only [List.getElem?_toArray, List.getElem?_cons_succ, List.getElem?_cons_zero]; rfl) (by kernel_rfl) (by kernel_rfl) (by kernel_rfl) (by kernel_rfl) (by kernel_rfl) (by exact fun _ _ _ h => h) (by first | exact Or.inl ⟨by rfl, by intro w hSw; go_simp; try with_reducible rfl⟩ | exact Or.inr ⟨by rfl, rfl⟩) hH ?_
  try simp only [Act.put, List.setIfInBounds_toArray, List.set_cons_zero, List.set_cons_succ]
  refine wpK.take (i := 10) (v := _) (by simp only [List.getElem?_toArray, List.getElem?_cons_succ, List.getElem?_cons_zero]; rfl) (by kernel_rfl) (by kernel_rfl) (by kernel_rfl) (by kernel_rfl) (by kernel_rfl) (by exact fun _ _ _ h => h) (by first | exact Or.inl ⟨by rfl, by intro w hSw; go_simp; try with_reducible rfl⟩ | exact Or.inr ⟨by rfl, rfl⟩) hH ?_
  try simp only [Act.put, List.setIfInBounds_toArray, List.set_cons_zero, List.set_cons_succ]
  refine wpK.take (i := 11) (v := _) (by simp only [List.getElem?_toArray, List.getElem?_cons_succ, List.getElem?_cons_zero]; rfl) (by kernel_rfl) (by kernel_rfl) (by kernel_rfl) (by kernel_rfl) (by kernel_rfl) (by exact fun _ _ _ h => h) (by first | exact Or.inl ⟨by rfl, by intro w hSw; go_simp; try with_reducible rfl⟩ | exact Or.inr ⟨by rfl, rfl⟩) hH ?_
  try simp only [Act.put, List.setIfInBounds_toArray, List.set_cons_zero, List.set_cons_succ]
  refine wpK.take (i := 12) (v := _) (by simp only [List.getElem?_toArray, List.getElem?_cons_succ, List.getElem?_cons_zero]; rfl) (by kernel_rfl) (by kernel_rfl) (by kernel_rfl) (by kernel_rfl) (by kernel_rfl) (by exact fun _ _ _ h => h) (by first | exact Or.inl ⟨by rfl, by intro w hSw; go_simp; try with_reducible rfl⟩ | exact Or.inr ⟨by rfl, rfl⟩) hH ?_
  try simp only [Act.put, List.setIfInBounds_toArray, List.set_cons_zero, List.set_cons_succ]
  refine wpK.take (i := 13) (v := _) (by simp only [List.getElem?_toArray, List.getElem?_cons_succ, List.getElem?_cons_zero]; rfl) (by kernel_rfl) (by kernel_rfl) (by kernel_rfl) (by kernel_rfl) (by kernel_rfl) (by exact fun _ _ _ h => h) (by first | exact Or.inl ⟨by rfl, by intro w hSw; go_simp; try with_reducible rfl⟩ | exact Or.inr ⟨by rfl, rfl⟩) hH ?_
  try simp only [Act.put, List.setIfInBounds_toArray, List.set_cons_zero, List.set_cons_succ]
  refine wpK.step (i := 4) (by kernel_rfl) (by simp only [List.getElem?_toArray, List.getElem?_cons_succ, List.getElem?_cons_zero]; rfl) (fun K hK => ?_)
  go_simp
  (refine (quad_Copy _ q Fq k s (HL.out.quad.below hH)).mono ?_); rintro e w4 ⟨q', s', rfl, hq4, hlv, hb4⟩; (have hk4 := Below.next hH hb4); (have HQ4 : Hid (QuadAt w4 q' (fun b => w.heap.size ≤ b ∧ b < w4.heap.size) k s') := hid (hq4.weaken (fun b y _ => ⟨Nat.le_trans hH.size y.1, y.2⟩))); (have HLV := hid hlv); (have HK4 := hid hk4); clear hq4 hlv hb4; go_simp
  refine hK.out _ _ (by assumption) (fun hH => ?_)
  clear hK K
  try simp only [Act.put, List.setIfInBounds_toArray, List.set_cons_zero, List.set_cons_succ]
  refine wpK.step (i := 9) (by kernel_rfl) (by simp only [List.getElem?_toArray, List.getElem?_cons_succ, List.getElem?_cons_zero]; rfl) (fun K hK => ?_)
  go_simp
  (refine (rt_Copy _ t Ft (tgP P) (HL.out.tree.below hH)).mono ?_); rintro e w9 ⟨t', rfl, ht9, hb9⟩; (have hk9 := Below.next hH hb9); (have HT9 : Hid (TreeIs w9 t' (fun b => w4.heap.size ≤ b ∧ b < w9.heap.size) (tgP P) ∧ Below w4.heap.size w4 w9) := hid ⟨ht9.weaken (fun b y z => ⟨y, z⟩), hb9⟩); (have HK9 := hid hk9); clear ht9 hb9; go_simp
  refine hK.out _ _ (by assumption) (fun hH => ?_)
  clear hK K
  try simp only [Act.put, List.setIfInBounds_toArray, List.set_cons_zero, List.set_cons_succ]
  refine wpK.step (i := 14) (by kernel_rfl) (by simp only [List.getElem?_toArray, List.getElem?_cons_succ, List.getElem?_cons_zero]; rfl) (fun K hK => ?_)
  go_simp
  (refine (AnyW.maps_Clone (Tryz.lays_SlLaysW_n5_46) mb es clock _ (HMC.out _ hH)).mono ?_); rintro e w14 ⟨rfl, hw14⟩; (have hk14 : Below w.heap.size w w14 := by rw [hw14]; exact Below.next hH (Below.new _ _)); (have HM14 : Hid (MapE w14 w9.heap.size (mapR M) ∧ Below w9.heap.size w9 w14) := hid ⟨⟨es, clock, by rw [hw14]; exact heap_alloc_newL w9, HES.out.1, HES.out.2⟩, by rw [hw14]; exact Below.new _ _⟩); clear hw14; go_simp
  refine hK.out _ _ (by assumption) (fun hH => ?_)
  clear hK K
  try simp only [Act.put, List.setIfInBounds_toArray, List.set_cons_zero, List.set_cons_succ]
  refine wpK.take (i := 15) (v := _) (by simp only [List.getElem?_toArray, List.getElem?_cons_succ, List.getElem?_cons_zero]; rfl) (by kernel_rfl) (by kernel_rfl) (by kernel_rfl) (by kernel_rfl) (by kernel_rfl) (by exact fun _ _ _ h => h) (by first | exact Or.inl ⟨by rfl, by intro w hSw; go_simp; try with_reducible rfl⟩ | exact Or.inr ⟨by rfl, rfl⟩) hH ?_
  try simp only [Act.put, List.setIfInBounds_toArray, List.set_cons_zero, List.set_cons_succ]
  refine wpK.step (i := 16) (by kernel_rfl) (by simp only [List.getElem?_toArray, List.getElem?_cons_succ, List.getElem?_cons_zero]; rfl) (fun K hK => ?_)
  go_simp
  (first | refine K_alloc (K := K) ?_ | refine K_allocD (K := K) ?_); intro g8 w8 hg8 hs8 hb8 hblk8; (try rw [← hg8]); (have hk8 : Below w.heap.size w w8 := by first | exact Below.next hH hb8 | exact hb8); (have HG8 : Hid (g8 = w14.heap.size ∧ Below w14.heap.size w14 w8) := hid ⟨hg8, hb8⟩); clear hg8 hs8
  refine hK.out _ _ (by assumption) (fun hH => ?_)
  clear hK K
  try simp only [Act.put, List.setIfInBounds_toArray, List.set_cons_zero, List.set_cons_succ]
  refine wpK.late (i := 17) (by kernel_rfl) (by simp only [List.getElem?_toArray, List.getElem?_cons_succ, List.getElem?_cons_zero]; rfl) (by kernel_rfl) (fun K hK => ?_)
  go_simp
  refine hK.out _ _ ?_
  clear hK K
  try simp only [Act.put, List.setIfInBounds_toArray, List.set_cons_zero, List.set_cons_succ]
  refine wpK.done (by kernel_rfl) ?_ _
  have HB8 := hid hblk8
  have HK8 := hid hk8
  clear c0 c1 c2 hyd hH hk4 hk9 hk14 hk8 hb8 hblk8
  go_wp2_with fail
  go_ret
  have z0 := HK4.out.size
  have z1 := HT9.out.2.size
  have z2 := HM14.out.2.size
  have z3 := HG8.out.2.size
  have z4 := HG8.out.1
  have z5 := HM14.out.1.lt
  have z6 := HB8.out.lt
  have b48 : Below w4.heap.size w4 w8 := Below.next (Below.next HT9.out.2 HM14.out.2) HG8.out.2
  have b98 : Below w9.heap.size w9 w8 := Below.next HM14.out.2 HG8.out.2
  refine ⟨g8, rfl, ⟨q', t', w9.heap.size, _, _, s', M, HB8.out, HQ4.out.below b48, ?_, HL.out.stones, HT9.out.1.below b98, HM14.out.1.below HG8.out.2, HL.out.perm, fun b y => ?_, fun b y => ?_, ?_, HL.out.inv⟩, HK8.out⟩
  · intro x y hxy
    rw [HLV.out]
    exact HL.out.tile x y hxy
  · obtain ⟨y1, y2⟩ := y
    exact ⟨fun z => by have := z.1; omega, by omega, by omega, y1, by omega⟩
  · obtain ⟨y1, y2⟩ := y
    exact ⟨by omega, by omega, by show _ ≤ b; omega, by omega⟩
  · exact ⟨by omega, by show _ ≤ g8; omega, by show w.heap.size ≤ w9.heap.size; omega⟩
end Go.Proofs.YtjbnfppnmljbmaaGreat
end
section
/- Law LandCopies. -/
namespace Go.Proofs.YtjbnfppnmljbmaaGreat
open Go.RowKit Go.Deep
open Go.Lib (hid)
set_option linter.unusedVariables false
attribute [local go_sem] Oper.semAt_some

abbrev cpB : List R4 := [(30, 30, 2, 2)]
theorem cp_ok : okL 32 cpB := ⟨⟨by decide, by decide⟩, by decide⟩
theorem cp_blk : blkX cpB (31, 31, 1, 1) = true := by decide
def CpR (w : World) (l g8 k n : Nat) (vs : Value) (v37 : Value) (wr : World) : Prop := ∃ (j : Nat) (F : Nat → Prop) (vp : Value) (P : List Pl), v37 = .int .i64 (j : Int) ∧ j ≤ n ∧ Hid (PyI w wr l g8 k F cpB 32 vs vp P)
set_option maxRecDepth 100000 in
set_option maxHeartbeats 8000000 in
theorem law19_Copies (L M : List OpL) (ao am : Option Addr) (co cm : Nat) (w : World) (hl : SlE OpLE 6 w (.slice ao L.length co) L) (hm : SlE OpLE 6 w (.slice am M.length cm) M) :
    Calls Tryz.prog 5 #[.slice ao L.length co, .slice am M.length cm] w fun e w' => e = .returned (.bool true) ∧ Below w.heap.size w w' := by
  have HL := hid hl
  have HM := hid hm
  have HAW : Hid (∀ z, Below w.heap.size w z → Calls Tryz.prog 7 #[] z fun e w' => e = .returned (.bool true) ∧ Below w.heap.size w w') := hid (fun z hz => (law19_awake z).mono (fun e w' h => ⟨h.1, Below.next hz h.2⟩))
  obtain ⟨n0, hn0⟩ : ∃ n, L.length = n := ⟨_, rfl⟩
  obtain ⟨n, hn⟩ : ∃ n, M.length = n := ⟨_, rfl⟩
  rw [hn0, hn]
  have HL0 := hid hn0
  have HLN := hid hn
  clear hl hm hn0 hn
  have hlit := fun (W : World) => lit_rect1 30 30 2 2 W
  go_enter Tryz.func5, Tryz.ntmps5
  by_cases h60 : n0 ≤ 60
  case neg =>
    have c1 : (60 : Int) < (n0 : Int) := by omega
    go_wp2_with fail
    refine (HAW.out w (Below.refl _ _)).mono ?_
    rintro e w1 ⟨rfl, hb⟩
    have HZ := hid hb
    clear hb
    go_wp2_with fail
    go_ret
    exact ⟨rfl, HZ.out⟩
  by_cases h61 : n ≤ 60
  case neg =>
    have c1 : ¬ (60 : Int) < (n0 : Int) := by omega
    have c2 : (60 : Int) < (n : Int) := by omega
    go_wp2_with fail
    refine (HAW.out w (Below.refl _ _)).mono ?_
    rintro e w1 ⟨rfl, hb⟩
    have HZ := hid hb
    clear hb
    go_wp2_with fail
    go_ret
    exact ⟨rfl, HZ.out⟩
  have c1 : ¬ (60 : Int) < (n0 : Int) := by omega
  have c2 : ¬ (60 : Int) < (n : Int) := by omega
  have H60 := hid (And.intro h60 h61)
  go_wp2_with fail
  obtain ⟨w1, hw1⟩ : ∃ w1, w1 = w.alloc (.cells #[.int .i64 30, .int .i64 30, .int .i64 2, .int .i64 2] 25) := ⟨_, rfl⟩
  try rw [← hw1]
  have hb1 : Below w.heap.size w w1 := by rw [hw1]; exact Below.new _ _
  have hk : Blk w1 w.heap.size #[.int .i64 30, .int .i64 30, .int .i64 2, .int .i64 2] := by rw [hw1]; exact Blk.new _ _ _
  have hsl : SlR w1 (.slice (some ⟨w.heap.size, 0, none⟩) 1 1) cpB := ⟨some ⟨w.heap.size, 0, none⟩, 1, rfl, fun i hi => ⟨w.heap.size, 0, rfl, by rw [Nat.zero_add, hk.cell]; simp [svR]⟩, by simp, by omega, fun h => nomatch h⟩
  have HB1 := hid hb1
  have hwd := law19_world (some ⟨w.heap.size, 0, none⟩) ao 1 1 co cpB L w1 hsl (HL.out.below opLKept hb1) cp_ok (by simp) (by have := H60.out; have := HL0.out; omega)
  rw [HL0.out] at hwd
  refine hwd.mono ?_
  rintro e w2 ⟨l, k, F, vs, vp, rfl, hsd, hbo, hkw, hlow, hb2⟩
  obtain ⟨P, hP⟩ : ∃ P, runL 32 cpB [] L = P := ⟨_, rfl⟩
  rw [hP] at hbo hkw
  obtain ⟨va, vc, hve, -⟩ := id hbo.st
  subst hve
  obtain ⟨ap, cp, hpe, -⟩ := id hbo.pl
  subst hpe
  obtain ⟨np, hnp⟩ : ∃ np, P.length = np := ⟨_, rfl⟩
  rw [hnp] at hbo ⊢
  have HSD := hid hsd
  have HKW := hid hkw
  have HBO := hid hbo
  have HB2 := hid (Below.next HB1.out hb2)
  clear hwd hsl hk hw1 hb1 hsd hbo hkw hlow hb2 hP hlit c1 c2 h60 h61
  simp only [xV, List.length_cons, List.length_nil]
  go_upto_region 4 with fail
  obtain ⟨w3, hw3⟩ : ∃ w3, w3 = w2.alloc (.cells #[.int .i64 32, .slice va 1 vc, .slice ap np cp] 32) := ⟨_, rfl⟩
  try rw [← hw3]
  obtain ⟨g6, hg6⟩ : ∃ g6, g6 = w2.heap.size := ⟨_, rfl⟩
  try rw [← hg6]
  have hb3 : Below w2.heap.size w2 w3 := by rw [hw3]; exact Below.new _ _
  have HK3 : Hid (Blk w3 g6 #[.int .i64 32, .slice va 1 vc, .slice ap np cp]) := hid (by rw [hw3, hg6]; exact Blk.new _ _ _)
  have HBO3 := hid (HBO.out.below hb3)
  have HB3 := hid (Below.next HB2.out hb3)
  clear hw3 hg6 hb3
  go_wp2_with fail
  refine (land_Copy w3 l F k cpB P HBO3.out.land).mono ?_
  rintro e w4 ⟨l', rfl, hl4, hb4⟩
  have HL4 := hid hl4
  have HB34 := hid hb4
  have HK4 := hid (HK3.out.below hb4)
  clear hl4 hb4
  obtain ⟨m0, m1, m2⟩ := HK4.out.c3v
  go_upto_region 10 with fail
  obtain ⟨w5, hw5⟩ : ∃ w5, w5 = w4.alloc (.cells #[.int .i64 32, .slice va 1 vc, .slice ap np cp] 32) := ⟨_, rfl⟩
  try rw [← hw5]
  obtain ⟨g8, hg8⟩ : ∃ g8, g8 = w4.heap.size := ⟨_, rfl⟩
  try rw [← hg8]
  have HI5 : Hid (PyI w3 w5 l' g8 k (fun b => w3.heap.size ≤ b ∧ b < w4.heap.size) cpB 32 (.slice va 1 vc) (.slice ap np cp) P) := hid (by
    have hb5 : Below w4.heap.size w4 w5 := by rw [hw5]; exact Below.new _ _
    have hb35 := Below.next HB34.out hb5
    have z1 := HB34.out.size
    have z2 := hb5.size
    have hh := HBO3.out
    refine ⟨⟨(HL4.out.weaken (fun b y z => ⟨y, z⟩)).below hb5, hh.st.below hb35, hh.pl.below hb35, fun b e y => ?_, fun b e y => ?_, fun b e => by have := hh.ls b e; omega, fun b e => by have := hh.lp b e; omega⟩, by rw [hw5, hg8]; exact Blk.new _ _ _, HKW.out, fun b y => y.1, fun y => by have := y.2; omega, by omega, fun b e => by have := hh.ls b e; omega, fun b e => by have := hh.lp b e; omega, hb35⟩
    · have h1 := hh.ls b e
      have h2 := y.1
      omega
    · have h1 := hh.lp b e
      have h2 := y.1
      omega)
  clear hw5 hg8 m0 m1 m2
  go_wp2_with fail
  go_loopw [37] (fun v37 wr => CpR w3 l' g8 k n (.slice va 1 vc) v37 wr) (fun v37 _ => n - (intOf v37).toNat)
  case atStart => exact ⟨0, _, _, _, rfl, by omega, HI5⟩
  case round =>
    clear HI5
    obtain ⟨j, F2, vp2, P2, rfl, hj, HI⟩ := hrel
    obtain ⟨ap2, cp2, hvp, -⟩ := id HI.out.both.pl
    obtain ⟨np2, hnp2⟩ : ∃ np, P2.length = np := ⟨_, rfl⟩
    rw [hnp2] at hvp
    subst hvp
    clear hnp2
    by_cases hlt : j < n
    · have j1 : (j : Int) < (n : Int) := by omega
      have j0 : (0 : Int) ≤ (j : Int) := by omega
      have j9 : (j : Int) < 60 := by have := H60.out; omega
      obtain ⟨o, hp⟩ : ∃ o, M[j]? = some o := ⟨_, List.getElem?_eq_getElem (by have := HLN.out; omega)⟩
      have hmo := HM.out
      rw [← HLN.out] at j1 ⊢
      obtain ⟨⟨bo, off, rfl, q0, q1, q2, q3, q4, q5⟩, howf⟩ := hmo.opL (HB3.out.trans (HI.out.below.mono HB3.out.size)) hp
      rw [HLN.out] at j1 ⊢
      have HOW := hid howf
      obtain ⟨ok, oi, ⟨ox, oy, oa, ob⟩⟩ := o
      simp only at q0 q1 q2 q3 q4 q5
      clear hp howf hmo
      go_upto_region 14 with fail
      obtain ⟨w6, hw6⟩ : ∃ w6, w6 = wr.alloc (.cells #[.int .i64 ok, .int .i64 oi, .int .i64 ox, .int .i64 oy, .int .i64 oa, .int .i64 ob] 55) := ⟨_, rfl⟩
      try rw [← hw6]
      obtain ⟨bb, hbb⟩ : ∃ bb, bb = wr.heap.size := ⟨_, rfl⟩
      try rw [← hbb]
      have hb6 : Below wr.heap.size wr w6 := by rw [hw6]; exact Below.new _ _
      have HO6 : Hid (Blk w6 bb #[.int .i64 ok, .int .i64 oi, .int .i64 ox, .int .i64 oy, .int .i64 oa, .int .i64 ob]) := hid (by rw [hw6, hbb]; exact Blk.new _ _ _)
      have HI6 := hid (HI.out.next hb6)
      clear hw6 hb6 hbb q0 q1 q2 q3 q4 q5
      obtain ⟨y0, y1, y2, y3, y4, y5⟩ := HO6.out.c6v
      obtain ⟨m0, m1, m2⟩ := HI6.out.box.c3v
      go_wp2_with fail
      refine (law19_step 32 (.slice va 1 vc) (.slice ap2 np2 cp2) k cpB P2 ⟨ok, oi, (ox, oy, oa, ob)⟩ l' F2 w6 HI6.out.both HSD.out (by simp)).mono ?_
      rintro e w9 ⟨F9, vp9, rfl, hbo9, hu9, hF9, hv9⟩
      obtain ⟨P9, hP9⟩ : ∃ P9, stepL 32 cpB P2 ⟨ok, oi, (ox, oy, oa, ob)⟩ = P9 := ⟨_, rfl⟩
      rw [hP9] at hbo9
      have HKW9 : Hid (KeyWf P9) := hid (by rw [← hP9]; exact HI6.out.wfk.step HOW.out)
      obtain ⟨ap9, cp9, hve9, -⟩ := id hbo9.pl
      obtain ⟨np9, hnp9⟩ : ∃ np, P9.length = np := ⟨_, rfl⟩
      rw [hnp9] at hve9
      subst hve9
      have hr9 := HI6.out.box.upd hu9 HI6.out.nbox
      obtain ⟨p0, p1, p2⟩ := hr9.c3v
      have f0 := hr9.unfrozen 0
      have f1 := hr9.unfrozen 1
      have f2 := hr9.unfrozen 2
      obtain ⟨wz, hwz, hkz, huz⟩ := set3v hr9 (.int .i64 32) (.slice va 1 vc) (.slice ap9 np9 cp9)
      have HWZ := hid hwz
      have HIZ := hid (HI6.out.stepped hbo9 hu9 hF9 hv9 HKW9.out hkz huz)
      clear hwz hkz huz hr9 hbo9 hu9 hF9 hv9 hP9 hnp9 y0 y1 y2 y3 y4 y5 m0 m1 m2
      simp only [xV]
      go_wp2_with fail
      try rw [← HWZ.out]
      go_roundw
      case rel => exact ⟨j + 1, F9, _, P9, by go_num, by omega, HIZ⟩
      case measure => simp [intOf]; omega
    · have j1 : ¬ (j : Int) < (n : Int) := by omega
      have HBR := hid HI.out.below
      have HBOR := hid (HBO3.out.below HBR.out)
      obtain ⟨m0, m1, m2⟩ := (HK3.out.below HBR.out).c3v
      go_wp2_with fail
      refine (law19_same 32 (.slice va 1 vc) (.slice ap np cp) k cpB P l F wr HBOR.out HSD.out HKW.out).mono ?_
      rintro e w6 ⟨rfl, hb6⟩
      have HI6 := hid (HI.out.next hb6)
      clear hb6 m0 m1 m2
      obtain ⟨m0, m1, m2⟩ := HI6.out.box.c3v
      go_wp2_with fail
      refine (law19_same 32 (.slice va 1 vc) (.slice ap2 np2 cp2) k cpB P2 l' F2 w6 HI6.out.both HSD.out HI6.out.wfk).mono ?_
      rintro e w7 ⟨rfl, hb7⟩
      have HI7 := hid (HI6.out.next hb7)
      clear hb7 m0 m1 m2
      have hbk := land_Blocked w7 l' F2 k cpB P2 31 31 1 1 HI7.out.both.land
      rw [cp_blk] at hbk
      have HBK := hid hbk
      clear hbk
      go_wp2_with fail
      refine HBK.out.mono ?_
      rintro e w8 ⟨rfl, hb8⟩
      have HI8 := hid (HI7.out.next hb8)
      clear hb8
      have HB8 := hid (HB3.out.trans (HI8.out.below.mono HB3.out.size))
      go_wp2_with fail
      refine (HAW.out w8 HB8.out).mono ?_
      rintro e w9 ⟨rfl, hb9⟩
      have HZ := hid hb9
      clear hb9
      go_wp2_with fail
      go_ret
      exact ⟨rfl, HZ.out⟩
set_option maxRecDepth 100000 in
theorem LandCopies_walk {H : Type} {enc : TypeId × Value → H} {b0 b1 : Nat} {d0 d1 : DataW H} {p0 p1 : List MemPlace} (v0 v1 : Value) (w : World) (ok0 : Value.okWide Tryz.prog w .any b0 23 v0) (k0 : DataW.Trod enc Tryz.prog w 0 (fun _ => true) true 23 v0 d0 p0)
    (ok1 : Value.okWide Tryz.prog w .any b1 23 v1) (k1 : DataW.Trod enc Tryz.prog w 0 (fun _ => true) true 23 v1 d1 p1) :
    Calls Tryz.prog 5 #[v0, v1] w fun e w' => e = .returned (.bool true) ∧ Below w.heap.size w w' := by
  obtain ⟨L, hl⟩ := open_opsL ok0 k0
  obtain ⟨M, hm⟩ := open_opsL ok1 k1
  obtain ⟨a, c, rfl, -⟩ := id hl
  obtain ⟨a2, c2, rfl, -⟩ := id hm
  exact law19_Copies L M a a2 c c2 w hl hm
end Go.Proofs.YtjbnfppnmljbmaaGreat
end
