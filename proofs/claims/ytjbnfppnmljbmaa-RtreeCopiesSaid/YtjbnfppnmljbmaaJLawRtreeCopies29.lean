/- Joined texts, in this order: RtCopy. Each one's first remark says what it proves; no condition beyond those that its theorems name. -/
import Derived.Test.YtjbnfppnmljbmaaJLawRtreeCopies27
section
/- Contract of rtree's Copy: another tree of new memory, with the same things. -/
namespace Go.Proofs.Ytjbnfppnmljbmaa
open Go.RowKit
open Go.Lib (hid)
set_option linter.unusedVariables false
attribute [local go_sem] Oper.semAt_some

def SameN : Nat → Nd → Nd → Prop
  | 0, n, m => m.r = n.r ∧ m.v = n.v
  | d + 1, n, m => m.r = n.r ∧ m.v = n.v ∧ m.ks.length = n.ks.length ∧ ∀ (i : Nat) (x y : Nd), n.ks[i]? = some x → m.ks[i]? = some y → SameN d x y
theorem SameN.r : ∀ {d : Nat} {n m : Nd}, SameN d n m → m.r = n.r
  | 0, _, _, h => h.1
  | _ + 1, _, _, h => h.1
theorem map_sameN {β : Type} {l m : List Nd} {f : Nd → β} (hl : m.length = l.length) (h : ∀ (i : Nat) (x y : Nd), l[i]? = some x → m[i]? = some y → f y = f x) : m.map f = l.map f := by
  apply List.ext_getElem?
  intro i
  rw [List.getElem?_map, List.getElem?_map]
  by_cases hi : i < l.length
  · have h1 : l[i]? = some l[i] := List.getElem?_eq_getElem hi
    have h2 : m[i]? = some (m[i]'(by omega)) := List.getElem?_eq_getElem (by omega)
    rw [h1, h2]; simp only [Option.map_some]; rw [h i _ _ h1 h2]
  · rw [List.getElem?_eq_none (by omega), List.getElem?_eq_none (by omega)]
theorem SameN.thg : ∀ {d : Nat} {n m : Nd}, SameN d n m → thgN d m = thgN d n
  | 0, n, m, h => by simp [thgN, h.1, h.2]
  | d + 1, n, m, h => by
    simp only [thgN]
    rw [List.flatMap_def, List.flatMap_def, map_sameN h.2.2.1 (fun i x y hx hy => SameN.thg (h.2.2.2 i x y hx hy))]
theorem SameN.shape : ∀ {d : Nat} {n m : Nd}, SameN d n m → ShapeN d n → ShapeN d m
  | 0, n, m, h, k => by show RightR m.r; rw [h.1]; exact k
  | d + 1, n, m, h, k => by
    refine ⟨by rw [h.2.2.1]; exact k.1, ?_, fun y hy => ?_⟩
    · rw [h.1, map_sameN h.2.2.1 (fun i x y hx hy => (h.2.2.2 i x y hx hy).r)]; exact k.2.1
    · obtain ⟨i, hi⟩ := List.mem_iff_getElem?.1 hy
      have hil : i < n.ks.length := by rw [← h.2.2.1]; exact (List.getElem?_eq_some_iff.1 hi).1
      exact SameN.shape (h.2.2.2 i _ y (List.getElem?_eq_getElem hil) hi) (k.2.2 _ (List.getElem_mem hil))
theorem SameN.shape1 {d : Nat} {n m : Nd} (h : SameN (d + 1) n m) (k : Shape1 d n) : Shape1 d m := by
  refine ⟨by rw [h.2.2.1]; exact k.len, ?_, fun y hy => ?_⟩
  · rw [h.1, map_sameN h.2.2.1 (fun i x y hx hy => (h.2.2.2 i x y hx hy).r)]; exact k.bnd
  · obtain ⟨i, hi⟩ := List.mem_iff_getElem?.1 hy
    have hil : i < n.ks.length := by rw [← h.2.2.1]; exact (List.getElem?_eq_some_iff.1 hi).1
    exact SameN.shape (h.2.2.2 i _ y (List.getElem?_eq_getElem hil) hi) (k.kids _ (List.getElem_mem hil))
def CopyPost (d : Nat) (w : World) (n : Nd) (e : Ending) (w' : World) : Prop :=
  ∃ m : Nd, e = .returned (ptrN m) ∧ NodeAt d w' m ∧ (blkN d m).Nodup ∧ (∀ k ∈ blkN d m, w.heap.size ≤ k) ∧ Below w.heap.size w w' ∧ SameN d n m
/-- a copy under way -/
structure CopyI (d : Nat) (D : Int) (w wr : World) (g : Nat) (n : Nd) (ks ms : List Nd) (v : Value) : Prop where
  blk : Blk wr g (cells7 n.r v n.v D)
  own : wr.ownsRow 0 90 1 v ms.length (ptrs ms)
  node : ∀ m ∈ ms, NodeAt d wr m
  nd : (g :: (v.ownBlock.toList ++ ms.flatMap (blkN d))).Nodup
  fr : ∀ k ∈ g :: (v.ownBlock.toList ++ ms.flatMap (blkN d)), w.heap.size ≤ k ∧ k < wr.heap.size
  same : ∀ (i : Nat) (x y : Nd), ks[i]? = some x → ms[i]? = some y → SameN d x y
  below : Below w.heap.size w wr
  nil : ms = [] → v = .slice none 0 0
theorem CopyI.next {d g : Nat} {D : Int} {w wr wB wD wE : World} {n x y : Nd} {ks ms : List Nd} {v v9 : Value} (h : CopyI d D w wr g n ks ms v) (hx : ks[ms.length]? = some x)
    (hB : Below wr.heap.size wr wB) (hp : NodeAt d wB y) (hnd : (blkN d y).Nodup) (hfr : ∀ k ∈ blkN d y, wr.heap.size ≤ k) (hs : SameN d x y)
    (hD : Below wB.heap.size wB wD) (hg : wD.grownBy wE v.ownBlock) (ho : wE.ownsRow 0 90 1 v9 (ms ++ [y]).length (ptrs (ms ++ [y]))) (hwh : ∀ k, v9.ownBlock = some k → v.ownBlock = some k ∨ wD.heap.size ≤ k) :
    CopyI d D w (wE.setCell ⟨g, 4, none⟩ v9) g n ks (ms ++ [y]) v9 := by
  have hzB := hB.size
  have hzD := hD.size
  have hzE := hg.size
  have hBD := Below.next hB hD
  have huW : Upd (fun k => v.ownBlock = some k) wr wE := (Upd.of_below hBD).trans (Upd.of_grown hg) (fun _ _ q => q)
  have huS := Upd.setCell wE g 4 v9
  have hzS := huS.size
  have hu : Upd (fun k => v.ownBlock = some k ∨ k = g) wr (wE.setCell ⟨g, 4, none⟩ v9) := (huW.mono (fun _ _ q => .inl q)).trans huS (fun _ _ q => .inr q)
  have huB : Upd (fun k => v.ownBlock = some k ∨ k = g) wB (wE.setCell ⟨g, 4, none⟩ v9) := (((Upd.of_below hD).trans (Upd.of_grown hg) (fun _ _ q => q)).mono (fun _ _ q => .inl q)).trans huS (fun _ _ q => .inr q)
  obtain ⟨n1, n2⟩ := List.nodup_cons.1 h.nd
  obtain ⟨n3, n4, n5⟩ := List.nodup_append.1 n2
  have hgl := (h.fr g (by simp)).2
  have hvl : ∀ k, v.ownBlock = some k → w.heap.size ≤ k ∧ k < wr.heap.size := fun k hk => h.fr k (by simp [hk])
  have hml : ∀ k ∈ ms.flatMap (blkN d), w.heap.size ≤ k ∧ k < wr.heap.size := fun k hk => h.fr k (by simp only [List.mem_cons, List.mem_append]; exact .inr (.inr hk))
  have hvg : ∀ k, v.ownBlock = some k → k ≠ g := fun k hk e => n1 (by subst e; simp [hk])
  have hvm : ∀ k, v.ownBlock = some k → k ∉ ms.flatMap (blkN d) := fun k hk q => n5 k (by simp [hk]) k q rfl
  have hgm : g ∉ ms.flatMap (blkN d) := fun q => n1 (List.mem_append_right _ q)
  have hyl := hp.lt
  have h9 : ∀ k, v9.ownBlock = some k → (v.ownBlock = some k ∨ wD.heap.size ≤ k) ∧ k < wE.heap.size := fun k hk => ⟨hwh k hk, (ho.lt k hk).2⟩
  have h9g : ∀ k, v9.ownBlock = some k → k ≠ g := fun k hk => by
    rcases (h9 k hk).1 with q | q
    · exact hvg k q
    · omega
  have hwr := h.below.size
  refine ⟨?_, Upd.owns huS ho (fun k hk q => h9g k hk q), fun m hm => ?_, ?_, ?_, ?_, ?_, fun e => by simp at e⟩
  · have h1 := (h.blk.upd huW (fun q => hvg g q rfl)).set 4 v9
    simpa [cells7] using h1
  · rcases List.mem_append.1 hm with hm | hm
    · refine (h.node m hm).upd hu (fun k hk q => ?_)
      have hk2 : k ∈ ms.flatMap (blkN d) := List.mem_flatMap.2 ⟨m, hm, hk⟩
      rcases q with q | q
      · exact hvm k q hk2
      · subst q; exact hgm hk2
    · simp only [List.mem_singleton] at hm
      subst hm
      refine hp.upd huB (fun k hk q => ?_)
      have := hfr k hk
      rcases q with q | q
      · have := (hvl k q).2; omega
      · omega
  · rw [List.nodup_cons, List.flatMap_append, List.nodup_append]
    have e1 : [y].flatMap (blkN d) = blkN d y := by simp
    rw [e1]
    refine ⟨fun q => ?_, ?_, ?_, fun k hk j hj e => ?_⟩
    · simp only [List.mem_append, Option.mem_toList] at q
      rcases q with q | q | q
      · exact h9g g q rfl
      · exact hgm q
      · have := hfr g q; omega
    · cases v9.ownBlock <;> simp
    · rw [List.nodup_append]
      exact ⟨n4, hnd, fun k hk j hj e => by have := (hml k hk).2; have := hfr j hj; omega⟩
    · subst e
      simp only [Option.mem_toList] at hk
      rcases List.mem_append.1 hj with hj | hj
      · rcases (h9 k hk).1 with q | q
        · exact hvm k q hj
        · have := (hml k hj).2; omega
      · have h1 := hfr k hj
        have h2 := hyl k hj
        rcases (h9 k hk).1 with q | q
        · have := (hvl k q).2; omega
        · omega
  · intro k hk
    rw [List.flatMap_append] at hk
    have e1 : [y].flatMap (blkN d) = blkN d y := by simp
    rw [e1] at hk
    simp only [List.mem_cons, List.mem_append, Option.mem_toList] at hk
    rcases hk with rfl | hk | hk | hk
    · have := (h.fr k (by simp)).1; omega
    · have := h9 k hk
      rcases this.1 with q | q
      · have := hvl k q; omega
      · omega
    · have := hml k hk; omega
    · have := hfr k hk; have := hyl k hk; omega
  · intro i x' y' hx' hy'
    by_cases hi : i < ms.length
    · rw [List.getElem?_append_left hi] at hy'
      exact h.same i x' y' hx' hy'
    · have hi2 : i = ms.length := by
        have := (List.getElem?_eq_some_iff.1 hy').1
        simp at this; omega
      subst hi2
      rw [List.getElem?_append_right (Nat.le_refl _)] at hy'
      simp at hy'
      subst hy'
      rw [hx] at hx'
      cases hx'
      exact hs
  · refine Below.setCell (p := ⟨g, 4, none⟩) ?_ (by have := (h.fr g (by simp)).1; show _ ≤ g; omega) _
    exact (h.below.trans (hBD.mono hwr)).grown hg (by omega) (fun k hk => (hvl k hk).1)
def CopyR (d : Nat) (D : Int) (w : World) (g : Nat) (n : Nd) (ks : List Nd) (m : Nat) (v15 : Value) (wr : World) : Prop := ∃ (i : Nat) (ms : List Nd) (v : Value), v15 = .int .i64 (i : Int) ∧ i ≤ m ∧ Hid (CopyI d D w wr g n ks ms v) ∧ Hid (ms.length = i)
def CopyGen (d : Nat) (D : Int) (w : World) (n : Nd) (ks : List Nd) (e : Ending) (w' : World) : Prop := ∃ (g : Nat) (ms : List Nd) (v : Value), e = .returned (.pointer (some ⟨g, 0, none⟩)) ∧ CopyI d D w w' g n ks ms v ∧ ms.length = ks.length
set_option maxRecDepth 100000 in
set_option maxHeartbeats 4000000 in
theorem copied_gen (d : Nat) (D : Int) (w : World) (n : Nd) (ks : List Nd) (hb : Blk w n.p (cells7 n.r n.kv n.v D)) (ho : w.ownsRow 0 90 1 n.kv ks.length (ptrs ks)) (h4 : ks.length ≤ 4)
    (hk : ∀ x ∈ ks, ∀ z, Below w.heap.size w z → Calls Try.prog 57 #[ptrN x] z (CopyPost d z x)) :
    Calls Try.prog 57 #[ptrN n] w (CopyGen d D w n ks) := by
  obtain ⟨p, ⟨x, y, a, b⟩, kv, vv, nks⟩ := n
  obtain ⟨nn, hnn⟩ : ∃ nn, nn = (⟨p, (x, y, a, b), kv, vv, nks⟩ : Nd) := ⟨_, rfl⟩
  rw [← hnn]
  have hR : nn.r = (x, y, a, b) ∧ nn.v = vv ∧ nn.p = p := by rw [hnn]; exact ⟨rfl, rfl, rfl⟩
  have HR := hid hR
  simp only at hb ho
  obtain ⟨av, cv, hkv, -⟩ := ownsRow.rd ho
  obtain ⟨m, hm⟩ : ∃ m, ks.length = m := ⟨_, rfl⟩
  rw [hm] at hkv ho
  subst hkv
  have HO := hid ho
  have HBK := hid hb
  have HK := hid hk
  have HM := hid hm
  rw [hm] at h4
  unfold ptrN
  rw [hR.2.2]
  obtain ⟨c0, c1, c2, c3⟩ : w.cell? ⟨p, 0, none⟩ = some (.int .i64 x) ∧ w.cell? ⟨p, 1, none⟩ = some (.int .i64 y) ∧ w.cell? ⟨p, 2, none⟩ = some (.int .i64 a) ∧ w.cell? ⟨p, 3, none⟩ = some (.int .i64 b) := hb.c7.1
  obtain ⟨-, c4, c5, c6⟩ := hb.c7
  clear ho hb hk hm hnn hR
  go_enter Try.func57, Try.ntmps57
  go_upto_region 2 with fail
  obtain ⟨w1, hw1⟩ : ∃ w1, w1 = w.alloc (.cells #[.int .i64 x, .int .i64 y, .int .i64 a, .int .i64 b, .slice av m cv, .int .i64 vv, .int .i64 D] 93) := ⟨_, rfl⟩
  rw [← hw1]
  obtain ⟨g, hg⟩ : ∃ g, g = w.heap.size := ⟨_, rfl⟩
  rw [← hg]
  have hb1 : Below w.heap.size w w1 := by rw [hw1]; exact Below.new _ _
  have hk1 : Blk w1 g (cells7 (x, y, a, b) (.slice av m cv) vv D) := by rw [hw1, hg]; exact Blk.new _ _ _
  have f4 : w1.frozen? ⟨g, 4, none⟩ = false := hk1.unfrozen 4
  have e4 : w1.cell? ⟨g, 4, none⟩ = some (.slice av m cv) := hk1.c7.2.1
  have HG := hid hg
  clear hw1 hg c0 c1 c2 c3 c4 c5 c6
  go_upto_region 3 with fail
  obtain ⟨w2, hw2⟩ : ∃ w2, w2 = w1.setCell ⟨g, 4, none⟩ (.slice none 0 0) := ⟨_, rfl⟩
  rw [← hw2]
  have hb2 : Below w.heap.size w w2 := by rw [hw2]; exact hb1.setCell (p := ⟨g, 4, none⟩) (by have := HG.out; show _ ≤ g; omega) _
  have HI0 : Hid (CopyI d D w w2 g nn ks [] (.slice none 0 0)) := hid (by
    have hu := Upd.setCell w1 g 4 (.slice none 0 0)
    rw [← hw2] at hu
    have hk2 : Blk w2 g (cells7 (x, y, a, b) (.slice none 0 0) vv D) := by rw [hw2]; simpa [cells7] using hk1.set 4 (.slice none 0 0)
    refine ⟨by rw [HR.out.1, HR.out.2.1]; exact hk2, by simpa [ptrs] using World.ownsRow_nil _ _ _ _, fun m hm => by simp at hm, by simp [Value.ownBlock], fun k hk => ?_, fun i x y _ hy => by simp at hy, hb2, fun _ => rfl⟩
    simp [Value.ownBlock] at hk
    subst hk
    exact ⟨by have := HG.out; omega, hk2.lt⟩)
  have c4 : w2.cell? ⟨p, 4, none⟩ = some (.slice av m cv) := (HBK.out.below hb2).c7.2.1
  clear hw2 hb1 hb2 hk1 f4 e4
  go_wp2_with fail
  go_loopw [15] (fun v15 wr => CopyR d D w g nn ks m v15 wr) (fun v15 _ => m - (intOf v15).toNat)
  case atStart => exact ⟨0, [], _, rfl, by omega, HI0, hid rfl⟩
  case round =>
    clear HI0 c4
    obtain ⟨i, ms, v, rfl, hi, HI, HL⟩ := hrel
    by_cases hlt : i < m
    · have j1 : (i : Int) < (m : Int) := by omega
      have j0 : (0 : Int) ≤ (i : Int) := by omega
      have j2 : (i : Int).toNat = i := by omega
      have j4 : (i : Int) < 4 := by omega
      have hkl : i < ks.length := by rw [HM.out]; exact hlt
      obtain ⟨xk, hxk⟩ : ∃ xk, ks[i]? = some xk := ⟨_, List.getElem?_eq_getElem hkl⟩
      have HX : Hid (ks[ms.length]? = some xk) := hid (by rw [HL.out]; exact hxk)
      obtain ⟨a', c', e', -, -, hrd, -⟩ := ownsRow.rd HO.out
      simp only [Value.slice.injEq, true_and] at e'
      obtain ⟨rfl, rfl⟩ := e'
      obtain ⟨b0, off, rfl, hc⟩ := (hrd.below' HI.out.below) i (by simpa [ptrs] using hkl)
      rw [show (ptrs ks)[i]? = some (ptrN xk) by simp [ptrs, hxk]] at hc
      have hcall := fun z (hz : Below wr.heap.size wr z) => HK.out xk (List.mem_of_getElem? hxk) z (Below.next HI.out.below hz)
      unfold ptrN at hc hcall
      obtain ⟨q, hq⟩ : ∃ q, xk.p = q := ⟨_, rfl⟩
      rw [hq] at hc hcall
      have HC := hid hcall
      obtain ⟨av2, cv2, hv, -⟩ := ownsRow.rd HI.out.own
      rw [HL.out] at hv
      subst hv
      clear hrd hxk hcall hq
      go_upto_region 6 with fail
      obtain ⟨S, hS⟩ : ∃ S : Nat → Prop, S = fun k => Value.ownBlock (.slice av2 i cv2) = some k := ⟨_, rfl⟩
      have hSg : ¬ S g := by
        rw [hS]
        intro q2
        exact (List.nodup_cons.1 HI.out.nd).1 (by simp only [List.mem_append, Option.mem_toList]; exact .inl q2)
      have HS := hid hS
      have g4 : ∀ z, Upd S wr z → z.cell? ⟨g, 4, none⟩ = some (.slice av2 i cv2) := fun z hz => (HI.out.blk.upd hz hSg).c7.2.1
      have fg : ∀ z, Upd S wr z → z.frozen? ⟨g, 4, none⟩ = false := fun z hz => (HI.out.blk.upd hz hSg).unfrozen 4
      have hyb := (Below.refl wr.heap.size wr).drew
      have hyd : Upd S wr wr.drew := Upd.of_below hyb
      clear hS hSg hc
      refine wp_region_kept [7] (fun z => Upd S wr z) (by kernel_rfl) (by assumption) (fun hH => ?_)
      refine wpK.take (i := 0) (v := _) (by simp only [List.getElem?_toArray, List.getElem?_cons_succ, List.getElem?_cons_zero]; rfl) (by kernel_rfl) (by kernel_rfl) (by kernel_rfl) (by kernel_rfl) (by kernel_rfl) (by exact fun _ _ _ h => h) (by first | exact Or.inl ⟨by rfl, by intro w hSw; go_simp; try with_reducible rfl⟩ | exact Or.inr ⟨by rfl, rfl⟩) hH ?_
      try simp only [Act.put, List.setIfInBounds_toArray, List.set_cons_zero, List.set_cons_succ]
      refine wpK.take (i := 1) (v := _) (by simp only [List.getElem?_toArray, List.getElem?_cons_succ, List.getElem?_cons_zero]; rfl) (by kernel_rfl) (by kernel_rfl) (by kernel_rfl) (by kernel_rfl) (by kernel_rfl) (by exact fun _ _ _ h => h) (by first | exact Or.inl ⟨by rfl, by intro w hSw; go_simp; try with_reducible rfl⟩ | exact Or.inr ⟨by rfl, rfl⟩) hH ?_
      try simp only [Act.put, List.setIfInBounds_toArray, List.set_cons_zero, List.set_cons_succ]
      refine wpK.take (i := 2) (v := _) (by simp only [List.getElem?_toArray, List.getElem?_cons_succ, List.getElem?_cons_zero]; rfl) (by kernel_rfl) (by kernel_rfl) (by kernel_rfl) (by kernel_rfl) (by kernel_rfl) (by exact fun _ _ _ h => h) (by first | exact Or.inl ⟨by rfl, by intro w hSw; go_simp; try with_reducible rfl⟩ | exact Or.inr ⟨by rfl, rfl⟩) hH ?_
      try simp only [Act.put, List.setIfInBounds_toArray, List.set_cons_zero, List.set_cons_succ]
      refine wpK.step (i := 3) (by kernel_rfl) (by simp only [List.getElem?_toArray, List.getElem?_cons_succ, List.getElem?_cons_zero]; rfl) (fun K hK => ?_)
      go_simp
      (refine (HC.out _ hyb).mono ?_); rintro e w3 ⟨yk, rfl, hn3, hnd3, hfr3, hb3, hs3⟩; (have hbb3 := Below.next hyb hb3); (have hk3 : Upd S wr w3 := Upd.of_below hbb3); (have HN3 := hid (And.intro hn3 (And.intro hnd3 (And.intro hfr3 hs3)))); clear hn3 hnd3 hfr3 hs3; (unfold ptrN); obtain ⟨py, hpy⟩ : ∃ py, yk.p = py := ⟨_, rfl⟩; (rw [hpy]); (have HPY := hid hpy); clear hpy; go_simp
      refine hK.out _ _ (by assumption) (fun hH => ?_)
      clear hK K
      try simp only [Act.put, List.setIfInBounds_toArray, List.set_cons_zero, List.set_cons_succ]
      refine wpK.step (i := 4) (by kernel_rfl) (by simp only [List.getElem?_toArray, List.getElem?_cons_succ, List.getElem?_cons_zero]; rfl) (fun K hK => ?_)
      refine step_lit (us := #[.pointer (some ⟨py, 0, none⟩)]) (e := 90) (size := 1) (ps := #[(0, .pointer (some ⟨py, 0, none⟩))]) rfl rfl (by simp only [List.map_toArray, List.map_cons, List.map_nil]; rfl) (lit_ptr py _) rfl (by omega) ?_; intro g8 wD hg8 hb8 hs8 hown8; have hbbD := Below.next hbb3 hb8; have HB8 := hid hb8; have hk8 : Upd S wr wD := Upd.of_below hbbD
      refine hK.out _ _ (by assumption) (fun hH => ?_)
      clear hK K
      try simp only [Act.put, List.setIfInBounds_toArray, List.set_cons_zero, List.set_cons_succ]
      refine wpK.step (i := 5) (by kernel_rfl) (by simp only [List.getElem?_toArray, List.getElem?_cons_succ, List.getElem?_cons_zero]; rfl) (fun K hK => ?_)
      obtain ⟨a8, c8, e8, -, -, hr8, hcz8⟩ := ownsRow.rd hown8; simp only [Value.slice.injEq] at e8; obtain ⟨rfl, -, rfl⟩ := e8; refine step_appN T_nodes rfl _ _ rfl 0 (.slice av2 i cv2) i (ptrs ms) rfl (owns_below (by have := HI.out.own; rw [HL.out] at this; exact this) hbbD) (some ⟨g8, 0, none⟩) 1 1 _ rfl rfl (fun h => nomatch h) hr8 (by intro u hu; simp at hu; subst hu; rfl) (by omega) (by omega) ?_; intro v9 wE hown9 hg9 hnil9 hwh9; have hk9 : Upd S wr wE := (Upd.of_below hbbD).trans (Upd.of_grown hg9) (fun k _ q => by rw [HS.out]; exact q); obtain ⟨a9, c9, he9, -⟩ := ownsRow.rd hown9; subst he9
      refine hK.out _ _ (by assumption) (fun hH => ?_)
      clear hK K
      try simp only [Act.put, List.setIfInBounds_toArray, List.set_cons_zero, List.set_cons_succ]
      refine wpK.take (i := 6) (v := _) (by simp only [List.getElem?_toArray, List.getElem?_cons_succ, List.getElem?_cons_zero]; rfl) (by kernel_rfl) (by kernel_rfl) (by kernel_rfl) (by kernel_rfl) (by kernel_rfl) (by exact fun _ _ _ h => h) (by first | exact Or.inl ⟨by rfl, by intro w hSw; go_simp; try with_reducible rfl⟩ | exact Or.inr ⟨by rfl, rfl⟩) hH ?_
      try simp only [Act.put, List.setIfInBounds_toArray, List.set_cons_zero, List.set_cons_succ]
      refine wpK.late (i := 7) (by kernel_rfl) (by simp only [List.getElem?_toArray, List.getElem?_cons_succ, List.getElem?_cons_zero]; rfl) (by kernel_rfl) (fun K hK => ?_)
      go_simp
      refine hK.out _ _ ?_
      clear hK K
      try simp only [Act.put, List.setIfInBounds_toArray, List.set_cons_zero, List.set_cons_succ]
      refine wpK.done (by kernel_rfl) ?_ _
      have hnx := HI.out.next HX.out hbb3 HN3.out.1 HN3.out.2.1 (fun k hk => HN3.out.2.2.1 k hk) HN3.out.2.2.2 HB8.out hg9 (v9 := .slice a9 (i + 1) c9) (by
        have e1 : (ms ++ [yk]).length = i + 1 := by simp [HL.out]
        have e2 : ptrs (ms ++ [yk]) = ptrs ms ++ [.pointer (some ⟨py, 0, none⟩)] := by simp [ptrs, ptrN, HPY.out]
        rw [e1, e2]; exact hown9) hwh9
      have HNX := hid hnx
      have HL9 : Hid ((ms ++ [yk]).length = i + 1) := hid (by simp [HL.out])
      clear hnx hown9 hg9 hk9 hnil9 hwh9 hbbD hk8 hbb3 hk3 g4 fg hyd hyb hr8 hcz8 hown8 hb8 hb3 hH
      go_wp2_with fail
      go_roundw
      case rel => exact ⟨i + 1, _, _, by go_num, by omega, HNX, HL9⟩
      case measure => simp [intOf]; omega
    · have j1 : ¬ (i : Int) < (m : Int) := by omega
      go_wp2_with fail
      go_ret
      exact ⟨g, ms, v, rfl, HI.out, by rw [HL.out, HM.out]; omega⟩
theorem CopyI.post {d g : Nat} {w w' : World} {n : Nd} {ms : List Nd} {v : Value} (h : CopyI d ((d + 1 : Nat) : Int) w w' g n n.ks ms v) (hl : ms.length = n.ks.length) : CopyPost (d + 1) w n (.returned (.pointer (some ⟨g, 0, none⟩))) w' :=
  ⟨⟨g, n.r, v, n.v, ms⟩, rfl, ⟨h.blk, h.own, h.node⟩, h.nd, fun k hk => (h.fr k hk).1, h.below, rfl, rfl, hl, h.same⟩
theorem copied_leaf (w : World) (n : Nd) (h : NodeAt 0 w n) : Calls Try.prog 57 #[ptrN n] w (CopyPost 0 w n) := by
  refine (copied_gen 0 0 w n [] h.1 (by rw [h.2]; simpa [ptrs] using World.ownsRow_nil _ _ _ _) (by simp) (fun x hx => by simp at hx)).mono ?_
  rintro e w' ⟨g, ms, v, rfl, hi, hl⟩
  obtain rfl : ms = [] := by simpa using hl
  obtain rfl := hi.nil rfl
  exact ⟨⟨g, n.r, .slice none 0 0, n.v, []⟩, rfl, ⟨hi.blk, rfl⟩, by simp [blkN], fun k hk => (hi.fr k (by simp [blkN] at hk; simp [hk])).1, hi.below, rfl, rfl⟩
theorem copied_all : ∀ (d : Nat) (w : World) (n : Nd), NodeAt (d + 1) w n → Shape1 d n → Calls Try.prog 57 #[ptrN n] w (CopyPost (d + 1) w n)
  | 0, w, n, h, hs => by
    refine (copied_gen 0 _ w n n.ks h.1 h.2.1 hs.len (fun x hx z hz => copied_leaf z x ((h.2.2 x hx).below hz))).mono ?_
    rintro e w' ⟨g, ms, v, rfl, hi, hl⟩
    exact hi.post hl
  | d + 1, w, n, h, hs => by
    refine (copied_gen (d + 1) _ w n n.ks h.1 h.2.1 hs.len (fun x hx z hz => copied_all d z x ((h.2.2 x hx).below hz) (hs.kids x hx).one)).mono ?_
    rintro e w' ⟨g, ms, v, rfl, hi, hl⟩
    exact hi.post hl
set_option maxRecDepth 100000 in
set_option maxHeartbeats 4000000 in
theorem rt_Copy (w : World) (s : Nat) (F : Nat → Prop) (L : List Tg) (h : TreeIs w s F L) :
    Calls Try.prog 32 #[.pointer (some ⟨s, 0, none⟩)] w fun e w' => ∃ s2 : Nat, e = .returned (.pointer (some ⟨s2, 0, none⟩)) ∧ TreeIs w' s2 (fun k => w.heap.size ≤ k) L ∧ Below w.heap.size w w' := by
  obtain ⟨d, n, ht, -, h2, hp⟩ := h
  have hcp := fun z (hz : Below w.heap.size w z) => copied_all d z n (ht.node.below hz) ht.sh
  have hbs := ht.blk
  have HT := hid ht
  have H2 := hid h2
  have HP := hid hp
  unfold ptrN at hcp hbs
  obtain ⟨q, hq⟩ : ∃ q, n.p = q := ⟨_, rfl⟩
  rw [hq] at hcp hbs
  obtain ⟨C, hC⟩ : ∃ C : Int, (L.length : Int) = C := ⟨_, rfl⟩
  rw [hC] at hbs
  have HCC := hid hC
  have HC := hid hcp
  obtain ⟨c0, c1, -⟩ := hbs.c2
  clear ht h2 hp hcp hbs hq hC
  go_enter Try.func32, Try.ntmps32
  go_upto_region 1 with fail
  replace c0 := fun (z : World) (hz : Below w.heap.size w z) => cellOf_belowR hz c0
  replace c1 := fun (z : World) (hz : Below w.heap.size w z) => cellOf_belowR hz c1
  have hyd := (Below.refl w.heap.size w).drew
  refine wp_region_kept [11] (fun z => Below w.heap.size w z) (by kernel_rfl) (by assumption) (fun hH => ?_)
  refine wpK.take (i := 0) (v := _) (by simp only [List.getElem?_toArray, List.getElem?_cons_succ, List.getElem?_cons_zero]; rfl) (by kernel_rfl) (by kernel_rfl) (by kernel_rfl) (by kernel_rfl) (by kernel_rfl) (by exact fun _ _ _ h => h) (by first | exact Or.inl ⟨by rfl, by intro w hSw; go_simp; try with_reducible rfl⟩ | exact Or.inr ⟨by rfl, rfl⟩) hH ?_
  try simp only [Act.put, List.setIfInBounds_toArray, List.set_cons_zero, List.set_cons_succ]
  refine wpK.take (i := 1) (v := _) (by simp only [List.getElem?_toArray, List.getElem?_cons_succ, List.getElem?_cons_zero]; rfl) (by kernel_rfl) (by kernel_rfl) (by kernel_rfl) (by kernel_rfl) (by kernel_rfl) (by exact fun _ _ _ h => h) (by first | exact Or.inl ⟨by rfl, by intro w hSw; go_simp; try with_reducible rfl⟩ | exact Or.inr ⟨by rfl, rfl⟩) hH ?_
  try simp only [Act.put, List.setIfInBounds_toArray, List.set_cons_zero, List.set_cons_succ]
  refine wpK.take (i := 2) (v := _) (by simp only [List.getElem?_toArray, List.getElem?_cons_succ, List.getElem?_cons_zero]; rfl) (by kernel_rfl) (by kernel_rfl) (by kernel_rfl) (by kernel_rfl) (by kernel_rfl) (by exact fun _ _ _ h => h) (by first | exact Or.inl ⟨by rfl, by intro w hSw; go_simp; try with_reducible rfl⟩ | exact Or.inr ⟨by rfl, rfl⟩) hH ?_
  try simp only [Act.put, List.setIfInBounds_toArray, List.set_cons_zero, List.set_cons_succ]
  refine wpK.take (i := 3) (v := _) (by simp only [List.getElem?_toArray, List.getElem?_cons_succ, List.getElem?_cons_zero]; rfl) (by kernel_rfl) (by kernel_rfl) (by kernel_rfl) (by kernel_rfl) (by kernel_rfl) (by exact fun _ _ _ h => h) (by first | exact Or.inl ⟨by rfl, by intro w hSw; go_simp; try with_reducible rfl⟩ | exact Or.inr ⟨by rfl, rfl⟩) hH ?_
  try simp only [Act.put, List.setIfInBounds_toArray, List.set_cons_zero, List.set_cons_succ]
  refine wpK.take (i := 5) (v := _) (by simp only [List.getElem?_toArray, List.getElem?_cons_succ, List.getElem?_cons_zero]; rfl) (by kernel_rfl) (by kernel_rfl) (by kernel_rfl) (by kernel_rfl) (by kernel_rfl) (by exact fun _ _ _ h => h) (by first | exact Or.inl ⟨by rfl, by intro w hSw; go_simp; try with_reducible rfl⟩ | exact Or.inr ⟨by rfl, rfl⟩) hH ?_
  try simp only [Act.put, List.setIfInBounds_toArray, List.set_cons_zero, List.set_cons_succ]
  refine wpK.take (i := 6) (v := _) (by simp only [List.getElem?_toArray, List.getElem?_cons_succ, List.getElem?_cons_zero]; rfl) (by kernel_rfl) (by kernel_rfl) (by kernel_rfl) (by kernel_rfl) (by kernel_rfl) (by exact fun _ _ _ h => h) (by first | exact Or.inl ⟨by rfl, by intro w hSw; go_simp; try with_reducible rfl⟩ | exact Or.inr ⟨by rfl, rfl⟩) hH ?_
  try simp only [Act.put, List.setIfInBounds_toArray, List.set_cons_zero, List.set_cons_succ]
  refine wpK.take (i := 7) (v := _) (by simp only [List.getElem?_toArray, List.getElem?_cons_succ, List.getElem?_cons_zero]; rfl) (by kernel_rfl) (by kernel_rfl) (by kernel_rfl) (by kernel_rfl) (by kernel_rfl) (by exact fun _ _ _ h => h) (by first | exact Or.inl ⟨by rfl, by intro w hSw; go_simp; try with_reducible rfl⟩ | exact Or.inr ⟨by rfl, rfl⟩) hH ?_
  try simp only [Act.put, List.setIfInBounds_toArray, List.set_cons_zero, List.set_cons_succ]
  refine wpK.take (i := 8) (v := _) (by simp only [List.getElem?_toArray, List.getElem?_cons_succ, List.getElem?_cons_zero]; rfl) (by kernel_rfl) (by kernel_rfl) (by kernel_rfl) (by kernel_rfl) (by kernel_rfl) (by exact fun _ _ _ h => h) (by first | exact Or.inl ⟨by rfl, by intro w hSw; go_simp; try with_reducible rfl⟩ | exact Or.inr ⟨by rfl, rfl⟩) hH ?_
  try simp only [Act.put, List.setIfInBounds_toArray, List.set_cons_zero, List.set_cons_succ]
  refine wpK.step (i := 4) (by kernel_rfl) (by simp only [List.getElem?_toArray, List.getElem?_cons_succ, List.getElem?_cons_zero]; rfl) (fun K hK => ?_)
  go_simp
  (refine (HC.out _ hyd).mono ?_); rintro e w3 ⟨m, rfl, hn3, hnd3, hfr3, hb3, hs3⟩; (have hk3 := Below.next hyd hb3); (have HN3 := hid (And.intro hn3 (And.intro hnd3 (And.intro hfr3 hs3)))); clear hn3 hnd3 hfr3 hs3; (unfold ptrN); obtain ⟨py, hpy⟩ : ∃ py, m.p = py := ⟨_, rfl⟩; (rw [hpy]); (have HPY := hid hpy); clear hpy; go_simp
  refine hK.out _ _ (by assumption) (fun hH => ?_)
  clear hK K
  try simp only [Act.put, List.setIfInBounds_toArray, List.set_cons_zero, List.set_cons_succ]
  refine wpK.take (i := 9) (v := _) (by simp only [List.getElem?_toArray, List.getElem?_cons_succ, List.getElem?_cons_zero]; rfl) (by kernel_rfl) (by kernel_rfl) (by kernel_rfl) (by kernel_rfl) (by kernel_rfl) (by exact fun _ _ _ h => h) (by first | exact Or.inl ⟨by rfl, by intro w hSw; go_simp; try with_reducible rfl⟩ | exact Or.inr ⟨by rfl, rfl⟩) hH ?_
  try simp only [Act.put, List.setIfInBounds_toArray, List.set_cons_zero, List.set_cons_succ]
  refine wpK.step (i := 10) (by kernel_rfl) (by simp only [List.getElem?_toArray, List.getElem?_cons_succ, List.getElem?_cons_zero]; rfl) (fun K hK => ?_)
  go_simp
  (first | refine K_alloc (K := K) ?_ | refine K_allocD (K := K) ?_); intro g8 w8 hg8 hs8 hb8 hblk8; (try rw [← hg8]); (have HG8 := hid (And.intro hg8 (And.intro hb8 hblk8))); (have hk8 := Below.next hk3 hb8); clear hg8 hs8
  refine hK.out _ _ (by assumption) (fun hH => ?_)
  clear hK K
  try simp only [Act.put, List.setIfInBounds_toArray, List.set_cons_zero, List.set_cons_succ]
  refine wpK.late (i := 11) (by kernel_rfl) (by simp only [List.getElem?_toArray, List.getElem?_cons_succ, List.getElem?_cons_zero]; rfl) (by kernel_rfl) (fun K hK => ?_)
  go_simp
  refine hK.out _ _ ?_
  clear hK K
  try simp only [Act.put, List.setIfInBounds_toArray, List.set_cons_zero, List.set_cons_succ]
  refine wpK.done (by kernel_rfl) ?_ _
  have HB3 := hid hk3
  clear c0 c1 hyd hb3 hk3 hb8 hblk8 hH
  have HK8 := hid hk8
  clear hk8
  go_wp2_with fail
  go_ret
  obtain ⟨hg8, hb8, hblk8⟩ := HG8.out
  have hsz := HB3.out.size
  refine ⟨g8, rfl, ⟨d, m, ⟨?_, (HN3.out.1).below hb8, ?_, HN3.out.2.2.2.shape1 HT.out.sh⟩, fun k hk => ?_, ?_, ?_⟩, HK8.out⟩
  · unfold ptrN; rw [HPY.out, HCC.out]; exact hblk8
  · rw [List.nodup_cons]
    exact ⟨fun q => by have := HN3.out.1.lt g8 q; omega, HN3.out.2.1⟩
  · rcases List.mem_cons.1 hk with rfl | hk
    · omega
    · exact HN3.out.2.2.1 k hk
  · rw [HN3.out.2.2.2.2.2.1]; exact H2.out
  · rw [HN3.out.2.2.2.thg]; exact HP.out
end Go.Proofs.Ytjbnfppnmljbmaa
end
