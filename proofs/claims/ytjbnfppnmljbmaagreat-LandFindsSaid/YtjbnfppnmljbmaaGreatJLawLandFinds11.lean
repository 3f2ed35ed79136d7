/- Joined texts, in this order: RtHas, RtInsert, RtDropMath. Each one's first remark says what it proves; no condition beyond those that its theorems name. -/
import Derived.Test.YtjbnfppnmljbmaaGreatJLawLandFinds10
section
/- Contract of rtree's has. -/
namespace Go.Proofs.YtjbnfppnmljbmaaGreat
open Go.RowKit
open Go.Lib (hid)
set_option linter.unusedVariables false
attribute [local go_sem] Oper.semAt_some

set_option maxRecDepth 100000 in
set_option maxHeartbeats 8000000 in
theorem rt_has4 (w : World) (s d : Nat) (n : Nd) (cnt : Int) (x y a b v : Int) (ht : TreeAt w s d n cnt) (hd : d ≤ 1000) (q : Bool) (hq : Hid (decide ((((x, y, a, b), v) : Tg) ∈ flR (tMeets (x, y, a, b)) (thgN (d + 1) n)) = q)) :
    Calls Tryz.prog 72 #[.pointer (some ⟨s, 0, none⟩), .agg #[.int .i64 x, .int .i64 y, .int .i64 a, .int .i64 b], .int .i64 v] w fun e w' => e = .returned (.bool q) ∧ Below w.heap.size w w' := by
  obtain ⟨Y, hY⟩ : ∃ Y, flR (tMeets (x, y, a, b)) (thgN (d + 1) n) = Y := ⟨_, rfl⟩
  have HY := hid hY
  rw [hY] at hq
  have HT := hid ht
  have HD := hid hd
  clear ht hd hY
  refine (callsIn_wide (n := 5)).1 ?_
  refine callsIn_of_wp_marks Tryz.func72 rfl trivial ?_ rfl
  simp only [Tryz.ntmps72, List.size_toArray, List.length_cons, List.length_nil, Nat.reduceAdd, Nat.reduceSub, Array.replicate_succ, Array.replicate_zero, List.push_toArray, List.append_toArray, List.nil_append, List.cons_append]
  gi_wp2_with (refine ⟨trivial, ?_⟩; refine (callsIn_wide.2 (rt_Meets4 _ s x y a b)).mono ?_; rintro e w1 ⟨bT, bI, rfl, hT, hI, hb⟩)
  obtain ⟨w2, hw2⟩ : ∃ w2, w2 = ((w.alloc (.cells #[.int .i64 x, .int .i64 y, .int .i64 a, .int .i64 b] 25)).alloc (.cells #[.int .i64 v] 3)).alloc (.cells #[.bool false] 4) := ⟨_, rfl⟩
  rw [← hw2] at hb
  obtain ⟨b6, hb6⟩ : ∃ z, z = w.heap.size + 1 + 1 := ⟨_, rfl⟩
  obtain ⟨b5, hb5⟩ : ∃ z, z = w.heap.size + 1 := ⟨_, rfl⟩
  obtain ⟨b4, hb4⟩ : ∃ z, z = w.heap.size := ⟨_, rfl⟩
  have hz1 : (World.alloc w (.cells #[.int .i64 x, .int .i64 y, .int .i64 a, .int .i64 b] 25)).heap.size = w.heap.size + 1 := by simp
  have hz2 : (World.alloc (World.alloc w (.cells #[.int .i64 x, .int .i64 y, .int .i64 a, .int .i64 b] 25)) (.cells #[.int .i64 v] 3)).heap.size = w.heap.size + 1 + 1 := by simp
  try rw [← hb6]
  try rw [← hb5]
  try rw [← hb4]
  have hb2 : Below w.heap.size w w2 := by rw [hw2]; exact Below.next (Below.next (Below.new _ _) (Below.new _ _)) (Below.new _ _)
  have HK4 : Hid (Blk w1 b4 #[.int .i64 x, .int .i64 y, .int .i64 a, .int .i64 b]) := hid ((show Blk w2 b4 #[.int .i64 x, .int .i64 y, .int .i64 a, .int .i64 b] by rw [hw2, hb4]; exact ((Blk.new w _ _).below (Below.new _ _)).below (Below.new _ _)).below hb)
  have HK5 : Hid (Blk w1 b5 #[.int .i64 v]) := hid ((show Blk w2 b5 #[.int .i64 v] by rw [hw2, hb5, ← hz1]; exact (Blk.new _ _ _).below (Below.new _ _)).below hb)
  have HK6 : Hid (Blk w1 b6 #[.bool false]) := hid ((show Blk w2 b6 #[.bool false] by rw [hw2, hb6, ← hz2]; exact Blk.new _ _ _).below hb)
  have HB1 := hid (Below.next hb2 hb)
  have HZ : Hid (b4 = w.heap.size ∧ b5 = w.heap.size + 1 ∧ b6 = w.heap.size + 2) := hid (by omega)
  have HT1 := hid (HT.out.below HB1.out)
  have HTI := hid (And.intro hT hI)
  clear hw2 hb hb4 hb5 hb6 hz1 hz2 hb2 hT hI
  have hl1 : w.heap.size ≤ w1.heap.size := HB1.out.size
  refine wpIn_rangeFunc_ownH (F := Fence.wide) (n := 5) (α := Tg) rfl (by omega) (gf := 74) (lb := #[.pointer (some ⟨bT, 0, none⟩), .pointer (some ⟨bI, 0, none⟩)]) rfl trivial (enters_of Tryz.func74 (by kernel_rfl) rfl)
    (stops_where bT bI s d 53 n cnt w.heap.size #[.agg #[.int .i64 x, .int .i64 y, .int .i64 a, .int .i64 b]] #[] (tMeets (x, y, a, b)) w1 hl1 HTI.out.1 HTI.out.2 HT1.out (fun k hk => HT.out.lt k (List.mem_cons_of_mem _ hk)) HD.out (test_Meets _ _ _ x y a b))
    (fun h k => h.trans k) (fun W l o o' hlo ho hc _ => KeepR.put hl1 W l o o' hlo ho hc) (Below.refl _ _) (fun _ => rfl)
    (fun pre W => (Blk W b4 #[.int .i64 x, .int .i64 y, .int .i64 a, .int .i64 b] ∧ Blk W b5 #[.int .i64 v] ∧ Blk W b6 #[.bool false] ∧ ((((x, y, a, b), v) : Tg) ∉ pre)) ∧ Below w.heap.size w W ∧ w1.heap.size ≤ W.heap.size)
    (fun c pre W => (c = .ret ∧ Blk W b6 #[.bool true] ∧ (((x, y, a, b), v) : Tg) ∈ pre) ∧ Below w.heap.size w W ∧ w1.heap.size ≤ W.heap.size)
    ?hI ?hIx ?h0
    (fun z a' W => ∃ Bx, w1.heap.size ≤ Bx ∧ Blk W Bx #[.int .i64 z.1.1, .int .i64 z.1.2.1, .int .i64 z.1.2.2.1, .int .i64 z.1.2.2.2] ∧ a' = { tmps := #[.pointer (some ⟨s, 0, none⟩), .agg #[.int .i64 x, .int .i64 y, .int .i64 a, .int .i64 b], .int .i64 v, undef, .pointer (some ⟨b4, 0, none⟩), .pointer (some ⟨b5, 0, none⟩), .pointer (some ⟨b6, 0, none⟩), .pointer (some ⟨Bx, 0, none⟩), .int .i64 z.2, .pointer (some ⟨s, 0, none⟩), .agg #[.int .i64 x, .int .i64 y, .int .i64 a, .int .i64 b], itV bT bI, rV z.1, .int .i64 z.2, undef, undef, undef, undef, undef, undef, undef, undef], defers := [] })
    ?hAx ?assign ?body ?done ?stop
  case hI =>
    rintro pre W W' row ⟨⟨h1, h2, h3, h4⟩, hb, hz⟩ hg hr
    exact ⟨⟨own_blkR hg hr h1, own_blkR hg hr h2, own_blkR hg hr h3, h4⟩, hb.grown hg hb.size (fun j hj => by have := (hr j hj).1; omega), Nat.le_trans hz hg.size⟩
  case hIx =>
    rintro c pre W W' row ⟨⟨h1, h2, h3⟩, hb, hz⟩ hg hr
    exact ⟨⟨h1, own_blkR hg hr h2, h3⟩, hb.grown hg hb.size (fun j hj => by have := (hr j hj).1; omega), Nat.le_trans hz hg.size⟩
  case h0 => exact ⟨⟨HK4.out, HK5.out, HK6.out, by simp⟩, HB1.out, Nat.le_refl _⟩
  case hAx =>
    rintro z a' u W W' row ⟨Bx, h1, h2, h3⟩ hg hr
    exact ⟨Bx, h1, own_blkR hg hr h2, h3⟩
  case assign =>
    rintro l pre ⟨⟨zx, zy, za, zb⟩, zv⟩ W K hI hK
    simp only [rV] at hK ⊢
    gi_wp2
    have hb := Below.new W (.cells #[.int .i64 zx, .int .i64 zy, .int .i64 za, .int .i64 zb] 25)
    exact hK _ _ ((KeepsOthers.alloc _ _).from _) (KeepR.of_below hb (by have := hI.2.2; omega)) ⟨⟨hI.1.1.below hb, hI.1.2.1.below hb, hI.1.2.2.1.below hb, hI.1.2.2.2⟩, Below.next hI.2.1 hb, by have := hI.2.2; have := hb.size; omega⟩ ⟨W.heap.size, hI.2.2, Blk.new _ _ _, rfl⟩
  case body =>
    rintro l pre ⟨⟨zx, zy, za, zb⟩, zv⟩ a' W hl hrec hI ⟨Bx, hBx, hkx, rfl⟩ hlen
    simp only [rV] at hkx ⊢
    have HI2 := hid hI
    obtain ⟨x0, x1, x2, x3⟩ := hkx.c4r
    obtain ⟨k0, k1, k2, k3⟩ := hI.1.1.c4r
    have k5 : W.cell? ⟨b5, 0, none⟩ = some (.int .i64 v) := by rw [hI.1.2.1.cell]; rfl
    have k6 : W.cell? ⟨b6, 0, none⟩ = some (.bool false) := by rw [hI.1.2.2.1.cell]; rfl
    have f6 : W.frozen? ⟨b6, 0, none⟩ = false := hI.1.2.2.1.unfrozen 0
    clear hI hlen hkx
    by_cases e0 : zx = x
    · by_cases e1 : zy = y
      · by_cases e2 : za = a
        · by_cases e3 : zb = b
          · subst e0 e1 e2 e3
            by_cases e4 : zv = v
            · subst e4
              gi_wp2
              have hz := HZ.out
              exact ⟨(KeepsOthers.setCell _ _ _).from _, ⟨rfl, by simpa using HI2.out.1.2.2.1.set 0 (.bool true), by simp⟩, HI2.out.2.1.setCell (by show _ ≤ b6; omega) _, by have := HI2.out.2.2; simpa using this⟩
            · have e4b : ¬ zv = v := e4
              gi_wp2
              exact ⟨(KeepsOthers.refl _).from _, KeepR.refl _ _ _, ⟨HI2.out.1.1, HI2.out.1.2.1, HI2.out.1.2.2.1, fun q => by
                rcases List.mem_append.1 q with q | q
                · exact HI2.out.1.2.2.2 q
                · simp at q; omega⟩, HI2.out.2⟩
          · have e3b : ¬ zb = b := e3
            gi_wp2
            exact ⟨(KeepsOthers.refl _).from _, KeepR.refl _ _ _, ⟨HI2.out.1.1, HI2.out.1.2.1, HI2.out.1.2.2.1, fun q => by
              rcases List.mem_append.1 q with q | q
              · exact HI2.out.1.2.2.2 q
              · simp at q; omega⟩, HI2.out.2⟩
        · have e2b : ¬ za = a := e2
          gi_wp2
          exact ⟨(KeepsOthers.refl _).from _, KeepR.refl _ _ _, ⟨HI2.out.1.1, HI2.out.1.2.1, HI2.out.1.2.2.1, fun q => by
            rcases List.mem_append.1 q with q | q
            · exact HI2.out.1.2.2.2 q
            · simp at q; omega⟩, HI2.out.2⟩
      · have e1b : ¬ zy = y := e1
        gi_wp2
        exact ⟨(KeepsOthers.refl _).from _, KeepR.refl _ _ _, ⟨HI2.out.1.1, HI2.out.1.2.1, HI2.out.1.2.2.1, fun q => by
          rcases List.mem_append.1 q with q | q
          · exact HI2.out.1.2.2.2 q
          · simp at q; omega⟩, HI2.out.2⟩
    · have e0b : ¬ zx = x := e0
      gi_wp2
      exact ⟨(KeepsOthers.refl _).from _, KeepR.refl _ _ _, ⟨HI2.out.1.1, HI2.out.1.2.1, HI2.out.1.2.2.1, fun q => by
        rcases List.mem_append.1 q with q | q
        · exact HI2.out.1.2.2.2 q
        · simp at q; omega⟩, HI2.out.2⟩
  case done =>
    rintro D ys W hD rfl ⟨⟨-, -, h1, h2⟩, hb, hz⟩ hK
    rw [HY.out] at h2
    have hqf : q = false := by rw [← hq.out]; exact decide_eq_false h2
    have k4 : W.cell? ⟨b6, 0, none⟩ = some (.bool false) := by rw [h1.cell]; rfl
    have f4 : W.frozen? ⟨b6, 0, none⟩ = false := h1.unfrozen 0
    gi_wp2
    have hK' := (KeepsOthers.setCell W ⟨b6, 0, none⟩ (.bool false)).same D _ hK rfl
    refine ⟨by simp, .inl ⟨_, _, rfl, run_takeDeferred hK', ?_⟩⟩
    have hc4 := cell_kept (World.cell?_setCell_same' W ⟨b6, 0, none⟩ (.bool false) (by rw [k4]; rfl)) (grownBy_putObj' _ D (.deferred none)) (fun r e => by cases e; exact ⟨_, hK', rfl⟩)
    refine ⟨.bool false, ?_, by rw [hqf], (hb.setCell (p := ⟨b6, 0, none⟩) (by have := HZ.out; show _ ≤ b6; omega) _).trans (belowK_b (w := w) (Nat.le_refl _) _ D _ _ (by have := hb.size; have := HB1.out.size; omega) hK' rfl rfl)⟩
    simp [results, Tryz.f72, go_sem, hc4]
  case stop =>
    rintro D c pre W hD hpre ⟨⟨rfl, h2, h3⟩, hb, hz⟩ hK
    rw [HY.out] at hpre
    have hqt : q = true := by rw [← hq.out]; exact decide_eq_true (hpre.subset h3)
    have k4 : W.cell? ⟨b6, 0, none⟩ = some (.bool true) := by rw [h2.cell]; rfl
    gi_wp2
    refine ⟨by simp, .inl ⟨_, _, rfl, run_takeDeferred hK, ?_⟩⟩
    have hc4 := cell_kept k4 (grownBy_putObj' _ D (.deferred none)) (fun r e => by cases e; exact ⟨_, hK, rfl⟩)
    refine ⟨.bool true, ?_, by rw [hqt], hb.trans (belowK_b (w := w) (Nat.le_refl _) _ D _ _ (by have := hb.size; have := HB1.out.size; omega) hK rfl rfl)⟩
    simp [results, Tryz.f72, go_sem, hc4]
end Go.Proofs.YtjbnfppnmljbmaaGreat
end
section
/- Contract of rtree's Insert: a tree as a list of things. -/
namespace Go.Proofs.YtjbnfppnmljbmaaGreat
open Go.RowKit
open Go.Lib (hid)
set_option linter.unusedVariables false

/-- a tree that has the things of a list -/
def TreeIs (w : World) (s : Nat) (F : Nat → Prop) (L : List Tg) : Prop :=
  ∃ d n, TreeAt w s d n (L.length : Int) ∧ (∀ k ∈ s :: blkN (d + 1) n, F k) ∧ (d = 0 ∨ 2 ≤ n.ks.length) ∧ (thgN (d + 1) n).Perm L
theorem TreeIs.upd {S : Nat → Prop} {w w' : World} {s : Nat} {F : Nat → Prop} {L : List Tg} (h : TreeIs w s F L) (hu : Upd S w w') (hS : ∀ k, S k → ¬ F k) : TreeIs w' s F L := by
  obtain ⟨d, n, h1, h2, h3⟩ := h
  exact ⟨d, n, h1.upd hu (fun k hk q => hS k q (h2 k hk)), h2, h3⟩
theorem TreeIs.below {w w' : World} {s : Nat} {F : Nat → Prop} {L : List Tg} (h : TreeIs w s F L) (hb : Below w.heap.size w w') : TreeIs w' s F L := h.upd (S := fun _ => False) (Upd.of_below hb) (fun _ q => q.elim)
theorem TreeIs.weaken {w : World} {s : Nat} {F G : Nat → Prop} {L : List Tg} (h : TreeIs w s F L) (hG : ∀ k, F k → k < w.heap.size → G k) : TreeIs w s G L := by
  obtain ⟨d, n, h1, h2, h3⟩ := h
  exact ⟨d, n, h1, fun k hk => hG k (h2 k hk) (h1.lt k hk), h3⟩
theorem dep_le {d : Nat} {n : Nd} {L : List Tg} (hs : Shape1 d n) (h2 : d = 0 ∨ 2 ≤ n.ks.length) (hp : (thgN (d + 1) n).Perm L) : d ≤ L.length := by
  rcases h2 with h | h
  · omega
  · have h1 := two_pow_le (hs.two h)
    rw [hp.length_eq] at h1
    have h3 : d + 1 < 2 ^ (d + 1) := Nat.lt_two_pow_self
    omega
theorem tree_right {w : World} {s d : Nat} {n : Nd} {cnt : Int} (h : TreeAt w s d n cnt) {x : Tg} (hx : x ∈ thgN (d + 1) n) : RightR x.1 := by
  obtain ⟨k, hk, hx⟩ := List.mem_flatMap.1 hx
  exact ((h.sh.kids k hk).sub hx).1
theorem mem_flR {t : R4 → Bool} {l : List Tg} {x : Tg} : x ∈ flR t l ↔ x ∈ l ∧ t x.1 = true := by unfold flR; rw [List.mem_filter]
def insE (L : List Tg) (r : R4) (v : Int) : Int := if rightR r = false then 11 else if ((r, v) : Tg) ∈ L then 13 else 0
def insL (L : List Tg) (r : R4) (v : Int) : List Tg := if insE L r v = 0 then L ++ [(r, v)] else L
/-- what a call leaves that answers an error's number -/
def RtPost (w : World) (s : Nat) (F : Nat → Prop) (E : Int) (L' : List Tg) (e : Ending) (w' : World) : Prop :=
  ∃ F' : Nat → Prop, e = .returned (.int .i64 E) ∧ TreeIs w' s F' L' ∧ Upd F w w' ∧ ∀ k, F' k → F k ∨ w.heap.size ≤ k
theorem RtPost.same {w w' : World} {s : Nat} {F : Nat → Prop} {L : List Tg} (h : TreeIs w s F L) (hb : Below w.heap.size w w') (E : Int) : RtPost w s F E L (.returned (.int .i64 E)) w' :=
  ⟨F, rfl, h.below hb, Upd.of_below hb, fun k q => .inl q⟩
set_option maxRecDepth 100000 in
set_option maxHeartbeats 4000000 in
theorem rt_Insert4 (w : World) (s : Nat) (F : Nat → Prop) (L : List Tg) (x y a b v : Int) (h : TreeIs w s F L) (hl : L.length ≤ 900) :
    Calls Tryz.prog 50 #[.pointer (some ⟨s, 0, none⟩), .agg #[.int .i64 x, .int .i64 y, .int .i64 a, .int .i64 b], .int .i64 v] w (RtPost w s F (insE L (x, y, a, b) v) (insL L (x, y, a, b) v)) := by
  have H := hid h
  obtain ⟨d, n, ht, hF, h2, hp⟩ := h
  have HT := hid ht
  have HF := hid hF
  have H2 := hid h2
  have HP := hid hp
  have HD : Hid (d ≤ 900) := hid (Nat.le_trans (dep_le ht.sh h2 hp) hl)
  obtain ⟨C, hC⟩ : ∃ C : Int, (L.length : Int) = C := ⟨_, rfl⟩
  have HC := hid (And.intro hC hl)
  have hwC : IntKind.i64.wrap (C + 1) = C + 1 := by rw [IntKind.wrap_i64]; omega
  obtain ⟨q1, h1⟩ : ∃ q1, rightR (x, y, a, b) = q1 := ⟨_, rfl⟩
  have Q1 := hid h1
  clear ht hF h2 hp hC hl h1
  go_enter Tryz.func50, Tryz.ntmps50
  go_upto_region 1 with fail
  obtain ⟨w1, hw⟩ : ∃ w1, w1 = w.alloc (.cells #[.int .i64 x, .int .i64 y, .int .i64 a, .int .i64 b] 25) := ⟨_, rfl⟩
  rw [← hw]
  obtain ⟨g, hg⟩ : ∃ g, g = w.heap.size := ⟨_, rfl⟩
  rw [← hg]
  have hb : Below w.heap.size w w1 := by rw [hw]; exact Below.new _ _
  have HX : Hid (Blk w1 g #[.int .i64 x, .int .i64 y, .int .i64 a, .int .i64 b]) := hid (by rw [hw, hg]; exact Blk.new _ _ _)
  have HB := hid hb
  have HG := hid hg
  obtain ⟨c0, c1, c2, c3⟩ := HX.out.c4r
  clear hw hg hb
  go_wp2_with fail
  refine (rect_Right4 x y a b q1 Q1 w1).mono ?_
  rintro e w2 ⟨rfl, hb2⟩
  have HB2 := hid (Below.next HB.out hb2)
  have HX2 := hid (HX.out.below hb2)
  clear hb2 c0 c1 c2 c3
  cases q1 with
  | false =>
    have HR : Hid (RtPost w s F (insE L (x, y, a, b) v) (insL L (x, y, a, b) v) (.returned (.int .i64 11)) w2) := hid (by
      have e1 : insE L (x, y, a, b) v = 11 := by unfold insE; rw [if_pos Q1.out]
      have e2 : insL L (x, y, a, b) v = L := by unfold insL; rw [e1]; rfl
      rw [e1, e2]; exact RtPost.same H.out HB2.out 11)
    go_wp2_with fail
    go_ret
    exact HR.out
  | true =>
  have HRR := hid ((rightR_iff _).1 Q1.out)
  obtain ⟨qh, hqh⟩ : ∃ q, decide ((((x, y, a, b), v) : Tg) ∈ L) = q := ⟨_, rfl⟩
  have HQH := hid hqh
  have HHAS := rt_has4 w2 s d n (L.length : Int) x y a b v (HT.out.below HB2.out) (by have := HD.out; omega) qh (hid (by
    rw [← hqh]
    refine decide_eq_decide.2 ?_
    rw [mem_flR, HP.out.mem_iff]
    exact ⟨fun z => z.1, fun z => ⟨z, decide_eq_true (meetsR_self HRR.out)⟩⟩))
  have HHAS := hid HHAS
  obtain ⟨c0, c1, c2, c3⟩ := HX2.out.c4r
  clear hqh
  go_wp2_with fail
  refine HHAS.out.mono ?_
  rintro e w3 ⟨rfl, hb3⟩
  have HB3 := hid (Below.next HB2.out hb3)
  have HX3 := hid (HX2.out.below hb3)
  clear hb3 c0 c1 c2 c3
  cases qh with
  | true =>
    have HR : Hid (RtPost w s F (insE L (x, y, a, b) v) (insL L (x, y, a, b) v) (.returned (.int .i64 13)) w3) := hid (by
      have e1 : insE L (x, y, a, b) v = 13 := by unfold insE; rw [if_neg (by rw [Q1.out]; simp), if_pos (of_decide_eq_true HQH.out)]
      have e2 : insL L (x, y, a, b) v = L := by unfold insL; rw [e1]; rfl
      rw [e1, e2]; exact RtPost.same H.out HB3.out 13)
    go_wp2_with fail
    go_ret
    exact HR.out
  | false =>
  obtain ⟨c0, c1, c2, c3⟩ := HX3.out.c4r
  clear HHAS
  go_upto_region 5 with fail
  obtain ⟨w4, hw4⟩ : ∃ w4, w4 = w3.alloc (.cells #[.int .i64 x, .int .i64 y, .int .i64 a, .int .i64 b, .slice none 0 0, .int .i64 v, .int .i64 0] 120) := ⟨_, rfl⟩
  obtain ⟨q, hq⟩ : ∃ q, q = w3.heap.size := ⟨_, rfl⟩
  have hb4 : Below w3.heap.size w3 w4 := by rw [hw4]; exact Below.new _ _
  have HX4 : Hid (NodeAt 0 w4 ⟨q, (x, y, a, b), .slice none 0 0, v, []⟩) := hid ⟨by rw [hw4, hq]; exact Blk.new _ _ _, rfl⟩
  have HT4 := hid (HT.out.below (Below.next HB3.out hb4))
  have HB4 := hid (Below.next HB3.out hb4)
  have HQ := hid hq
  have hput := rt_put d 0 s n ⟨q, (x, y, a, b), .slice none 0 0, v, []⟩ (L.length : Int) w4 (Nat.zero_le _) (by have := HD.out; omega) HT4.out HX4.out (by
    have h1 := HT.out.nd
    have e : s :: (blkN (d + 1) n ++ blkN 0 ⟨q, (x, y, a, b), .slice none 0 0, v, []⟩) = (s :: blkN (d + 1) n) ++ [q] := rfl
    rw [e, List.nodup_append]
    exact ⟨h1, by simp, fun k hk j hj e2 => by
      simp only [List.mem_singleton] at hj
      have h2 := HT.out.lt k hk
      have h3 := HB3.out.size
      omega⟩) (fun hd0 => by rcases H2.out with z | z <;> omega) HRR.out
  unfold ptrN at hput
  simp only at hput
  have HPUT := hid hput
  have HW4 := hid hw4
  clear hput hw4 hq hb4
  go_wp2_with fail
  rw [← HW4.out, ← HQ.out]
  refine HPUT.out.mono ?_
  rintro e w5 ⟨rfl, d', n', hpo⟩
  have HPO := hid hpo
  have hbs := hpo.tree.blk
  rw [HC.out.1] at hbs
  have HBS := hid hbs
  obtain ⟨-, k1, -, f1⟩ := hbs.c2
  have HR : Hid (RtPost w s F (insE L (x, y, a, b) v) (insL L (x, y, a, b) v) (.returned (.int .i64 0)) (w5.setCell ⟨s, 1, none⟩ (.int .i64 (C + 1)))) := hid (by
    have e1 : insE L (x, y, a, b) v = 0 := by unfold insE; rw [if_neg (by rw [Q1.out]; simp), if_neg (of_decide_eq_false HQH.out)]
    have e2 : insL L (x, y, a, b) v = L ++ [((x, y, a, b), v)] := by unfold insL; rw [if_pos e1]
    rw [e1, e2]
    have hu := Upd.setCell w5 s 1 (.int .i64 (C + 1))
    have hz := HB4.out.size
    have hz3 := HB3.out.size
    refine ⟨fun k => k = s ∨ k ∈ blkN (d' + 1) n', rfl, ⟨d', n', ⟨?_, ?_, hpo.tree.nd, hpo.tree.sh⟩, fun k hk => by simpa using hk, ?_, ?_⟩, ?_, ?_⟩
    · have e3 : (((L ++ [((x, y, a, b), v)] : List Tg).length : Nat) : Int) = C + 1 := by have := HC.out.1; simp; omega
      rw [e3]; simpa using hbs.set 1 (.int .i64 (C + 1))
    · exact hpo.tree.node.upd hu (fun k hk q2 => (List.nodup_cons.1 hpo.tree.nd).1 (q2 ▸ hk))
    · rcases H2.out with z | z
      · rcases Nat.eq_zero_or_pos d' with z2 | z2
        · exact .inl z2
        · exact .inr (hpo.up (by omega))
      · right
        rcases hpo.cnt2 with y2 | y2
        · omega
        · exact y2
    · exact hpo.th.trans (List.Perm.append_right _ HP.out)
    · have h1 : Upd F w w5 := (Upd.of_below HB4.out).trans hpo.upd (fun k hk q2 => by
        rcases q2 with rfl | q2 | q2
        · exact HF.out _ (by simp)
        · exact HF.out k (by simp [q2])
        · have e3 : k = q := by simpa [blkN] using q2
          have := HQ.out; omega)
      exact h1.trans hu (fun k _ q2 => by subst q2; exact HF.out _ (by simp))
    · intro k hk
      rcases hk with rfl | hk
      · exact .inl (HF.out _ (by simp))
      · rcases hpo.fr k hk with (q2 | q2) | q2
        · exact .inl (HF.out k (by simp [q2]))
        · right
          have e3 : k = q := by simpa [blkN] using q2
          have := HQ.out; omega
        · right; omega)
  clear hpo hbs c0 c1 c2 c3
  go_wp2_with fail
  go_ret
  exact HR.out
end Go.Proofs.YtjbnfppnmljbmaaGreat
end
section
/- What rtree's drop leaves, and the laws that its walk wants. -/
namespace Go.Proofs.YtjbnfppnmljbmaaGreat
open Go.RowKit
open Go.Lib (hid)
set_option linter.unusedVariables false

/-- a node whose children are being changed; how they must be is not said -/
structure MidB (d : Nat) (w w1 : World) (n : Nd) (P : Nat → Prop) (ks : List Nd) (kv : Value) : Prop where
  blk : Blk w1 n.p (cells7 n.r kv n.v ((d + 1 : Nat) : Int))
  own : ownP w1 kv ks
  at' : ∀ k ∈ ks, NodeAt d w1 k
  nd : (n.p :: (kv.ownBlock.toList ++ blkF d ks)).Nodup
  fr : ∀ k ∈ n.p :: (kv.ownBlock.toList ++ blkF d ks), P k ∨ w.heap.size ≤ k
  upd : Upd P w w1
theorem Mid.b {d : Nat} {w w1 : World} {n : Nd} {P : Nat → Prop} {ks : List Nd} {kv : Value} (h : Mid d w w1 n P ks kv) : MidB d w w1 n P ks kv := ⟨h.blk, h.own, h.at', h.nd, h.fr, h.upd⟩
theorem MidB.lt {d : Nat} {w w1 : World} {n : Nd} {P : Nat → Prop} {ks : List Nd} {kv : Value} (h : MidB d w w1 n P ks kv) : ∀ k ∈ n.p :: (kv.ownBlock.toList ++ blkF d ks), k < w1.heap.size := by
  intro k hk
  simp only [List.mem_cons, List.mem_append, Option.mem_toList, List.mem_flatMap] at hk
  rcases hk with rfl | hk | ⟨m, hm, hk⟩
  · exact h.blk.lt
  · exact (h.own.lt k hk).2
  · exact (h.at' m hm).lt k hk
theorem MidB.repl {d : Nat} {w w1 : World} {n k k' : Nd} {l1 l2 : List Nd} {P Q : Nat → Prop} {E : List Nat} (h : MidB (d + 1) w w n P n.ks n.kv) (hks : n.ks = l1 ++ k :: l2)
    (hap : k'.p = k.p) (hat : NodeAt (d + 1) w1 k') (hnd : (blkN (d + 1) k' ++ E).Nodup) (hfr : ∀ j ∈ blkN (d + 1) k' ++ E, Q j ∨ w.heap.size ≤ j) (hupd : Upd Q w w1)
    (hQ : ∀ j, Q j → j ∈ blkN (d + 1) k ∨ (P j ∧ j ∉ n.p :: (n.kv.ownBlock.toList ++ blkF (d + 1) n.ks))) :
    MidB (d + 1) w w1 n P (l1 ++ k' :: l2) n.kv ∧ E.Nodup ∧ (∀ j ∈ E, j ∉ n.p :: (n.kv.ownBlock.toList ++ blkF (d + 1) (l1 ++ k' :: l2))) ∧ ∀ j ∈ E, P j ∨ w.heap.size ≤ j := by
  obtain ⟨n1, n2⟩ := List.nodup_cons.1 h.nd
  obtain ⟨n3, n4⟩ := nodup_own.1 n2
  have hkm : k ∈ n.ks := by rw [hks]; simp
  have hF : ∀ j, j ∈ blkF (d + 1) n.ks ↔ j ∈ blkF (d + 1) l1 ∨ j ∈ blkN (d + 1) k ∨ j ∈ blkF (d + 1) l2 := fun j => by rw [hks]; simp [blkF, List.flatMap_append, List.flatMap_cons]
  have n4' : (blkF (d + 1) l1 ++ (blkN (d + 1) k ++ blkF (d + 1) l2)).Nodup := by
    have : blkF (d + 1) n.ks = blkF (d + 1) l1 ++ (blkN (d + 1) k ++ blkF (d + 1) l2) := by rw [hks]; simp [blkF, List.flatMap_append, List.flatMap_cons]
    rw [← this]; exact n4
  obtain ⟨a1, a2, a3⟩ := List.nodup_append.1 n4'
  obtain ⟨a4, a5, a6⟩ := List.nodup_append.1 a2
  have hlt := h.lt
  -- where the blocks of the changed child, and of the second one, lie
  have hwh : ∀ j, j ∈ blkN (d + 1) k' ++ E → (j ∈ blkN (d + 1) k ∨ (P j ∧ j ∉ n.p :: (n.kv.ownBlock.toList ++ blkF (d + 1) n.ks))) ∨ w.heap.size ≤ j := fun j hj => by
    rcases hfr j hj with z | z
    · exact .inl (hQ j z)
    · exact .inr z
  have hapart : ∀ j, j ∈ blkN (d + 1) k' ++ E → j ≠ n.p ∧ n.kv.ownBlock ≠ some j ∧ j ∉ blkF (d + 1) l1 ∧ j ∉ blkF (d + 1) l2 := fun j hj => by
    have hlt2 : ∀ i, (i = n.p ∨ n.kv.ownBlock = some i ∨ i ∈ blkF (d + 1) l1 ∨ i ∈ blkF (d + 1) l2) → i < w.heap.size ∧ i ∈ n.p :: (n.kv.ownBlock.toList ++ blkF (d + 1) n.ks) := fun i hi => by
      have hm : i ∈ n.p :: (n.kv.ownBlock.toList ++ blkF (d + 1) n.ks) := by
        simp only [List.mem_cons, List.mem_append, Option.mem_toList]
        rcases hi with z | z | z | z
        · exact .inl z
        · exact .inr (.inl z)
        · exact .inr (.inr ((hF i).2 (.inl z)))
        · exact .inr (.inr ((hF i).2 (.inr (.inr z))))
      exact ⟨hlt i hm, hm⟩
    rcases hwh j hj with (z | ⟨-, z⟩) | z
    · refine ⟨fun e => n1 ?_, fun e => n3 j e ((hF j).2 (.inr (.inl z))), fun q => a3 j q j (List.mem_append_left _ z) rfl, fun q => a6 j z j q rfl⟩
      rw [← e]; exact List.mem_append_right _ ((hF j).2 (.inr (.inl z)))
    · exact ⟨fun e => z (hlt2 j (.inl e)).2, fun e => z (hlt2 j (.inr (.inl e))).2, fun e => z (hlt2 j (.inr (.inr (.inl e)))).2, fun e => z (hlt2 j (.inr (.inr (.inr e)))).2⟩
    · exact ⟨fun e => by have := (hlt2 j (.inl e)).1; omega, fun e => by have := (hlt2 j (.inr (.inl e))).1; omega, fun e => by have := (hlt2 j (.inr (.inr (.inl e)))).1; omega, fun e => by have := (hlt2 j (.inr (.inr (.inr e)))).1; omega⟩
  have hQn : ∀ j, j < w.heap.size → Q j → j ∉ n.p :: n.kv.ownBlock.toList ∧ j ∉ blkF (d + 1) l1 ∧ j ∉ blkF (d + 1) l2 := fun j hj q => by
    rcases hQ j q with z | ⟨-, z⟩
    · refine ⟨fun e => ?_, fun q => a3 j q j (List.mem_append_left _ z) rfl, fun q => a6 j z j q rfl⟩
      simp only [List.mem_cons, Option.mem_toList] at e
      rcases e with e | e
      · exact n1 (by rw [← e]; exact List.mem_append_right _ ((hF j).2 (.inr (.inl z))))
      · exact n3 j e ((hF j).2 (.inr (.inl z)))
    · refine ⟨fun e => z ?_, fun e => z ?_, fun e => z ?_⟩
      · simp only [List.mem_cons, List.mem_append, Option.mem_toList] at e ⊢
        rcases e with e | e
        · exact .inl e
        · exact .inr (.inl e)
      · exact List.mem_cons_of_mem _ (List.mem_append_right _ ((hF j).2 (.inl e)))
      · exact List.mem_cons_of_mem _ (List.mem_append_right _ ((hF j).2 (.inr (.inr e))))
  have hF' : blkF (d + 1) (l1 ++ k' :: l2) = blkF (d + 1) l1 ++ (blkN (d + 1) k' ++ blkF (d + 1) l2) := by simp [blkF, List.flatMap_append, List.flatMap_cons]
  have hptr : ptrs (l1 ++ k' :: l2) = ptrs n.ks := by
    have e : ptrN k' = ptrN k := by unfold ptrN; rw [hap]
    rw [hks]; simp [ptrs, e]
  have hlen : (l1 ++ k' :: l2).length = n.ks.length := by rw [hks]; simp
  have hl1 : ∀ m ∈ l1, NodeAt (d + 1) w1 m := fun m hm => (h.at' m (by rw [hks]; simp [hm])).upd hupd (fun j hj q => (hQn j ((h.at' m (by rw [hks]; simp [hm])).lt j hj) q).2.1 (List.mem_flatMap.2 ⟨m, hm, hj⟩))
  have hl2 : ∀ m ∈ l2, NodeAt (d + 1) w1 m := fun m hm => (h.at' m (by rw [hks]; simp [hm])).upd hupd (fun j hj q => (hQn j ((h.at' m (by rw [hks]; simp [hm])).lt j hj) q).2.2 (List.mem_flatMap.2 ⟨m, hm, hj⟩))
  obtain ⟨b1, b2, b3⟩ := List.nodup_append.1 hnd
  refine ⟨⟨h.blk.upd hupd (fun q => (hQn n.p h.blk.lt q).1 (by simp)), ?_, ?_, ?_, ?_, ?_⟩, b2, ?_, ?_⟩
  · have := hupd.owns h.own (fun j hj q => (hQn j (h.own.lt j hj).2 q).1 (by simp [hj]))
    show w1.ownsRow 0 _ 1 _ (l1 ++ k' :: l2).length (ptrs (l1 ++ k' :: l2))
    rw [hlen, hptr]; exact this
  · intro m hm
    rcases List.mem_append.1 hm with hm | hm
    · exact hl1 m hm
    · rcases List.mem_cons.1 hm with rfl | hm
      · exact hat
      · exact hl2 m hm
  · rw [hF', List.nodup_cons, nodup_own]
    refine ⟨?_, ?_, ?_⟩
    · simp only [List.mem_append, Option.mem_toList, not_or]
      refine ⟨fun q => n1 (by simp [q]), fun q => n1 (List.mem_append_right _ ((hF _).2 (.inl q))), fun q => (hapart n.p (List.mem_append_left _ q)).1 rfl, fun q => n1 (List.mem_append_right _ ((hF _).2 (.inr (.inr q))))⟩
    · intro j hj q
      simp only [List.mem_append] at q
      rcases q with q | q | q
      · exact n3 j hj ((hF j).2 (.inl q))
      · exact (hapart j (List.mem_append_left _ q)).2.1 hj
      · exact n3 j hj ((hF j).2 (.inr (.inr q)))
    · rw [List.nodup_append, List.nodup_append]
      exact ⟨a1, ⟨b1, a5, fun a ha2 b hb e => (hapart a (List.mem_append_left _ ha2)).2.2.2 (e ▸ hb)⟩, fun a ha2 b hb e => by
        rcases List.mem_append.1 hb with hb | hb
        · exact (hapart b (List.mem_append_left _ hb)).2.2.1 (e ▸ ha2)
        · exact a3 a ha2 b (List.mem_append_right _ hb) e⟩
  · intro j hj
    rw [hF'] at hj
    simp only [List.mem_cons, List.mem_append, Option.mem_toList] at hj
    rcases hj with rfl | hj | hj | hj | hj
    · exact h.fr _ (by simp)
    · exact h.fr j (by simp [hj])
    · exact h.fr j (List.mem_cons_of_mem _ (List.mem_append_right _ ((hF j).2 (.inl hj))))
    · rcases hwh j (List.mem_append_left _ hj) with (z | ⟨z, -⟩) | z
      · exact h.fr j (List.mem_cons_of_mem _ (List.mem_append_right _ ((hF j).2 (.inr (.inl z)))))
      · exact .inl z
      · exact .inr z
    · exact h.fr j (List.mem_cons_of_mem _ (List.mem_append_right _ ((hF j).2 (.inr (.inr hj)))))
  · refine hupd.mono (fun j hj q => ?_)
    rcases hQ j q with z | ⟨z, -⟩
    · rcases h.fr j (List.mem_cons_of_mem _ (List.mem_append_right _ ((hF j).2 (.inr (.inl z))))) with y | y
      · exact y
      · omega
    · exact z
  · intro j hj q
    have z := hapart j (List.mem_append_right _ hj)
    rw [hF'] at q
    simp only [List.mem_cons, List.mem_append, Option.mem_toList] at q
    rcases q with q | q | q | q | q
    · exact z.1 q
    · exact z.2.1 q
    · exact z.2.2.1 q
    · exact b3 j q j hj rfl
    · exact z.2.2.2 q
  · intro j hj
    rcases hwh j (List.mem_append_right _ hj) with (z | ⟨z, -⟩) | z
    · exact h.fr j (List.mem_cons_of_mem _ (List.mem_append_right _ ((hF j).2 (.inr (.inl z)))))
    · exact .inl z
    · exact .inr z
theorem subl_flat {f : Nd → List Nat} {l m : List Nd} (h : l.Sublist m) : (l.flatMap f).Sublist (m.flatMap f) := by
  induction h with
  | slnil => exact List.Sublist.refl _
  | cons a h ih => rw [List.flatMap_cons]; exact ih.trans (List.sublist_append_right _ _)
  | cons_cons a h ih => rw [List.flatMap_cons, List.flatMap_cons]; exact (List.Sublist.refl _).append ih
theorem MidB.rat {d : Nat} {w w1 : World} {n : Nd} {P : Nat → Prop} {ks : List Nd} {kv : Value} (h : MidB d w w1 n P ks kv) : ∀ k ∈ ks, RAt w1 k.p k.r := fun k hk => (h.at' k hk).rat
/-- one child is taken out -/
theorem MidB.del {d : Nat} {w w1 w2 w3 : World} {n : Nd} {P : Nat → Prop} {ks : List Nd} {kv kv' : Value} (h : MidB d w w1 n P ks kv) {i : Nat} (ho : ownP w2 kv' (ks.eraseIdx i)) (hu : Upd (fun k => kv.ownBlock = some k) w1 w2) (he : kv'.ownBlock = kv.ownBlock)
    (h3 : w3 = w2.setCell ⟨n.p, 4, none⟩ kv') : MidB d w w3 n P (ks.eraseIdx i) kv' ∧ Upd (fun k => kv.ownBlock = some k ∨ k = n.p) w1 w3 := by
  obtain ⟨n1, n2⟩ := List.nodup_cons.1 h.nd
  obtain ⟨n3, n4⟩ := nodup_own.1 n2
  have hsu : Upd (fun k => k = n.p) w2 w3 := by rw [h3]; exact Upd.setCell w2 n.p 4 kv'
  have hsub : (ks.eraseIdx i).Sublist ks := List.eraseIdx_sublist _ _
  have hmem : ∀ k ∈ ks.eraseIdx i, k ∈ ks := fun k hk => hsub.subset hk
  have hF : ∀ j ∈ blkF d (ks.eraseIdx i), j ∈ blkF d ks := fun j hj => by
    obtain ⟨k, hk, hj⟩ := List.mem_flatMap.1 hj
    exact List.mem_flatMap.2 ⟨k, hmem k hk, hj⟩
  have hFs : (blkF d (ks.eraseIdx i)).Sublist (blkF d ks) := subl_flat hsub
  have hnp : ∀ k, kv.ownBlock = some k → k ≠ n.p := fun k hk e => n1 (by rw [← e]; simp [hk])
  have hfp : ∀ k ∈ blkF d ks, k ≠ n.p := fun k hk e => n1 (by rw [← e]; exact List.mem_append_right _ hk)
  have hU : Upd (fun k => kv.ownBlock = some k ∨ k = n.p) w1 w3 := (hu.mono (fun _ _ q => .inl q)).trans hsu (fun _ _ q => .inr q)
  refine ⟨⟨?_, hsu.owns ho (fun k hk e => hnp k (by rw [← he]; exact hk) e), fun k hk => (h.at' k (hmem k hk)).upd hU (fun j hj q => ?_), ?_, fun k hk => h.fr k ?_, h.upd.trans hU (fun k hk q => ?_)⟩, hU⟩
  · have h1 := h.blk.upd hu (fun e => n1 (by simp [e]))
    rw [h3]
    simpa [cells7] using h1.set 4 kv'
  · have hj2 : j ∈ blkF d ks := List.mem_flatMap.2 ⟨k, hmem k hk, hj⟩
    rcases q with q | q
    · exact n3 j q hj2
    · exact hfp j hj2 q
  · rw [List.nodup_cons, nodup_own, he]
    refine ⟨?_, fun k hk q => n3 k hk (hF k q), n4.sublist hFs⟩
    simp only [List.mem_append, Option.mem_toList, not_or]
    exact ⟨fun q => hnp _ q rfl, fun q => hfp _ (hF _ q) rfl⟩
  · simp only [List.mem_cons, List.mem_append, Option.mem_toList] at hk ⊢
    rw [he] at hk
    rcases hk with q | q | q
    · exact .inl q
    · exact .inr (.inl q)
    · exact .inr (.inr (hF k q))
  · have hm : k ∈ n.p :: (kv.ownBlock.toList ++ blkF d ks) := by
      rcases q with q | q
      · simp [q]
      · simp [q]
    rcases h.fr k hm with z | z
    · exact z
    · omega
/-- the node is fitted -/
theorem MidB.fit {d : Nat} {w w1 w2 : World} {n : Nd} {P : Nat → Prop} {ks : List Nd} {kv : Value} (h : MidB d w w1 n P ks kv)
    (hb : Blk w2 n.p (cells7 (boundR (ks.map (·.r))) kv n.v ((d + 1 : Nat) : Int))) (hu : Upd (fun k => k = n.p) w1 w2) :
    NodeAt (d + 1) w2 ⟨n.p, boundR (ks.map (·.r)), kv, n.v, ks⟩ ∧ Upd P w w2 := by
  obtain ⟨n1, n2⟩ := List.nodup_cons.1 h.nd
  refine ⟨⟨hb, hu.owns h.own (fun k hk e => n1 (by rw [← e]; simp [hk])), fun k hk => (h.at' k hk).upd hu (fun j hj e => n1 (by rw [← e]; exact List.mem_append_right _ (List.mem_flatMap.2 ⟨k, hk, hj⟩)))⟩, h.upd.trans hu (fun k hk e => ?_)⟩
  subst e
  rcases h.fr n.p (by simp) with z | z
  · exact z
  · omega
abbrev DNd := Nat × Nd
abbrev blkA (A : List DNd) : List Nat := A.flatMap (fun y => blkN y.1 y.2)
abbrev thgA (A : List DNd) : List Tg := A.flatMap (fun y => thgN y.1 y.2)
/-- what drop leaves where the thing was there: the node, and what must be put in anew -/
structure DropOk (d : Nat) (w w' : World) (n : Nd) (x : Tg) (n' : Nd) (A : List DNd) (va : Value) : Prop where
  p : n'.p = n.p
  at' : NodeAt (d + 1) w' n'
  sh : Shape1 d n'
  own : w'.ownsRow 0 111 1 va A.length (ptrs (A.map (·.2)))
  rest : ∀ y ∈ A, y.1 < d ∧ NodeAt y.1 w' y.2 ∧ ShapeN y.1 y.2
  nd : (blkN (d + 1) n' ++ (va.ownBlock.toList ++ blkA A)).Nodup
  fr : ∀ k ∈ blkN (d + 1) n' ++ (va.ownBlock.toList ++ blkA A), k ∈ blkN (d + 1) n ∨ w.heap.size ≤ k
  th : (x :: (thgN (d + 1) n' ++ thgA A)).Perm (thgN (d + 1) n)
  c1 : n'.ks.length ≤ n.ks.length
  c2 : n.ks.length ≤ n'.ks.length + 1
  alen : A.length ≤ d
  upd : Upd (fun k => k ∈ blkN (d + 1) n) w w'
def DropPost (d : Nat) (w : World) (n : Nd) (x : Tg) (e : Ending) (w' : World) : Prop :=
  (x ∉ thgN (d + 1) n ∧ e = .returned (.tuple #[.slice none 0 0, .bool false]) ∧ Below w.heap.size w w') ∨
  ∃ n' A a c, e = .returned (.tuple #[.slice a A.length c, .bool true]) ∧ DropOk d w w' n x n' A (.slice a A.length c)
def DropSpec (d : Nat) : Prop := ∀ (n : Nd) (x : Tg) (w : World), d ≤ 1000 → NodeAt (d + 1) w n → (blkN (d + 1) n).Nodup → Shape1 d n →
  Calls Tryz.prog 91 #[ptrN n, rV x.1, .int .i64 x.2] w (DropPost d w n x)
end Go.Proofs.YtjbnfppnmljbmaaGreat
end
