/- Joined texts, in this order: ThingFilt. Each one's first remark says what it proves; no condition beyond those that its theorems name. -/
import Derived.Test.YtdoflhiogoefjaaDoorJLawThingFinds25
section
/- Iterators over the things of a house, and of an owner; told, of whatever they give. -/
namespace Go.Proofs.YtdoflhiogoefjaaDoor
open Go.RowKit
open Go.Lib (hid)
set_option linter.unusedVariables false
attribute [local go_sem] Oper.semAt_some

def pOf (h : Int) (x : Th) : Bool := !(x.pl.1 == 1) && (x.pl.2.1 == h)
def pOwned (h : Int) (x : Th) : Bool := x.ow == h
set_option maxRecDepth 100000 in
set_option maxHeartbeats 8000000 in
theorem law21_toldG {bT bI : Nat} {a : Option Addr} {c : Nat} {Y : List Th} (w : World)
    (hsq : ∀ w2, Below w.heap.size w w2 → SeqStopsK Fence.wide 4 Tryd.prog 47 #[.pointer (some ⟨bT, 0, none⟩), .pointer (some ⟨bI, 0, none⟩)] (fun x : Th => #[thV x]) (KeepIt w.heap.size w2.heap.size) (fun ys => ys = Y) (fun pre => pre <+: Y) Y.length w2)
    (hR : RefT w a c Y) (hlow : ∀ k, aB a k → k < w.heap.size) (hl : Y.length ≤ 900) :
    Calls Tryd.prog 21 #[.func (.func 47) #[] #[.pointer (some ⟨bT, 0, none⟩), .pointer (some ⟨bI, 0, none⟩)], .slice a Y.length c] w fun e w' => e = .returned (.bool true) ∧ Below w.heap.size w w' := by
  have HSQ := hid hsq
  have HR := hid hR
  have HLOW := hid hlow
  have HL := hid hl
  clear hsq hR hlow hl
  refine (callsIn_wide (n := 5)).1 ?_
  refine callsIn_of_wp_marks Tryd.func21 rfl trivial ?_ rfl
  simp only [Tryd.ntmps21, List.size_toArray, List.length_cons, List.length_nil, Nat.reduceAdd, Nat.reduceSub, Array.replicate_succ, Array.replicate_zero, List.push_toArray, List.append_toArray, List.nil_append, List.cons_append]
  gi_wp2
  generalize hw2 : World.alloc (World.alloc (World.alloc w _) _) _ = w2
  obtain ⟨b3, hb3⟩ : ∃ b, b = w.heap.size := ⟨_, rfl⟩
  obtain ⟨b4, hb4⟩ : ∃ b, b = w.heap.size + 1 := ⟨_, rfl⟩
  obtain ⟨b5, hb5⟩ : ∃ b, b = w.heap.size + 1 + 1 := ⟨_, rfl⟩
  have hz1 : (World.alloc w (.cells #[.slice a Y.length c] 32)).heap.size = w.heap.size + 1 := by simp
  have hz2 : (World.alloc (World.alloc w (.cells #[.slice a Y.length c] 32)) (.cells #[.bool false] 4)).heap.size = w.heap.size + 1 + 1 := by simp
  try rw [← hb5]
  try rw [← hb4]
  try rw [← hb3]
  have hb2 : Below w.heap.size w w2 := by rw [← hw2]; exact Below.next (Below.next (Below.new _ _) (Below.new _ _)) (Below.new _ _)
  have HK3 : Hid (Blk w2 b3 #[.slice a Y.length c]) := hid (by rw [← hw2, hb3]; exact ((Blk.new w _ _).below (Below.new _ _)).below (Below.new _ _))
  have HK4 : Hid (Blk w2 b4 #[.bool false]) := hid (by rw [← hw2, hb4, ← hz1]; exact (Blk.new _ _ _).below (Below.new _ _))
  have HK5 : Hid (Blk w2 b5 #[.int .i64 0]) := hid (by rw [← hw2, hb5, ← hz2]; exact Blk.new _ _ _)
  have HB2 := hid hb2
  have HZ : Hid (b3 = w.heap.size ∧ b4 = w.heap.size + 1 ∧ b5 = w.heap.size + 2 ∧ b5 < w2.heap.size) := hid (by have := HK5.out.lt; omega)
  clear hw2 hb3 hb4 hb5 hz1 hz2 hb2
  have HN0 : Hid (w.heap.size = w.heap.size) := hid rfl
  have hlt2 := HB2.out.size
  refine wpIn_rangeFunc_ownH (F := Fence.wide) (n := 5) (α := Th) rfl (by omega) (gf := 47) (lb := #[.pointer (some ⟨bT, 0, none⟩), .pointer (some ⟨bI, 0, none⟩)]) rfl trivial (enters_of Tryd.func47 (by kernel_rfl) rfl)
    (HSQ.out w2 HB2.out)
    (fun h k => h.trans k) (fun W l o o' hlo ho hc _ => KeepIt.put (by omega) W l o o' hlo ho hc) (Below.refl _ _) (fun _ => rfl)
    (fun pre W => (Blk W b3 #[.slice a Y.length c] ∧ Blk W b4 #[.bool false] ∧ Blk W b5 #[.int .i64 (pre.length : Int)] ∧ pre <+: Y) ∧ Below w.heap.size w W ∧ w2.heap.size ≤ W.heap.size)
    (fun c pre W => (c = .ret ∧ ¬ (pre <+: Y)) ∧ Below w.heap.size w W)
    ?hI ?hIx ?h0
    (fun x a' W => ∃ Bx, w2.heap.size ≤ Bx ∧ Blk W Bx #[.int .i64 x.id, .string ⟨x.nm.toArray⟩, .int .i64 x.ow, .int .i64 x.pl.1, .int .i64 x.pl.2.1, .int .i64 x.pl.2.2] ∧ a' = { tmps := #[.func (.func 47) #[] #[.pointer (some ⟨bT, 0, none⟩), .pointer (some ⟨bI, 0, none⟩)], .slice a Y.length c, undef, .pointer (some ⟨b3, 0, none⟩), .pointer (some ⟨b4, 0, none⟩), .pointer (some ⟨b5, 0, none⟩), .pointer (some ⟨Bx, 0, none⟩), .func (.func 47) #[] #[.pointer (some ⟨bT, 0, none⟩), .pointer (some ⟨bI, 0, none⟩)], thV x, undef, undef, undef, undef, undef, undef, undef, undef, undef, undef, undef, undef, undef, undef, undef, undef, undef, undef, undef], defers := [] })
    ?hAx ?assign ?body ?done ?stop
  case hI =>
    rintro pre W W' row ⟨⟨h1, h2, h3, h4⟩, hb, hz⟩ hg hr
    exact ⟨⟨own_blk hg hr h1, own_blk hg hr h2, own_blk hg hr h3, h4⟩, hb.grown hg hb.size (fun j hj => by have := (hr j hj).1; omega), Nat.le_trans hz hg.size⟩
  case hIx =>
    rintro c pre W W' row ⟨h1, hb⟩ hg hr
    exact ⟨h1, hb.grown hg hb.size (fun j hj => by have := (hr j hj).1; omega)⟩
  case h0 => exact ⟨⟨HK3.out, HK4.out, HK5.out, List.nil_prefix⟩, HB2.out, Nat.le_refl _⟩
  case hAx =>
    rintro x a' u W W' row ⟨Bx, h1, h2, h3⟩ hg hr
    exact ⟨Bx, h1, own_blk hg hr h2, h3⟩
  case assign =>
    rintro l pre ⟨xi, xn, xo, xk, xh, xs⟩ W K hI hK
    simp only [thV, strV] at hK ⊢
    gi_wp2
    have hb := Below.new W (.cells #[.int .i64 xi, .string ⟨xn.toArray⟩, .int .i64 xo, .int .i64 xk, .int .i64 xh, .int .i64 xs] 48)
    exact hK _ _ ((KeepsOthers.alloc _ _).from _) (KeepIt.of_upd (Upd.of_below (S := fun _ => False) hb) (by have := hI.2.2; omega) (fun k _ q => q.elim))
      ⟨⟨hI.1.1.below hb, hI.1.2.1.below hb, hI.1.2.2.1.below hb, hI.1.2.2.2⟩, Below.next hI.2.1 hb, by have := hI.2.2; have := hb.size; omega⟩ ⟨W.heap.size, hI.2.2, Blk.new _ _ _, rfl⟩
  case body =>
    rintro l pre ⟨xi, xn, xo, xk, xh, xs⟩ a' W hl hrec hI ⟨Bx, hBx, hkx, rfl⟩ hlen
    simp only [thV, strV]
    simp only at hkx
    have HI2 := hid hI
    have HKX := hid hkx
    have HLE := hid hlen
    obtain ⟨y, hy⟩ : ∃ y, Y[pre.length]? = some y := ⟨_, List.getElem?_eq_getElem hlen⟩
    have HY := hid hy
    have HPS := hid (prefix_snoc (x := (⟨xi, xn, xo, (xk, xh, xs)⟩ : Th)) hI.1.2.2.2 hy)
    obtain ⟨a', c', e', hrd, -⟩ := HR.out.t.below hI.2.1
    simp only [Value.slice.injEq, true_and] at e'
    obtain ⟨rfl, rfl⟩ := e'
    obtain ⟨b0, off, y', rfl, d0, d1, d2, d3, d4, d5, hy2, -, -⟩ := hrd.six pre.length hlen
    obtain rfl : y' = y := by rw [hy2] at hy; exact Option.some.inj hy
    obtain ⟨yi, yn, yo, yk, yh, ys⟩ := y'
    simp only at d0 d1 d2 d3 d4 d5
    obtain ⟨x0, x1, x2, x3, x4, x5⟩ := hkx.c6
    have k3 : W.cell? ⟨b3, 0, none⟩ = some (.slice (some ⟨b0, off, none⟩) Y.length c) := by rw [hI.1.1.cell]; rfl
    have k4 : W.cell? ⟨b4, 0, none⟩ = some (.bool false) := by rw [hI.1.2.1.cell]; rfl
    have k5 : W.cell? ⟨b5, 0, none⟩ = some (.int .i64 (pre.length : Int)) := by rw [hI.1.2.2.1.cell]; rfl
    have f4 : W.frozen? ⟨b4, 0, none⟩ = false := hI.1.2.1.unfrozen 0
    have f5 : W.frozen? ⟨b5, 0, none⟩ = false := hI.1.2.2.1.unfrozen 0
    obtain ⟨i, hi⟩ : ∃ i, pre.length = i := ⟨_, rfl⟩
    rw [hi] at k5 d0 d1 d2 d3 d4 d5
    have HII := hid hi
    have i1 : (i : Int) < (Y.length : Int) := by omega
    have i0 : (0 : Int) ≤ (i : Int) := by omega
    have i3 : decide (Y.length ≤ i) = false := decide_eq_false (by omega)
    have i4 : i < Y.length := by omega
    clear hi hy hy2 hrd hI hkx hlen
    gi_wp2
    replace x0 := fun (y : World) (hy : Below W.heap.size W y) => cellOf_below hy x0 (Nat.le_refl _)
    replace x1 := fun (y : World) (hy : Below W.heap.size W y) => cellOf_below hy x1 (Nat.le_refl _)
    replace x2 := fun (y : World) (hy : Below W.heap.size W y) => cellOf_below hy x2 (Nat.le_refl _)
    replace x3 := fun (y : World) (hy : Below W.heap.size W y) => cellOf_below hy x3 (Nat.le_refl _)
    replace x4 := fun (y : World) (hy : Below W.heap.size W y) => cellOf_below hy x4 (Nat.le_refl _)
    replace x5 := fun (y : World) (hy : Below W.heap.size W y) => cellOf_below hy x5 (Nat.le_refl _)
    replace k3 := fun (y : World) (hy : Below W.heap.size W y) => cellOf_below hy k3 (Nat.le_refl _)
    replace k4 := fun (y : World) (hy : Below W.heap.size W y) => cellOf_below hy k4 (Nat.le_refl _)
    replace k5 := fun (y : World) (hy : Below W.heap.size W y) => cellOf_below hy k5 (Nat.le_refl _)
    replace d0 := fun (y : World) (hy : Below W.heap.size W y) => cellOf_below hy d0 (Nat.le_refl _)
    replace d1 := fun (y : World) (hy : Below W.heap.size W y) => cellOf_below hy d1 (Nat.le_refl _)
    replace d2 := fun (y : World) (hy : Below W.heap.size W y) => cellOf_below hy d2 (Nat.le_refl _)
    replace d3 := fun (y : World) (hy : Below W.heap.size W y) => cellOf_below hy d3 (Nat.le_refl _)
    replace d4 := fun (y : World) (hy : Below W.heap.size W y) => cellOf_below hy d4 (Nat.le_refl _)
    replace d5 := fun (y : World) (hy : Below W.heap.size W y) => cellOf_below hy d5 (Nat.le_refl _)
    have hyd := (Below.refl W.heap.size W).drew
    obtain ⟨q, hq, hE⟩ := th21_equal ⟨xi, xn, xo, (xk, xh, xs)⟩ ⟨yi, yn, yo, (yk, yh, ys)⟩
    simp only [thV, strV] at hE
    have HQ := hid hq
    clear hq
    refine wpIn_region_kept [] (fun y => Below W.heap.size W y) (by kernel_rfl) (by assumption) (fun hH => ?_)
    refine wpK.take (i := 0) (v := _) (by simp only [List.getElem?_toArray, List.getElem?_cons_succ, List.getElem?_cons_zero]; rfl) (by kernel_rfl) (by kernel_rfl) (by kernel_rfl) (by kernel_rfl) (by kernel_rfl) (by exact fun _ _ _ h => h) (by first | exact Or.inl ⟨by rfl, by intro w hSw; go_simp; try with_reducible rfl⟩ | exact Or.inr ⟨by rfl, rfl⟩) hH ?_
    try simp only [Act.put, List.setIfInBounds_toArray, List.set_cons_zero, List.set_cons_succ]
    refine wpK.take (i := 1) (v := _) (by simp only [List.getElem?_toArray, List.getElem?_cons_succ, List.getElem?_cons_zero]; rfl) (by kernel_rfl) (by kernel_rfl) (by kernel_rfl) (by kernel_rfl) (by kernel_rfl) (by exact fun _ _ _ h => h) (by first | exact Or.inl ⟨by rfl, by intro w hSw; go_simp; try with_reducible rfl⟩ | exact Or.inr ⟨by rfl, rfl⟩) hH ?_
    try simp only [Act.put, List.setIfInBounds_toArray, List.set_cons_zero, List.set_cons_succ]
    refine wpK.take (i := 2) (v := _) (by simp only [List.getElem?_toArray, List.getElem?_cons_succ, List.getElem?_cons_zero]; rfl) (by kernel_rfl) (by kernel_rfl) (by kernel_rfl) (by kernel_rfl) (by kernel_rfl) (by exact fun _ _ _ h => h) (by first | exact Or.inl ⟨by rfl, by intro w hSw; go_simp; try with_reducible rfl⟩ | exact Or.inr ⟨by rfl, rfl⟩) hH ?_
    try simp only [Act.put, List.setIfInBounds_toArray, List.set_cons_zero, List.set_cons_succ]
    refine wpK.take (i := 3) (v := _) (by simp only [List.getElem?_toArray, List.getElem?_cons_succ, List.getElem?_cons_zero]; rfl) (by kernel_rfl) (by kernel_rfl) (by kernel_rfl) (by kernel_rfl) (by kernel_rfl) (by exact fun _ _ _ h => h) (by first | exact Or.inl ⟨by rfl, by intro w hSw; go_simp; try with_reducible rfl⟩ | exact Or.inr ⟨by rfl, rfl⟩) hH ?_
    try simp only [Act.put, List.setIfInBounds_toArray, List.set_cons_zero, List.set_cons_succ]
    refine wpK.take (i := 4) (v := _) (by simp only [List.getElem?_toArray, List.getElem?_cons_succ, List.getElem?_cons_zero]; rfl) (by kernel_rfl) (by kernel_rfl) (by kernel_rfl) (by kernel_rfl) (by kernel_rfl) (by exact fun _ _ _ h => h) (by first | exact Or.inl ⟨by rfl, by intro w hSw; go_simp; try with_reducible rfl⟩ | exact Or.inr ⟨by rfl, rfl⟩) hH ?_
    try simp only [Act.put, List.setIfInBounds_toArray, List.set_cons_zero, List.set_cons_succ]
    refine wpK.take (i := 5) (v := _) (by simp only [List.getElem?_toArray, List.getElem?_cons_succ, List.getElem?_cons_zero]; rfl) (by kernel_rfl) (by kernel_rfl) (by kernel_rfl) (by kernel_rfl) (by kernel_rfl) (by exact fun _ _ _ h => h) (by first | exact Or.inl ⟨by rfl, by intro w hSw; go_simp; try with_reducible rfl⟩ | exact Or.inr ⟨by rfl, rfl⟩) hH ?_
    try simp only [Act.put, List.setIfInBounds_toArray, List.set_cons_zero, List.set_cons_succ]
    refine wpK.take (i := 7) (v := _) (by simp only [List.getElem?_toArray, List.getElem?_cons_succ, List.getElem?_cons_zero]; rfl) (by kernel_rfl) (by kernel_rfl) (by kernel_rfl) (by kernel_rfl) (by kernel_rfl) (by exact fun _ _ _ h => h) (by first | exact Or.inl ⟨by rfl, by intro w hSw; go_simp; try with_reducible rfl⟩ | exact Or.inr ⟨by rfl, rfl⟩) hH ?_
    try simp only [Act.put, List.setIfInBounds_toArray, List.set_cons_zero, List.set_cons_succ]
    refine wpK.take (i := 8) (v := _) (by simp only [List.getElem?_toArray, List.getElem?_cons_succ, List.getElem?_cons_zero]; rfl) (by kernel_rfl) (by kernel_rfl) (by kernel_rfl) (by kernel_rfl) (by kernel_rfl) (by exact fun _ _ _ h => h) (by first | exact Or.inl ⟨by rfl, by intro w hSw; go_simp; try with_reducible rfl⟩ | exact Or.inr ⟨by rfl, rfl⟩) hH ?_
    try simp only [Act.put, List.setIfInBounds_toArray, List.set_cons_zero, List.set_cons_succ]
    refine wpK.take (i := 9) (v := _) (by simp only [List.getElem?_toArray, List.getElem?_cons_succ, List.getElem?_cons_zero]; rfl) (by kernel_rfl) (by kernel_rfl) (by kernel_rfl) (by kernel_rfl) (by kernel_rfl) (by exact fun _ _ _ h => h) (by first | exact Or.inl ⟨by rfl, by intro w hSw; go_simp; try with_reducible rfl⟩ | exact Or.inr ⟨by rfl, rfl⟩) hH ?_
    try simp only [Act.put, List.setIfInBounds_toArray, List.set_cons_zero, List.set_cons_succ]
    refine wpK.take (i := 10) (v := _) (by simp only [List.getElem?_toArray, List.getElem?_cons_succ, List.getElem?_cons_zero]; rfl) (by kernel_rfl) (by kernel_rfl) (by kernel_rfl) (by kernel_rfl) (by kernel_rfl) (by exact fun _ _ _ h => h) (by first | exact Or.inl ⟨by rfl, by intro w hSw; go_simp; try with_reducible rfl⟩ | exact Or.inr ⟨by rfl, rfl⟩) hH ?_
    try simp only [Act.put, List.setIfInBounds_toArray, List.set_cons_zero, List.set_cons_succ]
    refine wpK.inv (le := fun w w' => Below w.heap.size w w') (fun w => Below.refl _ w) (fun _ _ _ h k => Below.next h k) (m := 0) [6, 11, 12] (fun i => match i with | 11 => [6] | 12 => [11] | _ => []) (fun i => match i with | 6 => fun u w => u 6 = .agg #[.int .i64 xi, .string ⟨xn.toArray⟩, .int .i64 xo, .int .i64 xk, .int .i64 xh, .int .i64 xs] | 11 => fun u w => u 11 = .bool !q | 12 => fun u w => u 12 = .bool !q | _ => fun _ _ => True) (by kernel_rfl) ⟨(fun _ _ _ _ h => h), (fun _ _ _ _ h => h), (fun _ _ _ _ h => h), trivial⟩ ⟨(by dsimp only; intro u j v w h1 h2 h; have e0 := upd_ne u v (Ne.symm h1); simp only [e0]; exact h), (by dsimp only; intro u j v w h1 h2 h; simp only [List.mem_cons, List.not_mem_nil, or_false, not_or] at h2; have e0 := upd_ne u v (Ne.symm h1); have e1 := upd_ne u v (Ne.symm h2); simp only [e0, e1]; exact h), (by dsimp only; intro u j v w h1 h2 h; simp only [List.mem_cons, List.not_mem_nil, or_false, not_or] at h2; have e0 := upd_ne u v (Ne.symm h1); have e1 := upd_ne u v (Ne.symm h2); simp only [e0, e1]; exact h), trivial⟩ (fun _ h => Below.next hH h) (fun u => ?_)
    generalize hacts : acts _ _ u _ = A_
    simp only [acts, dstOf, List.getElem?_toArray, List.getElem?_cons_succ, List.getElem?_cons_zero, Option.bind_some, Act.put, List.setIfInBounds_toArray, List.set_cons_succ, List.set_cons_zero] at hacts
    subst hacts
    refine ⟨⟨?_, ?_, ?_, trivial⟩, ?_⟩
    · intro wx hw h_
      clear h_
      apply wpOp_stepI (i := 6) (le := fun w w' => Below w.heap.size w w') (φ := fun v w' => (fun u w => u 6 = .agg #[.int .i64 xi, .string ⟨xn.toArray⟩, .int .i64 xo, .int .i64 xk, .int .i64 xh, .int .i64 xs]) (upd u 6 v) w')
      · simp only [List.getElem?_toArray, List.getElem?_cons_succ, List.getElem?_cons_zero]; rfl
      · rfl
      intro K hK
      go_simp
      refine (law21_ref ⟨xi, xn, xo, (xk, xh, xs)⟩ _).mono ?_
      rintro e w4 ⟨rfl, hb4⟩
      simp only [thV, strV]
      go_simp
      exact hK.out _ _ hb4 rfl
    · intro wx hw h_
      have h_6 : (fun u w => u 6 = .agg #[.int .i64 xi, .string ⟨xn.toArray⟩, .int .i64 xo, .int .i64 xk, .int .i64 xh, .int .i64 xs]) u wx := h_.1
      try dsimp only at h_6
      clear h_
      apply wpOp_stepI (i := 11) (le := fun w w' => Below w.heap.size w w') (φ := fun v w' => (fun u w => u 11 = .bool !q) (upd u 11 v) w')
      · simp only [List.getElem?_toArray, List.getElem?_cons_succ, List.getElem?_cons_zero]; rfl
      · rfl
      intro K hK
      simp only [h_6] at hK ⊢
      go_simp
      rw [ite6 HQ.out]
      cases q <;> (go_simp; exact hK.out _ _ (Below.refl _ _) rfl)
    · intro wx hw h_
      have h_11 : (fun u w => u 11 = .bool !q) u wx := h_.1
      try dsimp only at h_11
      clear h_
      apply wpOp_stepI (i := 12) (le := fun w w' => Below w.heap.size w w') (φ := fun v w' => (fun u w => u 12 = .bool !q) (upd u 12 v) w')
      · simp only [List.getElem?_toArray, List.getElem?_cons_succ, List.getElem?_cons_zero]; rfl
      · rfl
      intro K hK
      simp only [h_11] at hK ⊢
      go_simp
      exact hK.out _ _ (Below.refl _ _) rfl
    · intro wx hw h_
      have h_6 : (fun u w => u 6 = .agg #[.int .i64 xi, .string ⟨xn.toArray⟩, .int .i64 xo, .int .i64 xk, .int .i64 xh, .int .i64 xs]) u wx := h_.1
      try dsimp only at h_6
      have h_11 : (fun u w => u 11 = .bool !q) u wx := h_.2.1
      try dsimp only at h_11
      have h_12 : (fun u w => u 12 = .bool !q) u wx := h_.2.2.1
      try dsimp only at h_12
      clear h_
      have hbx := Below.next hyd hw
      have HBX := hid hbx
      have k5 := k5 wx hbx
      have hI1 := HI2.out.1.1.below hbx
      have hI2 := HI2.out.1.2.1.below hbx
      have hI3 := HI2.out.1.2.2.1.below hbx
      have f4 : wx.frozen? ⟨b4, 0, none⟩ = false := hI2.unfrozen 0
      have f5 : wx.frozen? ⟨b5, 0, none⟩ = false := hI3.unfrozen 0
      have k4 : wx.cell? ⟨b4, 0, none⟩ = some (.bool false) := by rw [hI2.cell]; rfl
      have HI3 := hid hI1
      have HI4 := hid hI2
      have HI5 := hid hI3
      clear hI1 hI2 hI3 hbx
      have hwr : IntKind.i64.wrap ((i : Int) + 1) = (i : Int) + 1 := by rw [IntKind.wrap_i64]; have := HL.out; omega
      refine wpK.done (by kernel_rfl) ?_ _
      rw [h_12]
      cases q with
      | true =>
        gi_wp2
        have hN : pre ++ [(⟨xi, xn, xo, (xk, xh, xs)⟩ : Th)] <+: Y := HPS.out.2 (HQ.out.1 trivial)
        have hz := HZ.out
        have hs1 := HI2.out.2.1.size
        have hs2 := HBX.out.size
        have hu := Upd.setCell wx b5 0 (.int .i64 ((i : Int) + 1))
        have hbw := HI2.out.2.1.trans (HBX.out.mono hs1)
        refine ⟨(keepsFrom_below HBX.out).trans ((KeepsOthers.setCell _ _ _).from _), (KeepIt.of_upd (Upd.of_below (S := fun _ => False) HBX.out) (by have := HN0.out; omega) (fun k _ q => q.elim)).trans (KeepIt.of_upd hu (by have := HN0.out; omega) (fun k _ q => by have := HN0.out; subst q; omega)), ⟨HI3.out.upd hu (by intro e; omega), HI4.out.upd hu (by intro e; omega), ?_, hN⟩, hbw.setCell (by show _ ≤ b5; omega) _, by have := hu.size; have := HI2.out.2.2; omega⟩
        have h5 := HI5.out.set 0 (.int .i64 ((i : Int) + 1))
        have hl5 : ((pre ++ [(⟨xi, xn, xo, (xk, xh, xs)⟩ : Th)]).length : Int) = (i : Int) + 1 := by have := HII.out; simp; omega
        rw [hl5]
        exact h5
      | false =>
        gi_wp2
        have hN : ¬ (pre ++ [(⟨xi, xn, xo, (xk, xh, xs)⟩ : Th)] <+: Y) := fun k => by cases HQ.out.2 (HPS.out.1 k)
        exact ⟨(keepsFrom_below HBX.out).trans ((KeepsOthers.setCell _ _ _).from _), ⟨rfl, hN⟩, (HI2.out.2.1.trans (HBX.out.mono HI2.out.2.1.size)).setCell (by have := HZ.out; show _ ≤ b4; omega) _⟩
  case done =>
    rintro D ys W hD hys ⟨⟨h3, h4, h5, h6⟩, hb, hz⟩ hK
    have hys2 := hys.symm
    subst hys2
    have k3 : W.cell? ⟨b3, 0, none⟩ = some (.slice a Y.length c) := by rw [h3.cell]; rfl
    have k5 : W.cell? ⟨b5, 0, none⟩ = some (.int .i64 (Y.length : Int)) := by rw [h5.cell]; rfl
    have k4 : W.cell? ⟨b4, 0, none⟩ = some (.bool false) := by rw [h4.cell]; rfl
    have f4 : W.frozen? ⟨b4, 0, none⟩ = false := h4.unfrozen 0
    gi_wp2
    have hK' := (KeepsOthers.setCell W ⟨b4, 0, none⟩ (.bool true)).same D _ hK rfl
    refine ⟨by simp, .inl ⟨_, _, rfl, run_takeDeferred hK', ?_⟩⟩
    have hc5 := cell_kept (World.cell?_setCell_same' W ⟨b4, 0, none⟩ (.bool true) (by rw [k4]; rfl)) (grownBy_putObj' _ D (.deferred none)) (fun r e => by cases e; exact ⟨_, hK', rfl⟩)
    refine ⟨.bool true, ?_, rfl, (hb.setCell (p := ⟨b4, 0, none⟩) (by have := HZ.out; show _ ≤ b4; omega) _).trans (belowK_b (w := w) (Nat.le_refl _) _ D _ _ (by have := hb.size; have := HB2.out.size; omega) hK' rfl rfl)⟩
    simp [results, Tryd.f21, go_sem, hc5]
  case stop =>
    rintro D c pre W hD hpre ⟨⟨rfl, hin⟩, hB⟩ hK
    exact absurd hpre hin
set_option maxRecDepth 100000 in
theorem of_test (x : Th) (h : Int) (bH : Nat) (q : Bool) (hq : Hid (pOf h x = q)) (w : World) (hH : Blk w bH #[.int .i64 h]) : Calls Tryd.prog 38 #[thV x, .pointer (some ⟨bH, 0, none⟩)] w fun e w' => e = .returned (.bool q) ∧ Below w.heap.size w w' := by
  obtain ⟨xi, xn, xo, xk, xh, xs⟩ := x
  simp only [thV, strV]
  have HH := hid (hH.below (Below.new w (.cells #[.int .i64 xi, .string ⟨xn.toArray⟩, .int .i64 xo, .int .i64 xk, .int .i64 xh, .int .i64 xs] 48)))
  have HQ := hq
  clear hH hq
  go_enter Tryd.func38, Tryd.ntmps38
  go_upto_region 1 with fail
  have HB := hid (Below.new w (.cells #[.int .i64 xi, .string ⟨xn.toArray⟩, .int .i64 xo, .int .i64 xk, .int .i64 xh, .int .i64 xs] 48))
  have HX := hid (Blk.new w #[.int .i64 xi, .string ⟨xn.toArray⟩, .int .i64 xo, .int .i64 xk, .int .i64 xh, .int .i64 xs] 48)
  generalize World.alloc w _ = w1 at HH HB HX ⊢
  obtain ⟨x0, x1, x2, x3, x4, x5⟩ := HX.out.c6
  have h0 : w1.cell? ⟨bH, 0, none⟩ = some (.int .i64 h) := by rw [HH.out.cell]; rfl
  by_cases c1 : xk = 1
  · subst c1
    have hqf : q = false := by rw [← HQ.out]; simp [pOf]
    subst hqf
    go_wp2_with fail
    go_ret
    exact ⟨rfl, HB.out⟩
  · have c1b : (xk != 1) = true := by simpa using c1
    have hqf : q = (xh == h) := by rw [← HQ.out]; unfold pOf; simp [c1]
    subst hqf
    clear c1
    go_wp2_with fail
    go_ret
    exact ⟨rfl, HB.out⟩
set_option maxRecDepth 100000 in
set_option maxHeartbeats 4000000 in
theorem where1_Of (n : Nat) (hn : 1 ≤ n) (h : Int) (l bT bI bH s n0 B : Nat) (F : Nat → Prop) (X : ThX) (J Jx : List Th → World → Prop) (W : World)
    (hY : ∀ pre x W1, J pre W1 → pre.length < (X.L.filter (pOf h)).length → YieldAt Fence.wide (n - 1) Tryd.prog l #[thV x] W1 fun e W' => (e = .returned (.bool true) ∧ J (pre ++ [x]) W' ∧ KeepIt n0 B W1 W') ∨ (e = .returned (.bool false) ∧ Jx (pre ++ [x]) W'))
    (hJ : AbidesFrom W.heap.size J) (hB : B ≤ W.heap.size) (hn0 : n0 ≤ B)
    (hT : Blk W bT #[.pointer (some ⟨s, 0, none⟩)]) (hI : Blk W bI #[.func (.func 38) #[] #[.pointer (some ⟨bH, 0, none⟩)]]) (hH : Blk W bH #[.int .i64 h]) (hTn : bT < n0) (hIn : bI < n0) (hHn : bH < n0)
    (hX : ThingIs W s F X) (hF : ∀ k, F k → k < n0) (h0 : J [] W) (hl : X.L.length ≤ 900) (hnx : X.nx ≤ 4611686018427387904) :
    CallsIn Fence.wide n Tryd.prog 47 #[.func (.yield l) #[] #[], .pointer (some ⟨bT, 0, none⟩), .pointer (some ⟨bI, 0, none⟩)] W fun e W' => (∃ v, e = .returned v) ∧ ((∃ ys, ys = X.L.filter (pOf h) ∧ J ys W') ∨ (∃ pre, pre <+: X.L.filter (pOf h) ∧ Jx pre W')) := by
  obtain ⟨⟨b1, b2, M, R, hp, hr, hs⟩, hi⟩ := id hX
  have t0 : W.cell? ⟨bT, 0, none⟩ = some (.pointer (some ⟨s, 0, none⟩)) := by rw [hT.cell]; rfl
  obtain ⟨s0, -, -⟩ := hp.cells
  have HM := hid hp.m1
  have HWF : Hid (∀ p ∈ M.map thKV, (Lit.int .i64 p.1).wf = true) := hid (fun p hpm => by
    obtain ⟨x, hx, rfl⟩ := List.mem_map.1 hpm
    have h1 := (hi.one x (hr.r1.mem_iff.1 hx)).1
    show (Lit.int .i64 x.id).wf = true
    exact Go.WalkArith.wf_i64 ⟨by omega, by omega⟩)
  have HLEN : Hid ((M.map thKV).length ≤ 1000000) := hid (by rw [List.length_map, hr.r1.length_eq]; omega)
  obtain ⟨N, hN⟩ : ∃ N, X.L.length = N := ⟨_, rfl⟩
  have HN := hid hN
  have HKEY : Hid (keysL (M.map thKV) = X.L.map (fun x => x.id)) := hid (keysT_of hr.r1 hs)
  refine callsIn_of_wp Tryd.func47 rfl trivial ?_ rfl
  simp only [Tryd.ntmps47, List.size_toArray, List.length_cons, List.length_nil, Nat.reduceAdd, Nat.reduceSub, Array.replicate_succ, Array.replicate_zero, List.push_toArray, List.append_toArray, List.nil_append, List.cons_append]
  gi_wp2_with (first | (refine ⟨trivial, ?_⟩; gi_at_call 49; refine (callsIn_wide.2 (keys_TT (some b1) _)).mono ?_; rintro e w' ⟨rfl, rfl⟩) | (refine ⟨trivial, ?_⟩; gi_at_call 48; refine (callsIn_wide.2 (sorted_TT b1 _ W HM.out HWF.out HLEN.out)).mono ?_; rintro e w2 ⟨v, rfl, hown, hbW⟩; rw [HKEY.out, List.length_map, HN.out] at hown; obtain ⟨av, cv, rfl, -, -, hrd, -⟩ := ownsRow.rd hown))
  have hids : IdsAt B w2 av X.L := fun j x hx => by
    obtain ⟨g, off, ha, hc⟩ := hrd j (by rw [List.length_map, List.length_map]; exact (List.getElem?_eq_some_iff.1 hx).1)
    refine ⟨g, off, ha, ?_, ?_⟩
    · have h1 := hown.lt g (by rw [ha]; rfl)
      omega
    · rw [hc, List.getElem?_map, List.getElem?_map, hx]; rfl
  have hJ2 : J [] w2 := hJ _ _ _ none h0 (grown_below hbW) (fun r e => by cases e)
  have hX2 := hX.below hbW
  have hT2 := hT.below hbW
  have hI2 := hI.below hbW
  have hH2 := hH.below hbW
  have hz2 := hbW.size
  clear hown hrd hbW t0 s0 h0
  gi_loopw [14] (fun v14 wr => ∃ k : Nat, v14 = .int .i64 (k : Int) ∧ k ≤ N ∧ Hid (Blk wr bH #[.int .i64 h]) ∧ Hid (J ((X.L.take k).filter (pOf h)) wr ∧ ThingIs wr s F X ∧ Blk wr bT #[.pointer (some ⟨s, 0, none⟩)] ∧ Blk wr bI #[.func (.func 38) #[] #[.pointer (some ⟨bH, 0, none⟩)]] ∧ IdsAt B wr av X.L ∧ W.heap.size ≤ wr.heap.size)) (fun v14 _ => N - (intOf v14).toNat)
  case atStart => exact ⟨0, rfl, by omega, hid hH2, hid ⟨hJ2, hX2, hT2, hI2, hids, hz2⟩⟩
  case round =>
    clear hJ2 hX2 hT2 hI2 hH2 hids hz2
    obtain ⟨k, rfl, hk, HRH, HR⟩ := hrel
    by_cases hlt : k < N
    · have k1 : (k : Int) < (N : Int) := by omega
      have k0 : (0 : Int) ≤ (k : Int) := by omega
      have hk63 : (k : Int) ≤ 900 := by have := HN.out; omega
      obtain ⟨x, hx⟩ : ∃ x, X.L[k]? = some x := ⟨_, List.getElem?_eq_getElem (by have := HN.out; omega)⟩
      obtain ⟨g, off, rfl, hBg, d0⟩ := HR.out.2.2.2.2.1 k x hx
      have t0 : wr.cell? ⟨bT, 0, none⟩ = some (.pointer (some ⟨s, 0, none⟩)) := by rw [HR.out.2.2.1.cell]; rfl
      obtain ⟨⟨b1', b2', M', R', hp', hr', hs'⟩, -⟩ := id HR.out.2.1
      obtain ⟨s0, -, -⟩ := hp'.cells
      have HM' := hid hp'.m1
      have HLK : Hid (((M'.map thKV).lookup x.id).getD (thV ⟨0, [], 0, (0, 0, 0)⟩) = thV x) := hid (by rw [lookM hr'.r1 hs', (fdT_some hs').2 ⟨List.mem_of_getElem? hx, rfl⟩]; rfl)
      have HTK : Hid (X.L.take (k + 1) = X.L.take k ++ [x]) := hid (by
        obtain ⟨h1, h2⟩ := List.getElem?_eq_some_iff.1 hx
        rw [List.take_succ_eq_append_getElem h1, h2])
      obtain ⟨q, hq⟩ : ∃ q, pOf h x = q := ⟨_, rfl⟩
      have HQ := hid hq
      have HAT := hid (fun W' hW' => of_test x h bH q HQ W' hW')
      cases q with
      | true =>
        have HFT : Hid ((X.L.take (k + 1)).filter (pOf h) = (X.L.take k).filter (pOf h) ++ [x]) := hid (by rw [HTK.out, List.filter_append]; simp [hq])
        have HPF : Hid ((X.L.take (k + 1)).filter (pOf h) <+: X.L.filter (pOf h)) := hid ((List.take_prefix _ _).filter _)
        have HPX : Hid (((X.L.take k).filter (pOf h)).length < (X.L.filter (pOf h)).length) := hid (by have := HPF.out.length_le; rw [HFT.out, List.length_append] at this; simp at this; omega)
        have HYY := hid (fun W1 h9 => hY ((X.L.take k).filter (pOf h)) x W1 h9 HPX.out)
        clear hq
        obtain ⟨xi, xn, xo, xk, xh, xs⟩ := x
        simp only [thV, strV] at d0 HLK HAT HYY
        have HX6 : Hid (Blk (wr.alloc (.cells #[.int .i64 xi, .string ⟨xn.toArray⟩, .int .i64 xo, .int .i64 xk, .int .i64 xh, .int .i64 xs] 48)) wr.heap.size #[.int .i64 xi, .string ⟨xn.toArray⟩, .int .i64 xo, .int .i64 xk, .int .i64 xh, .int .i64 xs]) := hid (Blk.new _ _ _)
        have i0 : (wr.alloc (.cells #[.int .i64 xi, .string ⟨xn.toArray⟩, .int .i64 xo, .int .i64 xk, .int .i64 xh, .int .i64 xs] 48)).cell? ⟨bI, 0, none⟩ = some (.func (.func 38) #[] #[.pointer (some ⟨bH, 0, none⟩)]) := by rw [(HR.out.2.2.2.1.below (Below.new _ _)).cell]; rfl
        have HBN := hid (Below.new wr (.cells #[.int .i64 xi, .string ⟨xn.toArray⟩, .int .i64 xo, .int .i64 xk, .int .i64 xh, .int .i64 xs] 48))
        have HBH6 := hid (HRH.out.below (Below.new wr (.cells #[.int .i64 xi, .string ⟨xn.toArray⟩, .int .i64 xo, .int .i64 xk, .int .i64 xh, .int .i64 xs] 48)))
        clear hx hp' hr' hs'
        gi_wp2_with (first | (refine ⟨trivial, ?_⟩; gi_at_call 38; refine (callsIn_wide.2 (HAT.out _ HBH6.out)).mono ?_; rintro e w4 ⟨rfl, hb4⟩; obtain ⟨x0, x1, x2, x3, x4, x5⟩ := (HX6.out.below hb4).c6; have HB4 := hid (Below.next HBN.out hb4); have HJ4 := hid (hJ _ _ _ none HR.out.1 (grown_below HB4.out) (fun r e => by cases e)); obtain ⟨fn, tmps, assign, body, hy, hR⟩ := HYY.out w4 HJ4.out) | (gi_at_lookup; refine wpListIn_look1 _ rfl _ _ rfl Tryd.underlying68 Tryd.underlying3 _ zero_thing21 rfl HM'.out xi rfl _ HLK ?_))
        have HQ4 : Hid (ThingIs w4 s F X ∧ Blk w4 bT #[.pointer (some ⟨s, 0, none⟩)] ∧ Blk w4 bI #[.func (.func 38) #[] #[.pointer (some ⟨bH, 0, none⟩)]] ∧ IdsAt B w4 (some ⟨g, off, none⟩) X.L ∧ W.heap.size ≤ w4.heap.size) := hid ⟨HR.out.2.1.below HB4.out, HR.out.2.2.1.below HB4.out, HR.out.2.2.2.1.below HB4.out, HR.out.2.2.2.2.1.below HB4.out, by have := HR.out.2.2.2.2.2; have := HB4.out.size; omega⟩
        have HRH4 := hid (HRH.out.below HB4.out)
        clear x0 x1 x2 x3 x4 x5 hb4 hy t0 s0 i0 d0
        refine hR.mono ?_
        clear hR
        rintro e W3 (⟨rfl, hJ3, hk3⟩ | ⟨rfl, hJx3⟩)
        · have HR3 : Hid (J ((X.L.take (k + 1)).filter (pOf h)) W3 ∧ ThingIs W3 s F X ∧ Blk W3 bT #[.pointer (some ⟨s, 0, none⟩)] ∧ Blk W3 bI #[.func (.func 38) #[] #[.pointer (some ⟨bH, 0, none⟩)]] ∧ IdsAt B W3 (some ⟨g, off, none⟩) X.L ∧ W.heap.size ≤ W3.heap.size) := hid ⟨by rw [HFT.out]; exact hJ3, hk3.thing HQ4.out.1 hF, hk3.blkLow hTn HQ4.out.2.1, hk3.blkLow hIn HQ4.out.2.2.1, HQ4.out.2.2.2.1.keep hk3, by have := HQ4.out.2.2.2.2; have := hk3.size; omega⟩
          have HRH3 := hid (hk3.blkLow hHn HRH4.out)
          clear hJ3 hk3
          gi_wp2
          go_roundw
          case rel => exact ⟨k + 1, by go_num, by omega, HRH3, HR3⟩
          case measure => simp [intOf]; omega
        · have HJX : Hid (Jx ((X.L.take (k + 1)).filter (pOf h)) W3) := hid (by rw [HFT.out]; exact hJx3)
          clear hJx3
          gi_wp2
          refine bodyPost_ret (results_none rfl _ _ _) rfl ?_
          exact ⟨⟨_, rfl⟩, .inr ⟨_, HPF.out, HJX.out⟩⟩
      | false =>
        have HFT : Hid ((X.L.take (k + 1)).filter (pOf h) = (X.L.take k).filter (pOf h)) := hid (by rw [HTK.out, List.filter_append]; simp [hq])
        clear hq
        obtain ⟨xi, xn, xo, xk, xh, xs⟩ := x
        simp only [thV, strV] at d0 HLK HAT
        have HX6 : Hid (Blk (wr.alloc (.cells #[.int .i64 xi, .string ⟨xn.toArray⟩, .int .i64 xo, .int .i64 xk, .int .i64 xh, .int .i64 xs] 48)) wr.heap.size #[.int .i64 xi, .string ⟨xn.toArray⟩, .int .i64 xo, .int .i64 xk, .int .i64 xh, .int .i64 xs]) := hid (Blk.new _ _ _)
        have i0 : (wr.alloc (.cells #[.int .i64 xi, .string ⟨xn.toArray⟩, .int .i64 xo, .int .i64 xk, .int .i64 xh, .int .i64 xs] 48)).cell? ⟨bI, 0, none⟩ = some (.func (.func 38) #[] #[.pointer (some ⟨bH, 0, none⟩)]) := by rw [(HR.out.2.2.2.1.below (Below.new _ _)).cell]; rfl
        have HBN := hid (Below.new wr (.cells #[.int .i64 xi, .string ⟨xn.toArray⟩, .int .i64 xo, .int .i64 xk, .int .i64 xh, .int .i64 xs] 48))
        have HBH6 := hid (HRH.out.below (Below.new wr (.cells #[.int .i64 xi, .string ⟨xn.toArray⟩, .int .i64 xo, .int .i64 xk, .int .i64 xh, .int .i64 xs] 48)))
        clear hx hp' hr' hs'
        have hwf : ∀ f : FuncId, Fence.wide.fn f = True := fun _ => rfl
        gi_wp2_with (gi_at_lookup; refine wpListIn_look1 _ rfl _ _ rfl Tryd.underlying68 Tryd.underlying3 _ zero_thing21 rfl HM'.out xi rfl _ HLK ?_)
        refine (callsIn_wide.2 (HAT.out _ HBH6.out)).mono ?_
        rintro e w4 ⟨rfl, hb4⟩
        obtain ⟨x0, x1, x2, x3, x4, x5⟩ := (HX6.out.below hb4).c6
        have HB4 := hid (Below.next HBN.out hb4)
        have HJ4 := hid (hJ _ _ _ none HR.out.1 (grown_below HB4.out) (fun r e => by cases e))
        clear hb4
        gi_wp2
        go_roundw
        case rel => exact ⟨k + 1, by go_num, by omega, hid (HRH.out.below HB4.out), hid ⟨by rw [HFT.out]; exact HJ4.out, HR.out.2.1.below HB4.out, HR.out.2.2.1.below HB4.out, HR.out.2.2.2.1.below HB4.out, HR.out.2.2.2.2.1.below HB4.out, by have := HR.out.2.2.2.2.2; have := HB4.out.size; omega⟩⟩
        case measure => simp [intOf]; omega
    · have k1 : ¬ (k : Int) < (N : Int) := by omega
      have HJE : Hid (J (X.L.filter (pOf h)) wr) := hid (by
        have := HR.out.1
        rw [List.take_of_length_le (by have := HN.out; omega)] at this
        exact this)
      gi_wp2
      go_end0
      exact ⟨⟨_, rfl⟩, .inl HJE.out⟩
theorem stops_Of (h : Int) (bT bI bH s n0 : Nat) (F : Nat → Prop) (X : ThX) (w0 : World) (hn0 : n0 ≤ w0.heap.size)
    (hT : Blk w0 bT #[.pointer (some ⟨s, 0, none⟩)]) (hI : Blk w0 bI #[.func (.func 38) #[] #[.pointer (some ⟨bH, 0, none⟩)]]) (hH : Blk w0 bH #[.int .i64 h]) (hTn : bT < n0) (hIn : bI < n0) (hHn : bH < n0)
    (hX : ThingIs w0 s F X) (hF : ∀ k, F k → k < n0) (hl : X.L.length ≤ 900) (hnx : X.nx ≤ 4611686018427387904) :
    SeqStopsK Fence.wide 4 Tryd.prog 47 #[.pointer (some ⟨bT, 0, none⟩), .pointer (some ⟨bI, 0, none⟩)] (fun x : Th => #[thV x]) (KeepIt n0 w0.heap.size) (fun ys => ys = X.L.filter (pOf h)) (fun pre => pre <+: X.L.filter (pOf h)) (X.L.filter (pOf h)).length w0 := fun l J Jx W hW hJ _ hY h0 =>
  where1_Of 4 (by omega) h l bT bI bH s n0 w0.heap.size F X J Jx W hY hJ hW.size hn0 (hT.below hW) (hI.below hW) (hH.below hW) hTn hIn hHn (hX.below hW) hF h0 hl hnx
set_option maxRecDepth 100000 in
theorem thing_Of (w : World) (s : Nat) (h : Int) :
    Calls Tryd.prog 22 #[.pointer (some ⟨s, 0, none⟩), .int .i64 h] w fun e w' => ∃ bT bI bH, e = .returned (.func (.func 47) #[] #[.pointer (some ⟨bT, 0, none⟩), .pointer (some ⟨bI, 0, none⟩)]) ∧ Blk w' bT #[.pointer (some ⟨s, 0, none⟩)] ∧ Blk w' bI #[.func (.func 38) #[] #[.pointer (some ⟨bH, 0, none⟩)]] ∧ Blk w' bH #[.int .i64 h] ∧ Below w.heap.size w w' := by
  go_enter Tryd.func22, Tryd.ntmps22
  go_upto_region 1 with fail
  have HB := hid (Below.new w (.cells #[.int .i64 h] 3))
  have HH := hid (Blk.new w #[.int .i64 h] 3)
  generalize World.alloc w _ = w1 at HB HH ⊢
  obtain ⟨bH, hbH⟩ : ∃ b, b = w.heap.size := ⟨_, rfl⟩
  rw [← hbH] at HH ⊢
  clear hbH
  go_wp2_with fail
  refine (thing_where w1 s 38 #[.pointer (some ⟨bH, 0, none⟩)]).mono ?_
  rintro e w2 ⟨bT, bI, rfl, h1, h2, hb⟩
  have HQ := hid (And.intro h1 (And.intro h2 hb))
  clear h1 h2 hb
  go_wp2_with fail
  go_ret
  exact ⟨bT, bI, bH, rfl, HQ.out.1, HQ.out.2.1, HH.out.below HQ.out.2.2, Below.next HB.out HQ.out.2.2⟩
set_option maxRecDepth 100000 in
theorem owned_test (x : Th) (h : Int) (bH : Nat) (q : Bool) (hq : Hid (pOwned h x = q)) (w : World) (hH : Blk w bH #[.int .i64 h]) : Calls Tryd.prog 39 #[thV x, .pointer (some ⟨bH, 0, none⟩)] w fun e w' => e = .returned (.bool q) ∧ Below w.heap.size w w' := by
  obtain ⟨xi, xn, xo, xk, xh, xs⟩ := x
  simp only [thV, strV]
  have HH := hid (hH.below (Below.new w (.cells #[.int .i64 xi, .string ⟨xn.toArray⟩, .int .i64 xo, .int .i64 xk, .int .i64 xh, .int .i64 xs] 48)))
  have HQ := hq
  clear hH hq
  go_enter Tryd.func39, Tryd.ntmps39
  go_upto_region 1 with fail
  have HB := hid (Below.new w (.cells #[.int .i64 xi, .string ⟨xn.toArray⟩, .int .i64 xo, .int .i64 xk, .int .i64 xh, .int .i64 xs] 48))
  have HX := hid (Blk.new w #[.int .i64 xi, .string ⟨xn.toArray⟩, .int .i64 xo, .int .i64 xk, .int .i64 xh, .int .i64 xs] 48)
  generalize World.alloc w _ = w1 at HH HB HX ⊢
  obtain ⟨x0, x1, x2, x3, x4, x5⟩ := HX.out.c6
  have h0 : w1.cell? ⟨bH, 0, none⟩ = some (.int .i64 h) := by rw [HH.out.cell]; rfl
  have hqq : q = (xo == h) := HQ.out.symm
  subst hqq
  go_wp2_with fail
  go_ret
  exact ⟨rfl, HB.out⟩
set_option maxRecDepth 100000 in
set_option maxHeartbeats 4000000 in
theorem where1_Owned (n : Nat) (hn : 1 ≤ n) (h : Int) (l bT bI bH s n0 B : Nat) (F : Nat → Prop) (X : ThX) (J Jx : List Th → World → Prop) (W : World)
    (hY : ∀ pre x W1, J pre W1 → pre.length < (X.L.filter (pOwned h)).length → YieldAt Fence.wide (n - 1) Tryd.prog l #[thV x] W1 fun e W' => (e = .returned (.bool true) ∧ J (pre ++ [x]) W' ∧ KeepIt n0 B W1 W') ∨ (e = .returned (.bool false) ∧ Jx (pre ++ [x]) W'))
    (hJ : AbidesFrom W.heap.size J) (hB : B ≤ W.heap.size) (hn0 : n0 ≤ B)
    (hT : Blk W bT #[.pointer (some ⟨s, 0, none⟩)]) (hI : Blk W bI #[.func (.func 39) #[] #[.pointer (some ⟨bH, 0, none⟩)]]) (hH : Blk W bH #[.int .i64 h]) (hTn : bT < n0) (hIn : bI < n0) (hHn : bH < n0)
    (hX : ThingIs W s F X) (hF : ∀ k, F k → k < n0) (h0 : J [] W) (hl : X.L.length ≤ 900) (hnx : X.nx ≤ 4611686018427387904) :
    CallsIn Fence.wide n Tryd.prog 47 #[.func (.yield l) #[] #[], .pointer (some ⟨bT, 0, none⟩), .pointer (some ⟨bI, 0, none⟩)] W fun e W' => (∃ v, e = .returned v) ∧ ((∃ ys, ys = X.L.filter (pOwned h) ∧ J ys W') ∨ (∃ pre, pre <+: X.L.filter (pOwned h) ∧ Jx pre W')) := by
  obtain ⟨⟨b1, b2, M, R, hp, hr, hs⟩, hi⟩ := id hX
  have t0 : W.cell? ⟨bT, 0, none⟩ = some (.pointer (some ⟨s, 0, none⟩)) := by rw [hT.cell]; rfl
  obtain ⟨s0, -, -⟩ := hp.cells
  have HM := hid hp.m1
  have HWF : Hid (∀ p ∈ M.map thKV, (Lit.int .i64 p.1).wf = true) := hid (fun p hpm => by
    obtain ⟨x, hx, rfl⟩ := List.mem_map.1 hpm
    have h1 := (hi.one x (hr.r1.mem_iff.1 hx)).1
    show (Lit.int .i64 x.id).wf = true
    exact Go.WalkArith.wf_i64 ⟨by omega, by omega⟩)
  have HLEN : Hid ((M.map thKV).length ≤ 1000000) := hid (by rw [List.length_map, hr.r1.length_eq]; omega)
  obtain ⟨N, hN⟩ : ∃ N, X.L.length = N := ⟨_, rfl⟩
  have HN := hid hN
  have HKEY : Hid (keysL (M.map thKV) = X.L.map (fun x => x.id)) := hid (keysT_of hr.r1 hs)
  refine callsIn_of_wp Tryd.func47 rfl trivial ?_ rfl
  simp only [Tryd.ntmps47, List.size_toArray, List.length_cons, List.length_nil, Nat.reduceAdd, Nat.reduceSub, Array.replicate_succ, Array.replicate_zero, List.push_toArray, List.append_toArray, List.nil_append, List.cons_append]
  gi_wp2_with (first | (refine ⟨trivial, ?_⟩; gi_at_call 49; refine (callsIn_wide.2 (keys_TT (some b1) _)).mono ?_; rintro e w' ⟨rfl, rfl⟩) | (refine ⟨trivial, ?_⟩; gi_at_call 48; refine (callsIn_wide.2 (sorted_TT b1 _ W HM.out HWF.out HLEN.out)).mono ?_; rintro e w2 ⟨v, rfl, hown, hbW⟩; rw [HKEY.out, List.length_map, HN.out] at hown; obtain ⟨av, cv, rfl, -, -, hrd, -⟩ := ownsRow.rd hown))
  have hids : IdsAt B w2 av X.L := fun j x hx => by
    obtain ⟨g, off, ha, hc⟩ := hrd j (by rw [List.length_map, List.length_map]; exact (List.getElem?_eq_some_iff.1 hx).1)
    refine ⟨g, off, ha, ?_, ?_⟩
    · have h1 := hown.lt g (by rw [ha]; rfl)
      omega
    · rw [hc, List.getElem?_map, List.getElem?_map, hx]; rfl
  have hJ2 : J [] w2 := hJ _ _ _ none h0 (grown_below hbW) (fun r e => by cases e)
  have hX2 := hX.below hbW
  have hT2 := hT.below hbW
  have hI2 := hI.below hbW
  have hH2 := hH.below hbW
  have hz2 := hbW.size
  clear hown hrd hbW t0 s0 h0
  gi_loopw [14] (fun v14 wr => ∃ k : Nat, v14 = .int .i64 (k : Int) ∧ k ≤ N ∧ Hid (Blk wr bH #[.int .i64 h]) ∧ Hid (J ((X.L.take k).filter (pOwned h)) wr ∧ ThingIs wr s F X ∧ Blk wr bT #[.pointer (some ⟨s, 0, none⟩)] ∧ Blk wr bI #[.func (.func 39) #[] #[.pointer (some ⟨bH, 0, none⟩)]] ∧ IdsAt B wr av X.L ∧ W.heap.size ≤ wr.heap.size)) (fun v14 _ => N - (intOf v14).toNat)
  case atStart => exact ⟨0, rfl, by omega, hid hH2, hid ⟨hJ2, hX2, hT2, hI2, hids, hz2⟩⟩
  case round =>
    clear hJ2 hX2 hT2 hI2 hH2 hids hz2
    obtain ⟨k, rfl, hk, HRH, HR⟩ := hrel
    by_cases hlt : k < N
    · have k1 : (k : Int) < (N : Int) := by omega
      have k0 : (0 : Int) ≤ (k : Int) := by omega
      have hk63 : (k : Int) ≤ 900 := by have := HN.out; omega
      obtain ⟨x, hx⟩ : ∃ x, X.L[k]? = some x := ⟨_, List.getElem?_eq_getElem (by have := HN.out; omega)⟩
      obtain ⟨g, off, rfl, hBg, d0⟩ := HR.out.2.2.2.2.1 k x hx
      have t0 : wr.cell? ⟨bT, 0, none⟩ = some (.pointer (some ⟨s, 0, none⟩)) := by rw [HR.out.2.2.1.cell]; rfl
      obtain ⟨⟨b1', b2', M', R', hp', hr', hs'⟩, -⟩ := id HR.out.2.1
      obtain ⟨s0, -, -⟩ := hp'.cells
      have HM' := hid hp'.m1
      have HLK : Hid (((M'.map thKV).lookup x.id).getD (thV ⟨0, [], 0, (0, 0, 0)⟩) = thV x) := hid (by rw [lookM hr'.r1 hs', (fdT_some hs').2 ⟨List.mem_of_getElem? hx, rfl⟩]; rfl)
      have HTK : Hid (X.L.take (k + 1) = X.L.take k ++ [x]) := hid (by
        obtain ⟨h1, h2⟩ := List.getElem?_eq_some_iff.1 hx
        rw [List.take_succ_eq_append_getElem h1, h2])
      obtain ⟨q, hq⟩ : ∃ q, pOwned h x = q := ⟨_, rfl⟩
      have HQ := hid hq
      have HAT := hid (fun W' hW' => owned_test x h bH q HQ W' hW')
      cases q with
      | true =>
        have HFT : Hid ((X.L.take (k + 1)).filter (pOwned h) = (X.L.take k).filter (pOwned h) ++ [x]) := hid (by rw [HTK.out, List.filter_append]; simp [hq])
        have HPF : Hid ((X.L.take (k + 1)).filter (pOwned h) <+: X.L.filter (pOwned h)) := hid ((List.take_prefix _ _).filter _)
        have HPX : Hid (((X.L.take k).filter (pOwned h)).length < (X.L.filter (pOwned h)).length) := hid (by have := HPF.out.length_le; rw [HFT.out, List.length_append] at this; simp at this; omega)
        have HYY := hid (fun W1 h9 => hY ((X.L.take k).filter (pOwned h)) x W1 h9 HPX.out)
        clear hq
        obtain ⟨xi, xn, xo, xk, xh, xs⟩ := x
        simp only [thV, strV] at d0 HLK HAT HYY
        have HX6 : Hid (Blk (wr.alloc (.cells #[.int .i64 xi, .string ⟨xn.toArray⟩, .int .i64 xo, .int .i64 xk, .int .i64 xh, .int .i64 xs] 48)) wr.heap.size #[.int .i64 xi, .string ⟨xn.toArray⟩, .int .i64 xo, .int .i64 xk, .int .i64 xh, .int .i64 xs]) := hid (Blk.new _ _ _)
        have i0 : (wr.alloc (.cells #[.int .i64 xi, .string ⟨xn.toArray⟩, .int .i64 xo, .int .i64 xk, .int .i64 xh, .int .i64 xs] 48)).cell? ⟨bI, 0, none⟩ = some (.func (.func 39) #[] #[.pointer (some ⟨bH, 0, none⟩)]) := by rw [(HR.out.2.2.2.1.below (Below.new _ _)).cell]; rfl
        have HBN := hid (Below.new wr (.cells #[.int .i64 xi, .string ⟨xn.toArray⟩, .int .i64 xo, .int .i64 xk, .int .i64 xh, .int .i64 xs] 48))
        have HBH6 := hid (HRH.out.below (Below.new wr (.cells #[.int .i64 xi, .string ⟨xn.toArray⟩, .int .i64 xo, .int .i64 xk, .int .i64 xh, .int .i64 xs] 48)))
        clear hx hp' hr' hs'
        gi_wp2_with (first | (refine ⟨trivial, ?_⟩; gi_at_call 39; refine (callsIn_wide.2 (HAT.out _ HBH6.out)).mono ?_; rintro e w4 ⟨rfl, hb4⟩; obtain ⟨x0, x1, x2, x3, x4, x5⟩ := (HX6.out.below hb4).c6; have HB4 := hid (Below.next HBN.out hb4); have HJ4 := hid (hJ _ _ _ none HR.out.1 (grown_below HB4.out) (fun r e => by cases e)); obtain ⟨fn, tmps, assign, body, hy, hR⟩ := HYY.out w4 HJ4.out) | (gi_at_lookup; refine wpListIn_look1 _ rfl _ _ rfl Tryd.underlying68 Tryd.underlying3 _ zero_thing21 rfl HM'.out xi rfl _ HLK ?_))
        have HQ4 : Hid (ThingIs w4 s F X ∧ Blk w4 bT #[.pointer (some ⟨s, 0, none⟩)] ∧ Blk w4 bI #[.func (.func 39) #[] #[.pointer (some ⟨bH, 0, none⟩)]] ∧ IdsAt B w4 (some ⟨g, off, none⟩) X.L ∧ W.heap.size ≤ w4.heap.size) := hid ⟨HR.out.2.1.below HB4.out, HR.out.2.2.1.below HB4.out, HR.out.2.2.2.1.below HB4.out, HR.out.2.2.2.2.1.below HB4.out, by have := HR.out.2.2.2.2.2; have := HB4.out.size; omega⟩
        have HRH4 := hid (HRH.out.below HB4.out)
        clear x0 x1 x2 x3 x4 x5 hb4 hy t0 s0 i0 d0
        refine hR.mono ?_
        clear hR
        rintro e W3 (⟨rfl, hJ3, hk3⟩ | ⟨rfl, hJx3⟩)
        · have HR3 : Hid (J ((X.L.take (k + 1)).filter (pOwned h)) W3 ∧ ThingIs W3 s F X ∧ Blk W3 bT #[.pointer (some ⟨s, 0, none⟩)] ∧ Blk W3 bI #[.func (.func 39) #[] #[.pointer (some ⟨bH, 0, none⟩)]] ∧ IdsAt B W3 (some ⟨g, off, none⟩) X.L ∧ W.heap.size ≤ W3.heap.size) := hid ⟨by rw [HFT.out]; exact hJ3, hk3.thing HQ4.out.1 hF, hk3.blkLow hTn HQ4.out.2.1, hk3.blkLow hIn HQ4.out.2.2.1, HQ4.out.2.2.2.1.keep hk3, by have := HQ4.out.2.2.2.2; have := hk3.size; omega⟩
          have HRH3 := hid (hk3.blkLow hHn HRH4.out)
          clear hJ3 hk3
          gi_wp2
          go_roundw
          case rel => exact ⟨k + 1, by go_num, by omega, HRH3, HR3⟩
          case measure => simp [intOf]; omega
        · have HJX : Hid (Jx ((X.L.take (k + 1)).filter (pOwned h)) W3) := hid (by rw [HFT.out]; exact hJx3)
          clear hJx3
          gi_wp2
          refine bodyPost_ret (results_none rfl _ _ _) rfl ?_
          exact ⟨⟨_, rfl⟩, .inr ⟨_, HPF.out, HJX.out⟩⟩
      | false =>
        have HFT : Hid ((X.L.take (k + 1)).filter (pOwned h) = (X.L.take k).filter (pOwned h)) := hid (by rw [HTK.out, List.filter_append]; simp [hq])
        clear hq
        obtain ⟨xi, xn, xo, xk, xh, xs⟩ := x
        simp only [thV, strV] at d0 HLK HAT
        have HX6 : Hid (Blk (wr.alloc (.cells #[.int .i64 xi, .string ⟨xn.toArray⟩, .int .i64 xo, .int .i64 xk, .int .i64 xh, .int .i64 xs] 48)) wr.heap.size #[.int .i64 xi, .string ⟨xn.toArray⟩, .int .i64 xo, .int .i64 xk, .int .i64 xh, .int .i64 xs]) := hid (Blk.new _ _ _)
        have i0 : (wr.alloc (.cells #[.int .i64 xi, .string ⟨xn.toArray⟩, .int .i64 xo, .int .i64 xk, .int .i64 xh, .int .i64 xs] 48)).cell? ⟨bI, 0, none⟩ = some (.func (.func 39) #[] #[.pointer (some ⟨bH, 0, none⟩)]) := by rw [(HR.out.2.2.2.1.below (Below.new _ _)).cell]; rfl
        have HBN := hid (Below.new wr (.cells #[.int .i64 xi, .string ⟨xn.toArray⟩, .int .i64 xo, .int .i64 xk, .int .i64 xh, .int .i64 xs] 48))
        have HBH6 := hid (HRH.out.below (Below.new wr (.cells #[.int .i64 xi, .string ⟨xn.toArray⟩, .int .i64 xo, .int .i64 xk, .int .i64 xh, .int .i64 xs] 48)))
        clear hx hp' hr' hs'
        have hwf : ∀ f : FuncId, Fence.wide.fn f = True := fun _ => rfl
        gi_wp2_with (gi_at_lookup; refine wpListIn_look1 _ rfl _ _ rfl Tryd.underlying68 Tryd.underlying3 _ zero_thing21 rfl HM'.out xi rfl _ HLK ?_)
        refine (callsIn_wide.2 (HAT.out _ HBH6.out)).mono ?_
        rintro e w4 ⟨rfl, hb4⟩
        obtain ⟨x0, x1, x2, x3, x4, x5⟩ := (HX6.out.below hb4).c6
        have HB4 := hid (Below.next HBN.out hb4)
        have HJ4 := hid (hJ _ _ _ none HR.out.1 (grown_below HB4.out) (fun r e => by cases e))
        clear hb4
        gi_wp2
        go_roundw
        case rel => exact ⟨k + 1, by go_num, by omega, hid (HRH.out.below HB4.out), hid ⟨by rw [HFT.out]; exact HJ4.out, HR.out.2.1.below HB4.out, HR.out.2.2.1.below HB4.out, HR.out.2.2.2.1.below HB4.out, HR.out.2.2.2.2.1.below HB4.out, by have := HR.out.2.2.2.2.2; have := HB4.out.size; omega⟩⟩
        case measure => simp [intOf]; omega
    · have k1 : ¬ (k : Int) < (N : Int) := by omega
      have HJE : Hid (J (X.L.filter (pOwned h)) wr) := hid (by
        have := HR.out.1
        rw [List.take_of_length_le (by have := HN.out; omega)] at this
        exact this)
      gi_wp2
      go_end0
      exact ⟨⟨_, rfl⟩, .inl HJE.out⟩
theorem stops_Owned (h : Int) (bT bI bH s n0 : Nat) (F : Nat → Prop) (X : ThX) (w0 : World) (hn0 : n0 ≤ w0.heap.size)
    (hT : Blk w0 bT #[.pointer (some ⟨s, 0, none⟩)]) (hI : Blk w0 bI #[.func (.func 39) #[] #[.pointer (some ⟨bH, 0, none⟩)]]) (hH : Blk w0 bH #[.int .i64 h]) (hTn : bT < n0) (hIn : bI < n0) (hHn : bH < n0)
    (hX : ThingIs w0 s F X) (hF : ∀ k, F k → k < n0) (hl : X.L.length ≤ 900) (hnx : X.nx ≤ 4611686018427387904) :
    SeqStopsK Fence.wide 4 Tryd.prog 47 #[.pointer (some ⟨bT, 0, none⟩), .pointer (some ⟨bI, 0, none⟩)] (fun x : Th => #[thV x]) (KeepIt n0 w0.heap.size) (fun ys => ys = X.L.filter (pOwned h)) (fun pre => pre <+: X.L.filter (pOwned h)) (X.L.filter (pOwned h)).length w0 := fun l J Jx W hW hJ _ hY h0 =>
  where1_Owned 4 (by omega) h l bT bI bH s n0 w0.heap.size F X J Jx W hY hJ hW.size hn0 (hT.below hW) (hI.below hW) (hH.below hW) hTn hIn hHn (hX.below hW) hF h0 hl hnx
set_option maxRecDepth 100000 in
theorem thing_Owned (w : World) (s : Nat) (h : Int) :
    Calls Tryd.prog 23 #[.pointer (some ⟨s, 0, none⟩), .int .i64 h] w fun e w' => ∃ bT bI bH, e = .returned (.func (.func 47) #[] #[.pointer (some ⟨bT, 0, none⟩), .pointer (some ⟨bI, 0, none⟩)]) ∧ Blk w' bT #[.pointer (some ⟨s, 0, none⟩)] ∧ Blk w' bI #[.func (.func 39) #[] #[.pointer (some ⟨bH, 0, none⟩)]] ∧ Blk w' bH #[.int .i64 h] ∧ Below w.heap.size w w' := by
  go_enter Tryd.func23, Tryd.ntmps23
  go_upto_region 1 with fail
  have HB := hid (Below.new w (.cells #[.int .i64 h] 3))
  have HH := hid (Blk.new w #[.int .i64 h] 3)
  generalize World.alloc w _ = w1 at HB HH ⊢
  obtain ⟨bH, hbH⟩ : ∃ b, b = w.heap.size := ⟨_, rfl⟩
  rw [← hbH] at HH ⊢
  clear hbH
  go_wp2_with fail
  refine (thing_where w1 s 39 #[.pointer (some ⟨bH, 0, none⟩)]).mono ?_
  rintro e w2 ⟨bT, bI, rfl, h1, h2, hb⟩
  have HQ := hid (And.intro h1 (And.intro h2 hb))
  clear h1 h2 hb
  go_wp2_with fail
  go_ret
  exact ⟨bT, bI, bH, rfl, HQ.out.1, HQ.out.2.1, HH.out.below HQ.out.2.2, Below.next HB.out HQ.out.2.2⟩
end Go.Proofs.YtdoflhiogoefjaaDoor
end
