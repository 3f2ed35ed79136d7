/- Joined texts, in this order: ThingTold, OpenE, OpenI. Each one's first remark says what it proves; no condition beyond those that its theorems name. -/
import Derived.Test.YtdoflhiogoefjaaDoorJLawThingCopies21
import Derived.Test.YtdoflhiogoefjaaDoorJLawThingCopies16
import Derived.Laws.StructEq
import Derived.WalkArith
import Derived.Test.YtdoflhiogoefjaaDoorJLawThingCopies01
import Derived.Test.YtdoflhiogoefjaaDoorJLawThingCopies05
import Derived.Deep.Slices
import Derived.Deep.Fields
import Derived.ChangeSame
import Derived.OpenShut
section
/- The law's told: are just these told? -/
namespace Go.Proofs.YtdoflhiogoefjaaDoor
open Go.RowKit
open Go.Lib (hid)
set_option linter.unusedVariables false
attribute [local go_sem] Oper.semAt_some

theorem stops_All (bT bI s n0 : Nat) (F : Nat → Prop) (X : ThX) (w0 : World) (hn0 : n0 ≤ w0.heap.size)
    (hT : Blk w0 bT #[.pointer (some ⟨s, 0, none⟩)]) (hI : Blk w0 bI #[.func (.func 46) #[] #[]]) (hTn : bT < n0) (hIn : bI < n0)
    (hX : ThingIs w0 s F X) (hF : ∀ k, F k → k < n0) (hl : X.L.length ≤ 900) (hnx : X.nx ≤ 4611686018427387904) :
    SeqStopsK Fence.wide 4 Tryd.prog 47 #[.pointer (some ⟨bT, 0, none⟩), .pointer (some ⟨bI, 0, none⟩)] (fun x : Th => #[thV x]) (KeepIt n0 w0.heap.size) (fun ys => ys = X.L) (fun pre => pre <+: X.L) X.L.length w0 := fun l J Jx W hW hJ _ hY h0 =>
  where1_All 4 (by omega) l bT bI s n0 w0.heap.size F X J Jx W hY hJ hW.size hn0 (hT.below hW) (hI.below hW) hTn hIn (hX.below hW) hF h0 hl hnx
set_option maxRecDepth 100000 in
set_option maxHeartbeats 1000000 in
theorem law21_ref (x : Th) (w : World) : Calls Tryd.prog 20 #[thV x] w fun e w' => e = .returned (thV x) ∧ Below w.heap.size w w' := by
  obtain ⟨xi, xn, xo, xk, xh, xs⟩ := x
  simp only [thV, strV]
  go_enter Tryd.func20, Tryd.ntmps20
  go_upto_region 1 with fail
  generalize hw2 : World.alloc (World.alloc w _) _ = w2
  obtain ⟨bs, hbs⟩ : ∃ b, b = w.heap.size := ⟨_, rfl⟩
  obtain ⟨b2, hb2⟩ : ∃ b, b = w.heap.size + 1 := ⟨_, rfl⟩
  have hz1 : (World.alloc w (.cells #[.int .i64 xi, .string ⟨xn.toArray⟩, .int .i64 xo, .int .i64 xk, .int .i64 xh, .int .i64 xs] 48)).heap.size = w.heap.size + 1 := by simp
  try rw [hz1]
  try rw [← hb2]
  try rw [← hbs]
  have hbb : Below w.heap.size w w2 := by rw [← hw2]; exact Below.next (Below.new _ _) (Below.new _ _)
  have HK : Hid (Blk w2 bs #[.int .i64 xi, .string ⟨xn.toArray⟩, .int .i64 xo, .int .i64 xk, .int .i64 xh, .int .i64 xs]) := hid (by rw [← hw2, hbs]; exact (Blk.new w _ _).below (Below.new _ _))
  have HK2 : Hid (Blk w2 b2 #[.int .i64 0, .string ⟨#[]⟩, .int .i64 0, .int .i64 0, .int .i64 0, .int .i64 0]) := hid (by rw [← hw2, hb2, ← hz1]; exact Blk.new _ _ _)
  have HB := hid hbb
  have HB2 : Hid (w.heap.size ≤ b2) := hid (by omega)
  clear hw2 hbs hb2 hz1 hbb
  obtain ⟨x0, x1, x2, x3, x4, x5⟩ := HK.out.c6
  obtain ⟨y0, y1, y2, y3, y4, y5⟩ := HK2.out.c6
  obtain ⟨f0, f1, f2, f3, f4, f5⟩ := HK2.out.f6
  obtain ⟨w3, hw3, hk3, hu3⟩ := Upd.set6 HK2.out (.int .i64 xi) (.string ⟨xn.toArray⟩) (.int .i64 xo) (.int .i64 xk) (.int .i64 xh) (.int .i64 xs)
  have HW3 := hid hw3
  have HK3 := hid hk3
  have HB3 := hid (HB.out.trans (hu3.below HB.out.size (fun k _ q => by rw [q]; exact HB2.out)))
  clear hw3 hk3 hu3
  go_wp2_with fail
  rw [← HW3.out]
  obtain ⟨z0, z1, z2, z3, z4, z5⟩ := HK3.out.c6
  refine bodyPost_ret (res_cell1 rfl _ _ _ rfl (by go_simp; rfl)) rfl ?_
  exact ⟨rfl, HB3.out⟩
theorem own_blk {W W' : World} {row : Option Nat} {B b : Nat} {cs : Array Value} (hg : W.grownBy W' row) (hr : ∀ r, row = some r → B ≤ r ∧ ∃ o : Obj, W.heap[r]? = some o ∧ o.isCells = false) (hb : Blk W b cs) : Blk W' b cs :=
  hb.upd (Upd.of_grown hg) (fun q => by
    obtain ⟨e, hb⟩ := hb
    obtain ⟨-, o, ho, hc⟩ := hr b q
    rw [hb] at ho; cases ho; cases hc)
theorem prefix_snoc {α : Type} {pre L : List α} {x y : α} (h : pre <+: L) (hy : L[pre.length]? = some y) : pre ++ [x] <+: L ↔ x = y := by
  obtain ⟨r, rfl⟩ := h
  rw [List.prefix_append_right_inj]
  rw [List.getElem?_append_right (Nat.le_refl _), Nat.sub_self] at hy
  cases r with
  | nil => simp at hy
  | cons z r =>
    simp at hy
    subst hy
    simp [List.cons_prefix_cons]
theorem th21_equal (x y : Th) : ∃ q : Bool, (q = true ↔ x = y) ∧ ∀ w : World, (Op.equal 45 (thV x) (thV y)).run Tryd.prog w = .ok q w := by
  have hS : Tryd.prog.underlying 45 = some (.struct (Tryd.prog.fieldsOf 45)) := by kernel_rfl
  have hp : Tryd.prog.stoodInHeld 45 = false := by kernel_rfl
  obtain ⟨xi, xn, xo, xk, xh, xs⟩ := x
  obtain ⟨yi, yn, yo, yk, yh, ys⟩ := y
  refine ⟨xi == yi && xn == yn && xo == yo && xk == yk && xh == yh && xs == ys, by simp [and_assoc], fun w => ?_⟩
  have h0 : (Op.equal 45 (thV ⟨xi, xn, xo, (xk, xh, xs)⟩) (thV ⟨yi, yn, yo, (yk, yh, ys)⟩)).run Tryd.prog w = (Op.equalIn (9999 + 1) 45 (thV ⟨xi, xn, xo, (xk, xh, xs)⟩) (thV ⟨yi, yn, yo, (yk, yh, ys)⟩)).run Tryd.prog w := rfl
  rw [h0]
  simp only [thV, strV]
  rw [run_equalIn_agg w 9999 45 _ _ hS hp]
  simp only [Program.fieldsOf, Tryd.underlying45]
  go_simp
  by_cases h1 : xi = yi <;> by_cases h2 : xn = yn <;> by_cases h3 : xo = yo <;> by_cases h4 : xk = yk <;> by_cases h5 : xh = yh <;> by_cases h6 : xs = ys <;> simp [h1, h2, h3, h4, h5, h6]
theorem ite6 {β : Type} {xi yi xo yo xk yk xh yh xs ys : Int} {xn yn : List UInt8} {t f : β} {q : Bool} (h : q = true ↔ (⟨xi, xn, xo, (xk, xh, xs)⟩ : Th) = ⟨yi, yn, yo, (yk, yh, ys)⟩) :
    (if xi = yi then if xn = yn then if xo = yo then if xk = yk then if xh = yh then if xs = ys then t else f else f else f else f else f else f) = if q = true then t else f := by
  rw [Th.mk.injEq, Prod.mk.injEq, Prod.mk.injEq] at h
  by_cases h1 : xi = yi <;> by_cases h2 : xn = yn <;> by_cases h3 : xo = yo <;> by_cases h4 : xk = yk <;> by_cases h5 : xh = yh <;> by_cases h6 : xs = ys <;> simp [h1, h2, h3, h4, h5, h6] at h ⊢ <;> simp [h]
theorem cellOf_below {B : Nat} {w w' : World} (h : Below B w w') {a : Addr} {v : Value} (hc : w.cell? a = some v) (hB : w.heap.size ≤ B) : w'.cell? a = some v := by
  rw [h.cell (Nat.lt_of_lt_of_le (World.block_lt_of_cell? w a hc) hB)]
  exact hc
theorem keepsFrom_below {B : Nat} {W W' : World} (h : Below W.heap.size W W') : KeepsFrom B W W' := ⟨h.size, fun k o _ hk _ => (h.block k (Array.getElem?_eq_some_iff.1 hk).1).trans hk⟩
set_option maxRecDepth 100000 in
set_option maxHeartbeats 8000000 in
theorem law21_told {bT bI s : Nat} {F : Nat → Prop} {a : Option Addr} {c : Nat} {X : ThX} (w : World)
    (hT : Blk w bT #[.pointer (some ⟨s, 0, none⟩)]) (hI : Blk w bI #[.func (.func 46) #[] #[]])
    (hX : ThingIs w s F X) (hR : RefT w a c X.L) (hlow : ∀ k, aB a k → k < w.heap.size) (hl : X.L.length ≤ 900) (hnx : X.nx ≤ 4611686018427387904) :
    Calls Tryd.prog 21 #[.func (.func 47) #[] #[.pointer (some ⟨bT, 0, none⟩), .pointer (some ⟨bI, 0, none⟩)], .slice a X.L.length c] w fun e w' => e = .returned (.bool true) ∧ Below w.heap.size w w' := by
  have HT := hid hT
  have HI := hid hI
  have HX := hid (hX.weaken (G := fun k => k < w.heap.size) (fun k _ q => q))
  have HR := hid hR
  have HLOW := hid hlow
  have HL := hid hl
  have HNX := hid hnx
  clear hT hI hX hR hlow hl hnx
  refine (callsIn_wide (n := 5)).1 ?_
  refine callsIn_of_wp_marks Tryd.func21 rfl trivial ?_ rfl
  simp only [Tryd.ntmps21, List.size_toArray, List.length_cons, List.length_nil, Nat.reduceAdd, Nat.reduceSub, Array.replicate_succ, Array.replicate_zero, List.push_toArray, List.append_toArray, List.nil_append, List.cons_append]
  gi_wp2
  generalize hw2 : World.alloc (World.alloc (World.alloc w _) _) _ = w2
  obtain ⟨b3, hb3⟩ : ∃ b, b = w.heap.size := ⟨_, rfl⟩
  obtain ⟨b4, hb4⟩ : ∃ b, b = w.heap.size + 1 := ⟨_, rfl⟩
  obtain ⟨b5, hb5⟩ : ∃ b, b = w.heap.size + 1 + 1 := ⟨_, rfl⟩
  have hz1 : (World.alloc w (.cells #[.slice a X.L.length c] 32)).heap.size = w.heap.size + 1 := by simp
  have hz2 : (World.alloc (World.alloc w (.cells #[.slice a X.L.length c] 32)) (.cells #[.bool false] 4)).heap.size = w.heap.size + 1 + 1 := by simp
  try rw [← hb5]
  try rw [← hb4]
  try rw [← hb3]
  have hb2 : Below w.heap.size w w2 := by rw [← hw2]; exact Below.next (Below.next (Below.new _ _) (Below.new _ _)) (Below.new _ _)
  have HK3 : Hid (Blk w2 b3 #[.slice a X.L.length c]) := hid (by rw [← hw2, hb3]; exact ((Blk.new w _ _).below (Below.new _ _)).below (Below.new _ _))
  have HK4 : Hid (Blk w2 b4 #[.bool false]) := hid (by rw [← hw2, hb4, ← hz1]; exact (Blk.new _ _ _).below (Below.new _ _))
  have HK5 : Hid (Blk w2 b5 #[.int .i64 0]) := hid (by rw [← hw2, hb5, ← hz2]; exact Blk.new _ _ _)
  have HB2 := hid hb2
  have HZ : Hid (b3 = w.heap.size ∧ b4 = w.heap.size + 1 ∧ b5 = w.heap.size + 2 ∧ b5 < w2.heap.size) := hid (by have := HK5.out.lt; omega)
  clear hw2 hb3 hb4 hb5 hz1 hz2 hb2
  obtain ⟨n0, hn0⟩ : ∃ n0, n0 = w.heap.size := ⟨_, rfl⟩
  have HN0 := hid hn0
  have hlt2 := HB2.out.size
  refine wpIn_rangeFunc_ownH (F := Fence.wide) (n := 5) (α := Th) rfl (by omega) (gf := 47) (lb := #[.pointer (some ⟨bT, 0, none⟩), .pointer (some ⟨bI, 0, none⟩)]) rfl trivial (enters_of Tryd.func47 (by kernel_rfl) rfl)
    (stops_All bT bI s n0 (fun k => k < w.heap.size) X w2 (by omega) (HT.out.below HB2.out) (HI.out.below HB2.out) (by rw [hn0]; exact HT.out.lt) (by rw [hn0]; exact HI.out.lt) (HX.out.below HB2.out) (fun k hk => by rw [hn0]; exact hk) HL.out HNX.out)
    (fun h k => h.trans k) (fun W l o o' hlo ho hc _ => KeepIt.put (by omega) W l o o' hlo ho hc) (Below.refl _ _) (fun _ => rfl)
    (fun pre W => (Blk W b3 #[.slice a X.L.length c] ∧ Blk W b4 #[.bool false] ∧ Blk W b5 #[.int .i64 (pre.length : Int)] ∧ pre <+: X.L) ∧ Below w.heap.size w W ∧ w2.heap.size ≤ W.heap.size)
    (fun c pre W => (c = .ret ∧ ¬ (pre <+: X.L)) ∧ Below w.heap.size w W)
    ?hI ?hIx ?h0
    (fun x a' W => ∃ Bx, w2.heap.size ≤ Bx ∧ Blk W Bx #[.int .i64 x.id, .string ⟨x.nm.toArray⟩, .int .i64 x.ow, .int .i64 x.pl.1, .int .i64 x.pl.2.1, .int .i64 x.pl.2.2] ∧ a' = { tmps := #[.func (.func 47) #[] #[.pointer (some ⟨bT, 0, none⟩), .pointer (some ⟨bI, 0, none⟩)], .slice a X.L.length c, undef, .pointer (some ⟨b3, 0, none⟩), .pointer (some ⟨b4, 0, none⟩), .pointer (some ⟨b5, 0, none⟩), .pointer (some ⟨Bx, 0, none⟩), .func (.func 47) #[] #[.pointer (some ⟨bT, 0, none⟩), .pointer (some ⟨bI, 0, none⟩)], thV x, undef, undef, undef, undef, undef, undef, undef, undef, undef, undef, undef, undef, undef, undef, undef, undef, undef, undef, undef], defers := [] })
    ?hAx ?assign ?body ?done ?stop
  case hI =>
    rintro pre W W' row ⟨⟨h1, h2, h3, h4⟩, hb, hz⟩ hg hr
    exact ⟨⟨own_blk hg hr h1, own_blk hg hr h2, own_blk hg hr h3, h4⟩, hb.grown hg hb.size (fun j hj => by have := (hr j hj).1; omega), Nat.le_trans hz hg.size⟩
  case hIx =>
    rintro c pre W W' row ⟨h1, hb⟩ hg hr
    exact ⟨h1, hb.grown hg hb.size (fun j hj => by have := (hr j hj).1; omega)⟩
  case h0 => exact ⟨⟨HK3.out, HK4.out, HK5.out, List.nil_prefix⟩, HB2.out, Nat.le_refl _⟩
  case hAx =>
    rintro x a' u W W' row ⟨Bx, h1, h2, h3⟩ hg hr
    exact ⟨Bx, h1, own_blk hg hr h2, h3⟩
  case assign =>
    rintro l pre ⟨xi, xn, xo, xk, xh, xs⟩ W K hI hK
    simp only [thV, strV] at hK ⊢
    gi_wp2
    have hb := Below.new W (.cells #[.int .i64 xi, .string ⟨xn.toArray⟩, .int .i64 xo, .int .i64 xk, .int .i64 xh, .int .i64 xs] 48)
    exact hK _ _ ((KeepsOthers.alloc _ _).from _) (KeepIt.of_upd (Upd.of_below (S := fun _ => False) hb) (by have := hI.2.2; omega) (fun k _ q => q.elim))
      ⟨⟨hI.1.1.below hb, hI.1.2.1.below hb, hI.1.2.2.1.below hb, hI.1.2.2.2⟩, Below.next hI.2.1 hb, by have := hI.2.2; have := hb.size; omega⟩ ⟨W.heap.size, hI.2.2, Blk.new _ _ _, rfl⟩
  case body =>
    rintro l pre ⟨xi, xn, xo, xk, xh, xs⟩ a' W hl hrec hI ⟨Bx, hBx, hkx, rfl⟩ hlen
    simp only [thV, strV]
    simp only at hkx
    have HI2 := hid hI
    have HKX := hid hkx
    have HLE := hid hlen
    obtain ⟨y, hy⟩ : ∃ y, X.L[pre.length]? = some y := ⟨_, List.getElem?_eq_getElem hlen⟩
    have HY := hid hy
    have HPS := hid (prefix_snoc (x := (⟨xi, xn, xo, (xk, xh, xs)⟩ : Th)) hI.1.2.2.2 hy)
    obtain ⟨a', c', e', hrd, -⟩ := HR.out.t.below hI.2.1
    simp only [Value.slice.injEq, true_and] at e'
    obtain ⟨rfl, rfl⟩ := e'
    obtain ⟨b0, off, y', rfl, d0, d1, d2, d3, d4, d5, hy2, -, -⟩ := hrd.six pre.length hlen
    obtain rfl : y' = y := by rw [hy2] at hy; exact Option.some.inj hy
    obtain ⟨yi, yn, yo, yk, yh, ys⟩ := y'
    simp only at d0 d1 d2 d3 d4 d5
    obtain ⟨x0, x1, x2, x3, x4, x5⟩ := hkx.c6
    have k3 : W.cell? ⟨b3, 0, none⟩ = some (.slice (some ⟨b0, off, none⟩) X.L.length c) := by rw [hI.1.1.cell]; rfl
    have k4 : W.cell? ⟨b4, 0, none⟩ = some (.bool false) := by rw [hI.1.2.1.cell]; rfl
    have k5 : W.cell? ⟨b5, 0, none⟩ = some (.int .i64 (pre.length : Int)) := by rw [hI.1.2.2.1.cell]; rfl
    have f4 : W.frozen? ⟨b4, 0, none⟩ = false := hI.1.2.1.unfrozen 0
    have f5 : W.frozen? ⟨b5, 0, none⟩ = false := hI.1.2.2.1.unfrozen 0
    obtain ⟨i, hi⟩ : ∃ i, pre.length = i := ⟨_, rfl⟩
    rw [hi] at k5 d0 d1 d2 d3 d4 d5
    have HII := hid hi
    have i1 : (i : Int) < (X.L.length : Int) := by omega
    have i0 : (0 : Int) ≤ (i : Int) := by omega
    have i3 : decide (X.L.length ≤ i) = false := decide_eq_false (by omega)
    have i4 : i < X.L.length := by omega
    clear hi hy hy2 hrd hI hkx hlen
    gi_wp2
    replace x0 := fun (y : World) (hy : Below W.heap.size W y) => cellOf_below hy x0 (Nat.le_refl _)
    replace x1 := fun (y : World) (hy : Below W.heap.size W y) => cellOf_below hy x1 (Nat.le_refl _)
    replace x2 := fun (y : World) (hy : Below W.heap.size W y) => cellOf_below hy x2 (Nat.le_refl _)
    replace x3 := fun (y : World) (hy : Below W.heap.size W y) => cellOf_below hy x3 (Nat.le_refl _)
    replace x4 := fun (y : World) (hy : Below W.heap.size W y) => cellOf_below hy x4 (Nat.le_refl _)
    replace x5 := fun (y : World) (hy : Below W.heap.size W y) => cellOf_below hy x5 (Nat.le_refl _)
    replace k3 := fun (y : World) (hy : Below W.heap.size W y) => cellOf_below hy k3 (Nat.le_refl _)
    replace k4 := fun (y : World) (hy : Below W.heap.size W y) => cellOf_below hy k4 (Nat.le_refl _)
    replace k5 := fun (y : World) (hy : Below W.heap.size W y) => cellOf_below hy k5 (Nat.le_refl _)
    replace d0 := fun (y : World) (hy : Below W.heap.size W y) => cellOf_below hy d0 (Nat.le_refl _)
    replace d1 := fun (y : World) (hy : Below W.heap.size W y) => cellOf_below hy d1 (Nat.le_refl _)
    replace d2 := fun (y : World) (hy : Below W.heap.size W y) => cellOf_below hy d2 (Nat.le_refl _)
    replace d3 := fun (y : World) (hy : Below W.heap.size W y) => cellOf_below hy d3 (Nat.le_refl _)
    replace d4 := fun (y : World) (hy : Below W.heap.size W y) => cellOf_below hy d4 (Nat.le_refl _)
    replace d5 := fun (y : World) (hy : Below W.heap.size W y) => cellOf_below hy d5 (Nat.le_refl _)
    have hyd := (Below.refl W.heap.size W).drew
    obtain ⟨q, hq, hE⟩ := th21_equal ⟨xi, xn, xo, (xk, xh, xs)⟩ ⟨yi, yn, yo, (yk, yh, ys)⟩
    simp only [thV, strV] at hE
    have HQ := hid hq
    clear hq
    refine wpIn_region_kept [] (fun y => Below W.heap.size W y) (by kernel_rfl) (by assumption) (fun hH => ?_)
    refine wpK.take (i := 0) (v := _) (by simp only [List.getElem?_toArray, List.getElem?_cons_succ, List.getElem?_cons_zero]; rfl) (by kernel_rfl) (by kernel_rfl) (by kernel_rfl) (by kernel_rfl) (by kernel_rfl) (by exact fun _ _ _ h => h) (by first | exact Or.inl ⟨by rfl, by intro w hSw; go_simp; try with_reducible rfl⟩ | exact Or.inr ⟨by rfl, rfl⟩) hH ?_
    try simp only [Act.put, List.setIfInBounds_toArray, List.set_cons_zero, List.set_cons_succ]
    refine wpK.take (i := 1) (v := _) (by simp only [List.getElem?_toArray, List.getElem?_cons_succ, List.getElem?_cons_zero]; rfl) (by kernel_rfl) (by kernel_rfl) (by kernel_rfl) (by kernel_rfl) (by kernel_rfl) (by exact fun _ _ _ h => h) (by first | exact Or.inl ⟨by rfl, by intro w hSw; go_simp; try with_reducible rfl⟩ | exact Or.inr ⟨by rfl, rfl⟩) hH ?_
    try simp only [Act.put, List.setIfInBounds_toArray, List.set_cons_zero, List.set_cons_succ]
    refine wpK.take (i := 2) (v := _) (by simp only [List.getElem?_toArray, List.getElem?_cons_succ, List.getElem?_cons_zero]; rfl) (by kernel_rfl) (by kernel_rfl) (by kernel_rfl) (by kernel_rfl) (by kernel_rfl) (by exact fun _ _ _ h => h) (by first | exact Or.inl ⟨by rfl, by intro w hSw; go_simp; try with_reducible rfl⟩ | exact Or.inr ⟨by rfl, rfl⟩) hH ?_
    try simp only [Act.put, List.setIfInBounds_toArray, List.set_cons_zero, List.set_cons_succ]
    refine wpK.take (i := 3) (v := _) (by simp only [List.getElem?_toArray, List.getElem?_cons_succ, List.getElem?_cons_zero]; rfl) (by kernel_rfl) (by kernel_rfl) (by kernel_rfl) (by kernel_rfl) (by kernel_rfl) (by exact fun _ _ _ h => h) (by first | exact Or.inl ⟨by rfl, by intro w hSw; go_simp; try with_reducible rfl⟩ | exact Or.inr ⟨by rfl, rfl⟩) hH ?_
    try simp only [Act.put, List.setIfInBounds_toArray, List.set_cons_zero, List.set_cons_succ]
    refine wpK.take (i := 4) (v := _) (by simp only [List.getElem?_toArray, List.getElem?_cons_succ, List.getElem?_cons_zero]; rfl) (by kernel_rfl) (by kernel_rfl) (by kernel_rfl) (by kernel_rfl) (by kernel_rfl) (by exact fun _ _ _ h => h) (by first | exact Or.inl ⟨by rfl, by intro w hSw; go_simp; try with_reducible rfl⟩ | exact Or.inr ⟨by rfl, rfl⟩) hH ?_
    try simp only [Act.put, List.setIfInBounds_toArray, List.set_cons_zero, List.set_cons_succ]
    refine wpK.take (i := 5) (v := _) (by simp only [List.getElem?_toArray, List.getElem?_cons_succ, List.getElem?_cons_zero]; rfl) (by kernel_rfl) (by kernel_rfl) (by kernel_rfl) (by kernel_rfl) (by kernel_rfl) (by exact fun _ _ _ h => h) (by first | exact Or.inl ⟨by rfl, by intro w hSw; go_simp; try with_reducible rfl⟩ | exact Or.inr ⟨by rfl, rfl⟩) hH ?_
    try simp only [Act.put, List.setIfInBounds_toArray, List.set_cons_zero, List.set_cons_succ]
    refine wpK.take (i := 7) (v := _) (by simp only [List.getElem?_toArray, List.getElem?_cons_succ, List.getElem?_cons_zero]; rfl) (by kernel_rfl) (by kernel_rfl) (by kernel_rfl) (by kernel_rfl) (by kernel_rfl) (by exact fun _ _ _ h => h) (by first | exact Or.inl ⟨by rfl, by intro w hSw; go_simp; try with_reducible rfl⟩ | exact Or.inr ⟨by rfl, rfl⟩) hH ?_
    try simp only [Act.put, List.setIfInBounds_toArray, List.set_cons_zero, List.set_cons_succ]
    refine wpK.take (i := 8) (v := _) (by simp only [List.getElem?_toArray, List.getElem?_cons_succ, List.getElem?_cons_zero]; rfl) (by kernel_rfl) (by kernel_rfl) (by kernel_rfl) (by kernel_rfl) (by kernel_rfl) (by exact fun _ _ _ h => h) (by first | exact Or.inl ⟨by rfl, by intro w hSw; go_simp; try with_reducible rfl⟩ | exact Or.inr ⟨by rfl, rfl⟩) hH ?_
    try simp only [Act.put, List.setIfInBounds_toArray, List.set_cons_zero, List.set_cons_succ]
    refine wpK.take (i := 9) (v := _) (by simp only [List.getElem?_toArray, List.getElem?_cons_succ, List.getElem?_cons_zero]; rfl) (by kernel_rfl) (by kernel_rfl) (by kernel_rfl) (by kernel_rfl) (by kernel_rfl) (by exact fun _ _ _ h => h) (by first | exact Or.inl ⟨by rfl, by intro w hSw; go_simp; try with_reducible rfl⟩ | exact Or.inr ⟨by rfl, rfl⟩) hH ?_
    try simp only [Act.put, List.setIfInBounds_toArray, List.set_cons_zero, List.set_cons_succ]
    refine wpK.take (i := 10) (v := _) (by simp only [List.getElem?_toArray, List.getElem?_cons_succ, List.getElem?_cons_zero]; rfl) (by kernel_rfl) (by kernel_rfl) (by kernel_rfl) (by kernel_rfl) (by kernel_rfl) (by exact fun _ _ _ h => h) (by first | exact Or.inl ⟨by rfl, by intro w hSw; go_simp; try with_reducible rfl⟩ | exact Or.inr ⟨by rfl, rfl⟩) hH ?_
    try simp only [Act.put, List.setIfInBounds_toArray, List.set_cons_zero, List.set_cons_succ]
    refine wpK.inv (le := fun w w' => Below w.heap.size w w') (fun w => Below.refl _ w) (fun _ _ _ h k => Below.next h k) (m := 0) [6, 11, 12] (fun i => match i with | 11 => [6] | 12 => [11] | _ => []) (fun i => match i with | 6 => fun u w => u 6 = .agg #[.int .i64 xi, .string ⟨xn.toArray⟩, .int .i64 xo, .int .i64 xk, .int .i64 xh, .int .i64 xs] | 11 => fun u w => u 11 = .bool !q | 12 => fun u w => u 12 = .bool !q | _ => fun _ _ => True) (by kernel_rfl) ⟨(fun _ _ _ _ h => h), (fun _ _ _ _ h => h), (fun _ _ _ _ h => h), trivial⟩ ⟨(by dsimp only; intro u j v w h1 h2 h; have e0 := upd_ne u v (Ne.symm h1); simp only [e0]; exact h), (by dsimp only; intro u j v w h1 h2 h; simp only [List.mem_cons, List.not_mem_nil, or_false, not_or] at h2; have e0 := upd_ne u v (Ne.symm h1); have e1 := upd_ne u v (Ne.symm h2); simp only [e0, e1]; exact h), (by dsimp only; intro u j v w h1 h2 h; simp only [List.mem_cons, List.not_mem_nil, or_false, not_or] at h2; have e0 := upd_ne u v (Ne.symm h1); have e1 := upd_ne u v (Ne.symm h2); simp only [e0, e1]; exact h), trivial⟩ (fun _ h => Below.next hH h) (fun u => ?_)
    generalize hacts : acts _ _ u _ = A_
    simp only [acts, dstOf, List.getElem?_toArray, List.getElem?_cons_succ, List.getElem?_cons_zero, Option.bind_some, Act.put, List.setIfInBounds_toArray, List.set_cons_succ, List.set_cons_zero] at hacts
    subst hacts
    refine ⟨⟨?_, ?_, ?_, trivial⟩, ?_⟩
    · intro wx hw h_
      clear h_
      apply wpOp_stepI (i := 6) (le := fun w w' => Below w.heap.size w w') (φ := fun v w' => (fun u w => u 6 = .agg #[.int .i64 xi, .string ⟨xn.toArray⟩, .int .i64 xo, .int .i64 xk, .int .i64 xh, .int .i64 xs]) (upd u 6 v) w')
      · simp only [List.getElem?_toArray, List.getElem?_cons_succ, List.getElem?_cons_zero]; rfl
      · rfl
      intro K hK
      go_simp
      refine (law21_ref ⟨xi, xn, xo, (xk, xh, xs)⟩ _).mono ?_
      rintro e w4 ⟨rfl, hb4⟩
      simp only [thV, strV]
      go_simp
      exact hK.out _ _ hb4 rfl
    · intro wx hw h_
      have h_6 : (fun u w => u 6 = .agg #[.int .i64 xi, .string ⟨xn.toArray⟩, .int .i64 xo, .int .i64 xk, .int .i64 xh, .int .i64 xs]) u wx := h_.1
      try dsimp only at h_6
      clear h_
      apply wpOp_stepI (i := 11) (le := fun w w' => Below w.heap.size w w') (φ := fun v w' => (fun u w => u 11 = .bool !q) (upd u 11 v) w')
      · simp only [List.getElem?_toArray, List.getElem?_cons_succ, List.getElem?_cons_zero]; rfl
      · rfl
      intro K hK
      simp only [h_6] at hK ⊢
      go_simp
      rw [ite6 HQ.out]
      cases q <;> (go_simp; exact hK.out _ _ (Below.refl _ _) rfl)
    · intro wx hw h_
      have h_11 : (fun u w => u 11 = .bool !q) u wx := h_.1
      try dsimp only at h_11
      clear h_
      apply wpOp_stepI (i := 12) (le := fun w w' => Below w.heap.size w w') (φ := fun v w' => (fun u w => u 12 = .bool !q) (upd u 12 v) w')
      · simp only [List.getElem?_toArray, List.getElem?_cons_succ, List.getElem?_cons_zero]; rfl
      · rfl
      intro K hK
      simp only [h_11] at hK ⊢
      go_simp
      exact hK.out _ _ (Below.refl _ _) rfl
    · intro wx hw h_
      have h_6 : (fun u w => u 6 = .agg #[.int .i64 xi, .string ⟨xn.toArray⟩, .int .i64 xo, .int .i64 xk, .int .i64 xh, .int .i64 xs]) u wx := h_.1
      try dsimp only at h_6
      have h_11 : (fun u w => u 11 = .bool !q) u wx := h_.2.1
      try dsimp only at h_11
      have h_12 : (fun u w => u 12 = .bool !q) u wx := h_.2.2.1
      try dsimp only at h_12
      clear h_
      have hbx := Below.next hyd hw
      have HBX := hid hbx
      have k5 := k5 wx hbx
      have hI1 := HI2.out.1.1.below hbx
      have hI2 := HI2.out.1.2.1.below hbx
      have hI3 := HI2.out.1.2.2.1.below hbx
      have f4 : wx.frozen? ⟨b4, 0, none⟩ = false := hI2.unfrozen 0
      have f5 : wx.frozen? ⟨b5, 0, none⟩ = false := hI3.unfrozen 0
      have k4 : wx.cell? ⟨b4, 0, none⟩ = some (.bool false) := by rw [hI2.cell]; rfl
      have HI3 := hid hI1
      have HI4 := hid hI2
      have HI5 := hid hI3
      clear hI1 hI2 hI3 hbx
      have hwr : IntKind.i64.wrap ((i : Int) + 1) = (i : Int) + 1 := by rw [IntKind.wrap_i64]; have := HL.out; omega
      refine wpK.done (by kernel_rfl) ?_ _
      rw [h_12]
      cases q with
      | true =>
        gi_wp2
        have hN : pre ++ [(⟨xi, xn, xo, (xk, xh, xs)⟩ : Th)] <+: X.L := HPS.out.2 (HQ.out.1 trivial)
        have hz := HZ.out
        have hs1 := HI2.out.2.1.size
        have hs2 := HBX.out.size
        have hu := Upd.setCell wx b5 0 (.int .i64 ((i : Int) + 1))
        have hbw := HI2.out.2.1.trans (HBX.out.mono hs1)
        refine ⟨(keepsFrom_below HBX.out).trans ((KeepsOthers.setCell _ _ _).from _), (KeepIt.of_upd (Upd.of_below (S := fun _ => False) HBX.out) (by have := HN0.out; omega) (fun k _ q => q.elim)).trans (KeepIt.of_upd hu (by have := HN0.out; omega) (fun k _ q => by have := HN0.out; subst q; omega)), ⟨HI3.out.upd hu (by intro e; omega), HI4.out.upd hu (by intro e; omega), ?_, hN⟩, hbw.setCell (by show _ ≤ b5; omega) _, by have := hu.size; have := HI2.out.2.2; omega⟩
        have h5 := HI5.out.set 0 (.int .i64 ((i : Int) + 1))
        have hl5 : ((pre ++ [(⟨xi, xn, xo, (xk, xh, xs)⟩ : Th)]).length : Int) = (i : Int) + 1 := by have := HII.out; simp; omega
        rw [hl5]
        exact h5
      | false =>
        gi_wp2
        have hN : ¬ (pre ++ [(⟨xi, xn, xo, (xk, xh, xs)⟩ : Th)] <+: X.L) := fun k => by cases HQ.out.2 (HPS.out.1 k)
        exact ⟨(keepsFrom_below HBX.out).trans ((KeepsOthers.setCell _ _ _).from _), ⟨rfl, hN⟩, (HI2.out.2.1.trans (HBX.out.mono HI2.out.2.1.size)).setCell (by have := HZ.out; show _ ≤ b4; omega) _⟩
  case done =>
    rintro D ys W hD rfl ⟨⟨h3, h4, h5, h6⟩, hb, hz⟩ hK
    have k3 : W.cell? ⟨b3, 0, none⟩ = some (.slice a X.L.length c) := by rw [h3.cell]; rfl
    have k5 : W.cell? ⟨b5, 0, none⟩ = some (.int .i64 (X.L.length : Int)) := by rw [h5.cell]; rfl
    have k4 : W.cell? ⟨b4, 0, none⟩ = some (.bool false) := by rw [h4.cell]; rfl
    have f4 : W.frozen? ⟨b4, 0, none⟩ = false := h4.unfrozen 0
    gi_wp2
    have hK' := (KeepsOthers.setCell W ⟨b4, 0, none⟩ (.bool true)).same D _ hK rfl
    refine ⟨by simp, .inl ⟨_, _, rfl, run_takeDeferred hK', ?_⟩⟩
    have hc5 := cell_kept (World.cell?_setCell_same' W ⟨b4, 0, none⟩ (.bool true) (by rw [k4]; rfl)) (grownBy_putObj' _ D (.deferred none)) (fun r e => by cases e; exact ⟨_, hK', rfl⟩)
    refine ⟨.bool true, ?_, rfl, (hb.setCell (p := ⟨b4, 0, none⟩) (by have := HZ.out; show _ ≤ b4; omega) _).trans (belowK_b (w := w) (Nat.le_refl _) _ D _ _ (by have := hb.size; have := HB2.out.size; omega) hK' rfl rfl)⟩
    simp [results, Tryd.f21, go_sem, hc5]
  case stop =>
    rintro D c pre W hD hpre ⟨⟨rfl, hin⟩, hB⟩ hK
    exact absurd hpre hin
end Go.Proofs.YtdoflhiogoefjaaDoor
end
section
/- What comes in, opened: a slice of elements of k cells, each of which reads as E says. No program in sight. -/
namespace Go.Proofs.YtdoflhiogoefjaaDoor
open Go.RowKit Go.ChangeShapes Go.WideShapes Go.Deep
open Go.Lib (hid)
set_option linter.unusedVariables false

/-- a slice whose elements of k cells read as E says -/
def SlE {α : Type} (E : World → (Nat → Option Value) → α → Prop) (k : Nat) (w : World) (v : Value) (L : List α) : Prop :=
  ∃ a c, v = .slice a L.length c ∧ L.length ≤ c ∧ c ≤ 9223372036854775807 ∧ (a = none → c = 0) ∧
    ∀ i x, L[i]? = some x → ∃ b off, a = some ⟨b, off, none⟩ ∧ b < w.heap.size ∧ E w (fun j => w.cell? ⟨b, off + i * k + j, none⟩) x
/-- what a reading of an element keeps -/
structure Kept {α : Type} (E : World → (Nat → Option Value) → α → Prop) (k : Nat) : Prop where
  keep : ∀ {w w' : World} {f g : Nat → Option Value} {x : α}, Below w.heap.size w w' → (∀ j u, j < k → f j = some u → g j = some u) → E w f x → E w' g x
  zero : ∀ {w : World} {f : Nat → Option Value} {x : α}, E w f x → ∃ u, f 0 = some u
theorem SlE.below {α : Type} {E : World → (Nat → Option Value) → α → Prop} {k : Nat} (K : Kept E k) {w w' : World} {v : Value} {L : List α} (h : SlE E k w v L) (hb : Below w.heap.size w w') : SlE E k w' v L := by
  obtain ⟨a, c, h1, h2, h3, h4, h5⟩ := h
  refine ⟨a, c, h1, h2, h3, h4, fun i x hx => ?_⟩
  obtain ⟨b, off, k1, k2, k3⟩ := h5 i x hx
  exact ⟨b, off, k1, Nat.lt_of_lt_of_le k2 hb.size, K.keep hb (fun j u _ hu => by rw [← hu]; exact World.cell?_of_block (hb.block b k2)) k3⟩
theorem open_slE {α : Type} [Inhabited α] {E : World → (Nat → Option Value) → α → Prop} {k : Nat} (K : Kept E k) {H : Type} {enc : TypeId × Value → H} {P : Program} {t e : TypeId} {w : World} {r0 : Reach} {b0 : Nat} {v : Value} {d : DataW H} {p : List MemPlace}
    (ht : P.underlying t = some (.slice e)) (hk : P.cellsOf e = k) (elem : ∀ (n : Nat) (cs : List Value) (x : DataW H × List MemPlace), DataW.trod enc P w 0 (fun _ => true) true n e cs = some x → ∃ t, E w (fun j => cs[j]?) t)
    (hok : Value.okWide P w r0 b0 t v) (h : DataW.Trod enc P w 0 (fun _ => true) true t v d p) : ∃ L, SlE E k w v L := by
  obtain ⟨a0, len0, cap0, rfl⟩ := okWide_slice ht hok
  obtain ⟨fuel, hf⟩ := h
  rcases open_slice ht hf with ⟨hcs, -⟩ | ⟨a, len, cap, m, n, D, Pl, hcs, hb, hl, hm, hmm, hx, hi⟩
  · simp [Value.cells] at hcs
    obtain ⟨rfl, rfl, rfl⟩ := hcs
    exact ⟨[], none, 0, rfl, by simp, by omega, fun _ => rfl, fun i r hr => by simp at hr⟩
  · simp [Value.cells] at hcs
    obtain ⟨rfl, rfl, rfl⟩ := hcs
    simp only [if_true] at hmm
    obtain rfl : cap0 = m := hmm.symm
    have key : ∀ i, i < cap0 → ∃ q : α, E w (fun j => w.cell? (a.add (i * k + j))) q := by
      intro i hic
      obtain ⟨cs', hc, ht'⟩ := hi i hic
      rw [hk] at hc
      obtain ⟨t, ht⟩ := elem _ _ _ ht'
      obtain ⟨-, hcl, hat⟩ := World.cells?_some hc
      exact ⟨t, K.keep (Below.refl _ _) (fun j u hj hu => by rw [← Go.Deep.add_add, hat j hj]; exact hu) ht⟩
    obtain ⟨f, hfun⟩ := choose_lt key
    have hlen : ((List.range len0).map f).length = len0 := by simp
    refine ⟨(List.range len0).map f, some a, cap0, by rw [hlen], by rw [hlen]; exact hl, by unfold maxLen at hm; omega, nofun, ?_⟩
    intro i r hr
    rw [List.getElem?_map] at hr
    by_cases hil : i < len0
    · rw [List.getElem?_range hil] at hr
      simp at hr
      subst hr
      have q := hfun i (by omega)
      obtain ⟨b, off, spot⟩ := a
      obtain ⟨u0, p0⟩ := K.zero (hfun 0 (by omega))
      have hspot : spot = none := by simpa [Addr.add] using World.cell?_spot p0
      subst hspot
      obtain ⟨u1, q0⟩ := K.zero q
      simp only [Addr.add_lit] at q0
      refine ⟨b, off, rfl, World.block_lt_of_cell? w _ q0, K.keep (Below.refl _ _) (fun j u hj hu => ?_) q⟩
      rw [Addr.add_lit] at hu
      rw [Nat.add_assoc]; exact hu
    · rw [List.getElem?_eq_none (by simp; omega)] at hr; simp at hr
theorem structE_fields {H : Type} {enc : TypeId × Value → H} {P : Program} {w : World} {base : Nat} {spare : Nat → Bool} {held : Bool} {t : TypeId} {fs : Array Field} {n : Nat} {cs : List Value} {x : DataW H × List MemPlace} (ht : P.underlying t = some (.struct fs)) (hone : oneCellFields P fs = true)
    (h : DataW.trod enc P w base spare held n t cs = some x) : cs.length = P.cellsOf t ∧ ∃ (ys : List (DataW H × List MemPlace)) (n' : Nat), ys.length = fs.size ∧ ∀ (j : Nat) (f : Field), fs[j]? = some f → DataW.trod enc P w base spare held n' f.type ((cs.drop j).take 1) = ys[j]? := by
  obtain ⟨ys, n', hn', hy, hlen, hyl, hf⟩ := DataW.trod_struct ht h
  refine ⟨hlen, ys, n', hyl, fun j f hj => ?_⟩
  obtain ⟨ho, hk⟩ := hone_of hone j f hj
  have := hf j f hj
  rwa [ho, hk] at this
theorem listOf2 {α : Type} : ∀ {l : List α}, l.length = 2 → ∃ a b, l = [a, b]
  | [a, b], _ => ⟨a, b, rfl⟩
theorem listOf3 {α : Type} : ∀ {l : List α}, l.length = 3 → ∃ a b c, l = [a, b, c]
  | [a, b, c], _ => ⟨a, b, c, rfl⟩
theorem listOf4 {α : Type} : ∀ {l : List α}, l.length = 4 → ∃ a b c d, l = [a, b, c, d]
  | [a, b, c, d], _ => ⟨a, b, c, d, rfl⟩
theorem listOf5 {α : Type} : ∀ {l : List α}, l.length = 5 → ∃ a b c d e, l = [a, b, c, d, e]
  | [a, b, c, d, e], _ => ⟨a, b, c, d, e, rfl⟩
theorem listOf6 {α : Type} : ∀ {l : List α}, l.length = 6 → ∃ a b c d e f, l = [a, b, c, d, e, f]
  | [a, b, c, d, e, f], _ => ⟨a, b, c, d, e, f, rfl⟩
end Go.Proofs.YtdoflhiogoefjaaDoor
end
section
/- What comes in, opened: a field that is a slice of numbers. -/
namespace Go.Proofs.YtdoflhiogoefjaaDoor
open Go.RowKit Go.ChangeShapes Go.WideShapes Go.Deep Go.Joins
open Go.Lib (hid)
set_option linter.unusedVariables false

set_option maxRecDepth 100000 in
theorem open_sliF {H : Type} {enc : TypeId × Value → H} {w : World} {n : Nat} {v : Value} {y : DataW H × List MemPlace} (t4 : DataW.trod enc Tryd.prog w 0 (fun _ => true) true n 41 [v] = some y) : ∃ l : List Int, SlI w v l ∧ ∀ x ∈ l, (Lit.int .i64 x).wf = true := by
  have hrow : ∃ (a : Option Addr) (len cap : Nat) (zs : List Int), v = .slice a len cap ∧ ((a = none ∧ len = 0 ∧ cap = 0 ∧ zs = []) ∨
      ∃ x, a = some x ∧ len ≤ cap ∧ cap ≤ maxLen ∧ zs.length = cap ∧ (∀ i, i < zs.length → w.cell? (x.add i) = some (.int .i64 (zs.getD i 0))) ∧ ∀ n ∈ zs, (Lit.int .i64 n).wf = true) := by
    rcases open_ints Tryd.underlying41 Tryd.underlying3 (by kernel_rfl) t4 with ⟨hcs, _⟩ | ⟨x, l, c, zs, hcs, _, hl, hm, hz, _, hcell, hwz⟩
    · simp at hcs
      exact ⟨none, 0, 0, [], hcs, .inl ⟨rfl, rfl, rfl, rfl⟩⟩
    · simp at hcs
      exact ⟨some x, l, c, zs, hcs, .inr ⟨_, rfl, hl, hm, by simpa using hz, hcell, hwz⟩⟩
  obtain ⟨la, len, lc, zs, rfl, hr⟩ := hrow
  obtain ⟨l, -, h, hw⟩ := sli_of_row hr
  exact ⟨l, h, hw⟩
end Go.Proofs.YtdoflhiogoefjaaDoor
end
