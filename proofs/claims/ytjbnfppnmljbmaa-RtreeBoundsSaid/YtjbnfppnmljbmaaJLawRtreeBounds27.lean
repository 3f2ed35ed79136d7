/- Joined texts, in this order: Things14, RtUse, Law14Aw, OpenE. Each one's first remark says what it proves; no condition beyond those that its theorems name. -/
import Derived.Test.YtjbnfppnmljbmaaJLawRtreeBounds26
import Derived.Test.YtjbnfppnmljbmaaJLawRtreeBounds20
import Derived.Test.YtjbnfppnmljbmaaJLawRtreeBounds02
import Derived.Test.YtjbnfppnmljbmaaJLawRtreeBounds03
import Derived.Deep.Slices
import Derived.Deep.Fields
import Derived.ChangeSame
import Derived.OpenShut
section
/- Contract of the law's things: what an iterator over a tree tells, at most so many. -/
namespace Go.Proofs.Ytjbnfppnmljbmaa
open Go.RowKit
open Go.Lib (hid)
set_option linter.unusedVariables false
attribute [local go_sem] Oper.semAt_some

theorem own_keptR {W W' : World} {row : Option Nat} {B base : Nat} {e : TypeId} {size : Nat} {v : Value} {n : Nat} {xs : List Value} (hg : W.grownBy W' row) (hr : ∀ r, row = some r → B ≤ r ∧ ∃ o : Obj, W.heap[r]? = some o ∧ o.isCells = false) (h : W.ownsRow base e size v n xs) : W'.ownsRow base e size v n xs :=
  Upd.owns (Upd.of_grown hg) h (fun k hk q => by
    obtain ⟨-, ⟨rfl, -⟩ | ⟨g, cap, cur, rfl, -, hc, -⟩⟩ := h
    · cases hk
    · cases hk
      obtain ⟨-, o, ho, hoc⟩ := hr _ q
      rw [hc] at ho; cases ho; cases hoc)
theorem own_cellsR {W : World} {base : Nat} {e : TypeId} {size : Nat} {v : Value} {n : Nat} {xs : List Value} (h : W.ownsRow base e size v n xs) : ∀ (j : Nat) (o : Obj), v.ownBlock = some j → W.heap[j]? = some o → o.isCells = true := by
  intro j o hj ho
  obtain ⟨-, ⟨rfl, -⟩ | ⟨g, cap, cur, rfl, -, hc, -⟩⟩ := h
  · cases hj
  · cases hj; rw [hc] at ho; cases ho; rfl
def ThPost (w : World) (stop : Int) (Y : List Tg) (e : Ending) (w' : World) : Prop :=
  ∃ (v : Value) (Z : List Tg), e = .returned v ∧ Z <+: Y ∧ (1 ≤ stop ∧ stop ≤ (Y.length : Int) → (Z.length : Int) = stop) ∧ (¬ (1 ≤ stop ∧ stop ≤ (Y.length : Int)) → Z = Y) ∧ w'.ownsRow w.heap.size 58 5 v Z.length (svG Z) ∧ Below w.heap.size w w'
/-- what a round of things keeps -/
structure ThI (w w2 : World) (b3 b5 : Nat) (stop : Int) (pre : List Tg) (v : Value) (W : World) : Prop where
  k3 : Blk W b3 #[.int .i64 stop]
  k5 : Blk W b5 #[v]
  own : W.ownsRow w2.heap.size 58 5 v pre.length (svG pre)
  below : Below w.heap.size w W
  size : w2.heap.size ≤ W.heap.size
theorem ThI.kept {w w2 W W' : World} {b3 b5 B : Nat} {stop : Int} {pre : List Tg} {v : Value} {row : Option Nat} (h : ThI w w2 b3 b5 stop pre v W) (hB : w.heap.size ≤ B) (hg : W.grownBy W' row) (hr : ∀ r, row = some r → B ≤ r ∧ ∃ o : Obj, W.heap[r]? = some o ∧ o.isCells = false) : ThI w w2 b3 b5 stop pre v W' :=
  ⟨own_blkR hg hr h.k3, own_blkR hg hr h.k5, own_keptR hg hr h.own, h.below.grown hg h.below.size (fun j hj => by have := (hr j hj).1; omega), Nat.le_trans h.size hg.size⟩
/-- a round's store -/
theorem ThI.next {w w2 W wD wE : World} {b3 b5 : Nat} {stop : Int} {pre : List Tg} {x : Tg} {v v9 : Value} (h : ThI w w2 b3 b5 stop pre v W) (h3 : b3 = w.heap.size) (h5 : b5 = w.heap.size + 1) (h2 : w2.heap.size = w.heap.size + 2)
    (hD : Below W.heap.size W wD) (hg : wD.grownBy wE v.ownBlock) (ho : wE.ownsRow w2.heap.size 58 5 v9 (pre ++ [x]).length (svG (pre ++ [x]))) :
    KeepsFrom w2.heap.size W (wE.setCell ⟨b5, 0, none⟩ v9) ∧ KeepR w.heap.size w2.heap.size W (wE.setCell ⟨b5, 0, none⟩ v9) ∧ ThI w w2 b3 b5 stop (pre ++ [x]) v9 (wE.setCell ⟨b5, 0, none⟩ v9) := by
  have hown : wD.ownsRow w2.heap.size 58 5 v pre.length (svG pre) := owns_below h.own hD
  have hz := h.below.size
  have hzD := hD.size
  have hzE := hg.size
  have hsz := h.size
  have huE : Upd (fun k => v.ownBlock = some k) wD wE := Upd.of_grown hg
  have huW : Upd (fun k => v.ownBlock = some k) W wE := (Upd.of_below hD).trans huE (fun _ _ q => q)
  have huS := Upd.setCell wE b5 0 v9
  have hu : Upd (fun k => v.ownBlock = some k ∨ k = b5) W (wE.setCell ⟨b5, 0, none⟩ v9) := (huW.mono (fun _ _ q => .inl q)).trans huS (fun _ _ q => .inr q)
  have hlt := fun k hk => (h.own.lt k hk).1
  refine ⟨?_, KeepR.of_upd hu (by omega) (fun k _ q => ?_), ?_, ?_, ?_, ?_, ?_⟩
  · exact ((keepsFrom_belowR hD).trans ((KeepsOthers.of_grownBy hg (fun j o e => own_cellsR hown j o e)).from _)).trans ((KeepsOthers.setCell _ _ _).from _)
  · rcases q with q | q
    · have := hlt k q; omega
    · omega
  · exact h.k3.upd hu (fun q => by
      rcases q with q | q
      · have := hlt _ q; omega
      · omega)
  · have h1 := (h.k5.upd huW (fun q => by have := hlt _ q; omega)).set 0 v9
    simpa using h1
  · exact Upd.owns huS ho (fun k hk q => by have := (ho.lt k hk).1; omega)
  · refine Below.setCell (p := ⟨b5, 0, none⟩) ?_ (by show _ ≤ b5; omega) _
    exact (h.below.trans (hD.mono hz)).grown hg (by omega) (fun k hk => by have := hlt k hk; omega)
  · have := huS.size; omega
theorem ThI.post {w w2 W : World} {b3 b5 D : Nat} {stop : Int} {pre Y : List Tg} {v : Value} (h : ThI w w2 b3 b5 stop pre v W) (h2 : w.heap.size ≤ w2.heap.size) (hD : w2.heap.size ≤ D) (hK : W.heap[D]? = some (.deferred (some []))) (hp : pre <+: Y)
    (hs : (1 ≤ stop ∧ stop ≤ (Y.length : Int) → (pre.length : Int) = stop)) (hn : ¬ (1 ≤ stop ∧ stop ≤ (Y.length : Int)) → pre = Y) : ThPost w stop Y (.returned v) (W.putObj D (.deferred none)) :=
  ⟨v, pre, rfl, hp, hs, hn, own_keptR (B := 0) (grownBy_putObj' _ D (.deferred none)) (fun r e => by cases e; exact ⟨Nat.zero_le _, _, hK, rfl⟩) (ownsRow_base h.own h2), h.below.trans (belowK_b (w := w) (Nat.le_refl _) _ D _ _ (by have := h.below.size; omega) hK rfl rfl)⟩
set_option maxRecDepth 100000 in
set_option maxHeartbeats 8000000 in
theorem law14_things (w : World) (bT bI s d g : Nat) (n : Nd) (cnt : Int) (ba lb : Array Value) (t : R4 → Bool) (stop : Int) (hT : Blk w bT #[.pointer (some ⟨s, 0, none⟩)]) (hI : Blk w bI #[.func (.func g) ba lb]) (ht : TreeAt w s d n cnt) (hd : d ≤ 1000)
    (hte : ∀ z, Below w.heap.size w z → TestAt w.heap.size z.heap.size g ba lb t z) (Y : List Tg) (hY : flR t (thgN (d + 1) n) = Y) (hl : Y.length ≤ 900) :
    Calls Try.prog 20 #[itV bT bI, .int .i64 stop] w (ThPost w stop Y) := by
  have HT := hid hT
  have HI := hid hI
  have HTR := hid ht
  have HD := hid hd
  have HTE := hid hte
  have HY := hid (And.intro hY hl)
  clear hT hI ht hd hte hY hl
  refine (callsIn_wide (n := 5)).1 ?_
  refine callsIn_of_wp_marks Try.func20 rfl trivial ?_ rfl
  simp only [Try.ntmps20, List.size_toArray, List.length_cons, List.length_nil, Nat.reduceAdd, Nat.reduceSub, Array.replicate_succ, Array.replicate_zero, List.push_toArray, List.append_toArray, List.nil_append, List.cons_append]
  gi_wp2
  generalize hw2 : World.alloc (World.alloc w _) _ = w2
  obtain ⟨b3, hb3⟩ : ∃ b, b = w.heap.size := ⟨_, rfl⟩
  obtain ⟨b5, hb5⟩ : ∃ b, b = w.heap.size + 1 := ⟨_, rfl⟩
  have hz1 : (World.alloc w (.cells #[.int .i64 stop] 3)).heap.size = w.heap.size + 1 := by simp
  try rw [← hb5]
  try rw [← hb3]
  have hb2 : Below w.heap.size w w2 := by rw [← hw2]; exact Below.next (Below.new _ _) (Below.new _ _)
  have HK3 : Hid (Blk w2 b3 #[.int .i64 stop]) := hid (by rw [← hw2, hb3]; exact (Blk.new w _ _).below (Below.new _ _))
  have HK5 : Hid (Blk w2 b5 #[.slice none 0 0]) := hid (by rw [← hw2, hb5, ← hz1]; exact Blk.new _ _ _)
  have hz2 : w2.heap.size = w.heap.size + 2 := by rw [← hw2]; simp
  have HB2 := hid hb2
  have HZ : Hid (b3 = w.heap.size ∧ b5 = w.heap.size + 1 ∧ w2.heap.size = w.heap.size + 2) := hid ⟨hb3, hb5, hz2⟩
  clear hw2 hb3 hb5 hz1 hz2 hb2
  have hl1 : w.heap.size ≤ w2.heap.size := HB2.out.size
  refine wpIn_rangeFunc_ownH (F := Fence.wide) (n := 5) (α := Tg) rfl (by omega) (gf := 76) (lb := #[.pointer (some ⟨bT, 0, none⟩), .pointer (some ⟨bI, 0, none⟩)]) rfl trivial (enters_of Try.func76 (by kernel_rfl) rfl)
    (stops_where bT bI s d g n cnt w.heap.size ba lb t w2 hl1 (HT.out.below HB2.out) (HI.out.below HB2.out) (HTR.out.below HB2.out) (fun k hk => HTR.out.lt k (List.mem_cons_of_mem _ hk)) HD.out (HTE.out w2 HB2.out))
    (fun h k => h.trans k) (fun W l o o' hlo ho hc _ => KeepR.put hl1 W l o o' hlo ho hc) (Below.refl _ _) (fun _ => rfl)
    (fun pre W => ∃ v, ThI w w2 b3 b5 stop pre v W ∧ (1 ≤ stop → (pre.length : Int) < stop))
    (fun c pre W => c = .exit 0 ∧ ∃ v, ThI w w2 b3 b5 stop pre v W ∧ (pre.length : Int) = stop ∧ 1 ≤ stop)
    ?hI ?hIx ?h0
    (fun z a' W => ∃ Bx, w2.heap.size ≤ Bx ∧ Blk W Bx #[.int .i64 z.1.1, .int .i64 z.1.2.1, .int .i64 z.1.2.2.1, .int .i64 z.1.2.2.2] ∧ a' = { tmps := #[itV bT bI, .int .i64 stop, undef, .pointer (some ⟨b3, 0, none⟩), .slice none 0 0, .pointer (some ⟨b5, 0, none⟩), .pointer (some ⟨Bx, 0, none⟩), .int .i64 z.2, itV bT bI, rV z.1, .int .i64 z.2, undef, undef, undef, undef, undef, undef, undef, undef, undef, undef, undef, undef], defers := [] })
    ?hAx ?assign ?body ?done ?stop
  case hI =>
    rintro pre W W' row ⟨v, h1, h2⟩ hg hr
    exact ⟨v, h1.kept hl1 hg hr, h2⟩
  case hIx =>
    rintro c pre W W' row ⟨rfl, v, h1, h2⟩ hg hr
    exact ⟨rfl, v, h1.kept hl1 hg hr, h2⟩
  case h0 => exact ⟨_, ⟨HK3.out, HK5.out, by simpa [svG] using World.ownsRow_nil _ _ _ _, HB2.out, Nat.le_refl _⟩, fun h => by simp; omega⟩
  case hAx =>
    rintro z a' u W W' row ⟨Bx, h1, h2, h3⟩ hg hr
    exact ⟨Bx, h1, own_blkR hg hr h2, h3⟩
  case assign =>
    rintro l pre ⟨⟨zx, zy, za, zb⟩, zv⟩ W K ⟨v, hI, hst⟩ hK
    simp only [rV] at hK ⊢
    gi_wp2
    have hb := Below.new W (.cells #[.int .i64 zx, .int .i64 zy, .int .i64 za, .int .i64 zb] 33)
    have hz := hb.size
    exact hK _ _ ((KeepsOthers.alloc _ _).from _) (KeepR.of_below hb (by have := hI.size; omega)) ⟨v, ⟨hI.k3.below hb, hI.k5.below hb, owns_below hI.own hb, Below.next hI.below hb, by have := hI.size; omega⟩, hst⟩ ⟨W.heap.size, hI.size, Blk.new _ _ _, rfl⟩
  case body =>
    rintro l pre ⟨⟨zx, zy, za, zb⟩, zv⟩ a' W hl hrec ⟨v, hI, hst⟩ ⟨Bx, hBx, hkx, rfl⟩ hlen
    simp only [rV] at hkx ⊢
    obtain ⟨av, cv, hv, -⟩ := ownsRow.rd hI.own
    have hBx2 : ¬ v.ownBlock = some Bx := by
      intro hk
      obtain ⟨-, ⟨rfl, -⟩ | ⟨g', cap, cur, rfl, -, hc, -, -, hcs, -⟩⟩ := hI.own
      · cases hk
      · cases hk
        obtain ⟨e, he⟩ := hkx
        rw [hc] at he
        simp only [Option.some.injEq, Obj.cells.injEq] at he
        have := congrArg Array.size he.1
        simp at this; omega
    have hb52 : ¬ v.ownBlock = some b5 := fun hk => by have h1 := (hI.own.lt b5 hk).1; have h2 := HZ.out; omega
    subst hv
    obtain ⟨S, hS⟩ : ∃ S : Nat → Prop, S = fun k => Value.ownBlock (.slice av pre.length cv) = some k := ⟨_, rfl⟩
    have hSB : ¬ S Bx := by rw [hS]; exact hBx2
    have hS5 : ¬ S b5 := by rw [hS]; exact hb52
    have HS := hid hS
    obtain ⟨x0, x1, x2, x3⟩ := hkx.c4r
    have k5 : W.cell? ⟨b5, 0, none⟩ = some (.slice av pre.length cv) := by rw [hI.k5.cell]; rfl
    replace x0 := fun (z : World) (hz : Upd S W z) => hz.cell x0 hSB
    replace x1 := fun (z : World) (hz : Upd S W z) => hz.cell x1 hSB
    replace x2 := fun (z : World) (hz : Upd S W z) => hz.cell x2 hSB
    replace x3 := fun (z : World) (hz : Upd S W z) => hz.cell x3 hSB
    replace k5 := fun (z : World) (hz : Upd S W z) => hz.cell k5 hS5
    have f5 := fun (z : World) (hz : Upd S W z) => (hI.k5.upd hz hS5).unfrozen 0
    have hyb := (Below.refl W.heap.size W).drew
    have hyd : Upd S W W.drew := Upd.of_below hyb
    have HI2 := hid hI
    have HST := hid hst
    rw [HY.out.1] at hlen
    have hlen2 : pre.length < 900 := by have := HY.out.2; omega
    clear hI hst hkx hBx2 hb52 hSB hS5 hS hlen hBx
    gi_wp2
    refine wpIn_region_kept [7] (fun z => Upd S W z) (by kernel_rfl) (by assumption) (fun hH => ?_)
    refine wpK.take (i := 0) (v := _) (by simp only [List.getElem?_toArray, List.getElem?_cons_succ, List.getElem?_cons_zero]; rfl) (by kernel_rfl) (by kernel_rfl) (by kernel_rfl) (by kernel_rfl) (by kernel_rfl) (by exact fun _ _ _ h => h) (by first | exact Or.inl ⟨by rfl, by intro w hSw; go_simp; try with_reducible rfl⟩ | exact Or.inr ⟨by rfl, rfl⟩) hH ?_
    try simp only [Act.put, List.setIfInBounds_toArray, List.set_cons_zero, List.set_cons_succ]
    refine wpK.take (i := 1) (v := _) (by simp only [List.getElem?_toArray, List.getElem?_cons_succ, List.getElem?_cons_zero]; rfl) (by kernel_rfl) (by kernel_rfl) (by kernel_rfl) (by kernel_rfl) (by kernel_rfl) (by exact fun _ _ _ h => h) (by first | exact Or.inl ⟨by rfl, by intro w hSw; go_simp; try with_reducible rfl⟩ | exact Or.inr ⟨by rfl, rfl⟩) hH ?_
    try simp only [Act.put, List.setIfInBounds_toArray, List.set_cons_zero, List.set_cons_succ]
    refine wpK.take (i := 3) (v := _) (by simp only [List.getElem?_toArray, List.getElem?_cons_succ, List.getElem?_cons_zero]; rfl) (by kernel_rfl) (by kernel_rfl) (by kernel_rfl) (by kernel_rfl) (by kernel_rfl) (by exact fun _ _ _ h => h) (by first | exact Or.inl ⟨by rfl, by intro w hSw; go_simp; try with_reducible rfl⟩ | exact Or.inr ⟨by rfl, rfl⟩) hH ?_
    try simp only [Act.put, List.setIfInBounds_toArray, List.set_cons_zero, List.set_cons_succ]
    refine wpK.step (i := 2) (by kernel_rfl) (by simp only [List.getElem?_toArray, List.getElem?_cons_succ, List.getElem?_cons_zero]; rfl) (fun K hK => ?_)
    go_simp
    (refine (law14_ref zx zy za zb _).mono ?_); rintro e w3 ⟨rfl, hb3⟩; (have hbb3 := Below.next hyb hb3); (have hk3 : Upd S W w3 := Upd.of_below hbb3); go_simp
    refine hK.out _ _ (by assumption) (fun hH => ?_)
    clear hK K
    try simp only [Act.put, List.setIfInBounds_toArray, List.set_cons_zero, List.set_cons_succ]
    refine wpK.take (i := 4) (v := _) (by simp only [List.getElem?_toArray, List.getElem?_cons_succ, List.getElem?_cons_zero]; rfl) (by kernel_rfl) (by kernel_rfl) (by kernel_rfl) (by kernel_rfl) (by kernel_rfl) (by exact fun _ _ _ h => h) (by first | exact Or.inl ⟨by rfl, by intro w hSw; go_simp; try with_reducible rfl⟩ | exact Or.inr ⟨by rfl, rfl⟩) hH ?_
    try simp only [Act.put, List.setIfInBounds_toArray, List.set_cons_zero, List.set_cons_succ]
    refine wpK.step (i := 5) (by kernel_rfl) (by simp only [List.getElem?_toArray, List.getElem?_cons_succ, List.getElem?_cons_zero]; rfl) (fun K hK => ?_)
    refine step_lit (us := #[.int .i64 zx, .int .i64 zy, .int .i64 za, .int .i64 zb, .int .i64 zv]) (e := 58) (size := 5) (ps := #[(0, .agg #[.int .i64 zx, .int .i64 zy, .int .i64 za, .int .i64 zb, .int .i64 zv])]) rfl rfl (by simp only [List.map_toArray, List.map_cons, List.map_nil]; rfl) (lit_g1 zx zy za zb zv _) rfl (by omega) ?_; intro g8 wD hg8 hb8 hs8 hown8; have hbbD := Below.next hbb3 hb8; have hk8 : Upd S W wD := Upd.of_below hbbD
    refine hK.out _ _ (by assumption) (fun hH => ?_)
    clear hK K
    try simp only [Act.put, List.setIfInBounds_toArray, List.set_cons_zero, List.set_cons_succ]
    refine wpK.step (i := 6) (by kernel_rfl) (by simp only [List.getElem?_toArray, List.getElem?_cons_succ, List.getElem?_cons_zero]; rfl) (fun K hK => ?_)
    obtain ⟨a8, c8, e8, -, -, hr8, hcz8⟩ := ownsRow.rd hown8; simp only [Value.slice.injEq] at e8; obtain ⟨rfl, -, rfl⟩ := e8; refine step_appN T_g14 rfl _ _ rfl w2.heap.size (.slice av pre.length cv) pre.length (svG pre) rfl (owns_below HI2.out.own hbbD) (some ⟨g8, 0, none⟩) 1 1 _ rfl rfl (fun h => nomatch h) hr8 (by intro u hu; simp at hu; rcases hu with rfl | rfl | rfl | rfl | rfl <;> rfl) (by omega) (by have h1 := hbbD.size; have h2 := HI2.out.size; omega) ?_; intro v9 wE hown9 hg9 hnil9 hwh9; have hk9 : Upd S W wE := (Upd.of_below hbbD).trans (Upd.of_grown hg9) (fun k _ q => by rw [HS.out]; exact q); obtain ⟨a9, c9, he9, -⟩ := ownsRow.rd hown9; subst he9
    refine hK.out _ _ (by assumption) (fun hH => ?_)
    clear hK K
    try simp only [Act.put, List.setIfInBounds_toArray, List.set_cons_zero, List.set_cons_succ]
    refine wpK.late (i := 7) (by kernel_rfl) (by simp only [List.getElem?_toArray, List.getElem?_cons_succ, List.getElem?_cons_zero]; rfl) (by kernel_rfl) (fun K hK => ?_)
    go_simp
    refine hK.out _ _ ?_
    clear hK K
    try simp only [Act.put, List.setIfInBounds_toArray, List.set_cons_zero, List.set_cons_succ]
    refine wpK.done (by kernel_rfl) ?_ _
    have ho9 : wE.ownsRow w2.heap.size 58 5 (.slice a9 (pre.length + 1) c9) (pre ++ [(((zx, zy, za, zb), zv) : Tg)]).length (svG (pre ++ [((zx, zy, za, zb), zv)])) := by
      rw [svG_append, List.length_append]; exact hown9
    have hnx := HI2.out.next HZ.out.1 HZ.out.2.1 HZ.out.2.2 hbbD hg9 ho9
    obtain ⟨wS, hwS⟩ : ∃ z, z = wE.setCell ⟨b5, 0, none⟩ (.slice a9 (pre.length + 1) c9) := ⟨_, rfl⟩
    rw [← hwS] at hnx ⊢
    have HNX := hid hnx
    have k5 : wS.cell? ⟨b5, 0, none⟩ = some (.slice a9 (pre.length + 1) c9) := by rw [hnx.2.2.k5.cell]; rfl
    have k3 : wS.cell? ⟨b3, 0, none⟩ = some (.int .i64 stop) := by rw [hnx.2.2.k3.cell]; rfl
    have hlx : (pre ++ [(((zx, zy, za, zb), zv) : Tg)]).length = pre.length + 1 := by simp
    clear ho9 hnx hwS hown9 hg9 hk9 hnil9 hwh9 hbbD hk8 hbb3 hk3 x0 x1 x2 x3 hyd hyb f5 hr8 hcz8 hown8 hb8 hb3 hH
    obtain ⟨N, hN⟩ : ∃ N, pre.length + 1 = N := ⟨_, rfl⟩
    rw [hN] at k5 hlx
    have HN := hid (And.intro hN hlx)
    clear hN hlx hlen2
    by_cases hq : (N : Int) = stop
    · have HQ := hid hq
      subst hq
      gi_wp2
      exact ⟨HNX.out.1, rfl, ⟨_, HNX.out.2.2⟩, by rw [HN.out.2], by have := HN.out.1; omega⟩
    · have HQ := hid hq
      gi_wp2
      exact ⟨HNX.out.1, HNX.out.2.1, _, HNX.out.2.2, fun h1 => by have h2 := HST.out h1; rw [HN.out.2]; have h3 := HN.out.1; have h4 := HQ.out; omega⟩
  case done =>
    rintro D ys W hD rfl ⟨v, h1, h2⟩ hK
    rw [HY.out.1] at h1 h2
    have k5 : W.cell? ⟨b5, 0, none⟩ = some v := by rw [h1.k5.cell]; rfl
    obtain ⟨av, cv, hv, -⟩ := ownsRow.rd h1.own
    subst hv
    have HP := hid (h1.post hl1 hD hK (List.prefix_refl _) (fun q => by have := h2 q.1; omega) (fun _ => rfl))
    have HK := hid hK
    clear h1 h2 hK
    gi_wp2
    refine ⟨by simp, .inl ⟨_, _, rfl, run_takeDeferred HK.out, ?_⟩⟩
    exact ⟨_, by simp [results, Try.f20, go_sem], HP.out⟩
  case stop =>
    rintro D c pre W hD hpre ⟨rfl, v, h1, h2, h3⟩ hK
    rw [HY.out.1] at hpre
    have k5 : W.cell? ⟨b5, 0, none⟩ = some v := by rw [h1.k5.cell]; rfl
    obtain ⟨av, cv, hv, -⟩ := ownsRow.rd h1.own
    subst hv
    have HP := hid (h1.post hl1 hD hK hpre (fun _ => h2) (fun q => absurd ⟨h3, by have := hpre.length_le; omega⟩ q))
    have HK := hid hK
    clear h1 h2 hK hpre
    gi_wp2
    refine ⟨by simp, .inl ⟨_, _, rfl, run_takeDeferred HK.out, ?_⟩⟩
    exact ⟨_, by simp [results, Try.f20, go_sem], HP.out⟩
end Go.Proofs.Ytjbnfppnmljbmaa
end
section
/- A tree that is a list: Any. -/
namespace Go.Proofs.Ytjbnfppnmljbmaa
open Go.RowKit
open Go.Lib (hid)
set_option linter.unusedVariables false

theorem flR_perm {t : R4 → Bool} {A B : List Tg} (h : A.Perm B) : (flR t A).Perm (flR t B) := h.filter _
theorem TreeIs.open {w : World} {s : Nat} {F : Nat → Prop} {L : List Tg} (h : TreeIs w s F L) (hl : L.length ≤ 900) : ∃ d n, TreeAt w s d n (L.length : Int) ∧ d ≤ 15 ∧ (thgN (d + 1) n).Perm L ∧ (d = 0 ∨ 2 ≤ n.ks.length) := by
  obtain ⟨d, n, ht, -, h2, hp⟩ := h
  exact ⟨d, n, ht, dep_few ht.sh h2 hp hl, hp, h2⟩
theorem rt_AnyL (w : World) (s : Nat) (F : Nat → Prop) (L : List Tg) (x y a b : Int) (h : TreeIs w s F L) (hl : L.length ≤ 900) (q : Bool) (hq : decide (flR (tMeets (x, y, a, b)) L ≠ []) = q) :
    Calls Try.prog 25 #[.pointer (some ⟨s, 0, none⟩), .agg #[.int .i64 x, .int .i64 y, .int .i64 a, .int .i64 b]] w fun e w' => e = .returned (.bool q) ∧ Below w.heap.size w w' := by
  obtain ⟨d, n, ht, hd, hp, -⟩ := h.open hl
  have h1 := rt_Any4 w s d n _ x y a b ht (by omega)
  have h2 := flR_perm (t := tMeets (x, y, a, b)) hp
  have e : decide (flR (tMeets (x, y, a, b)) (thgN (d + 1) n) ≠ []) = q := by
    rw [← hq]
    refine decide_eq_decide.2 (not_congr ⟨fun e => ?_, fun e => ?_⟩)
    · rw [e] at h2; exact h2.symm.eq_nil
    · rw [e] at h2; exact h2.eq_nil
  rw [e] at h1
  exact h1
end Go.Proofs.Ytjbnfppnmljbmaa
end
section
/- What law 14 uses: Any and things at a tree that is a list; awake. -/
namespace Go.Proofs.Ytjbnfppnmljbmaa
open Go.RowKit
open Go.Lib (hid)
set_option linter.unusedVariables false

def ThLPost (w : World) (stop : Int) (L' : List Tg) (e : Ending) (w' : World) : Prop := ∃ Y, Y.Perm L' ∧ ThPost w stop Y e w'
theorem law14_thingsL (w : World) (bT bI s g : Nat) (F : Nat → Prop) (L : List Tg) (ba lb : Array Value) (t : R4 → Bool) (stop : Int) (hT : Blk w bT #[.pointer (some ⟨s, 0, none⟩)]) (hI : Blk w bI #[.func (.func g) ba lb]) (h : TreeIs w s F L) (hl : L.length ≤ 900)
    (hte : ∀ z, Below w.heap.size w z → TestAt w.heap.size z.heap.size g ba lb t z) :
    Calls Try.prog 20 #[itV bT bI, .int .i64 stop] w (ThLPost w stop (flR t L)) := by
  obtain ⟨d, n, ht, hd, hp, -⟩ := h.open hl
  have h2 := flR_perm (t := t) hp
  refine (law14_things w bT bI s d g n _ ba lb t stop hT hI ht (by omega) hte _ rfl (by rw [h2.length_eq]; exact Nat.le_trans (List.length_filter_le _ _) hl)).mono ?_
  intro e w' q
  exact ⟨_, h2, q⟩
theorem TreeIs.right {w : World} {s : Nat} {F : Nat → Prop} {L : List Tg} (h : TreeIs w s F L) : ∀ x ∈ L, RightR x.1 := by
  obtain ⟨d, n, ht, -, h2, hp⟩ := h
  intro x hx
  exact tree_right ht (hp.mem_iff.2 hx)
theorem flR_right {w : World} {s : Nat} {F : Nat → Prop} {L : List Tg} (h : TreeIs w s F L) : flR rightR L = L := flR_all h.right
theorem ThPost.whole {w : World} {Y : List Tg} {e : Ending} {w' : World} (h : ThPost w 0 Y e w') : ∃ v, e = .returned v ∧ SlG w' v Y ∧ Below w.heap.size w w' := by
  obtain ⟨v, Z, h1, -, -, h2, h3, h4⟩ := h
  obtain rfl := h2 (by omega)
  exact ⟨v, h1, SlG.of_own h3, h4⟩
/-- a call that answers a number, behind others -/
theorem RtPost.chain {w wa : World} {s bp B : Nat} {E : Int} {L' : List Tg} {e : Ending} {w' : World} (h : RtPost wa s (fun k => B ≤ k ∧ k ≠ bp) E L' e w') (hB : B ≤ wa.heap.size) (hbp : bp < wa.heap.size) {cs : Array Value} (hk : Blk wa bp cs) (hw : Below B w wa) (hB2 : B ≤ w.heap.size) :
    e = .returned (.int .i64 E) ∧ TreeIs w' s (fun k => B ≤ k ∧ k ≠ bp) L' ∧ Blk w' bp cs ∧ Below B w w' ∧ B ≤ w'.heap.size ∧ bp < w'.heap.size := by
  obtain ⟨F', h1, h2, h3, h4⟩ := h
  have hz := h3.size
  refine ⟨h1, h2.weaken (fun k q _ => ?_), hk.upd h3 (fun q => q.2 rfl), hw.trans (h3.below hB (fun k _ q => q.1)), by omega, by omega⟩
  rcases h4 k q with z | z
  · exact z
  · exact ⟨by omega, by omega⟩
abbrev awL : List Tg := [((0, 0, 2, 2), 7)]
set_option maxRecDepth 100000 in
set_option maxHeartbeats 2000000 in
theorem law14_awake (w : World) : Calls Try.prog 15 #[] w fun e w' => e = .returned (.bool true) ∧ Below w.heap.size w w' := by
  go_enter Try.func15, Try.ntmps15
  go_wp2_with fail
  refine (rt_New w).mono ?_
  rintro e w1 ⟨s, rfl, h1, hb1⟩
  have H1 := hid h1
  have HB1 := hid hb1
  clear h1 hb1
  go_upto_region 3 with fail
  obtain ⟨w2, hw2⟩ : ∃ w2, w2 = w1.alloc (.cells #[.int .i64 0, .int .i64 0, .int .i64 2, .int .i64 2] 33) := ⟨_, rfl⟩
  rw [← hw2]
  obtain ⟨bp, hbp⟩ : ∃ b, b = w1.heap.size := ⟨_, rfl⟩
  rw [← hbp]
  have hb2 : Below w1.heap.size w1 w2 := by rw [hw2]; exact Below.new _ _
  have hk : Blk w2 bp #[.int .i64 0, .int .i64 0, .int .i64 2, .int .i64 2] := by rw [hw2, hbp]; exact Blk.new _ _ _
  have H2 : Hid (TreeIs w2 s (fun k => w.heap.size ≤ k ∧ k ≠ bp) []) := hid ((H1.out.weaken (fun k q q2 => ⟨q, by omega⟩)).below hb2)
  have HQ2 := hid (And.intro hk (And.intro (Below.next HB1.out hb2) (And.intro (show w.heap.size ≤ w2.heap.size by have := HB1.out.size; have := hb2.size; omega) hk.lt)))
  clear hw2 hbp hb2 hk
  obtain ⟨p0, p1, p2, p3⟩ := HQ2.out.1.c4r
  go_wp2_with fail
  have hq := rt_Insert4 w2 s _ [] 0 0 2 2 7 H2.out (by decide)
  rw [show insE [] (0, 0, 2, 2) 7 = 0 from by decide, show insL [] (0, 0, 2, 2) 7 = awL from by decide] at hq
  refine hq.mono ?_
  intro e w3 hq
  obtain ⟨h1, h2, h3, h4, h5, h6⟩ := RtPost.chain hq HQ2.out.2.2.1 HQ2.out.2.2.2 HQ2.out.1 HQ2.out.2.1 (Nat.le_refl _)
  subst h1
  have H3 := hid h2
  have HQ3 := hid (And.intro h3 (And.intro h4 (And.intro h5 h6)))
  clear p0 p1 p2 p3 hq h2 h3 h4 h5 h6
  obtain ⟨p0, p1, p2, p3⟩ := HQ3.out.1.c4r
  go_wp2_with fail
  have hq := rt_Insert4 w3 s _ awL 0 0 2 2 7 H3.out (by decide)
  rw [show insE awL (0, 0, 2, 2) 7 = 13 from by decide, show insL awL (0, 0, 2, 2) 7 = awL from by decide] at hq
  refine hq.mono ?_
  intro e w4 hq
  obtain ⟨h1, h2, h3, h4, h5, h6⟩ := RtPost.chain hq HQ3.out.2.2.1 HQ3.out.2.2.2 HQ3.out.1 HQ3.out.2.1 (Nat.le_refl _)
  subst h1
  have H4 := hid h2
  have HQ4 := hid (And.intro h3 (And.intro h4 (And.intro h5 h6)))
  clear p0 p1 p2 p3 hq h2 h3 h4 h5 h6
  obtain ⟨p0, p1, p2, p3⟩ := HQ4.out.1.c4r
  go_wp2_with fail
  have hq := rt_Insert4 w4 s _ awL 0 0 0 0 7 H4.out (by decide)
  rw [show insE awL (0, 0, 0, 0) 7 = 11 from by decide, show insL awL (0, 0, 0, 0) 7 = awL from by decide] at hq
  refine hq.mono ?_
  intro e w5 hq
  obtain ⟨h1, h2, h3, h4, h5, h6⟩ := RtPost.chain hq HQ4.out.2.2.1 HQ4.out.2.2.2 HQ4.out.1 HQ4.out.2.1 (Nat.le_refl _)
  subst h1
  have H5 := hid h2
  have HQ5 := hid (And.intro h3 (And.intro h4 (And.intro h5 h6)))
  clear p0 p1 p2 p3 hq h2 h3 h4 h5 h6
  go_wp2_with fail
  refine (rt_Len w5 s _ awL H5.out).mono ?_
  rintro e w9 ⟨rfl, h9⟩
  replace h9 := h9.symm
  subst h9
  have hL : (awL.length : Int) = 1 := by decide
  rw [hL]
  clear hL
  go_wp2_with fail
  refine (rt_AnyL w5 s _ awL 1 1 3 3 H5.out (by decide) true (by decide)).mono ?_
  rintro e w6 ⟨rfl, hb⟩
  have H6 := hid (H5.out.below hb)
  have HQ6 := hid (And.intro (HQ5.out.1.below hb) (And.intro (Below.next HQ5.out.2.1 hb) (And.intro (Nat.le_trans HQ5.out.2.2.1 hb.size) (Nat.lt_of_lt_of_le HQ5.out.2.2.2 hb.size))))
  clear hb
  go_wp2_with fail
  refine (rt_AnyL w6 s _ awL 2 0 1 1 H6.out (by decide) false (by decide)).mono ?_
  rintro e w7 ⟨rfl, hb⟩
  have H7 := hid (H6.out.below hb)
  have HQ7 := hid (And.intro (HQ6.out.1.below hb) (And.intro (Below.next HQ6.out.2.1 hb) (And.intro (Nat.le_trans HQ6.out.2.2.1 hb.size) (Nat.lt_of_lt_of_le HQ6.out.2.2.2 hb.size))))
  clear hb
  obtain ⟨p0, p1, p2, p3⟩ := HQ7.out.1.c4r
  go_wp2_with fail
  have hq := rt_Delete4 w7 s _ awL 0 0 2 2 8 H7.out (by decide)
  rw [show delE awL ((0, 0, 2, 2), 8) = 14 from by decide, show awL.erase ((0, 0, 2, 2), 8) = awL from by decide] at hq
  refine hq.mono ?_
  intro e w8 hq
  obtain ⟨h1, h2, h3, h4, h5, h6⟩ := RtPost.chain hq HQ7.out.2.2.1 HQ7.out.2.2.2 HQ7.out.1 HQ7.out.2.1 (Nat.le_refl _)
  subst h1
  have H8 := hid h2
  have HQ8 := hid (And.intro h3 (And.intro h4 (And.intro h5 h6)))
  clear p0 p1 p2 p3 hq h2 h3 h4 h5 h6
  go_wp2_with fail
  refine (rt_Check w8 s _ awL H8.out (by decide)).mono ?_
  rintro e w9 ⟨rfl, hb⟩
  have H9 := hid (H8.out.below hb)
  have HQ9 := hid (And.intro (HQ8.out.1.below hb) (And.intro (Below.next HQ8.out.2.1 hb) (And.intro (Nat.le_trans HQ8.out.2.2.1 hb.size) (Nat.lt_of_lt_of_le HQ8.out.2.2.2 hb.size))))
  clear hb
  go_wp2_with fail
  go_ret
  exact ⟨rfl, HQ9.out.2.1⟩
end Go.Proofs.Ytjbnfppnmljbmaa
end
section
/- What comes in, opened: a slice of elements of k cells, each of which reads as E says. No program in sight. -/
namespace Go.Proofs.Ytjbnfppnmljbmaa
open Go.RowKit Go.ChangeShapes Go.WideShapes Go.Deep
open Go.Lib (hid)
set_option linter.unusedVariables false

/-- a slice whose elements of k cells read as E says -/
def SlE {α : Type} (E : World → (Nat → Option Value) → α → Prop) (k : Nat) (w : World) (v : Value) (L : List α) : Prop :=
  ∃ a c, v = .slice a L.length c ∧ L.length ≤ c ∧ c ≤ 9223372036854775807 ∧ (a = none → c = 0) ∧
    ∀ i x, L[i]? = some x → ∃ b off, a = some ⟨b, off, none⟩ ∧ b < w.heap.size ∧ E w (fun j => w.cell? ⟨b, off + i * k + j, none⟩) x
/-- what a reading of an element keeps -/
structure Kept {α : Type} (E : World → (Nat → Option Value) → α → Prop) (k : Nat) : Prop where
  keep : ∀ {w w' : World} {f g : Nat → Option Value} {x : α}, Below w.heap.size w w' → (∀ j u, j < k → f j = some u → g j = some u) → E w f x → E w' g x
  zero : ∀ {w : World} {f : Nat → Option Value} {x : α}, E w f x → ∃ u, f 0 = some u
theorem SlE.below {α : Type} {E : World → (Nat → Option Value) → α → Prop} {k : Nat} (K : Kept E k) {w w' : World} {v : Value} {L : List α} (h : SlE E k w v L) (hb : Below w.heap.size w w') : SlE E k w' v L := by
  obtain ⟨a, c, h1, h2, h3, h4, h5⟩ := h
  refine ⟨a, c, h1, h2, h3, h4, fun i x hx => ?_⟩
  obtain ⟨b, off, k1, k2, k3⟩ := h5 i x hx
  exact ⟨b, off, k1, Nat.lt_of_lt_of_le k2 hb.size, K.keep hb (fun j u _ hu => by rw [← hu]; exact World.cell?_of_block (hb.block b k2)) k3⟩
theorem open_slE {α : Type} [Inhabited α] {E : World → (Nat → Option Value) → α → Prop} {k : Nat} (K : Kept E k) {H : Type} {enc : TypeId × Value → H} {P : Program} {t e : TypeId} {w : World} {r0 : Reach} {b0 : Nat} {v : Value} {d : DataW H} {p : List MemPlace}
    (ht : P.underlying t = some (.slice e)) (hk : P.cellsOf e = k) (elem : ∀ (n : Nat) (cs : List Value) (x : DataW H × List MemPlace), DataW.trod enc P w 0 (fun _ => true) true n e cs = some x → ∃ t, E w (fun j => cs[j]?) t)
    (hok : Value.okWide P w r0 b0 t v) (h : DataW.Trod enc P w 0 (fun _ => true) true t v d p) : ∃ L, SlE E k w v L := by
  obtain ⟨a0, len0, cap0, rfl⟩ := okWide_slice ht hok
  obtain ⟨fuel, hf⟩ := h
  rcases open_slice ht hf with ⟨hcs, -⟩ | ⟨a, len, cap, m, n, D, Pl, hcs, hb, hl, hm, hmm, hx, hi⟩
  · simp [Value.cells] at hcs
    obtain ⟨rfl, rfl, rfl⟩ := hcs
    exact ⟨[], none, 0, rfl, by simp, by omega, fun _ => rfl, fun i r hr => by simp at hr⟩
  · simp [Value.cells] at hcs
    obtain ⟨rfl, rfl, rfl⟩ := hcs
    simp only [if_true] at hmm
    obtain rfl : cap0 = m := hmm.symm
    have key : ∀ i, i < cap0 → ∃ q : α, E w (fun j => w.cell? (a.add (i * k + j))) q := by
      intro i hic
      obtain ⟨cs', hc, ht'⟩ := hi i hic
      rw [hk] at hc
      obtain ⟨t, ht⟩ := elem _ _ _ ht'
      obtain ⟨-, hcl, hat⟩ := World.cells?_some hc
      exact ⟨t, K.keep (Below.refl _ _) (fun j u hj hu => by rw [← Go.Deep.add_add, hat j hj]; exact hu) ht⟩
    obtain ⟨f, hfun⟩ := choose_lt key
    have hlen : ((List.range len0).map f).length = len0 := by simp
    refine ⟨(List.range len0).map f, some a, cap0, by rw [hlen], by rw [hlen]; exact hl, by unfold maxLen at hm; omega, nofun, ?_⟩
    intro i r hr
    rw [List.getElem?_map] at hr
    by_cases hil : i < len0
    · rw [List.getElem?_range hil] at hr
      simp at hr
      subst hr
      have q := hfun i (by omega)
      obtain ⟨b, off, spot⟩ := a
      obtain ⟨u0, p0⟩ := K.zero (hfun 0 (by omega))
      have hspot : spot = none := by simpa [Addr.add] using World.cell?_spot p0
      subst hspot
      obtain ⟨u1, q0⟩ := K.zero q
      simp only [Addr.add_lit] at q0
      refine ⟨b, off, rfl, World.block_lt_of_cell? w _ q0, K.keep (Below.refl _ _) (fun j u hj hu => ?_) q⟩
      rw [Addr.add_lit] at hu
      rw [Nat.add_assoc]; exact hu
    · rw [List.getElem?_eq_none (by simp; omega)] at hr; simp at hr
theorem structE_fields {H : Type} {enc : TypeId × Value → H} {P : Program} {w : World} {base : Nat} {spare : Nat → Bool} {held : Bool} {t : TypeId} {fs : Array Field} {n : Nat} {cs : List Value} {x : DataW H × List MemPlace} (ht : P.underlying t = some (.struct fs)) (hone : oneCellFields P fs = true)
    (h : DataW.trod enc P w base spare held n t cs = some x) : cs.length = P.cellsOf t ∧ ∃ (ys : List (DataW H × List MemPlace)) (n' : Nat), ys.length = fs.size ∧ ∀ (j : Nat) (f : Field), fs[j]? = some f → DataW.trod enc P w base spare held n' f.type ((cs.drop j).take 1) = ys[j]? := by
  obtain ⟨ys, n', hn', hy, hlen, hyl, hf⟩ := DataW.trod_struct ht h
  refine ⟨hlen, ys, n', hyl, fun j f hj => ?_⟩
  obtain ⟨ho, hk⟩ := hone_of hone j f hj
  have := hf j f hj
  rwa [ho, hk] at this
theorem listOf2 {α : Type} : ∀ {l : List α}, l.length = 2 → ∃ a b, l = [a, b]
  | [a, b], _ => ⟨a, b, rfl⟩
theorem listOf3 {α : Type} : ∀ {l : List α}, l.length = 3 → ∃ a b c, l = [a, b, c]
  | [a, b, c], _ => ⟨a, b, c, rfl⟩
theorem listOf4 {α : Type} : ∀ {l : List α}, l.length = 4 → ∃ a b c d, l = [a, b, c, d]
  | [a, b, c, d], _ => ⟨a, b, c, d, rfl⟩
theorem listOf5 {α : Type} : ∀ {l : List α}, l.length = 5 → ∃ a b c d e, l = [a, b, c, d, e]
  | [a, b, c, d, e], _ => ⟨a, b, c, d, e, rfl⟩
theorem listOf6 {α : Type} : ∀ {l : List α}, l.length = 6 → ∃ a b c d e f, l = [a, b, c, d, e, f]
  | [a, b, c, d, e, f], _ => ⟨a, b, c, d, e, f, rfl⟩
end Go.Proofs.Ytjbnfppnmljbmaa
end
