/- Joined texts, in this order: Law19, Law19Aw. Each one's first remark says what it proves; no condition beyond those that its theorems name. -/
import Derived.Test.YtjbnfppnmljbmaaJLawLandMany28
import Derived.Test.YtjbnfppnmljbmaaJLawLandMany03
section
/- Law 19: ref, made, awake. -/
namespace Go.Proofs.Ytjbnfppnmljbmaa
open Go.RowKit Go.Deep
open Go.Lib (hid)
set_option linter.unusedVariables false
attribute [local go_sem] Oper.semAt_some

theorem own_kept19 {W W' : World} {row : Option Nat} {base : Nat} {e : TypeId} {size : Nat} {v : Value} {n : Nat} {xs : List Value} (hg : W.grownBy W' row) (hr : ∀ k, v.ownBlock = some k → row ≠ some k) (h : W.ownsRow base e size v n xs) : W'.ownsRow base e size v n xs :=
  Upd.owns (Upd.of_grown hg) h (fun k hk q => hr k hk q)
theorem results_tct {fn : Func} {a b c : Tmp} {t : TypeId} (h : fn.results = #[.tmp a, .cell b t, .tmp c]) (tmps : Array Value) (P : Program) (w : World) {x : Addr} {v : Value} (ha : tmps.getD b undef = .pointer (some x)) (hl : (loadVar t x).run P w = .ok v w) : (results fn tmps).run P w = .ok (.tuple #[tmps.getD a undef, v, tmps.getD c undef]) w := by
  have ha' : tmps[b]?.getD undef = .pointer (some x) := by rw [← ha]; simp
  simp [results, h, ha', asAddr, hl, Result.andThen]
set_option maxRecDepth 100000 in
theorem law19_ref (x y a b : Int) (w : World) : Calls Try.prog 39 #[.agg #[.int .i64 x, .int .i64 y, .int .i64 a, .int .i64 b]] w fun e w' => e = .returned (.agg #[.int .i64 x, .int .i64 y, .int .i64 a, .int .i64 b]) ∧ Below w.heap.size w w' := by
  go_enter Try.func39, Try.ntmps39
  go_upto_region 1 with fail
  generalize hW : World.alloc (World.alloc w _) _ = w1
  obtain ⟨g, hg⟩ : ∃ g, g = w.heap.size := ⟨_, rfl⟩
  obtain ⟨gr, hgr⟩ : ∃ go, go = w.heap.size + 1 := ⟨_, rfl⟩
  have hz : (World.alloc w (.cells #[.int .i64 x, .int .i64 y, .int .i64 a, .int .i64 b] 33)).heap.size = w.heap.size + 1 := by simp
  try rw [hz]
  try rw [← hgr]
  try rw [← hg]
  have hb : Below w.heap.size w w1 := by rw [← hW]; exact Below.next (Below.new _ _) (Below.new _ _)
  have HX : Hid (Blk w1 g #[.int .i64 x, .int .i64 y, .int .i64 a, .int .i64 b]) := hid (by rw [← hW, hg]; exact (Blk.new w _ _).below (Below.new _ _))
  have HR : Hid (Blk w1 gr #[.int .i64 0, .int .i64 0, .int .i64 0, .int .i64 0]) := hid (by rw [← hW, hgr, ← hz]; exact Blk.new _ _ _)
  have HB := hid hb
  have HG := hid hgr
  clear hW hg hgr hz hb
  obtain ⟨c0, c1, c2, c3⟩ := HX.out.c4r
  obtain ⟨y0, y1, y2, y3⟩ := HR.out.c4r
  obtain ⟨f0, f1, f2, f3⟩ := HR.out.f4r
  obtain ⟨w3, hw3, hk3, hu3⟩ := set4r HR.out (.int .i64 x) (.int .i64 y) (.int .i64 a) (.int .i64 b)
  have HW3 := hid hw3
  have HK3 := hid hk3
  have HB3 := hid (HB.out.trans (hu3.below HB.out.size (fun k _ q => by rw [q]; have := HG.out; omega)))
  clear hw3 hk3 hu3
  go_wp2_with fail
  try rw [← HW3.out]
  obtain ⟨z0, z1, z2, z3⟩ := HK3.out.c4r
  refine bodyPost_ret (results_cell1 rfl _ _ _ rfl (by go_simp; rfl)) rfl ?_
  exact ⟨rfl, HB3.out⟩
theorem T_rect2 : SlT Try.prog 24 53 (.agg #[.int .i64 0, .int .i64 0, .int .i64 0, .int .i64 0]) 4 32 := SlT.mk' Try.underlying24 (by kernel_rfl) rfl (by decide) (by decide)
theorem lit_rect2 (x y a b : Int) (W : World) : (Instr.buildSlice 24 1 #[(0, .agg #[.int .i64 x, .int .i64 y, .int .i64 a, .int .i64 b])]).run Try.prog W = .ok (.slice (some ⟨W.heap.size, 0, none⟩) 1 1) (W.alloc (.cells #[.int .i64 x, .int .i64 y, .int .i64 a, .int .i64 b] 53)) := by kernel_rfl
theorem lit_rect1 (x y a b : Int) (W : World) : (Instr.buildSlice 69 1 #[(0, .agg #[.int .i64 x, .int .i64 y, .int .i64 a, .int .i64 b])]).run Try.prog W = .ok (.slice (some ⟨W.heap.size, 0, none⟩) 1 1) (W.alloc (.cells #[.int .i64 x, .int .i64 y, .int .i64 a, .int .i64 b] 33)) := by kernel_rfl
def xV (S : Int) (vs vp : Value) : Value := .agg #[.int .i64 S, vs, vp]
/-- what made gives -/
def MadePost (w : World) (S : Int) (Bs : List R4) (e : Ending) (w' : World) : Prop :=
  ∃ (lv vs : Value) (E : Int), e = .returned (.tuple #[lv, xV S vs (.slice none 0 0), .int .i64 E]) ∧ SlR w' vs Bs ∧ (∀ b, vs.ownBlock = some b → w.heap.size ≤ b ∧ b < w'.heap.size) ∧ Below w.heap.size w w' ∧
    ((okL S Bs ∧ E = 0 ∧ ∃ l k F, S = sd k ∧ lv = .pointer (some ⟨l, 0, none⟩) ∧ LandIs w' l F k Bs [] ∧ (∀ b, F b → w.heap.size ≤ b ∧ vs.ownBlock ≠ some b)) ∨ (¬ okL S Bs ∧ E = 11 ∧ lv = .pointer none))
/-- what New gave, kept -/
def MdK (w wr : World) (S : Int) (Bs : List R4) (lv : Value) (E : Int) (N : Nat) : Prop := (okL S Bs ∧ E = 0 ∧ ∃ l k F, S = sd k ∧ lv = .pointer (some ⟨l, 0, none⟩) ∧ LandIs wr l F k Bs [] ∧ (∀ b, F b → w.heap.size < b ∧ b < N)) ∨ (¬ okL S Bs ∧ E = 11 ∧ lv = .pointer none)
theorem MdK.upd {w wr wx : World} {S : Int} {Bs : List R4} {lv : Value} {E : Int} {N : Nat} {U : Nat → Prop} (h : MdK w wr S Bs lv E N) (hu : Upd U wr wx) (hU : ∀ b, U b → N ≤ b ∨ b ≤ w.heap.size) : MdK w wx S Bs lv E N := by
  rcases h with ⟨h1, h2, l, k, F, h3, h4, h5, h6⟩ | h
  · exact .inl ⟨h1, h2, l, k, F, h3, h4, h5.upd hu (fun b y z => by have := hU b y; have := h6 b z; omega), h6⟩
  · exact .inr h
structure MdI (w wr : World) (S : Int) (Bs : List R4) (lv : Value) (E : Int) (g5 g9 N : Nat) (j : Nat) (v : Value) : Prop where
  k5 : Blk wr g5 #[.int .i64 0, .slice none 0 0, .slice none 0 0]
  k9 : Blk wr g9 #[.int .i64 S, v, .slice none 0 0]
  own : wr.ownsRow N 53 4 v (Bs.take j).length (svR (Bs.take j))
  land : MdK w wr S Bs lv E g9
  below : Below w.heap.size w wr
  size : N ≤ wr.heap.size
theorem MdI.next {w wr wD wE : World} {S : Int} {Bs : List R4} {lv : Value} {E : Int} {g5 g9 N j : Nat} {v v9 : Value} {r : R4} (h : MdI w wr S Bs lv E g5 g9 N j v) (h5 : g5 = w.heap.size) (h59 : g5 < g9) (h9 : N = g9 + 1) (htk : Bs.take (j + 1) = Bs.take j ++ [r])
    (hD : Below wr.heap.size wr wD) (hg : wD.grownBy wE v.ownBlock) (ho : wE.ownsRow N 53 4 v9 (Bs.take j ++ [r]).length (svR (Bs.take j ++ [r]))) :
    MdI w (wE.setCell ⟨g9, 1, none⟩ v9) S Bs lv E g5 g9 N (j + 1) v9 := by
  have hz := h.below.size
  have hzD := hD.size
  have hzE := hg.size
  have hsz := h.size
  have huW : Upd (fun k => v.ownBlock = some k) wr wE := (Upd.of_below hD).trans (Upd.of_grown hg) (fun _ _ q => q)
  have huS := Upd.setCell wE g9 1 v9
  have hu : Upd (fun k => v.ownBlock = some k ∨ k = g9) wr (wE.setCell ⟨g9, 1, none⟩ v9) := (huW.mono (fun _ _ q => .inl q)).trans huS (fun _ _ q => .inr q)
  have hlt := fun k hk => (h.own.lt k hk).1
  refine ⟨?_, ?_, ?_, h.land.upd hu (fun b y => ?_), ?_, ?_⟩
  · exact h.k5.upd hu (fun q => by
      rcases q with q | q
      · have := hlt _ q; omega
      · omega)
  · have h1 := (h.k9.upd huW (fun q => by have := hlt _ q; omega)).set 1 v9
    simpa using h1
  · rw [htk]
    exact Upd.owns huS ho (fun k hk q => by have := (ho.lt k hk).1; omega)
  · rcases y with y | y
    · have := hlt b y; omega
    · omega
  · refine Below.setCell (p := ⟨g9, 1, none⟩) ?_ (by show _ ≤ g9; omega) _
    exact (h.below.trans (hD.mono hz)).grown hg (by omega) (fun k hk => by have := hlt k hk; omega)
  · have := huS.size; omega
theorem set3v {x : World} {g : Nat} {c0 c1 c2 : Value} (h : Blk x g #[c0, c1, c2]) (u0 u1 u2 : Value) : ∃ wz, wz = ((x.setCell ⟨g, 0, none⟩ u0).setCell ⟨g, 1, none⟩ u1).setCell ⟨g, 2, none⟩ u2 ∧ Blk wz g #[u0, u1, u2] ∧ Upd (fun k => k = g) x wz :=
  ⟨_, rfl, by simpa using ((h.set 0 u0).set 1 u1).set 2 u2, ((Upd.setCell x g 0 u0).trans (Upd.setCell _ g 1 u1) (fun _ _ q => q)).trans (Upd.setCell _ g 2 u2) (fun _ _ q => q)⟩
theorem Blk.c3v {w : World} {g : Nat} {c0 c1 c2 : Value} (h : Blk w g #[c0, c1, c2]) : w.cell? ⟨g, 0, none⟩ = some c0 ∧ w.cell? ⟨g, 1, none⟩ = some c1 ∧ w.cell? ⟨g, 2, none⟩ = some c2 :=
  ⟨by rw [h.cell]; rfl, by rw [h.cell]; rfl, by rw [h.cell]; rfl⟩
theorem MdI.post {w wr wz : World} {S : Int} {Bs : List R4} {lv : Value} {E : Int} {g5 g9 N j : Nat} {v : Value} (h : MdI w wr S Bs lv E g5 g9 N j v) (hj : Bs.take j = Bs) (h5 : g5 = w.heap.size) (h59 : g5 < g9) (h9 : N = g9 + 1) (hu : Upd (fun b => b = g5) wr wz) (hF : ∀ b, b = g5 → N ≤ b ∨ b < g9) (hland : MdK w wz S Bs lv E g9) : MadePost w S Bs (.returned (.tuple #[lv, xV S v (.slice none 0 0), .int .i64 E])) wz := by
  have hz := hu.size
  have ho : wz.ownsRow N 53 4 v Bs.length (svR Bs) := by
    have := h.own
    rw [hj] at this
    exact Upd.owns hu this (fun k hk q => by have := (h.own.lt k hk).1; omega)
  refine ⟨lv, v, E, rfl, SlR.of_own ho, fun b hb => ⟨by have := (ho.lt b hb).1; omega, (ho.lt b hb).2⟩, h.below.trans (hu.below h.below.size (fun k _ q => by omega)), ?_⟩
  rcases hland with ⟨h1, h2, l, k, F, h3, h4, h6, h7⟩ | q
  · exact .inl ⟨h1, h2, l, k, F, h3, h4, h6, fun b y => ⟨Nat.le_of_lt (h7 b y).1, fun q => by have := (ho.lt b q).1; have := (h7 b y).2; omega⟩⟩
  · exact .inr q
def MdR (w : World) (S : Int) (Bs : List R4) (lv : Value) (E : Int) (g5 g9 N n : Nat) (v22 : Value) (wr : World) : Prop := ∃ (j : Nat) (v : Value), v22 = .int .i64 (j : Int) ∧ j ≤ n ∧ Hid (MdI w wr S Bs lv E g5 g9 N j v)
set_option maxRecDepth 100000 in
set_option maxHeartbeats 8000000 in
theorem law19_made (S : Int) (vb : Value) (Bs : List R4) (w : World) (hs : SlR w vb Bs) (hl : Bs.length ≤ 1000) : Calls Try.prog 11 #[.int .i64 S, vb] w (MadePost w S Bs) := by
  obtain ⟨av, cv, hv, -⟩ := id hs
  obtain ⟨n, hn⟩ : ∃ n, Bs.length = n := ⟨_, rfl⟩
  rw [hn] at hv hl
  subst hv
  have HS := hid hs
  have HN := hid hn
  clear hs hn
  go_enter Try.func11, Try.ntmps11
  go_upto_region 1 with fail
  obtain ⟨w1, hw1⟩ : ∃ w1, w1 = w.alloc (.cells #[.int .i64 0, .slice none 0 0, .slice none 0 0] 27) := ⟨_, rfl⟩
  rw [← hw1]
  obtain ⟨g5, hg⟩ : ∃ g, g = w.heap.size := ⟨_, rfl⟩
  rw [← hg]
  have hb1 : Below w.heap.size w w1 := by rw [hw1]; exact Below.new _ _
  have HX1 : Hid (Blk w1 g5 #[.int .i64 0, .slice none 0 0, .slice none 0 0]) := hid (by rw [hw1, hg]; exact Blk.new _ _ _)
  have HB1 := hid hb1
  have HG5 := hid hg
  clear hw1 hg hb1
  go_wp2_with fail
  refine (land_New S _ Bs w1 (HS.out.below HB1.out) (by rw [HN.out]; exact hl)).mono ?_
  intro e w2 hq
  have hg1 := HX1.out.lt
  obtain ⟨lv, E, rfl, hmd, hb2⟩ : ∃ (lv : Value) (E : Int), e = .returned (.tuple #[lv, .int .i64 E]) ∧ MdK w w2 S Bs lv E w2.heap.size ∧ Below w1.heap.size w1 w2 := by
    rcases hq with ⟨h1, l, k, h2, rfl, h3, h4⟩ | ⟨h1, rfl, h4⟩
    · exact ⟨_, _, rfl, .inl ⟨h1, rfl, l, k, fun b => w.heap.size < b ∧ b < w2.heap.size, h2, rfl, h3.weaken (fun b y z => ⟨by have := HG5.out; omega, z⟩), fun b y => y⟩, h4⟩
    · exact ⟨_, _, rfl, .inr ⟨h1, rfl, rfl⟩, h4⟩
  have HMD := hid hmd
  have HB2 := hid (Below.next HB1.out hb2)
  have HX2 := hid (HX1.out.below hb2)
  have HZ2 : Hid (g5 < w2.heap.size) := hid HX2.out.lt
  have HLV : Hid ((∃ po, lv = .pointer po)) := hid (by
    rcases hmd with ⟨-, -, l, k, F, -, e, -⟩ | ⟨-, -, e⟩
    · exact ⟨_, e⟩
    · exact ⟨_, e⟩)
  obtain ⟨po, rfl⟩ := HLV.out
  clear hq hmd hb2 hg1
  go_upto_region 3 with fail
  obtain ⟨w3, hw3⟩ : ∃ w3, w3 = w2.alloc (.cells #[.int .i64 S, .slice none 0 0, .slice none 0 0] 27) := ⟨_, rfl⟩
  rw [← hw3]
  obtain ⟨g9, hg9⟩ : ∃ g, g = w2.heap.size := ⟨_, rfl⟩
  rw [← hg9]
  have hb3 : Below w2.heap.size w2 w3 := by rw [hw3]; exact Below.new _ _
  have hk9 : Blk w3 g9 #[.int .i64 S, .slice none 0 0, .slice none 0 0] := by rw [hw3, hg9]; exact Blk.new _ _ _
  have hz3 : w3.heap.size = g9 + 1 := by rw [hw3, hg9]; simp
  have HI0 : Hid (MdR w S Bs (.pointer po) E g5 g9 (g9 + 1) n (.int .i64 0) w3) := hid ⟨0, _, rfl, by omega, hid ⟨HX2.out.below hb3, hk9, by simpa [svR] using World.ownsRow_nil _ _ _ _, by rw [hg9]; exact HMD.out.upd (Upd.of_below (S := fun _ => False) hb3) (fun b y => y.elim), Below.next HB2.out hb3, by omega⟩⟩
  have HG : Hid (g5 = w.heap.size ∧ g5 < g9) := hid ⟨HG5.out, by have := HZ2.out; omega⟩
  clear hw3 hg9 hb3 hk9 hz3
  go_wp2_with fail
  go_loopw [22] (fun v22 wr => MdR w S Bs (.pointer po) E g5 g9 (g9 + 1) n v22 wr) (fun v22 _ => n - (intOf v22).toNat)
  case atStart => exact HI0.out
  case round =>
    clear HI0
    obtain ⟨j, v, rfl, hj, HI⟩ := hrel
    by_cases hlt : j < n
    · have j1 : (j : Int) < (n : Int) := by omega
      have j0 : (0 : Int) ≤ (j : Int) := by omega
      have j9 : (j : Int) < 1000 := by omega
      obtain ⟨a', c', e', hrd, -⟩ := HS.out.below HI.out.below
      simp only [Value.slice.injEq] at e'
      obtain ⟨rfl, -, rfl⟩ := e'
      obtain ⟨b0, off, r, rfl, d0, d1, d2, d3, hat, -, htk⟩ := hrd.four j (by rw [HN.out]; exact hlt)
      have HTK := hid htk
      obtain ⟨x1, x2, x3, x4⟩ := r
      simp only at d0 d1 d2 d3
      obtain ⟨av2, cv2, hv2, -⟩ := ownsRow.rd HI.out.own
      have hlj : (Bs.take j).length = j := by rw [List.length_take, HN.out]; omega
      rw [hlj] at hv2
      subst hv2
      have HLJ := hid hlj
      clear hrd hat htk hlj
      go_upto_region 6 with fail
      obtain ⟨w5, hw5⟩ : ∃ w5, w5 = wr.alloc (.cells #[.int .i64 x1, .int .i64 x2, .int .i64 x3, .int .i64 x4] 33) := ⟨_, rfl⟩
      rw [← hw5]
      have hb5 : Below wr.heap.size wr w5 := by rw [hw5]; exact Below.new _ _
      obtain ⟨bb, hbb⟩ : ∃ bb, bb = wr.heap.size := ⟨_, rfl⟩
      rw [← hbb]
      have hO5 : Blk w5 bb #[.int .i64 x1, .int .i64 x2, .int .i64 x3, .int .i64 x4] := by rw [hw5, hbb]; exact Blk.new _ _ _
      obtain ⟨U, hU⟩ : ∃ U : Nat → Prop, U = fun k => Value.ownBlock (.slice av2 j cv2) = some k := ⟨_, rfl⟩
      have hUb : ¬ U bb := by rw [hU]; intro q; have := (HI.out.own.lt bb q).2; omega
      have hU9 : ¬ U g9 := by rw [hU]; intro q; have := (HI.out.own.lt g9 q).1; omega
      have HU := hid hU
      have HB5 := hid hb5
      have k9 := (HI.out.k9.below hb5)
      obtain ⟨y0, y1, y2, y3⟩ := hO5.c4r
      have c9 : w5.cell? ⟨g9, 1, none⟩ = some (.slice av2 j cv2) := k9.c3v.2.1
      have f9 : ∀ z, Upd U w5 z → z.frozen? ⟨g9, 1, none⟩ = false := fun z hz => (k9.upd hz hU9).unfrozen 1
      replace c9 := fun (z : World) (hz : Upd U w5 z) => hz.cell c9 hU9
      replace y0 := fun (z : World) (hz : Upd U w5 z) => hz.cell y0 hUb
      replace y1 := fun (z : World) (hz : Upd U w5 z) => hz.cell y1 hUb
      replace y2 := fun (z : World) (hz : Upd U w5 z) => hz.cell y2 hUb
      replace y3 := fun (z : World) (hz : Upd U w5 z) => hz.cell y3 hUb
      have hyb := (Below.refl w5.heap.size w5).drew
      have hyd : Upd U w5 w5.drew := Upd.of_below hyb
      clear hw5 hb5 hbb d0 d1 d2 d3 hO5 hU hUb hU9 k9
      refine wp_region_kept [7] (fun z => Upd U w5 z) (by kernel_rfl) (by assumption) (fun hH => ?_)
      refine wpK.take (i := 0) (v := _) (by simp only [List.getElem?_toArray, List.getElem?_cons_succ, List.getElem?_cons_zero]; rfl) (by kernel_rfl) (by kernel_rfl) (by kernel_rfl) (by kernel_rfl) (by kernel_rfl) (by exact fun _ _ _ h => h) (by first | exact Or.inl ⟨by rfl, by intro w hSw; go_simp; try with_reducible rfl⟩ | exact Or.inr ⟨by rfl, rfl⟩) hH ?_
      try simp only [Act.put, List.setIfInBounds_toArray, List.set_cons_zero, List.set_cons_succ]
      refine wpK.take (i := 1) (v := _) (by simp only [List.getElem?_toArray, List.getElem?_cons_succ, List.getElem?_cons_zero]; rfl) (by kernel_rfl) (by kernel_rfl) (by kernel_rfl) (by kernel_rfl) (by kernel_rfl) (by exact fun _ _ _ h => h) (by first | exact Or.inl ⟨by rfl, by intro w hSw; go_simp; try with_reducible rfl⟩ | exact Or.inr ⟨by rfl, rfl⟩) hH ?_
      try simp only [Act.put, List.setIfInBounds_toArray, List.set_cons_zero, List.set_cons_succ]
      refine wpK.take (i := 2) (v := _) (by simp only [List.getElem?_toArray, List.getElem?_cons_succ, List.getElem?_cons_zero]; rfl) (by kernel_rfl) (by kernel_rfl) (by kernel_rfl) (by kernel_rfl) (by kernel_rfl) (by exact fun _ _ _ h => h) (by first | exact Or.inl ⟨by rfl, by intro w hSw; go_simp; try with_reducible rfl⟩ | exact Or.inr ⟨by rfl, rfl⟩) hH ?_
      try simp only [Act.put, List.setIfInBounds_toArray, List.set_cons_zero, List.set_cons_succ]
      refine wpK.step (i := 3) (by kernel_rfl) (by simp only [List.getElem?_toArray, List.getElem?_cons_succ, List.getElem?_cons_zero]; rfl) (fun K hK => ?_)
      go_simp
      (refine (law19_ref x1 x2 x3 x4 _).mono ?_); rintro e w6 ⟨rfl, hb6⟩; (have hbb6 := Below.next hyb hb6); (have hk6 : Upd U w5 w6 := Upd.of_below hbb6); go_simp
      refine hK.out _ _ (by assumption) (fun hH => ?_)
      clear hK K
      try simp only [Act.put, List.setIfInBounds_toArray, List.set_cons_zero, List.set_cons_succ]
      refine wpK.step (i := 4) (by kernel_rfl) (by simp only [List.getElem?_toArray, List.getElem?_cons_succ, List.getElem?_cons_zero]; rfl) (fun K hK => ?_)
      refine step_lit (us := #[.int .i64 x1, .int .i64 x2, .int .i64 x3, .int .i64 x4]) (e := 53) (size := 4) (ps := #[(0, .agg #[.int .i64 x1, .int .i64 x2, .int .i64 x3, .int .i64 x4])]) rfl rfl (by simp only [List.map_toArray, List.map_cons, List.map_nil]; rfl) (lit_rect2 x1 x2 x3 x4 _) rfl (by omega) ?_; intro g8 wD hg8 hb8 hs8 hown8; have hbbD := Below.next hbb6 hb8; have hk8 : Upd U w5 wD := Upd.of_below hbbD
      refine hK.out _ _ (by assumption) (fun hH => ?_)
      clear hK K
      try simp only [Act.put, List.setIfInBounds_toArray, List.set_cons_zero, List.set_cons_succ]
      refine wpK.step (i := 5) (by kernel_rfl) (by simp only [List.getElem?_toArray, List.getElem?_cons_succ, List.getElem?_cons_zero]; rfl) (fun K hK => ?_)
      obtain ⟨a8, c8, e8, -, -, hr8, hcz8⟩ := ownsRow.rd hown8; simp only [Value.slice.injEq] at e8; obtain ⟨rfl, -, rfl⟩ := e8; refine step_appN T_rect2 rfl _ _ rfl (g9 + 1) (.slice av2 j cv2) j (svR (Bs.take j)) rfl (owns_below (by have := HI.out.own; rw [HLJ.out] at this; exact this) (Below.next HB5.out hbbD)) (some ⟨g8, 0, none⟩) 1 1 _ rfl rfl (fun h => nomatch h) hr8 (by intro u hu; simp at hu; rcases hu with rfl | rfl | rfl | rfl <;> rfl) (by omega) (by have h1 := (Below.next HB5.out hbbD).size; have h2 := HI.out.size; omega) ?_; intro v9 wE hown9 hg9 hnil9 hwh9; have hk9 : Upd U w5 wE := (Upd.of_below hbbD).trans (Upd.of_grown hg9) (fun k _ q => by rw [HU.out]; exact q); obtain ⟨a9, c9', he9, -⟩ := ownsRow.rd hown9; subst he9
      refine hK.out _ _ (by assumption) (fun hH => ?_)
      clear hK K
      try simp only [Act.put, List.setIfInBounds_toArray, List.set_cons_zero, List.set_cons_succ]
      refine wpK.take (i := 6) (v := _) (by simp only [List.getElem?_toArray, List.getElem?_cons_succ, List.getElem?_cons_zero]; rfl) (by kernel_rfl) (by kernel_rfl) (by kernel_rfl) (by kernel_rfl) (by kernel_rfl) (by exact fun _ _ _ h => h) (by first | exact Or.inl ⟨by rfl, by intro w hSw; go_simp; try with_reducible rfl⟩ | exact Or.inr ⟨by rfl, rfl⟩) hH ?_
      try simp only [Act.put, List.setIfInBounds_toArray, List.set_cons_zero, List.set_cons_succ]
      refine wpK.late (i := 7) (by kernel_rfl) (by simp only [List.getElem?_toArray, List.getElem?_cons_succ, List.getElem?_cons_zero]; rfl) (by kernel_rfl) (fun K hK => ?_)
      go_simp
      refine hK.out _ _ ?_
      clear hK K
      try simp only [Act.put, List.setIfInBounds_toArray, List.set_cons_zero, List.set_cons_succ]
      refine wpK.done (by kernel_rfl) ?_ _
      have hnx := HI.out.next HG.out.1 HG.out.2 rfl HTK.out (Below.next HB5.out hbbD) hg9 (v9 := .slice a9 (j + 1) c9') (by
        rw [svR_append, List.length_append, HLJ.out]; exact hown9)
      have HNX := hid hnx
      clear hnx hown9 hg9 hk9 hnil9 hwh9 hbbD hk8 hbb6 hk6 c9 f9 y0 y1 y2 y3 hyd hyb hr8 hcz8 hown8 hb8 hb6 hH
      go_wp2_with fail
      go_roundw
      case rel => exact ⟨j + 1, _, by go_num, by omega, HNX⟩
      case measure => simp [intOf]; omega
    · obtain ⟨wo, hwo⟩ : ∃ wo, wo = wr := ⟨_, rfl⟩
      subst hwo
      have j1 : ¬ (j : Int) < (n : Int) := by omega
      have HTA : Hid (Bs.take j = Bs) := hid (List.take_of_length_le (by rw [HN.out]; omega))
      obtain ⟨av2, cv2, hv2, -⟩ := ownsRow.rd HI.out.own
      obtain ⟨m, hm⟩ : ∃ m, (Bs.take j).length = m := ⟨_, rfl⟩
      rw [hm] at hv2
      subst hv2
      clear hm
      obtain ⟨p0, p1, p2⟩ := HI.out.k9.c3v
      obtain ⟨q0, q1, q2⟩ := HI.out.k5.c3v
      have f0 : wo.frozen? ⟨g5, 0, none⟩ = false := HI.out.k5.unfrozen 0
      have f1 : wo.frozen? ⟨g5, 1, none⟩ = false := HI.out.k5.unfrozen 1
      have f2 : wo.frozen? ⟨g5, 2, none⟩ = false := HI.out.k5.unfrozen 2
      go_upto_region 8 with fail
      obtain ⟨wz, hwz, hkz, huz⟩ := set3v HI.out.k5 (.int .i64 S) (.slice av2 m cv2) (.slice none 0 0)
      have HWZ := hid hwz
      have HKZ := hid hkz
      have HUZ := hid huz
      have h95 : ¬ g9 = g5 := by have := HG.out.2; omega
      clear hwz hkz huz
      replace p0 := fun (z : World) (hz : Upd (fun b => b = g5) wo z) => hz.cell p0 h95
      replace p1 := fun (z : World) (hz : Upd (fun b => b = g5) wo z) => hz.cell p1 h95
      replace p2 := fun (z : World) (hz : Upd (fun b => b = g5) wo z) => hz.cell p2 h95
      have hyd : Upd (fun b => b = g5) wo wo.drew := Upd.of_below (Below.refl wo.heap.size wo).drew
      refine wp_region_kept [5] (fun z => Upd (fun b => b = g5) wo z) (by kernel_rfl) (by assumption) (fun hH => ?_)
      refine wpK.take (i := 0) (v := _) (by simp only [List.getElem?_toArray, List.getElem?_cons_succ, List.getElem?_cons_zero]; rfl) (by kernel_rfl) (by kernel_rfl) (by kernel_rfl) (by kernel_rfl) (by kernel_rfl) (by exact fun _ _ _ h => h) (by first | exact Or.inl ⟨by rfl, by intro w hSw; go_simp; try with_reducible rfl⟩ | exact Or.inr ⟨by rfl, rfl⟩) hH ?_
      try simp only [Act.put, List.setIfInBounds_toArray, List.set_cons_zero, List.set_cons_succ]
      refine wpK.take (i := 1) (v := _) (by simp only [List.getElem?_toArray, List.getElem?_cons_succ, List.getElem?_cons_zero]; rfl) (by kernel_rfl) (by kernel_rfl) (by kernel_rfl) (by kernel_rfl) (by kernel_rfl) (by exact fun _ _ _ h => h) (by first | exact Or.inl ⟨by rfl, by intro w hSw; go_simp; try with_reducible rfl⟩ | exact Or.inr ⟨by rfl, rfl⟩) hH ?_
      try simp only [Act.put, List.setIfInBounds_toArray, List.set_cons_zero, List.set_cons_succ]
      refine wpK.take (i := 2) (v := _) (by simp only [List.getElem?_toArray, List.getElem?_cons_succ, List.getElem?_cons_zero]; rfl) (by kernel_rfl) (by kernel_rfl) (by kernel_rfl) (by kernel_rfl) (by kernel_rfl) (by exact fun _ _ _ h => h) (by first | exact Or.inl ⟨by rfl, by intro w hSw; go_simp; try with_reducible rfl⟩ | exact Or.inr ⟨by rfl, rfl⟩) hH ?_
      try simp only [Act.put, List.setIfInBounds_toArray, List.set_cons_zero, List.set_cons_succ]
      refine wpK.take (i := 3) (v := _) (by simp only [List.getElem?_toArray, List.getElem?_cons_succ, List.getElem?_cons_zero]; rfl) (by kernel_rfl) (by kernel_rfl) (by kernel_rfl) (by kernel_rfl) (by kernel_rfl) (by exact fun _ _ _ h => h) (by first | exact Or.inl ⟨by rfl, by intro w hSw; go_simp; try with_reducible rfl⟩ | exact Or.inr ⟨by rfl, rfl⟩) hH ?_
      try simp only [Act.put, List.setIfInBounds_toArray, List.set_cons_zero, List.set_cons_succ]
      refine wpK.step (i := 4) (by kernel_rfl) (by simp only [List.getElem?_toArray, List.getElem?_cons_succ, List.getElem?_cons_zero]; rfl) (fun K hK => ?_)
      (have hkk : Upd (fun b => b = g5) wo wz.drew := HUZ.out.trans (Upd.of_below (Below.refl _ _).drew) (fun _ _ q => q)); go_simp; (try rw [← HWZ.out])
      refine hK.out _ _ (by assumption) (fun hH => ?_)
      clear hK K
      try simp only [Act.put, List.setIfInBounds_toArray, List.set_cons_zero, List.set_cons_succ]
      refine wpK.late (i := 5) (by kernel_rfl) (by simp only [List.getElem?_toArray, List.getElem?_cons_succ, List.getElem?_cons_zero]; rfl) (by kernel_rfl) (fun K hK => ?_)
      go_simp
      refine hK.out _ _ ?_
      clear hK K
      try simp only [Act.put, List.setIfInBounds_toArray, List.set_cons_zero, List.set_cons_succ]
      refine wpK.done (by kernel_rfl) ?_ _
      clear p0 p1 p2 q0 q1 q2 f0 f1 f2 hyd hH hkk h95
      obtain ⟨z0, z1, z2⟩ := HKZ.out.c3v
      go_wp2_with fail
      refine bodyPost_ret (results_tct rfl _ _ _ rfl (by go_simp; rfl)) rfl ?_
      have hzd : Upd (fun b => b = g5) wo wz.drew := HUZ.out.trans (Upd.of_below (Below.refl _ _).drew) (fun _ _ q => q)
      exact HI.out.post HTA.out HG.out.1 HG.out.2 rfl hzd (fun b e => .inr (by rw [e]; exact HG.out.2)) (HI.out.land.upd hzd (fun b e => .inr (by have := HG.out.1; omega)))
end Go.Proofs.Ytjbnfppnmljbmaa
end
section
/- Law 19: awake. -/
namespace Go.Proofs.Ytjbnfppnmljbmaa
open Go.RowKit Go.Deep
open Go.Lib (hid)
set_option linter.unusedVariables false
attribute [local go_sem] Oper.semAt_some

/-- a call that answers a number, behind others -/
theorem LandPost.chain {w wa : World} {l k : Nat} {B : List R4} {P' : List Pl} {E : Int} {e : Ending} {w' : World} (h : LandPost wa l (fun b => w.heap.size ≤ b) k B P' E e w') (hw : Below w.heap.size w wa) : e = .returned (.int .i64 E) ∧ LandIs w' l (fun b => w.heap.size ≤ b) k B P' ∧ Below w.heap.size w w' := by
  obtain ⟨F', h1, h2, h3, h4⟩ := h
  have hz := hw.size
  refine ⟨h1, h2.weaken (fun b y _ => ?_), hw.trans (h3.below hz (fun b _ y => y))⟩
  rcases h4 b y with z | z
  · exact z
  · omega
abbrev awB : List R4 := [(8, 8, 2, 2)]
abbrev awP : List Pl := [(1, (0, 0, 4, 4))]
theorem aw_ok : okL 16 awB := ⟨⟨by decide, by decide⟩, by decide⟩
theorem aw_sd {k : Nat} (h : (16 : Int) = sd k) : sd k = 16 := h.symm
set_option maxRecDepth 100000 in
set_option maxHeartbeats 4000000 in
theorem law19_awake (w : World) : Calls Try.prog 10 #[] w fun e w' => e = .returned (.bool true) ∧ Below w.heap.size w w' := by
  have hlit := fun (W : World) => lit_rect1 8 8 2 2 W
  go_enter Try.func10, Try.ntmps10
  go_wp2_with fail
  obtain ⟨w1, hw1⟩ : ∃ w1, w1 = w.alloc (.cells #[.int .i64 8, .int .i64 8, .int .i64 2, .int .i64 2] 33) := ⟨_, rfl⟩
  try rw [← hw1]
  have hb1 : Below w.heap.size w w1 := by rw [hw1]; exact Below.new _ _
  have hk : Blk w1 w.heap.size #[.int .i64 8, .int .i64 8, .int .i64 2, .int .i64 2] := by rw [hw1]; exact Blk.new _ _ _
  have hsl : SlR w1 (.slice (some ⟨w.heap.size, 0, none⟩) 1 1) awB := ⟨some ⟨w.heap.size, 0, none⟩, 1, rfl, fun i hi => ⟨w.heap.size, 0, rfl, by rw [Nat.zero_add, hk.cell]; simp [svR]⟩, by simp, by omega, fun h => nomatch h⟩
  refine (land_New 16 _ awB w1 hsl (by simp)).mono ?_
  intro e w2 hq
  rcases hq with ⟨-, l, k, hak, rfl, hl, hb2⟩ | ⟨hno, -⟩
  case inr => exact absurd aw_ok hno
  have HSD := hid (aw_sd hak)
  have H2 : Hid (LandIs w2 l (fun b => w.heap.size ≤ b) k awB []) := hid (hl.weaken (fun b y _ => by have := hb1.size; omega))
  have HB2 := hid (Below.next hb1 hb2)
  clear hsl hk hw1 hb1 hl hb2 hak hlit
  go_wp2_with fail
  have hq := land_Claim w2 l _ k awB [] 1 0 0 4 4 H2.out
  rw [HSD.out, show claimE 16 awB [] 1 (0, 0, 4, 4) = 0 from by decide +kernel, show claimP 16 awB [] 1 (0, 0, 4, 4) = awP from by decide +kernel] at hq
  refine hq.mono ?_
  intro e w3 hq
  obtain ⟨h1, h2, h3⟩ := LandPost.chain hq HB2.out
  subst h1
  have H3 := hid h2
  have HB3 := hid h3
  clear hq h2 h3
  go_wp2_with fail
  have hq := land_Claim w3 l _ k awB awP 2 3 3 2 2 H3.out
  rw [HSD.out, show claimE 16 awB awP 2 (3, 3, 2, 2) = 32 from by decide +kernel, show claimP 16 awB awP 2 (3, 3, 2, 2) = awP from by decide +kernel] at hq
  refine hq.mono ?_
  intro e w4 hq
  obtain ⟨h1, h2, h3⟩ := LandPost.chain hq HB3.out
  subst h1
  have H4 := hid h2
  have HB4 := hid h3
  clear hq h2 h3
  go_wp2_with fail
  have hq := land_Claim w4 l _ k awB awP 2 9 9 1 1 H4.out
  rw [HSD.out, show claimE 16 awB awP 2 (9, 9, 1, 1) = 33 from by decide +kernel, show claimP 16 awB awP 2 (9, 9, 1, 1) = awP from by decide +kernel] at hq
  refine hq.mono ?_
  intro e w5 hq
  obtain ⟨h1, h2, h3⟩ := LandPost.chain hq HB4.out
  subst h1
  have H5 := hid h2
  have HB5 := hid h3
  clear hq h2 h3
  go_wp2_with fail
  have hq := land_At w5 l _ k awB awP 3 3 H5.out
  rw [show atX awP 3 3 = some 1 from by decide +kernel] at hq
  refine hq.mono ?_
  rintro e w6 ⟨rfl, hb⟩
  have H6 := hid (H5.out.below hb)
  have HB6 := hid (Below.next HB5.out hb)
  clear hq hb
  simp only [Option.getD_some, Option.isSome_some]
  go_wp2_with fail
  refine (land_Len w6 l _ k awB awP H6.out).mono ?_
  rintro e w7 ⟨rfl, h7⟩
  replace h7 := h7.symm
  subst h7
  simp only [List.length_cons, List.length_nil]
  go_wp2_with fail
  have hq := land_Area w6 l _ k awB awP H6.out
  rw [show ((areaX awP : Nat) : Int) = 16 from by decide +kernel] at hq
  refine hq.mono ?_
  rintro e w7 ⟨rfl, hb⟩
  have HB7 := hid (Below.next HB6.out hb)
  clear hq hb
  go_wp2_with fail
  go_ret
  exact ⟨rfl, HB7.out⟩
end Go.Proofs.Ytjbnfppnmljbmaa
end
