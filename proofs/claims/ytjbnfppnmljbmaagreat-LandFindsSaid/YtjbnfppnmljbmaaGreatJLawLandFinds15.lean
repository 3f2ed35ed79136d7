/- Joined texts, in this order: Quarters, QuadMath, QuadMem, QuadSet. Each one's first remark says what it proves; no condition beyond those that its theorems name. -/
import Derived.Test.YtjbnfppnmljbmaaGreatJLawLandFinds14
section
/- Contract of rect's Quarters, at a square. -/
namespace Go.Proofs.YtjbnfppnmljbmaaGreat
open Go.RowKit Go.Deep
open Go.Lib (hid)
set_option linter.unusedVariables false
attribute [local go_sem] Oper.semAt_some

def quArr (X Y h : Int) : Value := .agg #[.int .i64 X, .int .i64 Y, .int .i64 h, .int .i64 h, .int .i64 (X + h), .int .i64 Y, .int .i64 h, .int .i64 h, .int .i64 X, .int .i64 (Y + h), .int .i64 h, .int .i64 h, .int .i64 (X + h), .int .i64 (Y + h), .int .i64 h, .int .i64 h]
def quX (X h : Int) (i : Nat) : Int := X + ((i % 2 : Nat) : Int) * h
def quY (Y h : Int) (i : Nat) : Int := Y + ((i / 2 : Nat) : Int) * h
theorem idx16 (a0 a1 a2 a3 b0 b1 b2 b3 c0 c1 c2 c3 d0 d1 d2 d3 : Int) (w : World) : ∀ i : Nat, i < 4 → (Instr.index 144 (.agg #[.int .i64 a0, .int .i64 a1, .int .i64 a2, .int .i64 a3, .int .i64 b0, .int .i64 b1, .int .i64 b2, .int .i64 b3, .int .i64 c0, .int .i64 c1, .int .i64 c2, .int .i64 c3, .int .i64 d0, .int .i64 d1, .int .i64 d2, .int .i64 d3]) (.int .i64 (i : Int))).run Tryz.prog w =
    .ok (if i = 0 then .agg #[.int .i64 a0, .int .i64 a1, .int .i64 a2, .int .i64 a3] else if i = 1 then .agg #[.int .i64 b0, .int .i64 b1, .int .i64 b2, .int .i64 b3] else if i = 2 then .agg #[.int .i64 c0, .int .i64 c1, .int .i64 c2, .int .i64 c3] else .agg #[.int .i64 d0, .int .i64 d1, .int .i64 d2, .int .i64 d3]) w
  | 0, _ => by kernel_rfl
  | 1, _ => by kernel_rfl
  | 2, _ => by kernel_rfl
  | 3, _ => by kernel_rfl
theorem idx_quArr (X Y h : Int) (w : World) (i : Nat) (hi : i < 4) : (Instr.index 144 (quArr X Y h) (.int .i64 (i : Int))).run Tryz.prog w = .ok (.agg #[.int .i64 (quX X h i), .int .i64 (quY Y h i), .int .i64 h, .int .i64 h]) w := by
  unfold quArr
  rw [idx16 _ _ _ _ _ _ _ _ _ _ _ _ _ _ _ _ w i hi]
  have : i = 0 ∨ i = 1 ∨ i = 2 ∨ i = 3 := by omega
  rcases this with rfl | rfl | rfl | rfl <;> simp [quX, quY]
set_option maxRecDepth 100000 in
set_option maxHeartbeats 4000000 in
theorem rect_Quarters (X Y q : Int) (w : World) (h0 : 1 ≤ q) (hX : 0 ≤ X) (hX2 : X + 2 * q ≤ 256) (hY : 0 ≤ Y) (hY2 : Y + 2 * q ≤ 256) :
    Calls Tryz.prog 97 #[.agg #[.int .i64 X, .int .i64 Y, .int .i64 (2 * q), .int .i64 (2 * q)]] w fun e w' => e = .returned (quArr X Y q) ∧ Below w.heap.size w w' := by
  obtain ⟨S, hS⟩ : ∃ S : Int, 2 * q = S := ⟨_, rfl⟩
  have hrt := fun wz => rect_Right (X, Y, S, S) true (hid ((rightR_iff _).2 (by unfold RightR; simp only; omega))) wz
  unfold rV at hrt
  simp only at hrt
  have HRT := hid hrt
  rw [hS]
  have hmod : Int.tmod S 2 = 0 := by rw [← hS, Int.tmod_eq_emod_of_nonneg (by omega)]; omega
  have hquo : Int.tdiv S 2 = q := by rw [← hS, Int.tdiv_eq_ediv_of_nonneg (by omega)]; omega
  have hwh : IntKind.i64.wrap q = q := by rw [IntKind.wrap_i64]; omega
  have hwX : IntKind.i64.wrap (X + q) = X + q := by rw [IntKind.wrap_i64]; omega
  have hwY : IntKind.i64.wrap (Y + q) = Y + q := by rw [IntKind.wrap_i64]; omega
  unfold quArr
  have HX := hid (And.intro h0 (And.intro hX (And.intro hX2 (And.intro hY hY2))))
  clear hrt hS
  go_enter Tryz.func97, Tryz.ntmps97
  go_upto_region 1 with fail
  generalize hW : World.alloc (World.alloc w _) _ = w1
  obtain ⟨b1, hb1⟩ : ∃ b, b = w.heap.size := ⟨_, rfl⟩
  obtain ⟨b2, hb2⟩ : ∃ b, b = w.heap.size + 1 := ⟨_, rfl⟩
  have hz : (World.alloc w (.cells #[.int .i64 X, .int .i64 Y, .int .i64 S, .int .i64 S] 25)).heap.size = w.heap.size + 1 := by simp
  try rw [hz]
  try rw [← hb2]
  try rw [← hb1]
  have hb : Below w.heap.size w w1 := by rw [← hW]; exact Below.next (Below.new _ _) (Below.new _ _)
  have HR1 : Hid (Blk w1 b1 #[.int .i64 X, .int .i64 Y, .int .i64 S, .int .i64 S]) := hid (by rw [← hW, hb1]; exact (Blk.new w _ _).below (Below.new _ _))
  have HO1 : Hid (Blk w1 b2 #[.int .i64 0, .int .i64 0, .int .i64 0, .int .i64 0, .int .i64 0, .int .i64 0, .int .i64 0, .int .i64 0, .int .i64 0, .int .i64 0, .int .i64 0, .int .i64 0, .int .i64 0, .int .i64 0, .int .i64 0, .int .i64 0]) := hid (by rw [← hW, hb2, ← hz]; exact Blk.new _ _ _)
  have HB1 := hid hb
  have HG2 : Hid (w.heap.size ≤ b2) := hid (by omega)
  clear hW hb1 hb2 hz hb
  obtain ⟨c0, c1, c2, c3⟩ := HR1.out.c4r
  go_wp2_with fail
  refine (HRT.out w1).mono ?_
  rintro e w3 ⟨rfl, hb⟩
  have HR3 := hid (HR1.out.below hb)
  have HO3 := hid (HO1.out.below hb)
  have HB3 := hid (Below.next HB1.out hb)
  clear c0 c1 c2 c3 hb
  obtain ⟨c0, c1, c2, c3⟩ := HR3.out.c4r
  go_upto_region 3 with fail
  replace c0 := fun (z : World) (hz : Below w3.heap.size w3 z) => cellOf_belowR hz c0
  replace c1 := fun (z : World) (hz : Below w3.heap.size w3 z) => cellOf_belowR hz c1
  replace c2 := fun (z : World) (hz : Below w3.heap.size w3 z) => cellOf_belowR hz c2
  replace c3 := fun (z : World) (hz : Below w3.heap.size w3 z) => cellOf_belowR hz c3
  have hyd := (Below.refl w3.heap.size w3).drew
  refine wp_region_kept [7] (fun z => Below w3.heap.size w3 z) (by kernel_rfl) (by assumption) (fun hH => ?_)
  refine wpK.take (i := 0) (v := _) (by simp only [List.getElem?_toArray, List.getElem?_cons_succ, List.getElem?_cons_zero]; rfl) (by kernel_rfl) (by kernel_rfl) (by kernel_rfl) (by kernel_rfl) (by kernel_rfl) (by exact fun _ _ _ h => h) (by first | exact Or.inl ⟨by rfl, by intro w hSw; go_simp; try with_reducible rfl⟩ | exact Or.inr ⟨by rfl, rfl⟩) hH ?_
  try simp only [Act.put, List.setIfInBounds_toArray, List.set_cons_zero, List.set_cons_succ]
  refine wpK.take (i := 1) (v := _) (by simp only [List.getElem?_toArray, List.getElem?_cons_succ, List.getElem?_cons_zero]; rfl) (by kernel_rfl) (by kernel_rfl) (by kernel_rfl) (by kernel_rfl) (by kernel_rfl) (by exact fun _ _ _ h => h) (by first | exact Or.inl ⟨by rfl, by intro w hSw; go_simp; try with_reducible rfl⟩ | exact Or.inr ⟨by rfl, rfl⟩) hH ?_
  try simp only [Act.put, List.setIfInBounds_toArray, List.set_cons_zero, List.set_cons_succ]
  refine wpK.take (i := 2) (v := _) (by simp only [List.getElem?_toArray, List.getElem?_cons_succ, List.getElem?_cons_zero]; rfl) (by kernel_rfl) (by kernel_rfl) (by kernel_rfl) (by kernel_rfl) (by kernel_rfl) (by exact fun _ _ _ h => h) (by first | exact Or.inl ⟨by rfl, by intro w hSw; go_simp; try with_reducible rfl⟩ | exact Or.inr ⟨by rfl, rfl⟩) hH ?_
  try simp only [Act.put, List.setIfInBounds_toArray, List.set_cons_zero, List.set_cons_succ]
  refine wpK.take (i := 3) (v := _) (by simp only [List.getElem?_toArray, List.getElem?_cons_succ, List.getElem?_cons_zero]; rfl) (by kernel_rfl) (by kernel_rfl) (by kernel_rfl) (by kernel_rfl) (by kernel_rfl) (by exact fun _ _ _ h => h) (by first | exact Or.inl ⟨by rfl, by intro w hSw; go_simp; try with_reducible rfl⟩ | exact Or.inr ⟨by rfl, rfl⟩) hH ?_
  try simp only [Act.put, List.setIfInBounds_toArray, List.set_cons_zero, List.set_cons_succ]
  refine wpK.take (i := 4) (v := _) (by simp only [List.getElem?_toArray, List.getElem?_cons_succ, List.getElem?_cons_zero]; rfl) (by kernel_rfl) (by kernel_rfl) (by kernel_rfl) (by kernel_rfl) (by kernel_rfl) (by exact fun _ _ _ h => h) (by first | exact Or.inl ⟨by rfl, by intro w hSw; go_simp; try with_reducible rfl⟩ | exact Or.inr ⟨by rfl, rfl⟩) hH ?_
  try simp only [Act.put, List.setIfInBounds_toArray, List.set_cons_zero, List.set_cons_succ]
  refine wpK.take (i := 5) (v := _) (by simp only [List.getElem?_toArray, List.getElem?_cons_succ, List.getElem?_cons_zero]; rfl) (by kernel_rfl) (by kernel_rfl) (by kernel_rfl) (by kernel_rfl) (by kernel_rfl) (by exact fun _ _ _ h => h) (by first | exact Or.inl ⟨by rfl, by intro w hSw; go_simp; try with_reducible rfl⟩ | exact Or.inr ⟨by rfl, rfl⟩) hH ?_
  try simp only [Act.put, List.setIfInBounds_toArray, List.set_cons_zero, List.set_cons_succ]
  refine wpK.take (i := 6) (v := _) (by simp only [List.getElem?_toArray, List.getElem?_cons_succ, List.getElem?_cons_zero]; rfl) (by kernel_rfl) (by kernel_rfl) (by kernel_rfl) (by kernel_rfl) (by kernel_rfl) (by exact fun _ _ _ h => h) (by first | exact Or.inl ⟨by rfl, by intro w hSw; go_simp; try with_reducible rfl⟩ | exact Or.inr ⟨by rfl, rfl⟩) hH ?_
  try simp only [Act.put, List.setIfInBounds_toArray, List.set_cons_zero, List.set_cons_succ]
  refine wpK.late (i := 7) (by kernel_rfl) (by simp only [List.getElem?_toArray, List.getElem?_cons_succ, List.getElem?_cons_zero]; rfl) (by kernel_rfl) (fun K hK => ?_)
  go_simp
  refine hK.out _ _ ?_
  clear hK K
  try simp only [Act.put, List.setIfInBounds_toArray, List.set_cons_zero, List.set_cons_succ]
  refine wpK.done (by kernel_rfl) ?_ _
  clear c0 c1 c2 c3 hmod hquo hwh hH hyd
  obtain ⟨wd, hwd⟩ : ∃ wd, wd = w3.drew := ⟨_, rfl⟩
  rw [← hwd]
  have hbd : Below w3.heap.size w3 wd := by rw [hwd]; exact (Below.refl _ _).drew
  have HRd := hid (HR3.out.below hbd)
  have HOd := hid (HO3.out.below hbd)
  have HBd := hid (Below.next HB3.out hbd)
  clear hwd hbd
  obtain ⟨c0, c1, c2, c3⟩ := HRd.out.c4r
  obtain ⟨te, hte⟩ := HOd.out
  have HTE := hid hte
  obtain ⟨wz, hwz⟩ : ∃ wz, wz = wd.setRow b2 #[.int .i64 X, .int .i64 Y, .int .i64 q, .int .i64 q, .int .i64 (X + q), .int .i64 Y, .int .i64 q, .int .i64 q, .int .i64 X, .int .i64 (Y + q), .int .i64 q, .int .i64 q, .int .i64 (X + q), .int .i64 (Y + q), .int .i64 q, .int .i64 q] := ⟨_, rfl⟩
  have hkz : Blk wz b2 #[.int .i64 X, .int .i64 Y, .int .i64 q, .int .i64 q, .int .i64 (X + q), .int .i64 Y, .int .i64 q, .int .i64 q, .int .i64 X, .int .i64 (Y + q), .int .i64 q, .int .i64 q, .int .i64 (X + q), .int .i64 (Y + q), .int .i64 q, .int .i64 q] := ⟨te, by rw [hwz]; exact setRow_heap _ _ _ _ _ _ hte⟩
  have huz : Upd (fun k => k = b2) wd wz := by rw [hwz]; exact ⟨rfl, rfl, rfl, by simp, fun k _ hk => setRow_other _ _ _ _ hk⟩
  have HBZ := hid (HBd.out.trans (huz.below HBd.out.size (fun k _ q => by rw [q]; exact HG2.out)))
  have HWZ := hid hwz
  have HKZ := hid hkz
  clear hwz hkz huz hte
  go_wp2_with (refine wpList_store_row rfl 144 _ _ rfl b2 #[.int .i64 X, .int .i64 Y, .int .i64 q, .int .i64 q, .int .i64 (X + q), .int .i64 Y, .int .i64 q, .int .i64 q, .int .i64 X, .int .i64 (Y + q), .int .i64 q, .int .i64 q, .int .i64 (X + q), .int .i64 (Y + q), .int .i64 q, .int .i64 q] rfl rfl te _ HTE.out (by kernel_rfl) rfl (by simp [Value.oneCell']) ?_)
  rw [← HWZ.out]
  go_wp2_with fail
  refine bodyPost_ret (results_cell1 rfl _ _ _ rfl (run_loadVar_mid wz b2 0 144 [.int .i64 X, .int .i64 Y, .int .i64 q, .int .i64 q, .int .i64 (X + q), .int .i64 Y, .int .i64 q, .int .i64 q, .int .i64 X, .int .i64 (Y + q), .int .i64 q, .int .i64 q, .int .i64 (X + q), .int .i64 (Y + q), .int .i64 q, .int .i64 q] _ (fun j v hv => by
    rw [Nat.zero_add, HKZ.out.cell]
    simpa using hv) Tryz.underlying144 rfl (by kernel_rfl))) rfl ?_
  exact ⟨rfl, HBZ.out⟩
end Go.Proofs.YtjbnfppnmljbmaaGreat
end
section
/- A quadtree: squares with the places of their children, how they lie in memory, what tiles they tell. -/
namespace Go.Proofs.YtjbnfppnmljbmaaGreat
open Go.RowKit
open Go.Lib (hid)
set_option linter.unusedVariables false

structure Sq where
  b : Nat
  v : Int
  ks : List Sq
instance : Inhabited Sq := ⟨⟨0, 0, []⟩⟩
def cellS (s : Sq) : List Value := [if s.ks = [] then .pointer none else .pointer (some ⟨s.b, 0, none⟩), .int .u8 s.v]
def blkS : Nat → Sq → List Nat
  | 0, _ => []
  | k + 1, s => if s.ks = [] then [] else s.b :: s.ks.flatMap (blkS k)
def ByteI (v : Int) : Prop := 0 ≤ v ∧ v ≤ 255
def SqAt : Nat → World → Sq → Prop
  | 0, _, s => ByteI s.v ∧ s.ks = []
  | k + 1, w, s => ByteI s.v ∧ (s.ks = [] ∨ (s.ks.length = 4 ∧ Blk w s.b (s.ks.flatMap cellS).toArray ∧ ∀ m ∈ s.ks, SqAt k w m))
theorem SqAt.byte {k : Nat} {w : World} {s : Sq} (h : SqAt k w s) : ByteI s.v := by cases k <;> exact h.1
theorem SqAt.lt : ∀ {k : Nat} {w : World} {s : Sq}, SqAt k w s → ∀ q ∈ blkS k s, q < w.heap.size
  | 0, w, s, h, q, hq => by simp [blkS] at hq
  | k + 1, w, s, h, q, hq => by
    rcases h.2 with e | ⟨h1, h2, h3⟩
    · simp [blkS, e] at hq
    · unfold blkS at hq
      split at hq
      · simp at hq
      · rcases List.mem_cons.1 hq with rfl | hq
        · exact h2.lt
        · obtain ⟨m, hm, hq⟩ := List.mem_flatMap.1 hq
          exact (h3 m hm).lt q hq
theorem SqAt.upd {S : Nat → Prop} {w w' : World} (hu : Upd S w w') : ∀ {k : Nat} {s : Sq}, SqAt k w s → (∀ q ∈ blkS k s, ¬ S q) → SqAt k w' s
  | 0, s, h, hS => h
  | k + 1, s, h, hS => by
    rcases h.2 with e | ⟨h1, h2, h3⟩
    · exact ⟨h.1, .inl e⟩
    · have hne : s.ks ≠ [] := fun e => by rw [e] at h1; simp at h1
      have hb : blkS (k + 1) s = s.b :: s.ks.flatMap (blkS k) := by unfold blkS; rw [if_neg hne]
      rw [hb] at hS
      exact ⟨h.1, .inr ⟨h1, h2.upd hu (hS _ (by simp)), fun m hm => (h3 m hm).upd hu (fun q hq => hS q (List.mem_cons_of_mem _ (List.mem_flatMap.2 ⟨m, hm, hq⟩)))⟩⟩
theorem SqAt.below {w w' : World} (hb : Below w.heap.size w w') {k : Nat} {s : Sq} (h : SqAt k w s) : SqAt k w' s := h.upd (S := fun _ => False) (Upd.of_below hb) (fun _ _ q => q)
/-! ### sides and quarters -/
def sd (k : Nat) : Int := ((2 ^ k : Nat) : Int)
theorem sd_pos (k : Nat) : 1 ≤ sd k := by have := Nat.two_pow_pos k; unfold sd; omega
theorem sd_succ (k : Nat) : sd (k + 1) = 2 * sd k := by unfold sd; rw [Nat.pow_succ]; omega
theorem sd_zero : sd 0 = 1 := rfl
def ownR (k : Nat) (X Y : Int) : R4 := (X, Y, sd k, sd k)
def OwnOk (k : Nat) (X Y : Int) : Prop := 0 ≤ X ∧ X + sd k ≤ 256 ∧ 0 ≤ Y ∧ Y + sd k ≤ 256
theorem OwnOk.right {k : Nat} {X Y : Int} (h : OwnOk k X Y) : RightR (ownR k X Y) := by
  have := sd_pos k
  unfold OwnOk at h; unfold RightR ownR; simp only; omega
theorem qu_cases (X h : Int) (i : Nat) (hi : i < 4) : (i = 0 ∧ quX X h i = X ∧ ∀ Y, quY Y h i = Y) ∨ (i = 1 ∧ quX X h i = X + h ∧ ∀ Y, quY Y h i = Y) ∨ (i = 2 ∧ quX X h i = X ∧ ∀ Y, quY Y h i = Y + h) ∨ (i = 3 ∧ quX X h i = X + h ∧ ∀ Y, quY Y h i = Y + h) := by
  have : i = 0 ∨ i = 1 ∨ i = 2 ∨ i = 3 := by omega
  rcases this with rfl | rfl | rfl | rfl <;> simp [quX, quY]
theorem OwnOk.qu {k : Nat} {X Y : Int} (h : OwnOk (k + 1) X Y) {i : Nat} (hi : i < 4) : OwnOk k (quX X (sd k) i) (quY Y (sd k) i) := by
  have := sd_pos k
  unfold OwnOk at h ⊢
  rw [sd_succ] at h
  rcases qu_cases X (sd k) i hi with ⟨-, e1, e2⟩ | ⟨-, e1, e2⟩ | ⟨-, e1, e2⟩ | ⟨-, e1, e2⟩ <;> rw [e1, e2] <;> omega
theorem holds_own {k : Nat} {X Y : Int} (h : OwnOk k X Y) (x y : Int) : HoldsR (ownR k X Y) x y ↔ X ≤ x ∧ x < X + sd k ∧ Y ≤ y ∧ y < Y + sd k := by
  unfold HoldsR
  exact ⟨fun q => q.2, fun q => ⟨h.right, q⟩⟩
/-! ### leaves -/
def lvS : Nat → Sq → Int → Int → List Tg
  | 0, s, X, Y => [(ownR 0 X Y, s.v)]
  | k + 1, s, X, Y => if s.ks = [] then [(ownR (k + 1) X Y, s.v)] else (List.range 4).flatMap fun i => lvS k (s.ks.getD i default) (quX X (sd k) i) (quY Y (sd k) i)
/-- what is told at a tile -/
def tl (l : List Tg) (x y : Int) : List Int := (l.filter (fun t => tHolds x y t.1)).map (·.2)
theorem tl_append (a b : List Tg) (x y : Int) : tl (a ++ b) x y = tl a x y ++ tl b x y := by unfold tl; rw [List.filter_append, List.map_append]
theorem tl_one {k : Nat} {X Y : Int} (h : OwnOk k X Y) (v x y : Int) : tl [(ownR k X Y, v)] x y = if HoldsR (ownR k X Y) x y then [v] else [] := by
  unfold tl tHolds
  by_cases q : HoldsR (ownR k X Y) x y <;> simp [q]
def qIx (k : Nat) (X Y x y : Int) : Nat := (if X + sd k ≤ x then 1 else 0) + (if Y + sd k ≤ y then 2 else 0)
theorem qIx_lt (k : Nat) (X Y x y : Int) : qIx k X Y x y < 4 := by unfold qIx; split <;> split <;> omega
theorem range4 {β : Type} (f : Nat → List β) : (List.range 4).flatMap f = f 0 ++ (f 1 ++ (f 2 ++ f 3)) := by
  simp [List.range, List.range.loop]
theorem lv_none : ∀ (k : Nat) (s : Sq) (X Y x y : Int), OwnOk k X Y → ¬ HoldsR (ownR k X Y) x y → tl (lvS k s X Y) x y = []
  | 0, s, X, Y, x, y, h, q => by
    unfold lvS; rw [tl_one h, if_neg q]
  | k + 1, s, X, Y, x, y, h, q => by
    unfold lvS
    split
    · rw [tl_one h, if_neg q]
    · have key : ∀ i, i < 4 → tl (lvS k (s.ks.getD i default) (quX X (sd k) i) (quY Y (sd k) i)) x y = [] := fun i hi => by
        refine lv_none k _ _ _ x y (h.qu hi) (fun z => q ?_)
        rw [holds_own (h.qu hi)] at z
        rw [holds_own h, sd_succ]
        have := sd_pos k
        rcases qu_cases X (sd k) i hi with ⟨-, e1, e2⟩ | ⟨-, e1, e2⟩ | ⟨-, e1, e2⟩ | ⟨-, e1, e2⟩ <;> rw [e1, e2] at z <;> omega
      rw [range4, tl_append, tl_append, tl_append, key 0 (by omega), key 1 (by omega), key 2 (by omega), key 3 (by omega)]
      rfl
theorem tl_node (k : Nat) (s : Sq) (X Y x y : Int) (h : OwnOk (k + 1) X Y) (hn : s.ks ≠ []) (q : HoldsR (ownR (k + 1) X Y) x y) :
    tl (lvS (k + 1) s X Y) x y = tl (lvS k (s.ks.getD (qIx k X Y x y) default) (quX X (sd k) (qIx k X Y x y)) (quY Y (sd k) (qIx k X Y x y))) x y ∧ HoldsR (ownR k (quX X (sd k) (qIx k X Y x y)) (quY Y (sd k) (qIx k X Y x y))) x y := by
  have hp := sd_pos k
  have hq := q
  rw [holds_own h, sd_succ] at hq
  have hno : ∀ i, i < 4 → i ≠ qIx k X Y x y → tl (lvS k (s.ks.getD i default) (quX X (sd k) i) (quY Y (sd k) i)) x y = [] := fun i hi hne => by
    refine lv_none k _ _ _ x y (h.qu hi) (fun z => hne ?_)
    rw [holds_own (h.qu hi)] at z
    unfold qIx
    rcases qu_cases X (sd k) i hi with ⟨rfl, e1, e2⟩ | ⟨rfl, e1, e2⟩ | ⟨rfl, e1, e2⟩ | ⟨rfl, e1, e2⟩ <;> rw [e1, e2] at z <;> split <;> split <;> omega
  constructor
  · conv => lhs; unfold lvS
    rw [if_neg hn, range4, tl_append, tl_append, tl_append]
    have hl := qIx_lt k X Y x y
    generalize qIx k X Y x y = j at hno hl ⊢
    have : j = 0 ∨ j = 1 ∨ j = 2 ∨ j = 3 := by omega
    rcases this with rfl | rfl | rfl | rfl
    · rw [hno 1 (by omega) (by omega), hno 2 (by omega) (by omega), hno 3 (by omega) (by omega)]; simp
    · rw [hno 0 (by omega) (by omega), hno 2 (by omega) (by omega), hno 3 (by omega) (by omega)]; simp
    · rw [hno 0 (by omega) (by omega), hno 1 (by omega) (by omega), hno 3 (by omega) (by omega)]; simp
    · rw [hno 0 (by omega) (by omega), hno 1 (by omega) (by omega), hno 2 (by omega) (by omega)]; simp
  · rw [holds_own (h.qu (qIx_lt _ _ _ _ _))]
    rcases qu_cases X (sd k) _ (qIx_lt k X Y x y) with ⟨e0, e1, e2⟩ | ⟨e0, e1, e2⟩ | ⟨e0, e1, e2⟩ | ⟨e0, e1, e2⟩ <;> rw [e1, e2] <;> unfold qIx at e0 <;> split at e0 <;> split at e0 <;> omega
theorem lv_leaf {k : Nat} {s : Sq} (X Y : Int) (hs : s.ks = []) : lvS k s X Y = [(ownR k X Y, s.v)] := by
  cases k with
  | zero => rfl
  | succ k => unfold lvS; rw [if_pos hs]
theorem lv_one : ∀ (k : Nat) (s : Sq) (X Y x y : Int), OwnOk k X Y → HoldsR (ownR k X Y) x y → ∃ u, tl (lvS k s X Y) x y = [u]
  | 0, s, X, Y, x, y, h, q => ⟨s.v, by unfold lvS; rw [tl_one h, if_pos q]⟩
  | k + 1, s, X, Y, x, y, h, q => by
    by_cases hs : s.ks = []
    · exact ⟨s.v, by rw [lv_leaf X Y hs, tl_one h, if_pos q]⟩
    · obtain ⟨e, hh⟩ := tl_node k s X Y x y h hs q
      rw [e]
      exact lv_one k _ _ _ x y (h.qu (qIx_lt _ _ _ _ _)) hh
/-! ### what a store of a value on a rectangle does -/
def SetOk (k : Nat) (s s' : Sq) (X Y : Int) (r : R4) (v : Int) : Prop := ∀ x y, HoldsR (ownR k X Y) x y → tl (lvS k s' X Y) x y = if HoldsR r x y then [v] else tl (lvS k s X Y) x y
theorem setOk_apart {k : Nat} {s : Sq} {X Y : Int} {r : R4} {v : Int} (h : OwnOk k X Y) (hm : ¬ MeetsR (ownR k X Y) r) : SetOk k s s X Y r v := fun x y q => by
  rw [if_neg]
  intro z
  apply hm
  obtain ⟨q1, q2, q3, q4, q5⟩ := q
  obtain ⟨z1, z2, z3, z4, z5⟩ := z
  exact ⟨q1, z1, by omega, by omega, by omega, by omega⟩
theorem setOk_same {k : Nat} {s : Sq} {X Y : Int} {r : R4} (h : OwnOk k X Y) (hs : s.ks = []) : SetOk k s s X Y r s.v := fun x y q => by
  rw [lv_leaf X Y hs, tl_one h, if_pos q]; simp
theorem setOk_in {k : Nat} {s s' : Sq} {X Y : Int} {r : R4} (h : OwnOk k X Y) (hs : s'.ks = []) (hi : InR (ownR k X Y) r) : SetOk k s s' X Y r s'.v := fun x y q => by
  rw [lv_leaf X Y hs, tl_one h, if_pos q, if_pos]
  obtain ⟨q1, q2, q3, q4, q5⟩ := q
  obtain ⟨z1, z2, z3, z4, z5, z6⟩ := hi
  exact ⟨z2, by omega, by omega, by omega, by omega⟩
/-- four children, each as it must be; s may have been a leaf, of which all children have the value -/
theorem setOk_node {k : Nat} {s s' : Sq} {X Y : Int} {r : R4} {v : Int} {ks : List Sq} (h : OwnOk (k + 1) X Y) (hks : ks.length = 4) (h' : s'.ks.length = 4) (hs : s.ks = ks ∨ (s.ks = [] ∧ ∀ m ∈ ks, m.ks = [] ∧ m.v = s.v))
    (hk : ∀ i, i < 4 → SetOk k (ks.getD i default) (s'.ks.getD i default) (quX X (sd k) i) (quY Y (sd k) i) r v) : SetOk (k + 1) s s' X Y r v := fun x y q => by
  obtain ⟨e, hh⟩ := tl_node k s' X Y x y h (fun e => by rw [e] at h'; simp at h') q
  have hl := qIx_lt k X Y x y
  rw [e, hk _ hl x y hh]
  split
  · rfl
  · rcases hs with hs | ⟨h1, h2⟩
    · rw [(tl_node k s X Y x y h (fun e => by rw [hs] at e; rw [e] at hks; simp at hks) q).1, hs]
    · have hm : ks.getD (qIx k X Y x y) default ∈ ks := by
        rw [List.getD_eq_getElem?_getD, List.getElem?_eq_getElem (by omega)]; simp
      obtain ⟨h3, h4⟩ := h2 _ hm
      rw [lv_leaf _ _ h3, tl_one (h.qu hl), if_pos hh, lv_leaf X Y h1, tl_one h, if_pos q, h4]
/-- four leaves of one value are one -/
theorem setOk_fold {k : Nat} {s s1 s' : Sq} {X Y : Int} {r : R4} {v : Int} (h : OwnOk (k + 1) X Y) (h0 : SetOk (k + 1) s s1 X Y r v) (h1 : s1.ks.length = 4) (hl : s'.ks = []) (hk : ∀ i, i < 4 → (s1.ks.getD i default).ks = [] ∧ (s1.ks.getD i default).v = s'.v) : SetOk (k + 1) s s' X Y r v := fun x y q => by
  rw [← h0 x y q]
  obtain ⟨e, hh⟩ := tl_node k s1 X Y x y h (fun e => by rw [e] at h1; simp at h1) q
  have hx := qIx_lt k X Y x y
  rw [e, lv_leaf _ _ (hk _ hx).1, tl_one (h.qu hx), if_pos hh, lv_leaf X Y hl, tl_one h, if_pos q, (hk _ hx).2]
/-! ### a square within a tree meets just what tiles tell -/
theorem lv_in : ∀ (k : Nat) (s : Sq) (X Y : Int), OwnOk k X Y → ∀ t ∈ lvS k s X Y, InR t.1 (ownR k X Y)
  | 0, s, X, Y, h, t, ht => by
    simp only [lvS, List.mem_singleton] at ht
    subst ht; exact inR_refl h.right
  | k + 1, s, X, Y, h, t, ht => by
    unfold lvS at ht
    split at ht
    · simp only [List.mem_singleton] at ht
      subst ht; exact inR_refl h.right
    · obtain ⟨i, hi, ht⟩ := List.mem_flatMap.1 ht
      have hi4 : i < 4 := by simpa using hi
      refine inR_trans (lv_in k _ _ _ (h.qu hi4) t ht) ?_
      have hp := sd_pos k
      have h1 := (h.qu hi4).right
      have h2 := h.right
      refine ⟨h1, h2, ?_⟩
      unfold ownR
      simp only [sd_succ]
      rcases qu_cases X (sd k) i hi4 with ⟨-, e1, e2⟩ | ⟨-, e1, e2⟩ | ⟨-, e1, e2⟩ | ⟨-, e1, e2⟩ <;> rw [e1, e2] <;> omega
theorem mem_tl {l : List Tg} {x y u : Int} : u ∈ tl l x y ↔ ∃ t ∈ l, HoldsR t.1 x y ∧ t.2 = u := by
  unfold tl tHolds
  simp only [List.mem_map, List.mem_filter, decide_eq_true_eq]
  exact ⟨fun ⟨t, ⟨h1, h2⟩, h3⟩ => ⟨t, h1, h2, h3⟩, fun ⟨t, h1, h2, h3⟩ => ⟨t, ⟨h1, h2⟩, h3⟩⟩
theorem meets_tile {a b : R4} (h : MeetsR a b) : ∃ x y, HoldsR a x y ∧ HoldsR b x y := by
  obtain ⟨h1, h2, h3, h4, h5, h6⟩ := h
  have k1 := h1; have k2 := h2
  unfold RightR at k1 k2
  exact ⟨max a.1 b.1, max a.2.1 b.2.1, ⟨h1, by omega, by omega, by omega, by omega⟩, ⟨h2, by omega, by omega, by omega, by omega⟩⟩
theorem tile_meets {a b : R4} {x y : Int} (h : HoldsR a x y) (k : HoldsR b x y) : MeetsR a b := by
  obtain ⟨h1, h2, h3, h4, h5⟩ := h
  obtain ⟨k1, k2, k3, k4, k5⟩ := k
  exact ⟨h1, k1, by omega, by omega, by omega, by omega⟩
/-- is there a leaf of a value that meets r? -/
theorem any_iff {k : Nat} {s : Sq} {X Y : Int} (h : OwnOk k X Y) (r : R4) (v : Int) : (∃ t ∈ lvS k s X Y, MeetsR t.1 r ∧ t.2 = v) ↔ ∃ x y, HoldsR (ownR k X Y) x y ∧ HoldsR r x y ∧ tl (lvS k s X Y) x y = [v] := by
  constructor
  · rintro ⟨t, ht, hm, rfl⟩
    obtain ⟨x, y, h1, h2⟩ := meets_tile hm
    have hin := lv_in k s X Y h t ht
    have ho : HoldsR (ownR k X Y) x y := by
      obtain ⟨z1, z2, z3, z4, z5, z6⟩ := hin
      obtain ⟨q1, q2, q3, q4, q5⟩ := h1
      exact ⟨z2, by omega, by omega, by omega, by omega⟩
    obtain ⟨u, hu⟩ := lv_one k s X Y x y h ho
    have hm2 : t.2 ∈ tl (lvS k s X Y) x y := mem_tl.2 ⟨t, ht, h1, rfl⟩
    rw [hu] at hm2
    simp at hm2
    exact ⟨x, y, ho, h2, by rw [hu, hm2]⟩
  · rintro ⟨x, y, ho, h2, h3⟩
    obtain ⟨t, ht, h4, h5⟩ := mem_tl.1 (show v ∈ tl (lvS k s X Y) x y by rw [h3]; simp)
    exact ⟨t, ht, tile_meets h4 h2, h5⟩
end Go.Proofs.YtjbnfppnmljbmaaGreat
end
section
/- A quadtree in memory: what a store on a rectangle leaves, round by round. -/
namespace Go.Proofs.YtjbnfppnmljbmaaGreat
open Go.RowKit
open Go.Lib (hid)
set_option linter.unusedVariables false

def c0S (s : Sq) : Value := if s.ks = [] then .pointer none else .pointer (some ⟨s.b, 0, none⟩)
theorem cellS_eq (s : Sq) : cellS s = [c0S s, .int .u8 s.v] := rfl
theorem c0S_leaf {s : Sq} (h : s.ks = []) : c0S s = .pointer none := by unfold c0S; rw [if_pos h]
theorem c0S_node {s : Sq} (h : s.ks ≠ []) : c0S s = .pointer (some ⟨s.b, 0, none⟩) := by unfold c0S; rw [if_neg h]
def set2 (cs : Array Value) (off : Nat) (s : Sq) : Array Value := (cs.setIfInBounds off (c0S s)).setIfInBounds (off + 1) (.int .u8 s.v)
theorem set2_get {cs : Array Value} {off : Nat} {u0 u1 : Value} (h0 : cs[off]? = some u0) (h1 : cs[off + 1]? = some u1) (s : Sq) : (set2 cs off s)[off]? = some (c0S s) ∧ (set2 cs off s)[off + 1]? = some (.int .u8 s.v) := by
  have hl : off + 1 < cs.size := (Array.getElem?_eq_some_iff.1 h1).1
  unfold set2
  constructor
  · rw [Array.getElem?_setIfInBounds_ne (by omega), Array.getElem?_setIfInBounds_self_of_lt (by omega)]
  · rw [Array.getElem?_setIfInBounds_self_of_lt (by simpa using hl)]
theorem set2_same {cs : Array Value} {off : Nat} {s : Sq} (h0 : cs[off]? = some (c0S s)) (h1 : cs[off + 1]? = some (.int .u8 s.v)) : set2 cs off s = cs := by
  apply Array.ext_getElem?
  intro i
  by_cases e1 : i = off
  · subst e1; rw [(set2_get h0 h1 s).1, h0]
  · by_cases e2 : i = off + 1
    · subst e2; rw [(set2_get h0 h1 s).2, h1]
    · unfold set2; rw [Array.getElem?_setIfInBounds_ne (by omega), Array.getElem?_setIfInBounds_ne (by omega)]
theorem set2_ptr {cs : Array Value} {off : Nat} {u0 : Value} {s : Sq} (h0 : cs[off]? = some u0) (h1 : cs[off + 1]? = some (.int .u8 s.v)) : set2 cs off s = cs.setIfInBounds off (c0S s) := by
  apply Array.ext_getElem?
  intro i
  have hl : off + 1 < cs.size := (Array.getElem?_eq_some_iff.1 h1).1
  by_cases e2 : i = off + 1
  · subst e2; rw [(set2_get h0 h1 s).2, Array.getElem?_setIfInBounds_ne (by omega), h1]
  · unfold set2; rw [Array.getElem?_setIfInBounds_ne (by omega)]
theorem set2_set2 {cs : Array Value} {off : Nat} {u0 u1 : Value} (h0 : cs[off]? = some u0) (h1 : cs[off + 1]? = some u1) (s t : Sq) : set2 (set2 cs off s) off t = set2 cs off t := by
  apply Array.ext_getElem?
  intro i
  have hg := set2_get h0 h1 s
  by_cases e1 : i = off
  · subst e1; rw [(set2_get hg.1 hg.2 t).1, (set2_get h0 h1 t).1]
  · by_cases e2 : i = off + 1
    · subst e2; rw [(set2_get hg.1 hg.2 t).2, (set2_get h0 h1 t).2]
    · unfold set2; rw [Array.getElem?_setIfInBounds_ne (by omega), Array.getElem?_setIfInBounds_ne (by omega), Array.getElem?_setIfInBounds_ne (by omega), Array.getElem?_setIfInBounds_ne (by omega), Array.getElem?_setIfInBounds_ne (by omega), Array.getElem?_setIfInBounds_ne (by omega)]
theorem list4q {α : Type} : ∀ {l : List α}, l.length = 4 → ∃ a b c d, l = [a, b, c, d]
  | [a, b, c, d], _ => ⟨a, b, c, d, rfl⟩
theorem kid_cells {ms : List Sq} (h : ms.length = 4) {i : Nat} (hi : i < 4) : (ms.flatMap cellS).toArray[i * 2]? = some (c0S (ms.getD i default)) ∧ (ms.flatMap cellS).toArray[i * 2 + 1]? = some (.int .u8 (ms.getD i default).v) := by
  obtain ⟨a, b, c, d, rfl⟩ := list4q h
  have : i = 0 ∨ i = 1 ∨ i = 2 ∨ i = 3 := by omega
  rcases this with rfl | rfl | rfl | rfl <;> exact ⟨rfl, rfl⟩
theorem kid_set {ms : List Sq} (h : ms.length = 4) {i : Nat} (hi : i < 4) (m : Sq) : set2 (ms.flatMap cellS).toArray (i * 2) m = ((ms.set i m).flatMap cellS).toArray := by
  obtain ⟨a, b, c, d, rfl⟩ := list4q h
  have : i = 0 ∨ i = 1 ∨ i = 2 ∨ i = 3 := by omega
  rcases this with rfl | rfl | rfl | rfl <;> simp [set2, cellS_eq]
def SetPost (k : Nat) (w : World) (b0 off : Nat) (cs : Array Value) (s : Sq) (X Y : Int) (r : R4) (v : Int) (e : Ending) (w' : World) : Prop :=
  ∃ s', e = .returned (.tuple #[]) ∧ SqAt k w' s' ∧ Blk w' b0 (set2 cs off s') ∧ (b0 :: blkS k s').Nodup ∧ (∀ q ∈ blkS k s', q ∈ blkS k s ∨ w.heap.size ≤ q) ∧ Upd (fun q => q = b0 ∨ q ∈ blkS k s) w w' ∧ SetOk k s s' X Y r v
def oneS (ms : List Sq) (i : Nat) : Bool := (List.range i).all fun j => decide ((ms.getD j default).ks = []) && decide ((ms.getD j default).v = (ms.getD 0 default).v)
/-- the rounds over the four children -/
structure QI (k : Nat) (w wr : World) (b0 off g : Nat) (cs : Array Value) (s : Sq) (ks ms : List Sq) (sv : Int) (X Y : Int) (r : R4) (v : Int) (i : Nat) : Prop where
  len : ms.length = 4
  blk0 : Blk wr b0 (set2 cs off ⟨g, sv, ms⟩)
  blkg : Blk wr g (ms.flatMap cellS).toArray
  kids : ∀ m ∈ ms, SqAt k wr m
  nd : (b0 :: g :: ms.flatMap (blkS k)).Nodup
  fr : ∀ q ∈ g :: ms.flatMap (blkS k), q ∈ blkS (k + 1) s ∨ w.heap.size ≤ q
  upd : Upd (fun q => q = b0 ∨ q ∈ blkS (k + 1) s) w wr
  done : ∀ j, j < i → SetOk k (ks.getD j default) (ms.getD j default) (quX X (sd k) j) (quY Y (sd k) j) r v
  rest : ∀ j, i ≤ j → j < 4 → ms.getD j default = ks.getD j default
theorem c0S_irrel {g : Nat} {sv : Int} {ms ns : List Sq} (h : ms.length = 4) (h' : ns.length = 4) : c0S ⟨g, sv, ms⟩ = c0S ⟨g, sv, ns⟩ := by
  obtain ⟨a, b, c, d, rfl⟩ := list4q h
  obtain ⟨a', b', c', d', rfl⟩ := list4q h'
  rfl
theorem QI.below {k : Nat} {w wr wx : World} {b0 off g : Nat} {cs : Array Value} {s : Sq} {ks ms : List Sq} {sv X Y : Int} {r : R4} {v : Int} {i : Nat} (h : QI k w wr b0 off g cs s ks ms sv X Y r v i) (hb : Below wr.heap.size wr wx) : QI k w wx b0 off g cs s ks ms sv X Y r v i :=
  ⟨h.len, h.blk0.below hb, h.blkg.below hb, fun m hm => (h.kids m hm).below hb, h.nd, h.fr, h.upd.trans (Upd.of_below hb) (fun _ _ q => q), h.done, h.rest⟩
theorem split_at {ms : List Sq} {i : Nat} (hi : i < ms.length) : ms = ms.take i ++ ms.getD i default :: ms.drop (i + 1) ∧ ∀ m, ms.set i m = ms.take i ++ m :: ms.drop (i + 1) := by
  have e : ms.getD i default = ms[i] := by rw [List.getD_eq_getElem?_getD, List.getElem?_eq_getElem hi]; rfl
  constructor
  · rw [e, ← List.drop_eq_getElem_cons hi, List.take_append_drop]
  · intro m; exact List.set_eq_take_append_cons_drop.trans (if_pos hi)
theorem QI.next {k : Nat} {w wr w' : World} {b0 off g : Nat} {cs : Array Value} {s : Sq} {ks ms : List Sq} {sv X Y : Int} {r : R4} {v : Int} {i : Nat} (h : QI k w wr b0 off g cs s ks ms sv X Y r v i) (hi : i < 4)
    {e : Ending} (hp : SetPost k wr g (i * 2) (ms.flatMap cellS).toArray (ms.getD i default) (quX X (sd k) i) (quY Y (sd k) i) r v e w') : e = .returned (.tuple #[]) ∧ ∃ m, QI k w w' b0 off g cs s ks (ms.set i m) sv X Y r v (i + 1) ∧ (ms.set i m).getD i default = m ∧ SqAt k w' m := by
  obtain ⟨m, h1, h2, h3, h4, h5, h6, h7⟩ := hp
  refine ⟨h1, m, ?_⟩
  have hil : i < ms.length := by rw [h.len]; exact hi
  obtain ⟨es, et⟩ := split_at hil
  have hm' := et m
  have hz := h6.size
  obtain ⟨n1, n2⟩ := List.nodup_cons.1 h.nd
  obtain ⟨n3, n4⟩ := List.nodup_cons.1 n2
  have hbl : ms.flatMap (blkS k) = (ms.take i).flatMap (blkS k) ++ (blkS k (ms.getD i default) ++ (ms.drop (i + 1)).flatMap (blkS k)) := by
    conv => lhs; rw [es]
    rw [List.flatMap_append, List.flatMap_cons]
  have hbl' : (ms.set i m).flatMap (blkS k) = (ms.take i).flatMap (blkS k) ++ (blkS k m ++ (ms.drop (i + 1)).flatMap (blkS k)) := by
    rw [hm', List.flatMap_append, List.flatMap_cons]
  rw [hbl] at n4 n3 n1
  obtain ⟨p1, p2, p3⟩ := List.nodup_append.1 n4
  obtain ⟨p4, p5, p6⟩ := List.nodup_append.1 p2
  have hlt : ∀ q ∈ ms.flatMap (blkS k), q < wr.heap.size := fun q hq => by
    obtain ⟨m', hm', hq⟩ := List.mem_flatMap.1 hq
    exact (h.kids m' hm').lt q hq
  have hgl := h.blkg.lt
  have hb0l := h.blk0.lt
  have hget : (ms.set i m).getD i default = m := by rw [List.getD_eq_getElem?_getD, List.getElem?_set_self hil]; rfl
  have hge : ∀ j, j ≠ i → (ms.set i m).getD j default = ms.getD j default := fun j hj => by rw [List.getD_eq_getElem?_getD, List.getElem?_set_ne (fun e => hj e.symm), ← List.getD_eq_getElem?_getD]
  -- the other children lie apart
  have hoth : ∀ m' ∈ ms.take i ++ ms.drop (i + 1), ∀ q ∈ blkS k m', ¬ (q = g ∨ q ∈ blkS k (ms.getD i default)) := fun m' hm' q hq z => by
    rcases List.mem_append.1 hm' with hm' | hm'
    · have hq2 : q ∈ (ms.take i).flatMap (blkS k) := List.mem_flatMap.2 ⟨m', hm', hq⟩
      rcases z with z | z
      · subst z; exact n3 (List.mem_append_left _ hq2)
      · exact p3 q hq2 q (List.mem_append_left _ z) rfl
    · have hq2 : q ∈ (ms.drop (i + 1)).flatMap (blkS k) := List.mem_flatMap.2 ⟨m', hm', hq⟩
      rcases z with z | z
      · subst z; exact n3 (List.mem_append_right _ (List.mem_append_right _ hq2))
      · exact p6 q z q hq2 rfl
  have hmem : ∀ m' ∈ ms.set i m, m' = m ∨ m' ∈ ms.take i ++ ms.drop (i + 1) := fun m' hm2 => by
    rw [hm'] at hm2
    simp only [List.mem_append, List.mem_cons] at hm2 ⊢
    rcases hm2 with q | q | q
    · exact .inr (.inl q)
    · exact .inl q
    · exact .inr (.inr q)
  have hsub : ∀ m' ∈ ms.take i ++ ms.drop (i + 1), m' ∈ ms := fun m' hm2 => by
    rcases List.mem_append.1 hm2 with q | q
    · exact List.mem_of_mem_take q
    · exact List.mem_of_mem_drop q
  refine ⟨⟨by simpa using h.len, ?_, ?_, ?_, ?_, ?_, ?_, ?_, ?_⟩, hget, h2⟩
  · have e : set2 cs off ⟨g, sv, ms.set i m⟩ = set2 cs off ⟨g, sv, ms⟩ := by
      unfold set2; rw [c0S_irrel (g := g) (sv := sv) (show (ms.set i m).length = 4 by simpa using h.len) h.len]
    rw [e]
    refine h.blk0.upd h6 (fun z => ?_)
    rcases z with z | z
    · exact n1 (by rw [z]; simp)
    · exact n1 (List.mem_cons_of_mem _ (List.mem_append_right _ (List.mem_append_left _ z)))
  · rw [← kid_set h.len hi m]; exact h3
  · intro m' hm2
    rcases hmem m' hm2 with rfl | q
    · exact h2
    · exact (h.kids m' (hsub m' q)).upd h6 (fun x hx z => hoth m' q x hx z)
  · obtain ⟨g1, g2⟩ := List.nodup_cons.1 h4
    have hnew : ∀ q ∈ blkS k m, q ∈ blkS k (ms.getD i default) ∨ wr.heap.size ≤ q := h5
    have hA : ∀ q ∈ (ms.take i).flatMap (blkS k), q < wr.heap.size := fun q hq => hlt q (by rw [hbl]; exact List.mem_append_left _ hq)
    have hB : ∀ q ∈ (ms.drop (i + 1)).flatMap (blkS k), q < wr.heap.size := fun q hq => hlt q (by rw [hbl]; exact List.mem_append_right _ (List.mem_append_right _ hq))
    rw [hbl']
    rw [List.nodup_cons, List.nodup_cons, List.nodup_append, List.nodup_append]
    refine ⟨fun z => ?_, fun z => ?_, p1, ⟨g2, p5, fun x hx y hy e => ?_⟩, fun x hx y hy e => ?_⟩
    · simp only [List.mem_cons, List.mem_append] at z n1
      rcases z with z | z | z | z
      · exact n1 (.inl z)
      · exact n1 (.inr (.inl z))
      · rcases hnew _ z with q | q
        · exact n1 (.inr (.inr (.inl q)))
        · omega
      · exact n1 (.inr (.inr (.inr z)))
    · simp only [List.mem_append] at z n3
      rcases z with z | z | z
      · exact n3 (.inl z)
      · exact g1 z
      · exact n3 (.inr (.inr z))
    · subst e
      rcases hnew x hx with q | q
      · exact p6 x q x hy rfl
      · have := hB x hy; omega
    · subst e
      rcases List.mem_append.1 hy with hy | hy
      · rcases hnew x hy with q | q
        · exact p3 x hx x (List.mem_append_left _ q) rfl
        · have := hA x hx; omega
      · exact p3 x hx x (List.mem_append_right _ hy) rfl
  · intro q hq
    rw [hbl'] at hq
    simp only [List.mem_cons, List.mem_append] at hq
    have hw := h.upd.size
    rcases hq with q1 | q1 | q1 | q1
    · exact h.fr q (by rw [q1]; simp)
    · exact h.fr q (by rw [hbl]; simp only [List.mem_cons, List.mem_append]; exact .inr (.inl q1))
    · rcases h5 q q1 with z | z
      · exact h.fr q (by rw [hbl]; simp only [List.mem_cons, List.mem_append]; exact .inr (.inr (.inl z)))
      · exact .inr (by omega)
    · exact h.fr q (by rw [hbl]; simp only [List.mem_cons, List.mem_append]; exact .inr (.inr (.inr q1)))
  · refine h.upd.trans h6 (fun q hq z => ?_)
    have hq2 : q ∈ g :: ms.flatMap (blkS k) := by
      rcases z with z | z
      · rw [z]; simp
      · rw [hbl]; simp only [List.mem_cons, List.mem_append]; exact .inr (.inr (.inl z))
    rcases h.fr q hq2 with y | y
    · exact .inr y
    · omega
  · intro j hj
    by_cases e : j = i
    · subst e
      rw [hget, ← h.rest j (Nat.le_refl _) hi]; exact h7
    · rw [hge j e]; exact h.done j (by omega)
  · intro j hj hj4
    rw [hge j (by omega)]; exact h.rest j (by omega) hj4
theorem oneS_zero (ms : List Sq) : oneS ms 0 = true := rfl
theorem oneS_succ (ms : List Sq) (i : Nat) : oneS ms (i + 1) = (oneS ms i && (decide ((ms.getD i default).ks = []) && decide ((ms.getD i default).v = (ms.getD 0 default).v))) := by
  unfold oneS; rw [List.range_succ, List.all_append]; simp
theorem oneS_set (ms : List Sq) (i : Nat) (m : Sq) (hi : 1 ≤ i) : oneS (ms.set i m) i = oneS ms i := by
  unfold oneS
  rw [Bool.eq_iff_iff, List.all_eq_true, List.all_eq_true]
  have h0 : (ms.set i m).getD 0 default = ms.getD 0 default := by rw [List.getD_eq_getElem?_getD, List.getElem?_set_ne (by omega), ← List.getD_eq_getElem?_getD]
  have hj : ∀ j ∈ List.range i, (ms.set i m).getD j default = ms.getD j default := fun j hj => by
    have : j < i := by simpa using hj
    rw [List.getD_eq_getElem?_getD, List.getElem?_set_ne (by omega), ← List.getD_eq_getElem?_getD]
  constructor
  · intro q j hjr; have := q j hjr; rw [hj j hjr, h0] at this; exact this
  · intro q j hjr; have := q j hjr; rw [hj j hjr, h0]; exact this
end Go.Proofs.YtjbnfppnmljbmaaGreat
end
section
/- Contract of quad's store of a value on a rectangle, square by square. -/
namespace Go.Proofs.YtjbnfppnmljbmaaGreat
open Go.RowKit Go.Deep
open Go.Lib (hid)
set_option linter.unusedVariables false
attribute [local go_sem] Oper.semAt_some

theorem blkS_node {k : Nat} {s : Sq} (h : s.ks ≠ []) : blkS (k + 1) s = s.b :: s.ks.flatMap (blkS k) := by unfold blkS; rw [if_neg h]
def SetSpec (k : Nat) : Prop := ∀ (s : Sq) (X Y rx ry ra rb v : Int) (w : World) (b0 off : Nat) (cs : Array Value), SqAt k w s → Blk w b0 cs → cs[off]? = some (c0S s) → cs[off + 1]? = some (.int .u8 s.v) → (b0 :: blkS k s).Nodup → OwnOk k X Y → ByteI v →
  Calls Tryz.prog 70 #[.pointer (some ⟨b0, off, none⟩), .agg #[.int .i64 X, .int .i64 Y, .int .i64 (sd k), .int .i64 (sd k)], .agg #[.int .i64 rx, .int .i64 ry, .int .i64 ra, .int .i64 rb], .int .u8 v] w (SetPost k w b0 off cs s X Y (rx, ry, ra, rb) v)
theorem SetPost.same {k : Nat} {w w' : World} {b0 off : Nat} {cs : Array Value} {s : Sq} {X Y : Int} {r : R4} {v : Int} (hs : SqAt k w s) (hb : Blk w b0 cs) (h0 : cs[off]? = some (c0S s)) (h1 : cs[off + 1]? = some (.int .u8 s.v)) (hn : (b0 :: blkS k s).Nodup) (hbw : Below w.heap.size w w') (ho : SetOk k s s X Y r v) : SetPost k w b0 off cs s X Y r v (.returned (.tuple #[])) w' :=
  ⟨s, rfl, hs.below hbw, by rw [set2_same h0 h1]; exact hb.below hbw, hn, fun q hq => .inl hq, Upd.of_below hbw, ho⟩
theorem SetPost.leaf {k : Nat} {w w1 : World} {b0 off : Nat} {cs : Array Value} {s : Sq} {X Y : Int} {r : R4} {v u : Int} (hb : Blk w b0 cs) (hbw : Below w.heap.size w w1) (hu : ByteI u) (ho : ∀ s' : Sq, s'.ks = [] → s'.v = u → SetOk k s s' X Y r v) : SetPost k w b0 off cs s X Y r v (.returned (.tuple #[])) ((w1.setCell ⟨b0, off, none⟩ (.pointer none)).setCell ⟨b0, off + 1, none⟩ (.int .u8 u)) := by
  have h1 := ((hb.below hbw).set off (.pointer none)).set (off + 1) (.int .u8 u)
  refine ⟨⟨0, u, []⟩, rfl, ?_, h1, ?_, ?_, ?_, ho _ rfl rfl⟩
  · cases k with
    | zero => exact ⟨hu, rfl⟩
    | succ k => exact ⟨hu, .inl rfl⟩
  · cases k <;> simp [blkS]
  · intro q hq; cases k <;> simp [blkS] at hq
  · exact ((Upd.of_below (S := fun q => q = b0 ∨ q ∈ blkS k s) hbw).trans (Upd.setCell w1 b0 off _) (fun _ _ q => .inl q)).trans (Upd.setCell _ b0 (off + 1) _) (fun _ _ q => .inl q)
theorem rect_QuartersS (X Y q S : Int) (hS : 2 * q = S) (w : World) (h0 : 1 ≤ q) (hX : 0 ≤ X) (hX2 : X + S ≤ 256) (hY : 0 ≤ Y) (hY2 : Y + S ≤ 256) :
    Calls Tryz.prog 97 #[.agg #[.int .i64 X, .int .i64 Y, .int .i64 S, .int .i64 S]] w fun e w' => e = .returned (quArr X Y q) ∧ Below w.heap.size w w' := by
  subst hS; exact rect_Quarters X Y q w h0 hX hX2 hY hY2
/-- where the two ways meet: a square with children -/
structure SplitI (k : Nat) (w wx : World) (b0 off g : Nat) (cs : Array Value) (s : Sq) (ks : List Sq) : Prop where
  len : ks.length = 4
  blk0 : Blk wx b0 (set2 cs off ⟨g, s.v, ks⟩)
  blkg : Blk wx g (ks.flatMap cellS).toArray
  kids : ∀ m ∈ ks, SqAt k wx m
  nd : (b0 :: g :: ks.flatMap (blkS k)).Nodup
  fr : ∀ q ∈ g :: ks.flatMap (blkS k), q ∈ blkS (k + 1) s ∨ w.heap.size ≤ q
  upd : Upd (fun q => q = b0 ∨ q ∈ blkS (k + 1) s) w wx
  was : s.ks = ks ∨ (s.ks = [] ∧ ∀ m ∈ ks, m.ks = [] ∧ m.v = s.v)
theorem SplitI.qi {k : Nat} {w wx : World} {b0 off g : Nat} {cs : Array Value} {s : Sq} {ks : List Sq} (h : SplitI k w wx b0 off g cs s ks) (X Y : Int) (r : R4) (v : Int) : QI k w wx b0 off g cs s ks ks s.v X Y r v 0 :=
  ⟨h.len, h.blk0, h.blkg, h.kids, h.nd, h.fr, h.upd, fun j hj => by omega, fun j _ _ => rfl⟩
theorem SplitI.node {k : Nat} {w wx : World} {b0 off : Nat} {cs : Array Value} {s : Sq} (hs : SqAt (k + 1) w s) (hne : s.ks ≠ []) (hb : Blk w b0 cs) (h0 : cs[off]? = some (c0S s)) (h1 : cs[off + 1]? = some (.int .u8 s.v)) (hn : (b0 :: blkS (k + 1) s).Nodup) (hbw : Below w.heap.size w wx) : SplitI k w wx b0 off s.b cs s s.ks := by
  obtain ⟨hv, h | ⟨h4, h5, h6⟩⟩ := hs
  · exact absurd h hne
  have e : blkS (k + 1) s = s.b :: s.ks.flatMap (blkS k) := blkS_node hne
  rw [e] at hn
  exact ⟨h4, by rw [set2_same (s := ⟨s.b, s.v, s.ks⟩) h0 h1]; exact hb.below hbw, h5.below hbw, fun m hm => (h6 m hm).below hbw, hn, fun q hq => .inl (by rw [e]; exact hq), Upd.of_below hbw, .inl rfl⟩
def leaf4 (u : Int) : List Sq := List.replicate 4 ⟨0, u, []⟩
theorem SplitI.leaf {k : Nat} {w w2 w3 : World} {b0 off g : Nat} {cs : Array Value} {s : Sq} (hu : ByteI s.v) (hne : s.ks = []) (hb : Blk w b0 cs) (h0 : cs[off]? = some (c0S s)) (h1 : cs[off + 1]? = some (.int .u8 s.v)) (hn : (b0 :: blkS (k + 1) s).Nodup) (hbw : Below w.heap.size w w2) (hg : Blk w3 g (leaf4 s.v |>.flatMap cellS).toArray) (hgw : w.heap.size ≤ g) (hb3 : Below w2.heap.size w2 w3) : SplitI k w (w3.setCell ⟨b0, off, none⟩ (.pointer (some ⟨g, 0, none⟩))) b0 off g cs s (leaf4 s.v) := by
  have hlt := hb.lt
  have hb4 := Below.next hbw hb3
  have hbl : (leaf4 s.v).flatMap (blkS k) = [] := by
    cases k <;> simp [leaf4, blkS, List.replicate]
  have hng : ¬ g = b0 := by omega
  refine ⟨rfl, ?_, hg.upd (Upd.setCell w3 b0 off _) hng, ?_, ?_, ?_, ?_, .inr ⟨hne, ?_⟩⟩
  · rw [set2_ptr (u0 := c0S s) (s := ⟨g, s.v, leaf4 s.v⟩) h0 h1]
    exact (hb.below hb4).set off _
  · intro m hm
    simp only [leaf4, List.mem_replicate] at hm
    rw [hm.2]
    cases k with
    | zero => exact ⟨hu, rfl⟩
    | succ k => exact ⟨hu, .inl rfl⟩
  · rw [hbl]; simp; omega
  · rw [hbl]; intro q hq; simp at hq; subst hq; exact .inr hgw
  · exact (Upd.of_below hb4).trans (Upd.setCell w3 b0 off _) (fun _ _ q => .inl q)
  · intro m hm
    simp only [leaf4, List.mem_replicate] at hm
    rw [hm.2]; exact ⟨rfl, rfl⟩
/-- all four rounds are done -/
theorem QI.all {k : Nat} {w wr : World} {b0 off g : Nat} {cs : Array Value} {s : Sq} {ks ms : List Sq} {X Y : Int} {r : R4} {v : Int} (h : QI k w wr b0 off g cs s ks ms s.v X Y r v 4) (hu : ByteI s.v) (ho : OwnOk (k + 1) X Y) (hk4 : ks.length = 4) (hw : s.ks = ks ∨ (s.ks = [] ∧ ∀ m ∈ ks, m.ks = [] ∧ m.v = s.v)) : SetPost (k + 1) w b0 off cs s X Y r v (.returned (.tuple #[])) wr := by
  have hne : ms ≠ [] := fun e => by have := h.len; rw [e] at this; simp at this
  have e : blkS (k + 1) ⟨g, s.v, ms⟩ = g :: ms.flatMap (blkS k) := blkS_node hne
  exact ⟨⟨g, s.v, ms⟩, rfl, ⟨hu, .inr ⟨h.len, h.blkg, h.kids⟩⟩, h.blk0, by rw [e]; exact h.nd, fun q hq => h.fr q (by rw [e] at hq; exact hq), h.upd, setOk_node ho hk4 h.len hw (fun i hi => h.done i hi)⟩
theorem oneS_all {ms : List Sq} (h : oneS ms 4 = true) : ∀ i, i < 4 → (ms.getD i default).ks = [] ∧ (ms.getD i default).v = (ms.getD 0 default).v := fun i hi => by
  unfold oneS at h
  have := List.all_eq_true.1 h i (by simpa using hi)
  simpa using this
theorem QI.fold {k : Nat} {w wr : World} {b0 off g : Nat} {cs : Array Value} {s : Sq} {ks ms : List Sq} {X Y : Int} {r : R4} {v : Int} (h : QI k w wr b0 off g cs s ks ms s.v X Y r v 4) (hu : ByteI s.v) (ho : OwnOk (k + 1) X Y) (hk4 : ks.length = 4) (hw : s.ks = ks ∨ (s.ks = [] ∧ ∀ m ∈ ks, m.ks = [] ∧ m.v = s.v)) (h1 : oneS ms 4 = true) {u0 u1 : Value} (hc0 : cs[off]? = some u0) (hc1 : cs[off + 1]? = some u1) :
    SetPost (k + 1) w b0 off cs s X Y r v (.returned (.tuple #[])) ((wr.setCell ⟨b0, off, none⟩ (.pointer none)).setCell ⟨b0, off + 1, none⟩ (.int .u8 (ms.getD 0 default).v)) := by
  have hm0 : ms.getD 0 default ∈ ms := by
    rw [List.getD_eq_getElem?_getD, List.getElem?_eq_getElem (by rw [h.len]; omega)]; simp
  have hall := oneS_all h1
  refine ⟨⟨0, (ms.getD 0 default).v, []⟩, rfl, ⟨(h.kids _ hm0).byte, .inl rfl⟩, ?_, by simp [blkS], fun q hq => by simp [blkS] at hq, ?_, ?_⟩
  · have h2 := (h.blk0.set off (.pointer none)).set (off + 1) (.int .u8 (ms.getD 0 default).v)
    rw [← set2_set2 hc0 hc1 ⟨g, s.v, ms⟩]
    exact h2
  · exact (h.upd.trans (Upd.setCell wr b0 off _) (fun _ _ q => .inl q)).trans (Upd.setCell _ b0 (off + 1) _) (fun _ _ q => .inl q)
  · obtain ⟨s1, -, h2, h3, h4, h5, h6, h7⟩ := h.all hu ho hk4 hw
    exact setOk_fold (s1 := ⟨g, s.v, ms⟩) ho (setOk_node ho hk4 h.len hw (fun i hi => h.done i hi)) h.len rfl (fun i hi => hall i hi)
end Go.Proofs.YtjbnfppnmljbmaaGreat
end
