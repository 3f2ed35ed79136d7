/- Joined texts, in this order: RtCheckAll, Pairs. Each one's first remark says what it proves; no condition beyond those that its theorems name. -/
import Derived.Test.YtjbnfppnmljbmaaJLawRtreeMeets21
import Derived.Test.YtjbnfppnmljbmaaJLawRtreeMeets02
section
/- Contract of rtree's Check. -/
namespace Go.Proofs.Ytjbnfppnmljbmaa
open Go.RowKit
open Go.Lib (hid)
set_option linter.unusedVariables false
attribute [local go_sem] Oper.semAt_some

theorem flR_all {l : List Tg} (h : ∀ x ∈ l, RightR x.1) : flR rightR l = l := by
  unfold flR
  exact List.filter_eq_self.2 (fun x hx => (rightR_iff x.1).2 (h x hx))
def OnlyN (K : Act → World → Prop) : Exit → Act → World → Prop
  | .normal => K
  | _ => fun _ _ => False
/-- where a piece of code ends as it should -/
theorem wpIn_onlyN {F : Fence} {n : Nat} {P : Program} {c : Code} {Q : Exit → Act → World → Prop} {a : Act} {w : World} (h : c.wpIn F n P (OnlyN (fun a w => Q .normal a w)) a w) : c.wpIn F n P Q a w :=
  Code.wpIn_mono (fun e a w q => by cases e <;> first | exact q | exact q.elim) h
set_option maxRecDepth 100000 in
set_option maxHeartbeats 8000000 in
theorem rt_Check (w : World) (s : Nat) (F : Nat → Prop) (L : List Tg) (h : TreeIs w s F L) (hl : L.length ≤ 900) :
    Calls Try.prog 17 #[.pointer (some ⟨s, 0, none⟩)] w fun e w' => e = .returned (.bool true) ∧ Below w.heap.size w w' := by
  obtain ⟨d, n, ht, -, h2, hp⟩ := h
  obtain ⟨Y, hY⟩ : ∃ Y, flR rightR (thgN (d + 1) n) = Y := ⟨_, rfl⟩
  have hYL : Y.length = L.length := by
    rw [← hY, flR_all (fun x hx => tree_right ht hx)]
    exact hp.length_eq
  have HY := hid (And.intro hY hYL)
  obtain ⟨C, hC⟩ : ∃ C : Int, (L.length : Int) = C := ⟨_, rfl⟩
  rw [hC] at ht
  have HT := hid ht
  have hd : d ≤ 15 := dep_few ht.sh h2 hp hl
  have HD := hid hd
  have HC := hid (And.intro hC hl)
  have H2 := hid h2
  clear ht hd hY hYL hC hl h2 hp
  refine (callsIn_wide (n := 5)).1 ?_
  refine callsIn_of_wp_marks Try.func17 rfl trivial ?_ rfl
  simp only [Try.ntmps17, List.size_toArray, List.length_cons, List.length_nil, Nat.reduceAdd, Nat.reduceSub, Array.replicate_succ, Array.replicate_zero, List.push_toArray, List.append_toArray, List.nil_append, List.cons_append]
  gi_wp2_with (refine ⟨trivial, ?_⟩; refine (callsIn_wide.2 (rt_All _ s)).mono ?_; rintro e w1 ⟨bT, bI, rfl, hT, hI, hb⟩)
  obtain ⟨w2, hw2⟩ : ∃ w2, w2 = w.alloc (.cells #[.int .i64 0] 3) := ⟨_, rfl⟩
  rw [← hw2] at hb
  obtain ⟨b3, hb3⟩ : ∃ z, z = w.heap.size := ⟨_, rfl⟩
  rw [← hb3]
  have hb2 : Below w.heap.size w w2 := by rw [hw2]; exact Below.new _ _
  have HK3 : Hid (Blk w1 b3 #[.int .i64 0]) := hid ((show Blk w2 b3 #[.int .i64 0] by rw [hw2, hb3]; exact Blk.new _ _ _).below hb)
  have HB1 := hid (Below.next hb2 hb)
  have HZ : Hid (b3 = w.heap.size) := hid hb3
  have HT1 := hid (HT.out.below HB1.out)
  have HTI := hid (And.intro hT hI)
  clear hw2 hb hb3 hb2 hT hI
  have hl1 : w.heap.size ≤ w1.heap.size := HB1.out.size
  refine wpIn_rangeFunc_ownH (F := Fence.wide) (n := 5) (α := Tg) rfl (by omega) (gf := 76) (lb := #[.pointer (some ⟨bT, 0, none⟩), .pointer (some ⟨bI, 0, none⟩)]) rfl trivial (enters_of Try.func76 (by kernel_rfl) rfl)
    (stops_where bT bI s d 52 n C w.heap.size #[] #[] rightR w1 hl1 HTI.out.1 HTI.out.2 HT1.out (fun k hk => HT.out.lt k (List.mem_cons_of_mem _ hk)) (by have := HD.out; omega) (test_All _ _ _))
    (fun h k => h.trans k) (fun W l o o' hlo ho hc _ => KeepR.put hl1 W l o o' hlo ho hc) (Below.refl _ _) (fun _ => rfl)
    (fun pre W => Blk W b3 #[.int .i64 (pre.length : Int)] ∧ Below w.heap.size w W ∧ w1.heap.size ≤ W.heap.size)
    (fun c pre W => False)
    ?hI ?hIx ?h0
    (fun z a' W => a' = { tmps := #[.pointer (some ⟨s, 0, none⟩), undef, .bool false, .pointer (some ⟨b3, 0, none⟩), .pointer (some ⟨s, 0, none⟩), itV bT bI, rV z.1, .int .i64 z.2, undef, undef, undef, undef, undef, undef, undef, undef, undef, undef, undef, undef, undef, undef, undef], defers := [] })
    ?hAx ?assign ?body ?done ?stop
  case hI =>
    rintro pre W W' row ⟨h1, hb, hz⟩ hg hr
    exact ⟨own_blkR hg hr h1, hb.grown hg hb.size (fun j hj => by have := (hr j hj).1; omega), Nat.le_trans hz hg.size⟩
  case hIx =>
    rintro c pre W W' row h1 hg hr
    exact h1
  case h0 => exact ⟨HK3.out, HB1.out, Nat.le_refl _⟩
  case hAx =>
    rintro z a' u W W' row h1 hg hr
    exact h1
  case assign =>
    rintro l pre ⟨⟨zx, zy, za, zb⟩, zv⟩ W K hI hK
    gi_wp2
    exact hK _ _ ((KeepsOthers.refl _).from _) (KeepR.refl _ _ _) hI rfl
  case body =>
    rintro l pre ⟨⟨zx, zy, za, zb⟩, zv⟩ a' W hl hrec hI rfl hlen
    have HI2 := hid hI
    have k3 : W.cell? ⟨b3, 0, none⟩ = some (.int .i64 (pre.length : Int)) := by rw [hI.1.cell]; rfl
    have f3 : W.frozen? ⟨b3, 0, none⟩ = false := hI.1.unfrozen 0
    rw [HY.out.1] at hlen
    have hwr : IntKind.i64.wrap ((pre.length : Int) + 1) = (pre.length : Int) + 1 := by have h1 := HY.out.2; have h2 := HC.out.2; rw [IntKind.wrap_i64]; omega
    have HLT : Hid (b3 < w1.heap.size) := hid HK3.out.lt
    clear hI hlen
    gi_wp2
    refine ⟨(KeepsOthers.setCell _ _ _).from _, KeepR.of_upd (Upd.setCell W b3 0 _) (by have := HI2.out.2.2; omega) (fun k _ q => by have h1 := HLT.out; have h2 := HZ.out; subst q; omega), ?_, HI2.out.2.1.setCell (by have := HZ.out; show _ ≤ b3; omega) _, by have := HI2.out.2.2; simpa using this⟩
    have := HI2.out.1.set 0 (.int .i64 ((pre.length : Int) + 1))
    simpa using this
  case done =>
    rintro D ys W hD rfl ⟨h1, hb, hz⟩ hK
    rw [HY.out.1, HY.out.2, HC.out.1] at h1
    have hT := HT.out.below hb
    have hbs := hT.blk
    have HT2 := hid hT
    have hck := check_all d n true W.drew (by have := HD.out; omega) (hT.node.below (Below.refl _ _).drew) hT.sh (H2.out.imp (fun q => ⟨rfl, q⟩) id)
    unfold ptrN at hbs hck
    obtain ⟨p, hp⟩ : ∃ p, n.p = p := ⟨_, rfl⟩
    rw [hp] at hbs hck
    have c0 := hbs.c2.1
    have c1 := hbs.c2.2.1
    have HCK := hid hck
    have k3 : W.cell? ⟨b3, 0, none⟩ = some (.int .i64 C) := by rw [h1.cell]; rfl
    have HB := hid hb
    have HKD := hid hK
    clear hT hbs hck hp hb h1 hK
    replace c0 := fun (y : World) (hy : Below W.heap.size W y) => cellOf_belowR hy c0
    replace c1 := fun (y : World) (hy : Below W.heap.size W y) => cellOf_belowR hy c1
    replace k3 := fun (y : World) (hy : Below W.heap.size W y) => cellOf_belowR hy k3
    have hyd := (Below.refl W.heap.size W).drew
    gi_wp2
    refine wpIn_onlyN ?_
    refine wpIn_region_keptY [13] (fun y => Below W.heap.size W y) (by kernel_rfl) (by assumption) (fun hH => ?_)
    refine wpKY.take (i := 0) (v := _) (by simp only [List.getElem?_toArray, List.getElem?_cons_succ, List.getElem?_cons_zero]; rfl) (by kernel_rfl) (by kernel_rfl) (by kernel_rfl) (by kernel_rfl) (by exact fun _ _ _ h => h) (by first | exact Or.inl ⟨by rfl, by intro w hSw; go_simp; try with_reducible rfl⟩ | exact Or.inr ⟨by rfl, rfl⟩) hH ?_
    try simp only [Act.put, List.setIfInBounds_toArray, List.set_cons_zero, List.set_cons_succ]
    refine wpKY.take (i := 1) (v := _) (by simp only [List.getElem?_toArray, List.getElem?_cons_succ, List.getElem?_cons_zero]; rfl) (by kernel_rfl) (by kernel_rfl) (by kernel_rfl) (by kernel_rfl) (by exact fun _ _ _ h => h) (by first | exact Or.inl ⟨by rfl, by intro w hSw; go_simp; try with_reducible rfl⟩ | exact Or.inr ⟨by rfl, rfl⟩) hH ?_
    try simp only [Act.put, List.setIfInBounds_toArray, List.set_cons_zero, List.set_cons_succ]
    refine wpKY.take (i := 2) (v := _) (by simp only [List.getElem?_toArray, List.getElem?_cons_succ, List.getElem?_cons_zero]; rfl) (by kernel_rfl) (by kernel_rfl) (by kernel_rfl) (by kernel_rfl) (by exact fun _ _ _ h => h) (by first | exact Or.inl ⟨by rfl, by intro w hSw; go_simp; try with_reducible rfl⟩ | exact Or.inr ⟨by rfl, rfl⟩) hH ?_
    try simp only [Act.put, List.setIfInBounds_toArray, List.set_cons_zero, List.set_cons_succ]
    refine wpKY.take (i := 3) (v := _) (by simp only [List.getElem?_toArray, List.getElem?_cons_succ, List.getElem?_cons_zero]; rfl) (by kernel_rfl) (by kernel_rfl) (by kernel_rfl) (by kernel_rfl) (by exact fun _ _ _ h => h) (by first | exact Or.inl ⟨by rfl, by intro w hSw; go_simp; try with_reducible rfl⟩ | exact Or.inr ⟨by rfl, rfl⟩) hH ?_
    try simp only [Act.put, List.setIfInBounds_toArray, List.set_cons_zero, List.set_cons_succ]
    refine wpKY.take (i := 4) (v := _) (by simp only [List.getElem?_toArray, List.getElem?_cons_succ, List.getElem?_cons_zero]; rfl) (by kernel_rfl) (by kernel_rfl) (by kernel_rfl) (by kernel_rfl) (by exact fun _ _ _ h => h) (by first | exact Or.inl ⟨by rfl, by intro w hSw; go_simp; try with_reducible rfl⟩ | exact Or.inr ⟨by rfl, rfl⟩) hH ?_
    try simp only [Act.put, List.setIfInBounds_toArray, List.set_cons_zero, List.set_cons_succ]
    refine wpKY.take (i := 5) (v := _) (by simp only [List.getElem?_toArray, List.getElem?_cons_succ, List.getElem?_cons_zero]; rfl) (by kernel_rfl) (by kernel_rfl) (by kernel_rfl) (by kernel_rfl) (by exact fun _ _ _ h => h) (by first | exact Or.inl ⟨by rfl, by intro w hSw; go_simp; try with_reducible rfl⟩ | exact Or.inr ⟨by rfl, rfl⟩) hH ?_
    try simp only [Act.put, List.setIfInBounds_toArray, List.set_cons_zero, List.set_cons_succ]
    refine wpKY.take (i := 6) (v := _) (by simp only [List.getElem?_toArray, List.getElem?_cons_succ, List.getElem?_cons_zero]; rfl) (by kernel_rfl) (by kernel_rfl) (by kernel_rfl) (by kernel_rfl) (by exact fun _ _ _ h => h) (by first | exact Or.inl ⟨by rfl, by intro w hSw; go_simp; try with_reducible rfl⟩ | exact Or.inr ⟨by rfl, rfl⟩) hH ?_
    try simp only [Act.put, List.setIfInBounds_toArray, List.set_cons_zero, List.set_cons_succ]
    refine wpKY.take (i := 7) (v := _) (by simp only [List.getElem?_toArray, List.getElem?_cons_succ, List.getElem?_cons_zero]; rfl) (by kernel_rfl) (by kernel_rfl) (by kernel_rfl) (by kernel_rfl) (by exact fun _ _ _ h => h) (by first | exact Or.inl ⟨by rfl, by intro w hSw; go_simp; try with_reducible rfl⟩ | exact Or.inr ⟨by rfl, rfl⟩) hH ?_
    try simp only [Act.put, List.setIfInBounds_toArray, List.set_cons_zero, List.set_cons_succ]
    refine wpKY.take (i := 8) (v := _) (by simp only [List.getElem?_toArray, List.getElem?_cons_succ, List.getElem?_cons_zero]; rfl) (by kernel_rfl) (by kernel_rfl) (by kernel_rfl) (by kernel_rfl) (by exact fun _ _ _ h => h) (by first | exact Or.inl ⟨by rfl, by intro w hSw; go_simp; try with_reducible rfl⟩ | exact Or.inr ⟨by rfl, rfl⟩) hH ?_
    try simp only [Act.put, List.setIfInBounds_toArray, List.set_cons_zero, List.set_cons_succ]
    refine wpKY.take (i := 9) (v := _) (by simp only [List.getElem?_toArray, List.getElem?_cons_succ, List.getElem?_cons_zero]; rfl) (by kernel_rfl) (by kernel_rfl) (by kernel_rfl) (by kernel_rfl) (by exact fun _ _ _ h => h) (by first | exact Or.inl ⟨by rfl, by intro w hSw; go_simp; try with_reducible rfl⟩ | exact Or.inr ⟨by rfl, rfl⟩) hH ?_
    try simp only [Act.put, List.setIfInBounds_toArray, List.set_cons_zero, List.set_cons_succ]
    refine wpKY.take (i := 10) (v := _) (by simp only [List.getElem?_toArray, List.getElem?_cons_succ, List.getElem?_cons_zero]; rfl) (by kernel_rfl) (by kernel_rfl) (by kernel_rfl) (by kernel_rfl) (by exact fun _ _ _ h => h) (by first | exact Or.inl ⟨by rfl, by intro w hSw; go_simp; try with_reducible rfl⟩ | exact Or.inr ⟨by rfl, rfl⟩) hH ?_
    try simp only [Act.put, List.setIfInBounds_toArray, List.set_cons_zero, List.set_cons_succ]
    refine wpKY.step (i := 11) (by kernel_rfl) (by simp only [List.getElem?_toArray, List.getElem?_cons_succ, List.getElem?_cons_zero]; rfl) (fun K hK => ?_)
    go_simp
    refine ⟨trivial, ?_⟩; refine (callsIn_wide.2 HCK.out).mono ?_; rintro e w3 ⟨rfl, hb3⟩; (have hk3 := Below.next hyd hb3); go_simp
    refine hK.out _ _ (by assumption) (fun hH => ?_)
    clear hK K
    try simp only [Act.put, List.setIfInBounds_toArray, List.set_cons_zero, List.set_cons_succ]
    refine wpKY.take (i := 12) (v := _) (by simp only [List.getElem?_toArray, List.getElem?_cons_succ, List.getElem?_cons_zero]; rfl) (by kernel_rfl) (by kernel_rfl) (by kernel_rfl) (by kernel_rfl) (by exact fun _ _ _ h => h) (by first | exact Or.inl ⟨by rfl, by intro w hSw; go_simp; try with_reducible rfl⟩ | exact Or.inr ⟨by rfl, rfl⟩) hH ?_
    try simp only [Act.put, List.setIfInBounds_toArray, List.set_cons_zero, List.set_cons_succ]
    refine wpKY.late (i := 13) (by kernel_rfl) (by simp only [List.getElem?_toArray, List.getElem?_cons_succ, List.getElem?_cons_zero]; rfl) (by kernel_rfl) (fun K hK => ?_)
    go_simp
    refine hK.out _ _ ?_
    clear hK K
    try simp only [Act.put, List.setIfInBounds_toArray, List.set_cons_zero, List.set_cons_succ]
    refine wpKY.done (by kernel_rfl) ?_ _
    have hb4 := Below.next HB.out hk3
    have hK3 : w3.heap[D]? = some (.deferred (some [])) := (hk3.block D (Array.getElem?_eq_some_iff.1 HKD.out).1).trans HKD.out
    clear c0 c1 k3 hyd hb3 hk3 hH
    simp only [OnlyN]
    gi_wp2
    refine ⟨by simp, .inl ⟨_, _, rfl, run_takeDeferred hK3, ?_⟩⟩
    refine ⟨.bool true, ?_, rfl, hb4.trans (belowK_b (w := w) (Nat.le_refl _) _ D _ _ (by have := hb4.size; have := HB1.out.size; omega) hK3 rfl rfl)⟩
    simp [results, Try.f17, go_sem]
  case stop =>
    rintro D c pre W hD hpre h1 hK
    exact h1.elim
end Go.Proofs.Ytjbnfppnmljbmaa
end
section
/- Slices of structs of two numbers. No program in sight. -/
namespace Go.Proofs.Ytjbnfppnmljbmaa
open Go.RowKit
open Go.Lib (hid)
set_option linter.unusedVariables false

/-- the cells of a list of pairs -/
def pv (X : List (Int × Int)) : List Value := X.flatMap fun p => [Value.int .i64 p.1, .int .i64 p.2]
theorem pv_length (X : List (Int × Int)) : (pv X).length = X.length * 2 := by
  unfold pv
  induction X with
  | nil => rfl
  | cons p X ih => rw [List.flatMap_cons, List.length_append, ih]; simp; omega
theorem pv_append (X Y : List (Int × Int)) : pv (X ++ Y) = pv X ++ pv Y := by unfold pv; rw [List.flatMap_append]
theorem pv_one (p : Int × Int) : pv [p] = [.int .i64 p.1, .int .i64 p.2] := rfl
theorem pv_oneCell (X : List (Int × Int)) : ∀ u ∈ pv X, u.oneCell' = true := by
  intro u hu
  unfold pv at hu
  obtain ⟨p, -, hp⟩ := List.mem_flatMap.1 hu
  simp at hp
  rcases hp with rfl | rfl <;> rfl
theorem pv_at : ∀ (X : List (Int × Int)) (i : Nat) (p : Int × Int), X[i]? = some p → (pv X)[i * 2]? = some (.int .i64 p.1) ∧ (pv X)[i * 2 + 1]? = some (.int .i64 p.2)
  | [], i, p, h => by simp at h
  | q :: X, 0, p, h => by simp at h; subst h; exact ⟨rfl, rfl⟩
  | q :: X, i + 1, p, h => by
    simp at h
    have := pv_at X i p h
    have e : pv (q :: X) = .int .i64 q.1 :: .int .i64 q.2 :: pv X := rfl
    rw [e, show (i + 1) * 2 = i * 2 + 1 + 1 by omega]
    simpa using this
theorem pv_set2 : ∀ (X : List (Int × Int)) (j : Nat) (h x y : Int), X[j]? = some (h, x) → pv (X.set j (h, y)) = (pv X).set (j * 2 + 1) (.int .i64 y)
  | [], j, h, x, y, e => by simp at e
  | q :: X, 0, h, x, y, e => by simp at e; subst e; rfl
  | q :: X, j + 1, h, x, y, e => by
    simp at e
    have ih := pv_set2 X j h x y e
    have e1 : ∀ X : List (Int × Int), pv (q :: X) = .int .i64 q.1 :: .int .i64 q.2 :: pv X := fun _ => rfl
    rw [List.set_cons_succ, e1, e1, ih, show (j + 1) * 2 + 1 = (j * 2 + 1) + 1 + 1 by omega, List.set_cons_succ, List.set_cons_succ]
theorem Rd.pair {w : World} {a : Option Addr} {X : List (Int × Int)} (h : Rd w a (pv X)) (i : Nat) (hi : i < X.length) :
    ∃ b off x y, a = some ⟨b, off, none⟩ ∧ w.cell? ⟨b, off + i * 2, none⟩ = some (.int .i64 x) ∧ w.cell? ⟨b, off + i * 2 + 1, none⟩ = some (.int .i64 y) ∧ X[i]? = some (x, y) ∧ X.drop i = (x, y) :: X.drop (i + 1) ∧ X.take (i + 1) = X.take i ++ [(x, y)] := by
  have hx : X[i]? = some X[i] := List.getElem?_eq_getElem hi
  obtain ⟨h1, h2⟩ := pv_at X i _ hx
  obtain ⟨b, off, ha, hc⟩ := h (i * 2) (by rw [pv_length]; omega)
  obtain ⟨b', off', ha', hc'⟩ := h (i * 2 + 1) (by rw [pv_length]; omega)
  rw [ha] at ha'
  simp at ha'
  obtain ⟨rfl, rfl⟩ := ha'
  exact ⟨b, off, X[i].1, X[i].2, ha, by rw [hc, h1], by rw [Nat.add_assoc, hc', h2], hx, List.drop_eq_getElem_cons hi, by rw [List.take_succ_eq_append_getElem hi]⟩
/-- the slice reads as the list of pairs -/
def SlP (w : World) (v : Value) (X : List (Int × Int)) : Prop := ∃ a cap, v = .slice a X.length cap ∧ Rd w a (pv X) ∧ X.length ≤ cap ∧ cap ≤ 9223372036854775807 ∧ (a = none → cap = 0)
theorem SlP.nil (w : World) : SlP w (.slice none 0 0) [] := ⟨none, 0, rfl, Rd.nil _ _, by simp, by omega, fun _ => rfl⟩
theorem SlP.below {w w' : World} {v : Value} {X : List (Int × Int)} (h : SlP w v X) (hb : Below w.heap.size w w') : SlP w' v X := by
  obtain ⟨a, c, rfl, h2, h3⟩ := h
  exact ⟨a, c, rfl, h2.below' hb, h3⟩
theorem SlP.upd {S : Nat → Prop} {w w' : World} {v : Value} {X : List (Int × Int)} (h : SlP w v X) (hu : Upd S w w') (hn : ∀ k, v.ownBlock = some k → ¬ S k) : SlP w' v X := by
  obtain ⟨a, c, rfl, h2, h3⟩ := h
  exact ⟨a, c, rfl, hu.rd h2 (fun b off e => hn _ (by rw [e]; rfl)), h3⟩
theorem SlP.of_own {w : World} {base : Nat} {e : TypeId} {v : Value} {X : List (Int × Int)} (h : w.ownsRow base e 2 v X.length (pv X)) : SlP w v X := by
  obtain ⟨a, cap, rfl, h1, h2, hr, h3⟩ := ownsRow.rd h
  exact ⟨a, cap, rfl, hr, h1, by unfold maxLen at h2; omega, h3⟩
end Go.Proofs.Ytjbnfppnmljbmaa
end
