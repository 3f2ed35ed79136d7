/- Joined texts, in this order: LandNear, LandFindM. Each one's first remark says what it proves; no condition beyond those that its theorems name. -/
import Derived.Test.YtjbnfppnmljbmaaGreatJLawLandFinds22
import Derived.Test.YtjbnfppnmljbmaaGreatJLawLandFinds27
import Derived.Test.YtjbnfppnmljbmaaGreatJLawLandFinds24
section
/- Contracts of land's Near, Plot. -/
namespace Go.Proofs.YtjbnfppnmljbmaaGreat
open Go.RowKit Go.Deep
open Go.Lib (hid)
set_option linter.unusedVariables false
attribute [local go_sem] Oper.semAt_some

theorem near_ids (P : List Pl) (r : R4) : (flR (tMeets r) (tgP P)).map (·.2) = nearX P r := by
  unfold flR tgP nearX
  rw [List.filter_map, List.map_map]
  have e : ((fun x : Tg => tMeets r x.1) ∘ fun p : Pl => (p.2, p.1)) = fun p : Pl => decide (MeetsR p.2 r) := by
    funext p
    show decide (MeetsR r p.2) = decide (MeetsR p.2 r)
    rw [decide_eq_decide]
    exact meetsR_symm
  rw [e]
  rfl
theorem near_sorted {P : List Pl} (h : SortK keyP P) (r : R4) : (nearX P r).Pairwise (fun a b => a < b) := by
  unfold nearX
  rw [List.pairwise_map]
  exact List.Pairwise.filter _ h
theorem near_sort {P : List Pl} (hs : SortK keyP P) (r : R4) {Y : List Tg} (h : Y.Perm (flR (tMeets r) (tgP P))) : sortI (Y.map (·.2)) = nearX P r := by
  refine sortI_of ?_ (near_sorted hs r)
  rw [← near_ids]
  exact h.map _
/-- what a round of Near keeps -/
structure NrI (w w1 : World) (b3 b5 : Nat) (r : R4) (pre : List Tg) (v : Value) (W : World) : Prop where
  k5 : Blk W b5 #[v]
  own : W.ownsRow w1.heap.size 3 1 v (pre.map (·.2)).length ((pre.map (·.2)).map (.int .i64))
  below : Below w.heap.size w W
  size : w1.heap.size ≤ W.heap.size
theorem own_keptN {W W' : World} {row : Option Nat} {B base : Nat} {e : TypeId} {size : Nat} {v : Value} {n : Nat} {xs : List Value} (hg : W.grownBy W' row) (hr : ∀ r, row = some r → B ≤ r ∧ ∃ o : Obj, W.heap[r]? = some o ∧ o.isCells = false) (h : W.ownsRow base e size v n xs) : W'.ownsRow base e size v n xs :=
  Upd.owns (Upd.of_grown hg) h (fun k hk q => by
    obtain ⟨-, ⟨rfl, -⟩ | ⟨g, cap, cur, rfl, -, hc, -⟩⟩ := h
    · cases hk
    · cases hk
      obtain ⟨-, o, ho, hoc⟩ := hr _ q
      rw [hc] at ho; cases ho; cases hoc)
theorem own_cellsN {W : World} {base : Nat} {e : TypeId} {size : Nat} {v : Value} {n : Nat} {xs : List Value} (h : W.ownsRow base e size v n xs) : ∀ (j : Nat) (o : Obj), v.ownBlock = some j → W.heap[j]? = some o → o.isCells = true := by
  intro j o hj ho
  obtain ⟨-, ⟨rfl, -⟩ | ⟨g, cap, cur, rfl, -, hc, -⟩⟩ := h
  · cases hj
  · cases hj; rw [hc] at ho; cases ho; rfl
theorem NrI.kept {w w1 W W' : World} {b3 b5 B : Nat} {r : R4} {pre : List Tg} {v : Value} {row : Option Nat} (h : NrI w w1 b3 b5 r pre v W) (hB : w.heap.size ≤ B) (hg : W.grownBy W' row) (hr : ∀ r, row = some r → B ≤ r ∧ ∃ o : Obj, W.heap[r]? = some o ∧ o.isCells = false) : NrI w w1 b3 b5 r pre v W' :=
  ⟨own_blkR hg hr h.k5, own_keptN hg hr h.own, h.below.grown hg h.below.size (fun j hj => by have := (hr j hj).1; omega), Nat.le_trans h.size hg.size⟩
/-- a round's store -/
theorem NrI.next {w w1 W wE : World} {b3 b5 : Nat} {r : R4} {pre : List Tg} {x : Tg} {v v9 : Value} (h : NrI w w1 b3 b5 r pre v W) (hw : w.heap.size ≤ w1.heap.size) (h5 : w.heap.size ≤ b5) (h51 : b5 < w1.heap.size)
    (hg : W.grownBy wE v.ownBlock) (ho : wE.ownsRow w1.heap.size 3 1 v9 ((pre ++ [x]).map (·.2)).length (((pre ++ [x]).map (·.2)).map (.int .i64))) :
    KeepsFrom w1.heap.size W (wE.setCell ⟨b5, 0, none⟩ v9) ∧ KeepR w.heap.size w1.heap.size W (wE.setCell ⟨b5, 0, none⟩ v9) ∧ NrI w w1 b3 b5 r (pre ++ [x]) v9 (wE.setCell ⟨b5, 0, none⟩ v9) := by
  have hz := h.below.size
  have hzE := hg.size
  have hsz := h.size
  have hu : Upd (fun k => v.ownBlock = some k) W wE := Upd.of_grown hg
  have huS := Upd.setCell wE b5 0 v9
  have huA : Upd (fun k => v.ownBlock = some k ∨ k = b5) W (wE.setCell ⟨b5, 0, none⟩ v9) := (hu.mono (fun _ _ q => .inl q)).trans huS (fun _ _ q => .inr q)
  have hlt := fun k hk => (h.own.lt k hk).1
  refine ⟨?_, KeepR.of_upd huA (by omega) (fun k _ q => ?_), ?_, ?_, ?_, ?_⟩
  · exact ((KeepsOthers.of_grownBy hg (fun j o e => own_cellsN h.own j o e)).from _).trans ((KeepsOthers.setCell _ _ _).from _)
  · rcases q with q | q
    · have := hlt k q; omega
    · omega
  · have h1 := (h.k5.upd hu (fun q => by have := hlt _ q; omega)).set 0 v9
    simpa using h1
  · exact Upd.owns huS ho (fun k hk q => by have := (ho.lt k hk).1; omega)
  · refine Below.setCell (p := ⟨b5, 0, none⟩) ?_ (by show _ ≤ b5; omega) _
    exact h.below.grown hg (by omega) (fun k hk => by have := hlt k hk; omega)
  · have := huS.size; omega
theorem NrI.post {w w1 W w4 : World} {b3 b5 D : Nat} {r : R4} {Y : List Tg} {L : List Int} {v : Value} (h : NrI w w1 b3 b5 r Y v W) (hw : w.heap.size ≤ w1.heap.size) (h51 : b5 < w1.heap.size) (hK : W.heap[D]? = some (.deferred (some []))) (hD : w1.heap.size ≤ D)
    (hg : W.grownBy w4 v.ownBlock) (ho : w4.ownsRow w1.heap.size 3 1 v (Y.map (·.2)).length ((sortI (Y.map (·.2))).map (.int .i64))) (hs : sortI (Y.map (·.2)) = L) :
    w4.cell? ⟨b5, 0, none⟩ = some v ∧ w4.heap[D]? = some (.deferred (some [])) ∧ NearPost w L (.returned v) (w4.putObj D (.deferred none)) := by
  have hu : Upd (fun k => v.ownBlock = some k) W w4 := Upd.of_grown hg
  have hlt := fun k hk => (h.own.lt k hk).1
  have hK4 : w4.heap[D]? = some (.deferred (some [])) := (KeepsOthers.of_grownBy hg (fun j o e => own_cellsN h.own j o e)).same D _ hK rfl
  have hl : L.length = (Y.map (·.2)).length := by rw [← hs]; exact List.length_mergeSort _
  rw [hs, ← hl] at ho
  refine ⟨?_, hK4, v, rfl, own_keptN (B := 0) (grownBy_putObj' _ D (.deferred none)) (fun r e => by cases e; exact ⟨Nat.zero_le _, _, hK4, rfl⟩) (ownsRow_base ho hw), ?_⟩
  · rw [(h.k5.upd hu (fun q => by have := hlt _ q; omega)).cell]; rfl
  · exact (h.below.grown hg h.below.size (fun k hk => by have := hlt k hk; omega)).trans (belowK_b (w := w) (Nat.le_refl _) _ D _ _ (by omega) hK4 rfl rfl)
/-- append(s, x), one element more, inside a fence -/
theorem wpListIn_append1w {F : Fence} {nF : Nat} {P : Program} {t e : TypeId} {z : Value} {size bytes : Nat} (T : SlT P t e z size bytes) (w : World) {ops : Array Oper} {rest : List Oper} {o : Oper} {a : Act} {Q : Exit → Act → World → Prop}
    (hgd : o.guard = none) (s x : Operand) (us : Array Value) (ho : o.op = .call { callee := .builtin .append, args := #[s, x], argTypes := #[t, t] })
    (base : Nat) (v : Value) (n : Nat) (xs : List Value) (hs : a.eval s = v) (hown : w.ownsRow base e size v n xs)
    (hx : a.eval x = .slice (some ⟨w.heap.size, 0, none⟩) 1 1) (hl : us.size = size) (h1 : ∀ u ∈ us.toList, u.oneCell' = true)
    (hbytes : (n + 1) * bytes ≤ 140737488355328) (hbase : base ≤ w.heap.size)
    (h : ∀ v' w', w'.ownsRow base e size v' (n + 1) (xs ++ us.toList) → w.grownBy w' v.ownBlock → v' ≠ .slice none 0 0 → wpListIn F nF P ops Q rest (a.put o.dst v') w') : wpListIn F nF P ops Q (o :: rest) a (w.alloc (.cells us e)) := by
  obtain ⟨i, hi, hz, hsz, hby⟩ := T.info
  have h63 : n + 1 ≤ maxLen := by
    have : (n + 1) * 1 ≤ (n + 1) * bytes := Nat.mul_le_mul_left _ T.bpos
    unfold maxLen; omega
  have hnews : ∀ j u, us.toList[j]? = some u → (w.alloc (.cells us e)).cell? ((⟨w.heap.size, 0, none⟩ : Addr).add j) = some u := by
    intro j u hu
    rw [Addr.add_lit, Nat.zero_add, World.cell?_alloc_new]
    simpa using hu
  refine wpListIn_append_own (w.alloc (.cells us e)) hgd s x t ho base e i z size bytes T.u hi hz hsz hby T.zs T.pos v n xs hs (hown.alloc _) ⟨w.heap.size, 0, none⟩ 1 1 us.toList hx (by simpa using hl) hnews h1 h63 hbytes (by simp; omega) ?_
  intro v' w' h2 h3 h4
  refine h v' w' h2 ⟨h3.os, h3.tape, h3.output, by have := h3.size; simp at this; omega, fun k hk hne => (h3.block k (by simp; omega) hne).trans (Below.heap_alloc w _ k hk)⟩ (fun e => by simp [h4] at e)
theorem T_intN : SlT Tryz.prog 35 3 (.int .i64 0) 1 8 := SlT.mk' Tryz.underlying35 (by kernel_rfl) rfl (by decide) (by decide)
set_option maxRecDepth 100000 in
theorem land_Plot (w : World) (l : Nat) (F : Nat → Prop) (k : Nat) (B : List R4) (P : List Pl) (id : Int) (h : LandIs w l F k B P) : Calls Tryz.prog 17 #[.pointer (some ⟨l, 0, none⟩), .int .i64 id] w fun e w' => e = .returned (.tuple #[rV ((P.lookup id).getD zR), .bool (P.lookup id).isSome]) ∧ Below w.heap.size w w' := by
  obtain ⟨q, t, mb, Fq, Ft, s, M, h⟩ := h
  have HL := hid h
  obtain ⟨hl1, hl2⟩ := h.look id
  obtain ⟨⟨z0, z1, z2, z3⟩, hz⟩ : ∃ z, (P.lookup id).getD zR = z := ⟨_, rfl⟩
  obtain ⟨ok, hok⟩ : ∃ ok, (P.lookup id).isSome = ok := ⟨_, rfl⟩
  rw [hz] at hl1 ⊢
  rw [hok] at hl2 ⊢
  have HR : Hid (((mapR M).lookup id).getD (.agg #[.int .i64 0, .int .i64 0, .int .i64 0, .int .i64 0]) = .agg #[.int .i64 z0, .int .i64 z1, .int .i64 z2, .int .i64 z3]) := hid hl1
  have HOK : Hid (((mapR M).lookup id).isSome = ok) := hid hl2
  have HM := hid (h.map.below (Below.new w (.cells #[.int .i64 0, .int .i64 0, .int .i64 0, .int .i64 0] 25)))
  have c2 : (w.alloc (.cells #[.int .i64 0, .int .i64 0, .int .i64 0, .int .i64 0] 25)).cell? ⟨l, 2, none⟩ = some (.map (some mb)) := cellOf_belowR (Below.new _ _) h.c3.2.2
  clear h hl1 hl2 hz hok
  simp only [rV]
  go_enter Tryz.func17, Tryz.ntmps17
  go_upto_region 2 with (at_lookup; refine wpList_look2 _ rfl _ _ rfl Tryz.underlying74 Tryz.underlying3 (.agg #[.int .i64 0, .int .i64 0, .int .i64 0, .int .i64 0]) zero_rect rfl HM.out id rfl (.agg #[.int .i64 z0, .int .i64 z1, .int .i64 z2, .int .i64 z3]) HR ok HOK ?_)
  obtain ⟨w1, hw1⟩ : ∃ w1, w1 = w.alloc (.cells #[.int .i64 0, .int .i64 0, .int .i64 0, .int .i64 0] 25) := ⟨_, rfl⟩
  try rw [← hw1]
  obtain ⟨w2, hw2⟩ : ∃ w2, w2 = w1.alloc (.cells #[.int .i64 z0, .int .i64 z1, .int .i64 z2, .int .i64 z3] 25) := ⟨_, rfl⟩
  try rw [← hw2]
  obtain ⟨g4, hg4⟩ : ∃ g, g = w.heap.size := ⟨_, rfl⟩
  obtain ⟨g6, hg6⟩ : ∃ g, g = w1.heap.size := ⟨_, rfl⟩
  have hz1 : w1.heap.size = w.heap.size + 1 := by rw [hw1]; simp
  try rw [← hz1]
  try rw [← hg6]
  try rw [← hg4]
  have hb1 : Below w.heap.size w w1 := by rw [hw1]; exact Below.new _ _
  have hb2 : Below w1.heap.size w1 w2 := by rw [hw2]; exact Below.new _ _
  have hk4 : Blk w2 g4 #[.int .i64 0, .int .i64 0, .int .i64 0, .int .i64 0] := (show Blk w1 g4 _ by rw [hw1, hg4]; exact Blk.new _ _ _).below hb2
  have hk6 : Blk w2 g6 #[.int .i64 z0, .int .i64 z1, .int .i64 z2, .int .i64 z3] := by rw [hw2, hg6]; exact Blk.new _ _ _
  have HB2 := hid (Below.next hb1 hb2)
  have HG := hid hg4
  clear hw1 hw2 hg6 hg4 hz1 hb1 hb2 c2 HM
  obtain ⟨e0, e1, e2, e3⟩ := hk6.c4r
  obtain ⟨p0, p1, p2, p3⟩ := hk4.c4r
  have f0 := hk4.unfrozen 0
  have f1 := hk4.unfrozen 1
  have f2 := hk4.unfrozen 2
  have f3 := hk4.unfrozen 3
  obtain ⟨wz, hwz⟩ : ∃ wz, wz = (((w2.setCell ⟨g4, 0, none⟩ (.int .i64 z0)).setCell ⟨g4, 1, none⟩ (.int .i64 z1)).setCell ⟨g4, 2, none⟩ (.int .i64 z2)).setCell ⟨g4, 3, none⟩ (.int .i64 z3) := ⟨_, rfl⟩
  have HKZ : Hid (Blk wz g4 #[.int .i64 z0, .int .i64 z1, .int .i64 z2, .int .i64 z3]) := hid (by rw [hwz]; simpa using (((hk4.set 0 (.int .i64 z0)).set 1 (.int .i64 z1)).set 2 (.int .i64 z2)).set 3 (.int .i64 z3))
  have HBZ : Hid (Below w.heap.size w wz) := hid (by
    rw [hwz]
    have hg := HG.out
    exact (((HB2.out.setCell (p := ⟨g4, 0, none⟩) (by show _ ≤ g4; omega) _).setCell (p := ⟨g4, 1, none⟩) (by show _ ≤ g4; omega) _).setCell (p := ⟨g4, 2, none⟩) (by show _ ≤ g4; omega) _).setCell (p := ⟨g4, 3, none⟩) (by show _ ≤ g4; omega) _)
  have HWZ := hid hwz
  clear hwz hk4 hk6
  go_wp2_with fail
  try rw [← HWZ.out]
  obtain ⟨y0, y1, y2, y3⟩ := HKZ.out.c4r
  refine bodyPost_ret (results_cell_tmp rfl _ _ _ rfl (by go_simp; rfl)) rfl ?_
  exact ⟨rfl, HBZ.out⟩
set_option maxRecDepth 100000 in
set_option maxHeartbeats 1000000 in
theorem land_Near (w : World) (l : Nat) (F : Nat → Prop) (k : Nat) (B : List R4) (P : List Pl) (rx ry ra rb : Int) (h : LandIs w l F k B P) : Calls Tryz.prog 9 #[.pointer (some ⟨l, 0, none⟩), .agg #[.int .i64 rx, .int .i64 ry, .int .i64 ra, .int .i64 rb]] w (NearPost w (nearX P (rx, ry, ra, rb))) := by
  obtain ⟨q, t, mb, Fq, Ft, s, M, h⟩ := h
  obtain ⟨d, n, ht, hd, hp, -⟩ := h.tree.open (by unfold tgP; rw [List.length_map]; have := h.inv.len; omega)
  obtain ⟨Y, hY⟩ : ∃ Y, flR (tMeets (rx, ry, ra, rb)) (thgN (d + 1) n) = Y := ⟨_, rfl⟩
  have hYp : Y.Perm (flR (tMeets (rx, ry, ra, rb)) (tgP P)) := by rw [← hY]; exact flR_perm hp
  have HSO : Hid (sortI (Y.map (·.2)) = nearX P (rx, ry, ra, rb)) := hid (near_sort h.inv.sorted _ hYp)
  have HYL : Hid (Y.length ≤ 256) := hid (by
    have h1 := hYp.length_eq
    have h2 : (flR (tMeets (rx, ry, ra, rb)) (tgP P)).length ≤ (tgP P).length := List.length_filter_le _ _
    have h3 : (tgP P).length = P.length := by unfold tgP; rw [List.length_map]
    have := h.inv.len
    omega)
  have HY := hid hY
  have HT := hid ht
  have HD := hid hd
  obtain ⟨-, c1, -⟩ := h.c3
  clear h hY hYp ht hd hp
  refine (callsIn_wide (n := 5)).1 ?_
  refine callsIn_of_wp_marks Tryz.func9 rfl trivial ?_ rfl
  simp only [Tryz.ntmps9, List.size_toArray, List.length_cons, List.length_nil, Nat.reduceAdd, Nat.reduceSub, Array.replicate_succ, Array.replicate_zero, List.push_toArray, List.append_toArray, List.nil_append, List.cons_append]
  gi_wp2
  generalize hw2 : World.alloc (World.alloc w _) _ = w2
  obtain ⟨b5, hb5⟩ : ∃ z, z = w.heap.size + 1 := ⟨_, rfl⟩
  obtain ⟨b3, hb3⟩ : ∃ z, z = w.heap.size := ⟨_, rfl⟩
  have hz1 : (World.alloc w (.cells #[.int .i64 rx, .int .i64 ry, .int .i64 ra, .int .i64 rb] 25)).heap.size = w.heap.size + 1 := by simp
  try rw [hz1]
  try rw [← hb5]
  try rw [← hb3]
  have hb2 : Below w.heap.size w w2 := by rw [← hw2]; exact Below.next (Below.new _ _) (Below.new _ _)
  have HK3 : Hid (Blk w2 b3 #[.int .i64 rx, .int .i64 ry, .int .i64 ra, .int .i64 rb]) := hid (by rw [← hw2, hb3]; exact (Blk.new _ _ _).below (Below.new _ _))
  have HK5 : Hid (Blk w2 b5 #[.slice none 0 0]) := hid (by rw [← hw2, hb5, ← hz1]; exact Blk.new _ _ _)
  have HB2 := hid hb2
  have HZ : Hid (b3 = w.heap.size ∧ b5 = w.heap.size + 1 ∧ w2.heap.size = w.heap.size + 2) := hid ⟨hb3, hb5, by rw [← hw2]; simp⟩
  clear hw2 hb3 hb5 hz1 hb2
  replace c1 := cellOf_belowR HB2.out c1
  obtain ⟨r0, r1, r2, r3⟩ := HK3.out.c4r
  replace c1 := fun (z : World) (hz : Below w2.heap.size w2 z) => cellOf_belowR hz c1
  replace r0 := fun (z : World) (hz : Below w2.heap.size w2 z) => cellOf_belowR hz r0
  replace r1 := fun (z : World) (hz : Below w2.heap.size w2 z) => cellOf_belowR hz r1
  replace r2 := fun (z : World) (hz : Below w2.heap.size w2 z) => cellOf_belowR hz r2
  replace r3 := fun (z : World) (hz : Below w2.heap.size w2 z) => cellOf_belowR hz r3
  have hyd := (Below.refl w2.heap.size w2).drew
  rename_i K0 hK0
  refine wpIn_mono (Q := Exit.then K0 (fun _ _ _ => False)) ?_ (fun e a w he => by cases e <;> first | exact he | exact he.elim)
  refine wpIn_region_keptY [] (fun y => Below w2.heap.size w2 y) (by kernel_rfl) (by assumption) (fun hH => ?_)
  refine wpKY.take (i := 0) (v := _) (by simp only [List.getElem?_toArray, List.getElem?_cons_succ, List.getElem?_cons_zero]; rfl) (by kernel_rfl) (by kernel_rfl) (by kernel_rfl) (by kernel_rfl) (by exact fun _ _ _ h => h) (by first | exact Or.inl ⟨by rfl, by intro w hSw; go_simp; try with_reducible rfl⟩ | exact Or.inr ⟨by rfl, rfl⟩) hH ?_
  try simp only [Act.put, List.setIfInBounds_toArray, List.set_cons_zero, List.set_cons_succ]
  refine wpKY.take (i := 1) (v := _) (by simp only [List.getElem?_toArray, List.getElem?_cons_succ, List.getElem?_cons_zero]; rfl) (by kernel_rfl) (by kernel_rfl) (by kernel_rfl) (by kernel_rfl) (by exact fun _ _ _ h => h) (by first | exact Or.inl ⟨by rfl, by intro w hSw; go_simp; try with_reducible rfl⟩ | exact Or.inr ⟨by rfl, rfl⟩) hH ?_
  try simp only [Act.put, List.setIfInBounds_toArray, List.set_cons_zero, List.set_cons_succ]
  refine wpKY.take (i := 2) (v := _) (by simp only [List.getElem?_toArray, List.getElem?_cons_succ, List.getElem?_cons_zero]; rfl) (by kernel_rfl) (by kernel_rfl) (by kernel_rfl) (by kernel_rfl) (by exact fun _ _ _ h => h) (by first | exact Or.inl ⟨by rfl, by intro w hSw; go_simp; try with_reducible rfl⟩ | exact Or.inr ⟨by rfl, rfl⟩) hH ?_
  try simp only [Act.put, List.setIfInBounds_toArray, List.set_cons_zero, List.set_cons_succ]
  refine wpKY.take (i := 3) (v := _) (by simp only [List.getElem?_toArray, List.getElem?_cons_succ, List.getElem?_cons_zero]; rfl) (by kernel_rfl) (by kernel_rfl) (by kernel_rfl) (by kernel_rfl) (by exact fun _ _ _ h => h) (by first | exact Or.inl ⟨by rfl, by intro w hSw; go_simp; try with_reducible rfl⟩ | exact Or.inr ⟨by rfl, rfl⟩) hH ?_
  try simp only [Act.put, List.setIfInBounds_toArray, List.set_cons_zero, List.set_cons_succ]
  refine wpKY.take (i := 4) (v := _) (by simp only [List.getElem?_toArray, List.getElem?_cons_succ, List.getElem?_cons_zero]; rfl) (by kernel_rfl) (by kernel_rfl) (by kernel_rfl) (by kernel_rfl) (by exact fun _ _ _ h => h) (by first | exact Or.inl ⟨by rfl, by intro w hSw; go_simp; try with_reducible rfl⟩ | exact Or.inr ⟨by rfl, rfl⟩) hH ?_
  try simp only [Act.put, List.setIfInBounds_toArray, List.set_cons_zero, List.set_cons_succ]
  refine wpKY.step (i := 5) (by kernel_rfl) (by simp only [List.getElem?_toArray, List.getElem?_cons_succ, List.getElem?_cons_zero]; rfl) (fun K hK => ?_)
  go_simp
  refine ⟨trivial, ?_⟩; (refine (callsIn_wide.2 (rt_Meets4 _ t rx ry ra rb)).mono ?_); rintro e w1 ⟨bT, bI, rfl, hT, hI, hb⟩; (have hk1 := Below.next hH hb); go_simp
  refine hK.out _ _ (by assumption) (fun hH => ?_)
  clear hK K
  try simp only [Act.put, List.setIfInBounds_toArray, List.set_cons_zero, List.set_cons_succ]
  refine wpKY.done (by kernel_rfl) ?_ _
  have HB1 := hid (Below.next HB2.out hk1)
  have HT1 := hid (HT.out.below HB1.out)
  have HTI := hid (And.intro hT hI)
  have HK5 := hid (HK5.out.below hk1)
  have HS1 : Hid (w2.heap.size ≤ w1.heap.size) := hid hk1.size
  clear hT hI hb hk1 hyd hH c1 r0 r1 r2 r3
  gi_wp2
  have hl1 : w.heap.size ≤ w1.heap.size := HB1.out.size
  have hl5 : b5 < w1.heap.size := by have h1 := HZ.out; have h2 := HS1.out; omega
  refine wpIn_rangeFunc_ownH (F := Fence.wide) (n := 5) (α := Tg) rfl (by omega) (gf := 74) (lb := #[.pointer (some ⟨bT, 0, none⟩), .pointer (some ⟨bI, 0, none⟩)]) rfl trivial (enters_of Tryz.func74 (by kernel_rfl) rfl)
    (stops_where bT bI t d 53 n _ w.heap.size #[.agg #[.int .i64 rx, .int .i64 ry, .int .i64 ra, .int .i64 rb]] #[] (tMeets (rx, ry, ra, rb)) w1 hl1 HTI.out.1 HTI.out.2 HT1.out (fun k hk => HT.out.lt k (List.mem_cons_of_mem _ hk)) (by have := HD.out; omega) (test_Meets _ _ _ rx ry ra rb))
    (fun h k => h.trans k) (fun W l o o' hlo ho hc _ => KeepR.put hl1 W l o o' hlo ho hc) (Below.refl _ _) (fun _ => rfl)
    (fun pre W => ∃ v, NrI w w1 b3 b5 (rx, ry, ra, rb) pre v W)
    (fun c pre W => False)
    ?hI ?hIx ?h0
    (fun z a' W => a' = { tmps := #[.pointer (some ⟨l, 0, none⟩), .agg #[.int .i64 rx, .int .i64 ry, .int .i64 ra, .int .i64 rb], undef, .pointer (some ⟨b3, 0, none⟩), .slice none 0 0, .pointer (some ⟨b5, 0, none⟩), undef, .int .i64 z.2, .pointer (some ⟨l, 0, none⟩), .pointer (some ⟨l, 0, none⟩), .pointer (some ⟨l, 1, none⟩), .pointer (some ⟨t, 0, none⟩), .agg #[.int .i64 rx, .int .i64 ry, .int .i64 ra, .int .i64 rb], itV bT bI, rV z.1, .int .i64 z.2, undef, undef, undef, undef, undef, undef, undef], defers := [] })
    ?hAx ?assign ?body ?done ?stop
  case hI =>
    rintro pre W W' row ⟨v, h1⟩ hg hr
    exact ⟨v, h1.kept hl1 hg hr⟩
  case hIx =>
    rintro c pre W W' row h1 hg hr
    exact h1
  case h0 => exact ⟨_, HK5.out, by simpa using World.ownsRow_nil _ _ _ _, HB1.out, Nat.le_refl _⟩
  case hAx =>
    rintro z a' u W W' row h1 hg hr
    exact h1
  case assign =>
    rintro l' pre ⟨⟨zx, zy, za, zb⟩, zv⟩ W K hI hK
    simp only [rV] at hK ⊢
    gi_wp2
    exact hK _ _ (KeepsFrom.refl _ _) (KeepR.refl _ _ _) hI rfl
  case body =>
    rintro l' pre ⟨⟨zx, zy, za, zb⟩, zv⟩ a' W hl hrec ⟨v, hI⟩ rfl hlen
    obtain ⟨av, cv, hv, -⟩ := ownsRow.rd hI.own
    have hlp : (pre.map (·.2)).length = pre.length := List.length_map _
    rw [HY.out] at hlen
    have hlen2 : pre.length < 256 := by have := HYL.out; omega
    obtain ⟨N, hN⟩ : ∃ N, (pre.map (·.2)).length = N := ⟨_, rfl⟩
    rw [hN] at hv
    subst hv
    have k5 : W.cell? ⟨b5, 0, none⟩ = some (.slice av N cv) := by rw [hI.k5.cell]; rfl
    have hown : W.ownsRow w1.heap.size 3 1 (.slice av N cv) N ((pre.map (·.2)).map (.int .i64)) := by have := hI.own; rw [hN] at this; exact this
    have HI := hid hI
    have HNN := hid (show N < 256 by omega)
    have HNQ := hid hN
    have HOW := hid hown
    clear hI hlen hlen2 hlp hrec hown hN
    gi_wp2_with (gi_at_builtin; refine wpListIn_append1w T_intN _ rfl _ _ #[.int .i64 zv] rfl w1.heap.size _ _ _ rfl HOW.out rfl rfl (by intro u hu; simp at hu; subst hu; rfl) (by have := HNN.out; omega) HI.out.size ?_; intro v9 wE ho9 hg9 hn9; obtain ⟨a9, c9, hv9, -⟩ := ownsRow.rd ho9; subst hv9; have HO9 := hid ho9; have HG9 := hid hg9; have k5E : wE.cell? ⟨b5, 0, none⟩ = some (.slice av N cv) := (by rw [(HI.out.k5.upd (Upd.of_grown hg9) (fun q => by have := (HI.out.own.lt _ q).1; omega)).cell]; rfl); have f5E : wE.frozen? ⟨b5, 0, none⟩ = false := (HI.out.k5.upd (Upd.of_grown hg9) (fun q => by have := (HI.out.own.lt _ q).1; omega)).unfrozen 0; clear ho9 hg9 hn9 k5)
    have hnx := HI.out.next (x := ((zx, zy, za, zb), zv)) hl1 (by have := HZ.out; omega) hl5 HG9.out (by
      have := HO9.out
      rw [List.map_append, List.map_append, List.length_append, HNQ.out]
      exact this)
    exact ⟨hnx.1, hnx.2.1, _, hnx.2.2⟩
  case done =>
    rintro D ys W hD rfl ⟨v, h1⟩ hK
    rw [HY.out] at h1
    have k5 : W.cell? ⟨b5, 0, none⟩ = some v := by rw [h1.k5.cell]; rfl
    obtain ⟨av, cv, hv, -⟩ := ownsRow.rd h1.own
    have hsrt := sort_own w1.heap.size v (Y.map (·.2)) W h1.own (by have := HYL.out; rw [List.length_map]; omega)
    obtain ⟨N, hN⟩ : ∃ N, (Y.map (·.2)).length = N := ⟨_, rfl⟩
    rw [hN] at hv
    subst hv
    have HSRT := hid hsrt
    clear hsrt hN
    have HI := hid h1
    have HK := hid hK
    have HDD := hid hD
    clear h1 hK hD
    gi_wp2_with (refine ⟨trivial, ?_⟩; gi_at_call 32; refine (callsIn_wide.2 HSRT.out).mono ?_; rintro e w4 ⟨rfl, ho4, hg4⟩; have HP := hid (HI.out.post hl1 hl5 HK.out HDD.out hg4 ho4 HSO.out); have k54 := HP.out.1; clear HSRT ho4 hg4 k5)
    refine ⟨by simp, .inl ⟨_, _, rfl, run_takeDeferred HP.out.2.1, ?_⟩⟩
    exact ⟨_, by simp [results, Tryz.f9, go_sem], HP.out.2.2⟩
  case stop =>
    rintro D c pre W hD hpre h hK
    exact h.elim
end Go.Proofs.YtjbnfppnmljbmaaGreat
end
section
/- Law LandFinds, plain: what is found. -/
namespace Go.Proofs.YtjbnfppnmljbmaaGreat
open Go.RowKit Go.Deep
open Go.Lib (hid)
set_option linter.unusedVariables false

/-- the last plot with a tile -/
def atF (P : List Pl) (x y : Int) : Int := P.foldl (fun a p => if tHolds x y p.2 then p.1 else a) 0
theorem atF_snoc (P : List Pl) (x y : Int) (p : Pl) : atF (P ++ [p]) x y = if tHolds x y p.2 then p.1 else atF P x y := by unfold atF; rw [List.foldl_append]; rfl
theorem atF_none {P : List Pl} {x y : Int} (h : ∀ p ∈ P, tHolds x y p.2 = false) : ∀ a : Int, P.foldl (fun a p => if tHolds x y p.2 then p.1 else a) a = a := by
  induction P with
  | nil => intro a; rfl
  | cons p P ih =>
    intro a
    rw [List.foldl_cons, h p (by simp)]
    exact ih (fun q hq => h q (by simp [hq])) a
theorem atF_at {P : List Pl} (hp : P.Pairwise fun p q => ¬ MeetsR p.2 q.2) (x y : Int) : atF P x y = (atX P x y).getD 0 := by
  induction P with
  | nil => rfl
  | cons p P ih =>
    obtain ⟨h1, h2⟩ := List.pairwise_cons.1 hp
    unfold atF atX
    rw [List.foldl_cons, List.find?_cons]
    cases hh : tHolds x y p.2 with
    | true =>
      have hn : ∀ q ∈ P, tHolds x y q.2 = false := fun q hq => by
        cases hx : tHolds x y q.2 with
        | false => rfl
        | true => exact absurd (tile_meets (of_decide_eq_true hh) (of_decide_eq_true hx)) (h1 q hq)
      simpa using atF_none hn p.1
    | false => exact ih h2
theorem atX_pos {S : Int} {B : List R4} {P : List Pl} (h : PInv S B P) (x y : Int) : (atX P x y).isSome = decide (0 < (atX P x y).getD 0) := by
  cases hc : atX P x y with
  | none => rfl
  | some id =>
    unfold atX at hc
    obtain ⟨p, hp, rfl⟩ := Option.map_eq_some_iff.1 hc
    have := h.pos p (List.mem_of_find?_eq_some hp)
    show true = decide (0 < p.1)
    exact (decide_eq_true (by omega)).symm
theorem findP_look {S : Int} {B : List R4} {P : List Pl} (h : PInv S B P) {id r : Int} (hf : FindP P id r) : (∃ i : Nat, r = (i : Int) ∧ ∃ q, P[i]? = some (id, q) ∧ P.lookup id = some q) ∨ (r = -1 ∧ P.lookup id = none) := by
  rcases hf with ⟨i, e, ⟨pi, q⟩, hp, rfl⟩ | ⟨e, hp⟩
  · exact .inl ⟨i, e, q, hp, lookup_at (show (P.map (·.1)).Nodup from SortK.nodup keyP h.sorted) hp⟩
  · exact .inr ⟨e, lookup_none hp⟩
theorem blk_right {B : List R4} {r : R4} (h : blkX B r = true) : rightR r = true := by
  unfold blkX at h
  rw [List.any_eq_true] at h
  obtain ⟨b, -, hb⟩ := h
  have := of_decide_eq_true hb
  rw [rightR_iff]
  unfold MeetsR at this
  first | exact this.1 | exact this.2.1
end Go.Proofs.YtjbnfppnmljbmaaGreat
end
