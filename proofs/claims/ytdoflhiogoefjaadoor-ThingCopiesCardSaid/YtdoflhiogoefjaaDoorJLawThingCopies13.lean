/- Joined texts, in this order: ThingTake. Each one's first remark says what it proves; no condition beyond those that its theorems name. -/
import Derived.Test.YtdoflhiogoefjaaDoorJLawThingCopies12
section
/- Contract of (*Things).take. -/
namespace Go.Proofs.YtdoflhiogoefjaaDoor
open Go.RowKit
open Go.Lib (hid)
set_option linter.unusedVariables false

theorem step_delT {P : Program} {w : World} {ops : Array Oper} {o : Oper} {a : Act} {K : Act → World → Prop} {Q : Exit → Act → World → Prop} {E : Prop} {t kt et : TypeId} {b : Nat} {m : List (Int × Value)} (hg : o.guard = none) (mo x : Operand) (hop : o.op = Op.call { callee := Callee.builtin Builtin.delete, args := #[mo, x], argTypes := #[t, kt] }) (ht : P.underlying t = some (.map kt et)) (hk : P.underlying kt = some (.int .i64))
    (hm : a.eval mo = .map (some b)) (h : MapE w b m) (k : Int) (hx : a.eval x = .int .i64 k)
    (hK : ∀ w', MapE w' b (adel m k) → Upd (fun k => k = b) w w' → w'.heap.size = w.heap.size → K (a.put o.dst (.tuple #[])) w') : if Region.wanted o (yielded ops a.tmps) = true then Oper.wp P o a w K Q else E := by
  have hw : Region.wanted o (yielded ops a.tmps) = true := by simp [Region.wanted, hg]
  rw [if_pos hw]
  obtain ⟨w', hrun, h1, h2, h3⟩ := h.run_delete (P := P) ht hk k o.type
  unfold Oper.wp execOp
  simp only [hop, resolve, invoke, builtin, Sem.run_bind, Sem.run_pure, Result.andThen_ok, List.map_toArray, List.map_cons, List.map_nil, hm, hx, hrun]
  exact hK w' h1 h2 h3
theorem MP.step_delP {P : Program} {w : World} {ops : Array Oper} {o : Oper} {a : Act} {K : Act → World → Prop} {Q : Exit → Act → World → Prop} {E : Prop} {t kt et : TypeId} {b : Nat} {m : List (MP.P3 × Value)} (hg : o.guard = none) (mo x : Operand) (hop : o.op = Op.call { callee := Callee.builtin Builtin.delete, args := #[mo, x], argTypes := #[t, kt] }) (ht : P.underlying t = some (.map kt et)) (hk : MP.KeyP P kt)
    (hm : a.eval mo = .map (some b)) (h : MP.MapP w b m) (k : MP.P3) (hx : a.eval x = MP.encP k)
    (hK : ∀ w', MP.MapP w' b (MP.adel m k) → Upd (fun k => k = b) w w' → w'.heap.size = w.heap.size → K (a.put o.dst (.tuple #[])) w') : if Region.wanted o (yielded ops a.tmps) = true then Oper.wp P o a w K Q else E := by
  have hw : Region.wanted o (yielded ops a.tmps) = true := by simp [Region.wanted, hg]
  rw [if_pos hw]
  obtain ⟨w', hrun, h1, h2, h3⟩ := h.run_delete (P := P) ht hk k o.type
  unfold Oper.wp execOp
  simp only [hop, resolve, invoke, builtin, Sem.run_bind, Sem.run_pure, Result.andThen_ok, List.map_toArray, List.map_cons, List.map_nil, hm, hx, hrun]
  exact hK w' h1 h2 h3
set_option maxRecDepth 100000 in
set_option maxHeartbeats 4000000 in
theorem thing_take {s : Nat} {F : Nat → Prop} {L : List Th} {nx : Int} (w : World) (h : ThCore w s F L nx) (x : Th) (hx : x ∈ L) (hl : L.length ≤ 900) :
    Calls Tryd.prog 45 #[.pointer (some ⟨s, 0, none⟩), thV x] w (CPost w s F (delT L x.id) nx) := by
  obtain ⟨b1, b2, M, R, hp0, hr, hs⟩ := h
  obtain ⟨v, hv⟩ := hp0.place hr x.pl
  have hp := hp0.weaken (G := fun k => F k ∧ k < w.heap.size) (fun k q q2 => ⟨q, q2⟩)
  have HF0 := hid (fun k (q : v.ownBlock = some k) => (hv.feet k q).1)
  have HPL : Hid (PlAt w s (fun k => F k ∧ k < w.heap.size) b1 b2 R x.pl v (inT L x.pl)) := hid ⟨hv.look, hv.own, fun k hk => ⟨⟨(hv.feet k hk).1, (hv.own.lt k hk).2⟩, (hv.feet k hk).2⟩, hv.far⟩
  have HP := hid hp
  obtain ⟨l, hlx⟩ : ∃ l, l = inT L x.pl := ⟨_, rfl⟩
  have HLX := hid hlx
  have HSL : Hid (SortK kN l) := hid (by rw [hlx]; exact inT_sorted hs x.pl)
  have HLL : Hid (l.length ≤ 900) := hid (by rw [hlx]; exact Nat.le_trans (inT_len L x.pl) hl)
  rw [← hlx] at HPL
  have HREL := hid (fun v' => hr.del hs hx v')
  have HSN := hid (delT_sorted hs x.id)
  have HMEM : Hid (x.id ∈ l) := hid (by rw [hlx]; exact inT_mem.2 ⟨x, hx, rfl, rfl⟩)
  have HDL : Hid (inT (delT L x.id) x.pl = l.filter (fun y => !decide (y = x.id))) := hid (by rw [hlx]; exact inT_del _ _)
  obtain ⟨a, c, hva, -⟩ := ownsRow.rd hv.own
  rw [← hlx] at hva
  have HVA := hid hva
  obtain ⟨xi, xn, xo, xk, xh, xs⟩ := x
  simp only at HPL HREL HMEM HDL hlx HLX
  clear hp hp0 hr hs hv hx hlx hva
  unfold thV
  simp only
  go_enter Tryd.func45, Tryd.ntmps45
  go_upto_region 1 with fail
  obtain ⟨w1, hw1⟩ : ∃ w1, w1 = w.alloc (.cells #[.int .i64 xi, strV xn, .int .i64 xo, .int .i64 xk, .int .i64 xh, .int .i64 xs] 48) := ⟨_, rfl⟩
  rw [← hw1]
  obtain ⟨bx, hbx⟩ : ∃ b, b = w.heap.size := ⟨_, rfl⟩
  rw [← hbx]
  have hb1 : Below w.heap.size w w1 := by rw [hw1]; exact Below.new _ _
  have HX1 : Hid (Blk w1 bx #[.int .i64 xi, strV xn, .int .i64 xo, .int .i64 xk, .int .i64 xh, .int .i64 xs]) := hid (by rw [hw1, hbx]; exact Blk.new _ _ _)
  have HP1 := hid (HP.out.upd (S := fun _ => False) (Upd.of_below hb1) (fun _ q => q.elim))
  have HO1 := hid (owns_below HPL.out.own hb1)
  have HB1 := hid hb1
  have HBX : Hid (bx = w.heap.size) := hid hbx
  clear hw1 hb1 hbx
  obtain ⟨ct0, ct1, -⟩ := HP1.out.cells
  have e1 : ∀ y, Below w1.heap.size w1 y → y.cell? ⟨s, 1, none⟩ = some (.map (some b2)) := fun y hy => by rw [← ct1]; exact World.cell?_of_block (hy.block s HP1.out.blk.lt)
  have x0 : ∀ y, Below w1.heap.size w1 y → y.cell? ⟨bx, 0, none⟩ = some (.int .i64 xi) := fun y hy => by rw [(HX1.out.below hy).cell]; rfl
  have x3 : ∀ y, Below w1.heap.size w1 y → y.cell? ⟨bx, 3, none⟩ = some (.int .i64 xk) := fun y hy => by rw [(HX1.out.below hy).cell]; rfl
  have x4 : ∀ y, Below w1.heap.size w1 y → y.cell? ⟨bx, 4, none⟩ = some (.int .i64 xh) := fun y hy => by rw [(HX1.out.below hy).cell]; rfl
  have x5 : ∀ y, Below w1.heap.size w1 y → y.cell? ⟨bx, 5, none⟩ = some (.int .i64 xs) := fun y hy => by rw [(HX1.out.below hy).cell]; rfl
  have hlk : ∀ y, Below w1.heap.size w1 y → (Instr.lookup 69 (.map (some b2)) (.agg #[.int .i64 xk, .int .i64 xh, .int .i64 xs]) false).run Tryd.prog y = .ok (.slice a l.length c) y := fun y hy => by
    have := (HP1.out.m2.below hy).run_lookup (P := Tryd.prog) Tryd.underlying69 placeKey (.slice none 0 0) (zero_ints21 y) (xk, xh, xs) false
    rw [HPL.out.look, HVA.out] at this
    exact this
  have hyd := (Below.refl w1.heap.size w1).drew
  refine wp_region_kept [7] (fun y => Below w1.heap.size w1 y) (by kernel_rfl) (by assumption) (fun hH => ?_)
  refine wpK.take (i := 0) (v := _) (by simp only [List.getElem?_toArray, List.getElem?_cons_succ, List.getElem?_cons_zero]; rfl) (by kernel_rfl) (by kernel_rfl) (by kernel_rfl) (by kernel_rfl) (by kernel_rfl) (by exact fun _ _ _ h => h) (by first | exact Or.inl ⟨by rfl, by intro w hSw; go_simp; try with_reducible rfl⟩ | exact Or.inr ⟨by rfl, rfl⟩) hH ?_
  try simp only [Act.put, List.setIfInBounds_toArray, List.set_cons_zero, List.set_cons_succ]
  refine wpK.take (i := 1) (v := _) (by simp only [List.getElem?_toArray, List.getElem?_cons_succ, List.getElem?_cons_zero]; rfl) (by kernel_rfl) (by kernel_rfl) (by kernel_rfl) (by kernel_rfl) (by kernel_rfl) (by exact fun _ _ _ h => h) (by first | exact Or.inl ⟨by rfl, by intro w hSw; go_simp; try with_reducible rfl⟩ | exact Or.inr ⟨by rfl, rfl⟩) hH ?_
  try simp only [Act.put, List.setIfInBounds_toArray, List.set_cons_zero, List.set_cons_succ]
  refine wpK.take (i := 2) (v := _) (by simp only [List.getElem?_toArray, List.getElem?_cons_succ, List.getElem?_cons_zero]; rfl) (by kernel_rfl) (by kernel_rfl) (by kernel_rfl) (by kernel_rfl) (by kernel_rfl) (by exact fun _ _ _ h => h) (by first | exact Or.inl ⟨by rfl, by intro w hSw; go_simp; try with_reducible rfl⟩ | exact Or.inr ⟨by rfl, rfl⟩) hH ?_
  try simp only [Act.put, List.setIfInBounds_toArray, List.set_cons_zero, List.set_cons_succ]
  refine wpK.take (i := 3) (v := _) (by simp only [List.getElem?_toArray, List.getElem?_cons_succ, List.getElem?_cons_zero]; rfl) (by kernel_rfl) (by kernel_rfl) (by kernel_rfl) (by kernel_rfl) (by kernel_rfl) (by exact fun _ _ _ h => h) (by first | exact Or.inl ⟨by rfl, by intro w hSw; go_simp; try with_reducible rfl⟩ | exact Or.inr ⟨by rfl, rfl⟩) hH ?_
  try simp only [Act.put, List.setIfInBounds_toArray, List.set_cons_zero, List.set_cons_succ]
  refine wpK.take (i := 4) (v := _) (by simp only [List.getElem?_toArray, List.getElem?_cons_succ, List.getElem?_cons_zero]; rfl) (by kernel_rfl) (by kernel_rfl) (by kernel_rfl) (by kernel_rfl) (by kernel_rfl) (by exact fun _ _ _ h => h) (by first | exact Or.inl ⟨by rfl, by intro w hSw; go_simp; try with_reducible rfl⟩ | exact Or.inr ⟨by rfl, rfl⟩) hH ?_
  try simp only [Act.put, List.setIfInBounds_toArray, List.set_cons_zero, List.set_cons_succ]
  refine wpK.take (i := 5) (v := _) (by simp only [List.getElem?_toArray, List.getElem?_cons_succ, List.getElem?_cons_zero]; rfl) (by kernel_rfl) (by kernel_rfl) (by kernel_rfl) (by kernel_rfl) (by kernel_rfl) (by exact fun _ _ _ h => h) (by first | exact Or.inl ⟨by rfl, by intro w hSw; go_simp; try with_reducible rfl⟩ | exact Or.inr ⟨by rfl, rfl⟩) hH ?_
  try simp only [Act.put, List.setIfInBounds_toArray, List.set_cons_zero, List.set_cons_succ]
  refine wpK.take (i := 6) (v := _) (by simp only [List.getElem?_toArray, List.getElem?_cons_succ, List.getElem?_cons_zero]; rfl) (by kernel_rfl) (by kernel_rfl) (by kernel_rfl) (by kernel_rfl) (by kernel_rfl) (by exact fun _ _ _ h => h) (by first | exact Or.inl ⟨by rfl, by intro w hSw; go_simp; try with_reducible rfl⟩ | exact Or.inr ⟨by rfl, rfl⟩) hH ?_
  try simp only [Act.put, List.setIfInBounds_toArray, List.set_cons_zero, List.set_cons_succ]
  refine wpK.late (i := 7) (by kernel_rfl) (by simp only [List.getElem?_toArray, List.getElem?_cons_succ, List.getElem?_cons_zero]; rfl) (by kernel_rfl) (fun K hK => ?_)
  go_simp
  refine hK.out _ _ ?_
  clear hK K
  try simp only [Act.put, List.setIfInBounds_toArray, List.set_cons_zero, List.set_cons_succ]
  refine wpK.done (by kernel_rfl) ?_ _
  clear e1 x0 x3 x4 x5 hlk hyd hH
  generalize hw2 : w1.drew = w2
  have hb2 : Below w1.heap.size w1 w2 := by rw [← hw2]; exact (Below.refl _ _).drew
  have HX2 := hid (HX1.out.below hb2)
  have HP2 := hid (HP1.out.upd (S := fun _ => False) (Upd.of_below hb2) (fun _ q => q.elim))
  have HO2 := hid (owns_below HO1.out hb2)
  have HB2 := hid (Below.next HB1.out hb2)
  clear hw2 hb2 ct0 ct1
  have x0 : w2.cell? ⟨bx, 0, none⟩ = some (.int .i64 xi) := by rw [HX2.out.cell]; rfl
  go_wp2_with fail
  refine (sl_SearchI l (.slice a l.length c) xi w2 (by rw [← HVA.out]; exact SlI.of_own HO2.out) (by have := HLL.out; omega) (by have := HSL.out; unfold SortK at this; exact this.imp (fun q => by simp only [kN] at q; omega))).mono ?_
  rintro e w3 ⟨rfl, hb3⟩
  obtain ⟨i, hi⟩ : ∃ i, l.countP (fun y => decide (y < xi)) = i := ⟨_, rfl⟩
  rw [hi]
  have HI : Hid (i = posK kN l xi) := hid (by rw [← hi]; exact countP_posK HSL.out xi)
  have HIL : Hid (i ≤ l.length) := hid (by rw [HI.out]; exact posK_le kN l xi)
  have HX3 := hid (HX2.out.below hb3)
  have HP3 := hid (HP2.out.upd (S := fun _ => False) (Upd.of_below hb3) (fun _ q => q.elim))
  have HO3 := hid (owns_below HO2.out hb3)
  have HB3 := hid (Below.next HB2.out hb3)
  have hat : l[i]? = some xi := by rw [HI.out]; exact posK_at kN HSL.out (x := xi) HMEM.out
  have hil : i < l.length := (List.getElem?_eq_some_iff.1 hat).1
  have HIL2 := hid hil
  obtain ⟨l', hl'⟩ : ∃ l', l' = l.eraseIdx i := ⟨_, rfl⟩
  have HLE : Hid (l' = inT (delT L xi) (xk, xh, xs)) := hid (by
    rw [HDL.out, hl', List.eraseIdx_eq_take_drop_succ, HI.out]
    exact erase_posK kN HSL.out (x := xi) HMEM.out)
  have HL' := hid hl'
  have hi63 : (i : Int) ≤ 900 := by have := HLL.out; omega
  clear hi hb3 x0 hat hil hl'
  go_wp2_with fail
  refine (sl_DeleteI l i (.slice a l.length c) 0 w3 (by rw [← HVA.out]; exact HO3.out) HIL2.out).mono ?_
  rintro e w4 ⟨vC, rfl, hoC, hgC, hvC⟩
  have hkC : Upd (fun k => v.ownBlock = some k) w3 w4 := by rw [HVA.out]; exact Upd.of_grown hgC
  obtain ⟨N, hN⟩ : ∃ N, N = l.length - 1 := ⟨_, rfl⟩
  have HNL : Hid (l'.length = N) := hid (by rw [HL'.out, List.length_eraseIdx, if_pos HIL2.out, hN])
  obtain ⟨aC, cC, hvc, -⟩ := ownsRow.rd hoC
  rw [← hN] at hvc hoC
  clear hN
  subst hvc
  have HNB : Hid (v.ownBlock ≠ some bx) := hid (fun q => by have := (HPL.out.own.lt bx q).2; have := HBX.out; omega)
  have HUD : Hid (Upd (fun k => v.ownBlock = some k) w w4) := hid ((Upd.of_below (S := fun k => v.ownBlock = some k) HB3.out).trans hkC (fun _ _ q => q))
  have HX4 : Hid (Blk w4 bx #[.int .i64 xi, strV xn, .int .i64 xo, .int .i64 xk, .int .i64 xh, .int .i64 xs]) := hid (HX3.out.upd hkC HNB.out)
  have HGN : Hid (∀ k, (Value.slice aC N cC).ownBlock = some k → v.ownBlock = some k ∨ w.heap.size ≤ k) := hid (fun k hk => by
    left; rw [HVA.out, ← hvC]; exact hk)
  have HO4 : Hid (ownI0 w4 (.slice aC N cC) l') := hid (by
    unfold ownI0
    rw [HNL.out, HL'.out]
    exact hoC)
  have HM4 : Hid (MapE w4 b1 (M.map thKV)) := hid (HP3.out.m1.upd hkC (fun q => (HPL.out.feet b1 q).2.2.1 rfl))
  have HM24 : Hid (MP.MapP w4 b2 (R.map PRow.key)) := hid (HP3.out.m2.upd hkC (fun q => (HPL.out.feet b2 q).2.2.2 rfl))
  have HBS : Hid (Blk w4 s #[.map (some b1), .map (some b2), .int .i64 nx]) := hid (HP3.out.blk.upd hkC (fun q => (HPL.out.feet s q).2.1 rfl))
  clear hvC hgC hkC hoC
  have hyd := (Below.refl w4.heap.size w4).drew
  have hyu : Upd (fun k => k = b2) w4 w4.drew := Upd.of_below hyd
  have e1 : ∀ y, Upd (fun k => k = b2) w4 y → y.cell? ⟨s, 1, none⟩ = some (.map (some b2)) := fun y hy => by rw [(HBS.out.upd hy (fun q => HP.out.n2 q)).cell]; rfl
  have x3 : ∀ y, Upd (fun k => k = b2) w4 y → y.cell? ⟨bx, 3, none⟩ = some (.int .i64 xk) := fun y hy => by rw [(HX4.out.upd hy (fun q => by have := HP.out.m2.lt; have := HBX.out; omega)).cell]; rfl
  have x4 : ∀ y, Upd (fun k => k = b2) w4 y → y.cell? ⟨bx, 4, none⟩ = some (.int .i64 xh) := fun y hy => by rw [(HX4.out.upd hy (fun q => by have := HP.out.m2.lt; have := HBX.out; omega)).cell]; rfl
  have x5 : ∀ y, Upd (fun k => k = b2) w4 y → y.cell? ⟨bx, 5, none⟩ = some (.int .i64 xs) := fun y hy => by rw [(HX4.out.upd hy (fun q => by have := HP.out.m2.lt; have := HBX.out; omega)).cell]; rfl
  -- what is left at the place: some, or none
  by_cases hz : N = 0
  · have hlz : l' = [] := List.eq_nil_of_length_eq_zero (by rw [HNL.out]; exact hz)
    have HZ := hid hlz
    have hz2 : ((N : Int) == 0) = true := by simpa using hz
    clear hlz
    go_upto_region 5 with fail
    refine wp_region_kept [] (fun y => Upd (fun k => k = b2) w4 y) (by kernel_rfl) (by assumption) (fun hH => ?_)
    refine wpK.take (i := 0) (v := _) (by simp only [List.getElem?_toArray, List.getElem?_cons_succ, List.getElem?_cons_zero]; rfl) (by kernel_rfl) (by kernel_rfl) (by kernel_rfl) (by kernel_rfl) (by kernel_rfl) (by exact fun _ _ _ h => h) (by first | exact Or.inl ⟨by rfl, by intro w hSw; go_simp; try with_reducible rfl⟩ | exact Or.inr ⟨by rfl, rfl⟩) hH ?_
    try simp only [Act.put, List.setIfInBounds_toArray, List.set_cons_zero, List.set_cons_succ]
    refine wpK.take (i := 1) (v := _) (by simp only [List.getElem?_toArray, List.getElem?_cons_succ, List.getElem?_cons_zero]; rfl) (by kernel_rfl) (by kernel_rfl) (by kernel_rfl) (by kernel_rfl) (by kernel_rfl) (by exact fun _ _ _ h => h) (by first | exact Or.inl ⟨by rfl, by intro w hSw; go_simp; try with_reducible rfl⟩ | exact Or.inr ⟨by rfl, rfl⟩) hH ?_
    try simp only [Act.put, List.setIfInBounds_toArray, List.set_cons_zero, List.set_cons_succ]
    refine wpK.take (i := 2) (v := _) (by simp only [List.getElem?_toArray, List.getElem?_cons_succ, List.getElem?_cons_zero]; rfl) (by kernel_rfl) (by kernel_rfl) (by kernel_rfl) (by kernel_rfl) (by kernel_rfl) (by exact fun _ _ _ h => h) (by first | exact Or.inl ⟨by rfl, by intro w hSw; go_simp; try with_reducible rfl⟩ | exact Or.inr ⟨by rfl, rfl⟩) hH ?_
    try simp only [Act.put, List.setIfInBounds_toArray, List.set_cons_zero, List.set_cons_succ]
    refine wpK.take (i := 3) (v := _) (by simp only [List.getElem?_toArray, List.getElem?_cons_succ, List.getElem?_cons_zero]; rfl) (by kernel_rfl) (by kernel_rfl) (by kernel_rfl) (by kernel_rfl) (by kernel_rfl) (by exact fun _ _ _ h => h) (by first | exact Or.inl ⟨by rfl, by intro w hSw; go_simp; try with_reducible rfl⟩ | exact Or.inr ⟨by rfl, rfl⟩) hH ?_
    try simp only [Act.put, List.setIfInBounds_toArray, List.set_cons_zero, List.set_cons_succ]
    refine wpK.take (i := 4) (v := _) (by simp only [List.getElem?_toArray, List.getElem?_cons_succ, List.getElem?_cons_zero]; rfl) (by kernel_rfl) (by kernel_rfl) (by kernel_rfl) (by kernel_rfl) (by kernel_rfl) (by exact fun _ _ _ h => h) (by first | exact Or.inl ⟨by rfl, by intro w hSw; go_simp; try with_reducible rfl⟩ | exact Or.inr ⟨by rfl, rfl⟩) hH ?_
    try simp only [Act.put, List.setIfInBounds_toArray, List.set_cons_zero, List.set_cons_succ]
    refine wpK.take (i := 5) (v := _) (by simp only [List.getElem?_toArray, List.getElem?_cons_succ, List.getElem?_cons_zero]; rfl) (by kernel_rfl) (by kernel_rfl) (by kernel_rfl) (by kernel_rfl) (by kernel_rfl) (by exact fun _ _ _ h => h) (by first | exact Or.inl ⟨by rfl, by intro w hSw; go_simp; try with_reducible rfl⟩ | exact Or.inr ⟨by rfl, rfl⟩) hH ?_
    try simp only [Act.put, List.setIfInBounds_toArray, List.set_cons_zero, List.set_cons_succ]
    refine wpK.step (i := 6) (by kernel_rfl) (by simp only [List.getElem?_toArray, List.getElem?_cons_succ, List.getElem?_cons_zero]; rfl) (fun K hK => ?_)
    refine MP.step_delP rfl _ _ rfl Tryd.underlying69 placeKey rfl (HM24.out.below hyd) (xk, xh, xs) rfl ?_; intro wD hmD huD hzD; (have hkD := hyu.trans huD (fun _ _ q => q))
    refine hK.out _ _ (by assumption) (fun hH => ?_)
    clear hK K
    try simp only [Act.put, List.setIfInBounds_toArray, List.set_cons_zero, List.set_cons_succ]
    refine wpK.done (by kernel_rfl) ?_ _
    have HR : Hid (MP.MapP wD b2 ((delRow R (xk, xh, xs)).map PRow.key)) := hid (by rw [delRow_key]; exact hmD)
    have HRM : Hid (∀ q ∈ delRow R (xk, xh, xs), q = (⟨(xk, xh, xs), .slice aC N cC, l'⟩ : PRow) ∨ (q ∈ R ∧ q.p ≠ (xk, xh, xs))) := hid (fun q hq => .inr (delRow_mem hq))
    have HRR : Hid (ThRel (delT M xi) (delRow R (xk, xh, xs)) (delT L xi)) := hid (by
      have := HREL.out (.slice aC N cC)
      rw [if_pos (by rw [← HLE.out]; exact HZ.out)] at this
      exact this)
    obtain ⟨R', hR'⟩ : ∃ R', R' = delRow R (xk, xh, xs) := ⟨_, rfl⟩
    rw [← hR'] at HR HRM HRR
    clear hR'
    have HKD := hid hkD
    have HXD := hid (HX4.out.upd hkD (fun q => by have := HP.out.m2.lt; have := HBX.out; omega))
    have HBD := hid (HBS.out.upd hkD (fun q => HP.out.n2 q))
    have HMD := hid (HM4.out.upd hkD (fun q => HP.out.n3 q))
    clear hmD huD hzD hkD hyd hyu e1 x3 x4 x5 hH hz hz2
    have hyd := (Below.refl wD.heap.size wD).drew
    have hyu : Upd (fun k => k = b1) wD wD.drew := Upd.of_below hyd
    have e0 : ∀ y, Upd (fun k => k = b1) wD y → y.cell? ⟨s, 0, none⟩ = some (.map (some b1)) := fun y hy => by rw [(HBD.out.upd hy (fun q => HP.out.n1 q)).cell]; rfl
    have x0 : ∀ y, Upd (fun k => k = b1) wD y → y.cell? ⟨bx, 0, none⟩ = some (.int .i64 xi) := fun y hy => by rw [(HXD.out.upd hy (fun q => by have := HP.out.m1.lt; have := HBX.out; omega)).cell]; rfl
    go_upto_region 7 with fail
    refine wp_region_kept [] (fun y => Upd (fun k => k = b1) wD y) (by kernel_rfl) (by assumption) (fun hH => ?_)
    refine wpK.take (i := 0) (v := _) (by simp only [List.getElem?_toArray, List.getElem?_cons_succ, List.getElem?_cons_zero]; rfl) (by kernel_rfl) (by kernel_rfl) (by kernel_rfl) (by kernel_rfl) (by kernel_rfl) (by exact fun _ _ _ h => h) (by first | exact Or.inl ⟨by rfl, by intro w hSw; go_simp; try with_reducible rfl⟩ | exact Or.inr ⟨by rfl, rfl⟩) hH ?_
    try simp only [Act.put, List.setIfInBounds_toArray, List.set_cons_zero, List.set_cons_succ]
    refine wpK.take (i := 1) (v := _) (by simp only [List.getElem?_toArray, List.getElem?_cons_succ, List.getElem?_cons_zero]; rfl) (by kernel_rfl) (by kernel_rfl) (by kernel_rfl) (by kernel_rfl) (by kernel_rfl) (by exact fun _ _ _ h => h) (by first | exact Or.inl ⟨by rfl, by intro w hSw; go_simp; try with_reducible rfl⟩ | exact Or.inr ⟨by rfl, rfl⟩) hH ?_
    try simp only [Act.put, List.setIfInBounds_toArray, List.set_cons_zero, List.set_cons_succ]
    refine wpK.take (i := 2) (v := _) (by simp only [List.getElem?_toArray, List.getElem?_cons_succ, List.getElem?_cons_zero]; rfl) (by kernel_rfl) (by kernel_rfl) (by kernel_rfl) (by kernel_rfl) (by kernel_rfl) (by exact fun _ _ _ h => h) (by first | exact Or.inl ⟨by rfl, by intro w hSw; go_simp; try with_reducible rfl⟩ | exact Or.inr ⟨by rfl, rfl⟩) hH ?_
    try simp only [Act.put, List.setIfInBounds_toArray, List.set_cons_zero, List.set_cons_succ]
    refine wpK.take (i := 3) (v := _) (by simp only [List.getElem?_toArray, List.getElem?_cons_succ, List.getElem?_cons_zero]; rfl) (by kernel_rfl) (by kernel_rfl) (by kernel_rfl) (by kernel_rfl) (by kernel_rfl) (by exact fun _ _ _ h => h) (by first | exact Or.inl ⟨by rfl, by intro w hSw; go_simp; try with_reducible rfl⟩ | exact Or.inr ⟨by rfl, rfl⟩) hH ?_
    try simp only [Act.put, List.setIfInBounds_toArray, List.set_cons_zero, List.set_cons_succ]
    refine wpK.take (i := 4) (v := _) (by simp only [List.getElem?_toArray, List.getElem?_cons_succ, List.getElem?_cons_zero]; rfl) (by kernel_rfl) (by kernel_rfl) (by kernel_rfl) (by kernel_rfl) (by kernel_rfl) (by exact fun _ _ _ h => h) (by first | exact Or.inl ⟨by rfl, by intro w hSw; go_simp; try with_reducible rfl⟩ | exact Or.inr ⟨by rfl, rfl⟩) hH ?_
    try simp only [Act.put, List.setIfInBounds_toArray, List.set_cons_zero, List.set_cons_succ]
    refine wpK.take (i := 5) (v := _) (by simp only [List.getElem?_toArray, List.getElem?_cons_succ, List.getElem?_cons_zero]; rfl) (by kernel_rfl) (by kernel_rfl) (by kernel_rfl) (by kernel_rfl) (by kernel_rfl) (by exact fun _ _ _ h => h) (by first | exact Or.inl ⟨by rfl, by intro w hSw; go_simp; try with_reducible rfl⟩ | exact Or.inr ⟨by rfl, rfl⟩) hH ?_
    try simp only [Act.put, List.setIfInBounds_toArray, List.set_cons_zero, List.set_cons_succ]
    refine wpK.step (i := 6) (by kernel_rfl) (by simp only [List.getElem?_toArray, List.getElem?_cons_succ, List.getElem?_cons_zero]; rfl) (fun K hK => ?_)
    refine step_delT rfl _ _ rfl Tryd.underlying68 Tryd.underlying3 rfl (HMD.out.below hyd) xi rfl ?_; intro wE hmE huE hzE; (have hkE := hyu.trans huE (fun _ _ q => q))
    refine hK.out _ _ (by assumption) (fun hH => ?_)
    clear hK K
    try simp only [Act.put, List.setIfInBounds_toArray, List.set_cons_zero, List.set_cons_succ]
    refine wpK.done (by kernel_rfl) ?_ _
    have HQ : Hid (CPost w s F (delT L xi) nx (.returned (.tuple #[])) wE) := hid (by
      have hUE : Upd (fun k => (v.ownBlock = some k ∨ k = b2) ∨ k = b1) w wE := ((HUD.out.mono (fun k _ q => (.inl q : v.ownBlock = some k ∨ k = b2))).trans HKD.out (fun _ _ q => .inr q)).mono (fun k _ q => (.inl q : (v.ownBlock = some k ∨ k = b2) ∨ k = b1)) |>.trans hkE (fun _ _ q => .inr q)
      have hm' : MapE wE b1 ((delT M xi).map thKV) := by rw [← delM]; exact hmE
      have hP := HP.out.remake hUE (xk, xh, xs) v (.slice aC N cC) l' (HBD.out.upd hkE (fun q => HP.out.n1 q)) hm' (HR.out.upd hkE (fun q => HP.out.n3 q.symm)) HPL.out.feet HPL.out.far
        (fun q hq hn k hk hk2 => by
          rcases hk2 with (e | e) | e
          · exact HPL.out.far q hq hn k hk e
          · exact (HP.out.feet q hq k hk).2.2.2 e
          · exact (HP.out.feet q hq k hk).2.2.1 e)
        (hkE.owns (HKD.out.owns HO4.out (fun k hk q => by
          rcases HGN.out k hk with e | e
          · exact (HPL.out.feet k e).2.2.2 q
          · have := HP.out.m2.lt; omega)) (fun k hk q => by
          rcases HGN.out k hk with e | e
          · exact (HPL.out.feet k e).2.2.1 q
          · have := HP.out.m1.lt; omega)) HGN.out HRM.out
      refine ⟨rfl, ⟨b1, b2, _, _, hP.weaken (fun k q _ => ?_), HRR.out, HSN.out⟩, hUE.mono (fun k _ q => ?_)⟩
      · rcases q with q | q
        · exact .inl q.1
        · exact .inr q
      · rcases q with (q | q) | q
        · exact HF0.out k q
        · subst q; exact HP.out.f2.1
        · subst q; exact HP.out.f1.1)
    clear hmE huE hzE hkE e0 x0 hyd hyu hH
    go_wp2_with fail
    go_end0
    exact HQ.out
  · have hlz : l' ≠ [] := fun q => hz (by rw [← HNL.out, q]; rfl)
    have HZ := hid hlz
    have hz2 : ((N : Int) == 0) = false := by simpa using hz
    clear hlz
    go_upto_region 6 with fail
    refine wp_region_kept [7] (fun y => Upd (fun k => k = b2) w4 y) (by kernel_rfl) (by assumption) (fun hH => ?_)
    refine wpK.take (i := 0) (v := _) (by simp only [List.getElem?_toArray, List.getElem?_cons_succ, List.getElem?_cons_zero]; rfl) (by kernel_rfl) (by kernel_rfl) (by kernel_rfl) (by kernel_rfl) (by kernel_rfl) (by exact fun _ _ _ h => h) (by first | exact Or.inl ⟨by rfl, by intro w hSw; go_simp; try with_reducible rfl⟩ | exact Or.inr ⟨by rfl, rfl⟩) hH ?_
    try simp only [Act.put, List.setIfInBounds_toArray, List.set_cons_zero, List.set_cons_succ]
    refine wpK.take (i := 1) (v := _) (by simp only [List.getElem?_toArray, List.getElem?_cons_succ, List.getElem?_cons_zero]; rfl) (by kernel_rfl) (by kernel_rfl) (by kernel_rfl) (by kernel_rfl) (by kernel_rfl) (by exact fun _ _ _ h => h) (by first | exact Or.inl ⟨by rfl, by intro w hSw; go_simp; try with_reducible rfl⟩ | exact Or.inr ⟨by rfl, rfl⟩) hH ?_
    try simp only [Act.put, List.setIfInBounds_toArray, List.set_cons_zero, List.set_cons_succ]
    refine wpK.take (i := 2) (v := _) (by simp only [List.getElem?_toArray, List.getElem?_cons_succ, List.getElem?_cons_zero]; rfl) (by kernel_rfl) (by kernel_rfl) (by kernel_rfl) (by kernel_rfl) (by kernel_rfl) (by exact fun _ _ _ h => h) (by first | exact Or.inl ⟨by rfl, by intro w hSw; go_simp; try with_reducible rfl⟩ | exact Or.inr ⟨by rfl, rfl⟩) hH ?_
    try simp only [Act.put, List.setIfInBounds_toArray, List.set_cons_zero, List.set_cons_succ]
    refine wpK.take (i := 3) (v := _) (by simp only [List.getElem?_toArray, List.getElem?_cons_succ, List.getElem?_cons_zero]; rfl) (by kernel_rfl) (by kernel_rfl) (by kernel_rfl) (by kernel_rfl) (by kernel_rfl) (by exact fun _ _ _ h => h) (by first | exact Or.inl ⟨by rfl, by intro w hSw; go_simp; try with_reducible rfl⟩ | exact Or.inr ⟨by rfl, rfl⟩) hH ?_
    try simp only [Act.put, List.setIfInBounds_toArray, List.set_cons_zero, List.set_cons_succ]
    refine wpK.take (i := 4) (v := _) (by simp only [List.getElem?_toArray, List.getElem?_cons_succ, List.getElem?_cons_zero]; rfl) (by kernel_rfl) (by kernel_rfl) (by kernel_rfl) (by kernel_rfl) (by kernel_rfl) (by exact fun _ _ _ h => h) (by first | exact Or.inl ⟨by rfl, by intro w hSw; go_simp; try with_reducible rfl⟩ | exact Or.inr ⟨by rfl, rfl⟩) hH ?_
    try simp only [Act.put, List.setIfInBounds_toArray, List.set_cons_zero, List.set_cons_succ]
    refine wpK.take (i := 5) (v := _) (by simp only [List.getElem?_toArray, List.getElem?_cons_succ, List.getElem?_cons_zero]; rfl) (by kernel_rfl) (by kernel_rfl) (by kernel_rfl) (by kernel_rfl) (by kernel_rfl) (by exact fun _ _ _ h => h) (by first | exact Or.inl ⟨by rfl, by intro w hSw; go_simp; try with_reducible rfl⟩ | exact Or.inr ⟨by rfl, rfl⟩) hH ?_
    try simp only [Act.put, List.setIfInBounds_toArray, List.set_cons_zero, List.set_cons_succ]
    refine wpK.take (i := 6) (v := _) (by simp only [List.getElem?_toArray, List.getElem?_cons_succ, List.getElem?_cons_zero]; rfl) (by kernel_rfl) (by kernel_rfl) (by kernel_rfl) (by kernel_rfl) (by kernel_rfl) (by exact fun _ _ _ h => h) (by first | exact Or.inl ⟨by rfl, by intro w hSw; go_simp; try with_reducible rfl⟩ | exact Or.inr ⟨by rfl, rfl⟩) hH ?_
    try simp only [Act.put, List.setIfInBounds_toArray, List.set_cons_zero, List.set_cons_succ]
    refine wpK.late (i := 7) (by kernel_rfl) (by simp only [List.getElem?_toArray, List.getElem?_cons_succ, List.getElem?_cons_zero]; rfl) (by kernel_rfl) (fun K hK => ?_)
    refine MP.step_putE _ rfl _ _ _ rfl Tryd.underlying69 placeKey rfl (HM24.out.below hyd) (xk, xh, xs) rfl (.slice aC N cC) rfl ?_; intro wD hmD huD hzD
    refine hK.out _ _ ?_
    clear hK K
    try simp only [Act.put, List.setIfInBounds_toArray, List.set_cons_zero, List.set_cons_succ]
    refine wpK.done (by kernel_rfl) ?_ _
    have hkD := hyu.trans huD (fun _ _ q => q)
    have HR : Hid (MP.MapP wD b2 ((putRow R ⟨(xk, xh, xs), .slice aC N cC, l'⟩).map PRow.key)) := hid (by rw [putRow_key]; exact hmD)
    have HRM : Hid (∀ q ∈ putRow R ⟨(xk, xh, xs), .slice aC N cC, l'⟩, q = (⟨(xk, xh, xs), .slice aC N cC, l'⟩ : PRow) ∨ (q ∈ R ∧ q.p ≠ (xk, xh, xs))) := hid (fun q hq => putRow_mem hq)
    have HRR : Hid (ThRel (delT M xi) (putRow R ⟨(xk, xh, xs), .slice aC N cC, l'⟩) (delT L xi)) := hid (by
      have := HREL.out (.slice aC N cC)
      rw [← HLE.out, if_neg HZ.out] at this
      exact this)
    obtain ⟨R', hR'⟩ : ∃ R', R' = putRow R ⟨(xk, xh, xs), .slice aC N cC, l'⟩ := ⟨_, rfl⟩
    rw [← hR'] at HR HRM HRR
    clear hR'
    have HKD := hid hkD
    have HXD := hid (HX4.out.upd hkD (fun q => by have := HP.out.m2.lt; have := HBX.out; omega))
    have HBD := hid (HBS.out.upd hkD (fun q => HP.out.n2 q))
    have HMD := hid (HM4.out.upd hkD (fun q => HP.out.n3 q))
    clear hmD huD hzD hkD hyd hyu e1 x3 x4 x5 hH hz hz2
    have hyd := (Below.refl wD.heap.size wD).drew
    have hyu : Upd (fun k => k = b1) wD wD.drew := Upd.of_below hyd
    have e0 : ∀ y, Upd (fun k => k = b1) wD y → y.cell? ⟨s, 0, none⟩ = some (.map (some b1)) := fun y hy => by rw [(HBD.out.upd hy (fun q => HP.out.n1 q)).cell]; rfl
    have x0 : ∀ y, Upd (fun k => k = b1) wD y → y.cell? ⟨bx, 0, none⟩ = some (.int .i64 xi) := fun y hy => by rw [(HXD.out.upd hy (fun q => by have := HP.out.m1.lt; have := HBX.out; omega)).cell]; rfl
    go_upto_region 7 with fail
    refine wp_region_kept [] (fun y => Upd (fun k => k = b1) wD y) (by kernel_rfl) (by assumption) (fun hH => ?_)
    refine wpK.take (i := 0) (v := _) (by simp only [List.getElem?_toArray, List.getElem?_cons_succ, List.getElem?_cons_zero]; rfl) (by kernel_rfl) (by kernel_rfl) (by kernel_rfl) (by kernel_rfl) (by kernel_rfl) (by exact fun _ _ _ h => h) (by first | exact Or.inl ⟨by rfl, by intro w hSw; go_simp; try with_reducible rfl⟩ | exact Or.inr ⟨by rfl, rfl⟩) hH ?_
    try simp only [Act.put, List.setIfInBounds_toArray, List.set_cons_zero, List.set_cons_succ]
    refine wpK.take (i := 1) (v := _) (by simp only [List.getElem?_toArray, List.getElem?_cons_succ, List.getElem?_cons_zero]; rfl) (by kernel_rfl) (by kernel_rfl) (by kernel_rfl) (by kernel_rfl) (by kernel_rfl) (by exact fun _ _ _ h => h) (by first | exact Or.inl ⟨by rfl, by intro w hSw; go_simp; try with_reducible rfl⟩ | exact Or.inr ⟨by rfl, rfl⟩) hH ?_
    try simp only [Act.put, List.setIfInBounds_toArray, List.set_cons_zero, List.set_cons_succ]
    refine wpK.take (i := 2) (v := _) (by simp only [List.getElem?_toArray, List.getElem?_cons_succ, List.getElem?_cons_zero]; rfl) (by kernel_rfl) (by kernel_rfl) (by kernel_rfl) (by kernel_rfl) (by kernel_rfl) (by exact fun _ _ _ h => h) (by first | exact Or.inl ⟨by rfl, by intro w hSw; go_simp; try with_reducible rfl⟩ | exact Or.inr ⟨by rfl, rfl⟩) hH ?_
    try simp only [Act.put, List.setIfInBounds_toArray, List.set_cons_zero, List.set_cons_succ]
    refine wpK.take (i := 3) (v := _) (by simp only [List.getElem?_toArray, List.getElem?_cons_succ, List.getElem?_cons_zero]; rfl) (by kernel_rfl) (by kernel_rfl) (by kernel_rfl) (by kernel_rfl) (by kernel_rfl) (by exact fun _ _ _ h => h) (by first | exact Or.inl ⟨by rfl, by intro w hSw; go_simp; try with_reducible rfl⟩ | exact Or.inr ⟨by rfl, rfl⟩) hH ?_
    try simp only [Act.put, List.setIfInBounds_toArray, List.set_cons_zero, List.set_cons_succ]
    refine wpK.take (i := 4) (v := _) (by simp only [List.getElem?_toArray, List.getElem?_cons_succ, List.getElem?_cons_zero]; rfl) (by kernel_rfl) (by kernel_rfl) (by kernel_rfl) (by kernel_rfl) (by kernel_rfl) (by exact fun _ _ _ h => h) (by first | exact Or.inl ⟨by rfl, by intro w hSw; go_simp; try with_reducible rfl⟩ | exact Or.inr ⟨by rfl, rfl⟩) hH ?_
    try simp only [Act.put, List.setIfInBounds_toArray, List.set_cons_zero, List.set_cons_succ]
    refine wpK.take (i := 5) (v := _) (by simp only [List.getElem?_toArray, List.getElem?_cons_succ, List.getElem?_cons_zero]; rfl) (by kernel_rfl) (by kernel_rfl) (by kernel_rfl) (by kernel_rfl) (by kernel_rfl) (by exact fun _ _ _ h => h) (by first | exact Or.inl ⟨by rfl, by intro w hSw; go_simp; try with_reducible rfl⟩ | exact Or.inr ⟨by rfl, rfl⟩) hH ?_
    try simp only [Act.put, List.setIfInBounds_toArray, List.set_cons_zero, List.set_cons_succ]
    refine wpK.step (i := 6) (by kernel_rfl) (by simp only [List.getElem?_toArray, List.getElem?_cons_succ, List.getElem?_cons_zero]; rfl) (fun K hK => ?_)
    refine step_delT rfl _ _ rfl Tryd.underlying68 Tryd.underlying3 rfl (HMD.out.below hyd) xi rfl ?_; intro wE hmE huE hzE; (have hkE := hyu.trans huE (fun _ _ q => q))
    refine hK.out _ _ (by assumption) (fun hH => ?_)
    clear hK K
    try simp only [Act.put, List.setIfInBounds_toArray, List.set_cons_zero, List.set_cons_succ]
    refine wpK.done (by kernel_rfl) ?_ _
    have HQ : Hid (CPost w s F (delT L xi) nx (.returned (.tuple #[])) wE) := hid (by
      have hUE : Upd (fun k => (v.ownBlock = some k ∨ k = b2) ∨ k = b1) w wE := ((HUD.out.mono (fun k _ q => (.inl q : v.ownBlock = some k ∨ k = b2))).trans HKD.out (fun _ _ q => .inr q)).mono (fun k _ q => (.inl q : (v.ownBlock = some k ∨ k = b2) ∨ k = b1)) |>.trans hkE (fun _ _ q => .inr q)
      have hm' : MapE wE b1 ((delT M xi).map thKV) := by rw [← delM]; exact hmE
      have hP := HP.out.remake hUE (xk, xh, xs) v (.slice aC N cC) l' (HBD.out.upd hkE (fun q => HP.out.n1 q)) hm' (HR.out.upd hkE (fun q => HP.out.n3 q.symm)) HPL.out.feet HPL.out.far
        (fun q hq hn k hk hk2 => by
          rcases hk2 with (e | e) | e
          · exact HPL.out.far q hq hn k hk e
          · exact (HP.out.feet q hq k hk).2.2.2 e
          · exact (HP.out.feet q hq k hk).2.2.1 e)
        (hkE.owns (HKD.out.owns HO4.out (fun k hk q => by
          rcases HGN.out k hk with e | e
          · exact (HPL.out.feet k e).2.2.2 q
          · have := HP.out.m2.lt; omega)) (fun k hk q => by
          rcases HGN.out k hk with e | e
          · exact (HPL.out.feet k e).2.2.1 q
          · have := HP.out.m1.lt; omega)) HGN.out HRM.out
      refine ⟨rfl, ⟨b1, b2, _, _, hP.weaken (fun k q _ => ?_), HRR.out, HSN.out⟩, hUE.mono (fun k _ q => ?_)⟩
      · rcases q with q | q
        · exact .inl q.1
        · exact .inr q
      · rcases q with (q | q) | q
        · exact HF0.out k q
        · subst q; exact HP.out.f2.1
        · subst q; exact HP.out.f1.1)
    clear hmE huE hzE hkE e0 x0 hyd hyu hH
    go_wp2_with fail
    go_end0
    exact HQ.out
end Go.Proofs.YtdoflhiogoefjaaDoor
end
