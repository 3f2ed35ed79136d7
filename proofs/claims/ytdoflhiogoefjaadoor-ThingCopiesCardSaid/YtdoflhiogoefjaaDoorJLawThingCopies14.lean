/- Joined texts, in this order: ThingOps, ThingOps2. Each one's first remark says what it proves; no condition beyond those that its theorems name. -/
import Derived.Test.YtdoflhiogoefjaaDoorJLawThingCopies13
import Derived.Test.YtdoflhiogoefjaaDoorJLawThingCopies09
import Derived.WideLaws
import Derived.Test.YtdoflhiogoefjaaDoorJLawThingCopies08
section
/- Contracts of the package thing: Len, Next, Get, In, Make, Move, Destroy. -/
namespace Go.Proofs.YtdoflhiogoefjaaDoor
open Go.RowKit
open Go.Lib (hid)
set_option linter.unusedVariables false

def TPost (w : World) (s : Nat) (F : Nat → Prop) (X' : ThX) (r : Value) (e : Ending) (w' : World) : Prop :=
  e = .returned r ∧ ThingIs w' s (fun k => F k ∨ w.heap.size ≤ k) X' ∧ Upd F w w'
theorem TPost.below {w w' : World} {s : Nat} {F : Nat → Prop} {X : ThX} {r : Value} (h : ThingIs w s F X) (hb : Below w.heap.size w w') : TPost w s F X r (.returned r) w' :=
  ⟨rfl, (h.below hb).weaken (fun _ q _ => .inl q), Upd.of_below hb⟩
theorem MapE.run_len {P : Program} {w : World} {b : Nat} {m : List (Int × Value)} {t kt et : TypeId} (h : MapE w b m) (ht : P.underlying t = some (.map kt et)) (ty : TypeId) : (Builtin.len_ #[t] ty #[.map (some b)]).run P w = .ok (.int .i64 (m.length : Int)) w := by
  obtain ⟨es, c, hb, -, he⟩ := h
  have hl : es.size = m.length := by have := congrArg List.length he; simpa using this
  simp [Builtin.len_, run_underlying ht, Go.MapKept.run_getObj_map hb, Result.andThen, hl, goInt]
theorem wpList_lenE {P : Program} (w : World) {ops : Array Oper} {rest : List Oper} {o : Oper} {a : Act} {Q : Exit → Act → World → Prop} {t kt et : TypeId} {b : Nat} {m : List (Int × Value)} (hg : o.guard = none) (mo : Operand)
    (hop : o.op = Op.call { callee := Callee.builtin Builtin.len, args := #[mo], argTypes := #[t] }) (ht : P.underlying t = some (.map kt et)) (hm : a.eval mo = .map (some b)) (h : MapE w b m)
    (n : Nat) (hn : Hid (m.length = n)) (hK : wpList P ops Q rest (a.put o.dst (.int .i64 (n : Int))) w) : wpList P ops Q (o :: rest) a w := by
  refine wpList_plain hg fun K' hK' => ?_
  have hrun := h.run_len (P := P) ht o.type
  rw [hn.out] at hrun
  unfold Oper.wp execOp
  simp only [hop, resolve, invoke, builtin, Sem.run_bind, Sem.run_pure, Result.andThen_ok, List.map_toArray, List.map_cons, List.map_nil, hm, hrun]
  exact hK' _ _ hK
theorem zero_thing21 (w : World) : (zeroValue 48).run Tryd.prog w = .ok (thV ⟨0, [], 0, (0, 0, 0)⟩) w := by kernel_rfl
set_option maxRecDepth 100000 in
theorem thing_Len {s : Nat} {F : Nat → Prop} {X : ThX} (w : World) (h : ThingIs w s F X) (n : Nat) (hn : Hid (X.L.length = n)) :
    Calls Tryd.prog 29 #[.pointer (some ⟨s, 0, none⟩)] w fun e w' => e = .returned (.int .i64 (n : Int)) ∧ w = w' := by
  obtain ⟨⟨b1, b2, M, R, hp, hr, hs⟩, hi⟩ := h
  obtain ⟨c0, -, -⟩ := hp.cells
  have HM := hid hp.m1
  have HN : Hid ((M.map thKV).length = n) := hid (by rw [List.length_map, hr.r1.length_eq]; exact hn.out)
  clear hp hr hs hi hn
  go_enter Tryd.func29, Tryd.ntmps29
  go_wp2_with (with_reducible refine wpList_lenE _ rfl (.tmp 6) rfl Tryd.underlying68 rfl HM.out n HN ?_)
  go_ret
  exact ⟨rfl, rfl⟩
set_option maxRecDepth 100000 in
theorem thing_Next {s : Nat} {F : Nat → Prop} {X : ThX} (w : World) (h : ThingIs w s F X) (n : Int) (hn : Hid (X.nx = n)) :
    Calls Tryd.prog 35 #[.pointer (some ⟨s, 0, none⟩)] w fun e w' => e = .returned (.int .i64 n) ∧ w = w' := by
  obtain ⟨⟨b1, b2, M, R, hp, hr, hs⟩, hi⟩ := h
  obtain ⟨-, -, c2⟩ := hp.cells
  rw [hn.out] at c2
  clear hp hr hs hi hn
  go_enter Tryd.func35, Tryd.ntmps35
  go_wp2
  go_ret
  exact ⟨rfl, rfl⟩
theorem Blk.c6 {w : World} {g : Nat} {c0 c1 c2 c3 c4 c5 : Value} (h : Blk w g #[c0, c1, c2, c3, c4, c5]) : w.cell? ⟨g, 0, none⟩ = some c0 ∧ w.cell? ⟨g, 1, none⟩ = some c1 ∧ w.cell? ⟨g, 2, none⟩ = some c2 ∧ w.cell? ⟨g, 3, none⟩ = some c3 ∧ w.cell? ⟨g, 4, none⟩ = some c4 ∧ w.cell? ⟨g, 5, none⟩ = some c5 :=
  ⟨by rw [h.cell]; rfl, by rw [h.cell]; rfl, by rw [h.cell]; rfl, by rw [h.cell]; rfl, by rw [h.cell]; rfl, by rw [h.cell]; rfl⟩
theorem Blk.f6 {w : World} {g : Nat} {cs : Array Value} (h : Blk w g cs) : w.frozen? ⟨g, 0, none⟩ = false ∧ w.frozen? ⟨g, 1, none⟩ = false ∧ w.frozen? ⟨g, 2, none⟩ = false ∧ w.frozen? ⟨g, 3, none⟩ = false ∧ w.frozen? ⟨g, 4, none⟩ = false ∧ w.frozen? ⟨g, 5, none⟩ = false :=
  ⟨h.unfrozen _, h.unfrozen _, h.unfrozen _, h.unfrozen _, h.unfrozen _, h.unfrozen _⟩
theorem Upd.set6 {w : World} {g : Nat} {a0 a1 a2 a3 a4 a5 : Value} (h : Blk w g #[a0, a1, a2, a3, a4, a5]) (u0 u1 u2 u3 u4 u5 : Value) : ∃ w', w' = (((((w.setCell ⟨g, 0, none⟩ u0).setCell ⟨g, 1, none⟩ u1).setCell ⟨g, 2, none⟩ u2).setCell ⟨g, 3, none⟩ u3).setCell ⟨g, 4, none⟩ u4).setCell ⟨g, 5, none⟩ u5 ∧
    Blk w' g #[u0, u1, u2, u3, u4, u5] ∧ Upd (fun k => k = g) w w' := by
  refine ⟨_, rfl, ?_, ?_⟩
  · exact ((((((h.set 0 u0).set 1 u1).set 2 u2).set 3 u3).set 4 u4).set 5 u5)
  · exact (((((Upd.setCell w g 0 u0).trans (Upd.setCell _ g 1 u1) (fun _ _ q => q)).trans (Upd.setCell _ g 2 u2) (fun _ _ q => q)).trans (Upd.setCell _ g 3 u3) (fun _ _ q => q)).trans (Upd.setCell _ g 4 u4) (fun _ _ q => q)).trans (Upd.setCell _ g 5 u5) (fun _ _ q => q)
def getR (L : List Th) (n : Int) : Value := match fdT L n with
  | some x => .tuple #[thV x, .int .i64 0]
  | none => .tuple #[thV ⟨0, [], 0, (0, 0, 0)⟩, .int .i64 14]
set_option maxRecDepth 100000 in
theorem thing_Get {s : Nat} {F : Nat → Prop} {L : List Th} {nx : Int} (w : World) (h : ThCore w s F L nx) (n : Int) :
    Calls Tryd.prog 18 #[.pointer (some ⟨s, 0, none⟩), .int .i64 n] w fun e w' => e = .returned (getR L n) ∧ Below w.heap.size w w' := by
  obtain ⟨b1, b2, M, R, hp, hr, hs⟩ := h
  have hlk := lookM hr.r1 hs n
  obtain ⟨r, hr1⟩ : ∃ r : Th, (((M.map thKV).lookup n).getD (thV ⟨0, [], 0, (0, 0, 0)⟩) = thV r) := by
    rw [hlk]
    cases fdT L n with
    | none => exact ⟨_, rfl⟩
    | some x => exact ⟨x, rfl⟩
  obtain ⟨ok, hok⟩ : ∃ ok, ((M.map thKV).lookup n).isSome = ok := ⟨_, rfl⟩
  have HR : Hid (getR L n = .tuple #[if ok then thV r else thV ⟨0, [], 0, (0, 0, 0)⟩, .int .i64 (if ok then 0 else 14)]) := hid (by
    unfold getR
    rw [hlk] at hr1 hok
    cases hf : fdT L n with
    | none =>
      rw [hf] at hok
      have : ok = false := by rw [← hok]; rfl
      subst this
      rfl
    | some x =>
      rw [hf] at hok hr1
      have : ok = true := by rw [← hok]; rfl
      subst this
      have h2 : thV x = thV r := hr1
      rw [if_pos rfl, if_pos rfl, ← h2])
  have HOK := hid hok
  obtain ⟨ri, rn, ro, rk, rh, rs⟩ := r
  simp only [thV, strV] at hr1
  have H1 := hid hr1
  have HP := hid hp
  clear hr hs hlk hr1 hok hp
  go_enter Tryd.func18, Tryd.ntmps18
  go_upto_region 1 with fail
  obtain ⟨w1, hw1⟩ : ∃ w1, w1 = w.alloc (.cells #[.int .i64 0, .string ⟨#[]⟩, .int .i64 0, .int .i64 0, .int .i64 0, .int .i64 0] 48) := ⟨_, rfl⟩
  rw [← hw1]
  obtain ⟨b4, hb4⟩ : ∃ b, b = w.heap.size := ⟨_, rfl⟩
  rw [← hb4]
  have hb1 : Below w.heap.size w w1 := by rw [hw1]; exact Below.new _ _
  have HK4 : Hid (Blk w1 b4 #[.int .i64 0, .string ⟨#[]⟩, .int .i64 0, .int .i64 0, .int .i64 0, .int .i64 0]) := hid (by rw [hw1, hb4]; exact Blk.new _ _ _)
  have HP1 := hid (HP.out.upd (S := fun _ => False) (Upd.of_below hb1) (fun _ q => q.elim))
  have HM := hid HP1.out.m1
  have HB1 := hid hb1
  have HB4 : Hid (w.heap.size ≤ b4) := hid (by omega)
  obtain ⟨c0, -, -⟩ := HP1.out.cells
  clear hw1 hb4 hb1
  go_upto_region 2 with (at_lookup; refine wpList_look2 _ rfl _ _ rfl Tryd.underlying68 Tryd.underlying3 _ zero_thing21 rfl HM.out n rfl _ H1 _ HOK ?_)
  obtain ⟨w2, hw2⟩ : ∃ w2, w2 = w1.alloc (.cells #[.int .i64 ri, .string ⟨rn.toArray⟩, .int .i64 ro, .int .i64 rk, .int .i64 rh, .int .i64 rs] 48) := ⟨_, rfl⟩
  rw [← hw2]
  obtain ⟨b6, hb6⟩ : ∃ b, b = w1.heap.size := ⟨_, rfl⟩
  rw [← hb6]
  have hb2 : Below w1.heap.size w1 w2 := by rw [hw2]; exact Below.new _ _
  have HK6 : Hid (Blk w2 b6 #[.int .i64 ri, .string ⟨rn.toArray⟩, .int .i64 ro, .int .i64 rk, .int .i64 rh, .int .i64 rs]) := hid (by rw [hw2, hb6]; exact Blk.new _ _ _)
  have HK42 := hid (HK4.out.below hb2)
  have HB2 := hid (Below.next HB1.out hb2)
  obtain ⟨x0, x1, x2, x3, x4, x5⟩ := HK6.out.c6
  obtain ⟨y0, y1, y2, y3, y4, y5⟩ := HK42.out.c6
  obtain ⟨f0, f1, f2, f3, f4, f5⟩ := HK42.out.f6
  clear hw2 hb6 hb2 c0 HM
  cases ok with
  | true =>
    obtain ⟨w3, hw3, hk3, hu3⟩ := Upd.set6 HK42.out (.int .i64 ri) (.string ⟨rn.toArray⟩) (.int .i64 ro) (.int .i64 rk) (.int .i64 rh) (.int .i64 rs)
    have HW3 := hid hw3
    have HK3 := hid hk3
    have HU3 := hid (HB2.out.trans (hu3.below HB2.out.size (fun k _ q => by rw [q]; exact HB4.out)))
    clear hw3 hk3 hu3
    go_wp2_with fail
    rw [← HW3.out]
    obtain ⟨z0, z1, z2, z3, z4, z5⟩ := HK3.out.c6
    refine bodyPost_ret (res_cell_tmp rfl _ _ _ rfl (by go_simp; rfl)) rfl ?_
    exact ⟨by rw [HR.out]; rfl, HU3.out⟩
  | false =>
    obtain ⟨w3, hw3, hk3, hu3⟩ := Upd.set6 HK42.out (.int .i64 0) (.string ⟨#[]⟩) (.int .i64 0) (.int .i64 0) (.int .i64 0) (.int .i64 0)
    have HW3 := hid hw3
    have HK3 := hid hk3
    have HU3 := hid (HB2.out.trans (hu3.below HB2.out.size (fun k _ q => by rw [q]; exact HB4.out)))
    clear hw3 hk3 hu3
    go_wp2_with fail
    rw [← HW3.out]
    obtain ⟨z0, z1, z2, z3, z4, z5⟩ := HK3.out.c6
    refine bodyPost_ret (res_cell_tmp rfl _ _ _ rfl (by go_simp; rfl)) rfl ?_
    exact ⟨by rw [HR.out]; rfl, HU3.out⟩
end Go.Proofs.YtdoflhiogoefjaaDoor
end
section
/- Contracts of the package thing: In, Make, Move, Destroy. -/
namespace Go.Proofs.YtdoflhiogoefjaaDoor
open Go.RowKit
open Go.Lib (hid)
set_option linter.unusedVariables false

theorem owns_base21 {w : World} {base base' : Nat} {e : TypeId} {size : Nat} {v : Value} {n : Nat} {xs : List Value} (h : w.ownsRow base e size v n xs) (hb : base' ≤ base) : w.ownsRow base' e size v n xs := by
  obtain ⟨h1, h2⟩ := h
  refine ⟨h1, h2.imp id ?_⟩
  rintro ⟨g, cap, cur, a, b, c⟩
  exact ⟨g, cap, cur, a, Nat.le_trans hb b, c⟩
set_option maxRecDepth 100000 in
set_option maxHeartbeats 1000000 in
theorem thing_In {s : Nat} {F : Nat → Prop} {L : List Th} {nx : Int} (w : World) (h : ThCore w s F L nx) (hl : L.length ≤ 900) (pk ph ps : Int) (l : List Int) (hlx : Hid (inT L (pk, ph, ps) = l)) :
    Calls Tryd.prog 16 #[.pointer (some ⟨s, 0, none⟩), .agg #[.int .i64 pk, .int .i64 ph, .int .i64 ps]] w fun e w' => ∃ v, e = .returned v ∧ w'.ownsRow w.heap.size 3 1 v l.length (iv l) ∧ Below w.heap.size w w' := by
  obtain ⟨b1, b2, M, R, hp, hr, hs⟩ := h
  obtain ⟨v, hv⟩ := hp.place hr (pk, ph, ps)
  rw [hlx.out] at hv
  have HLL : Hid (l.length ≤ 900) := hid (by rw [← hlx.out]; exact Nat.le_trans (inT_len L _) hl)
  have HV := hid hv
  have HP := hid hp
  obtain ⟨a, c, hva, -⟩ := ownsRow.rd hv.own
  have HVA := hid hva
  clear hp hr hs hv hva hl hlx
  go_enter Tryd.func16, Tryd.ntmps16
  go_upto_region 1 with fail
  obtain ⟨w1, hw1⟩ : ∃ w1, w1 = w.alloc (.cells #[.int .i64 pk, .int .i64 ph, .int .i64 ps] 23) := ⟨_, rfl⟩
  rw [← hw1]
  obtain ⟨bx, hbx⟩ : ∃ b, b = w.heap.size := ⟨_, rfl⟩
  rw [← hbx]
  have hb1 : Below w.heap.size w w1 := by rw [hw1]; exact Below.new _ _
  have HX1 : Hid (Blk w1 bx #[.int .i64 pk, .int .i64 ph, .int .i64 ps]) := hid (by rw [hw1, hbx]; exact Blk.new _ _ _)
  have HP1 := hid (HP.out.upd (S := fun _ => False) (Upd.of_below hb1) (fun _ q => q.elim))
  have HO1 := hid (owns_below HV.out.own hb1)
  have HB1 := hid hb1
  clear hw1 hb1 hbx
  have e1 : ∀ y, Below w1.heap.size w1 y → y.cell? ⟨s, 1, none⟩ = some (.map (some b2)) := fun y hy => by rw [(HP1.out.blk.below hy).cell]; rfl
  have x0 : ∀ y, Below w1.heap.size w1 y → y.cell? ⟨bx, 0, none⟩ = some (.int .i64 pk) := fun y hy => by rw [(HX1.out.below hy).cell]; rfl
  have x1 : ∀ y, Below w1.heap.size w1 y → y.cell? ⟨bx, 1, none⟩ = some (.int .i64 ph) := fun y hy => by rw [(HX1.out.below hy).cell]; rfl
  have x2 : ∀ y, Below w1.heap.size w1 y → y.cell? ⟨bx, 2, none⟩ = some (.int .i64 ps) := fun y hy => by rw [(HX1.out.below hy).cell]; rfl
  have hlk : ∀ y, Below w1.heap.size w1 y → (Instr.lookup 69 (.map (some b2)) (.agg #[.int .i64 pk, .int .i64 ph, .int .i64 ps]) false).run Tryd.prog y = .ok (.slice a l.length c) y := fun y hy => by
    have := (HP1.out.m2.below hy).run_lookup (P := Tryd.prog) Tryd.underlying69 placeKey (.slice none 0 0) (zero_ints21 y) (pk, ph, ps) false
    rw [HV.out.look, HVA.out] at this
    exact this
  have hyd := (Below.refl w1.heap.size w1).drew
  refine wp_region_kept [7] (fun y => Below w1.heap.size w1 y) (by kernel_rfl) (by assumption) (fun hH => ?_)
  refine wpK.take (i := 0) (v := _) (by simp only [List.getElem?_toArray, List.getElem?_cons_succ, List.getElem?_cons_zero]; rfl) (by kernel_rfl) (by kernel_rfl) (by kernel_rfl) (by kernel_rfl) (by kernel_rfl) (by exact fun _ _ _ h => h) (by first | exact Or.inl ⟨by rfl, by intro w hSw; go_simp; try with_reducible rfl⟩ | exact Or.inr ⟨by rfl, rfl⟩) hH ?_
  try simp only [Act.put, List.setIfInBounds_toArray, List.set_cons_zero, List.set_cons_succ]
  refine wpK.take (i := 1) (v := _) (by simp only [List.getElem?_toArray, List.getElem?_cons_succ, List.getElem?_cons_zero]; rfl) (by kernel_rfl) (by kernel_rfl) (by kernel_rfl) (by kernel_rfl) (by kernel_rfl) (by exact fun _ _ _ h => h) (by first | exact Or.inl ⟨by rfl, by intro w hSw; go_simp; try with_reducible rfl⟩ | exact Or.inr ⟨by rfl, rfl⟩) hH ?_
  try simp only [Act.put, List.setIfInBounds_toArray, List.set_cons_zero, List.set_cons_succ]
  refine wpK.take (i := 2) (v := _) (by simp only [List.getElem?_toArray, List.getElem?_cons_succ, List.getElem?_cons_zero]; rfl) (by kernel_rfl) (by kernel_rfl) (by kernel_rfl) (by kernel_rfl) (by kernel_rfl) (by exact fun _ _ _ h => h) (by first | exact Or.inl ⟨by rfl, by intro w hSw; go_simp; try with_reducible rfl⟩ | exact Or.inr ⟨by rfl, rfl⟩) hH ?_
  try simp only [Act.put, List.setIfInBounds_toArray, List.set_cons_zero, List.set_cons_succ]
  refine wpK.take (i := 3) (v := _) (by simp only [List.getElem?_toArray, List.getElem?_cons_succ, List.getElem?_cons_zero]; rfl) (by kernel_rfl) (by kernel_rfl) (by kernel_rfl) (by kernel_rfl) (by kernel_rfl) (by exact fun _ _ _ h => h) (by first | exact Or.inl ⟨by rfl, by intro w hSw; go_simp; try with_reducible rfl⟩ | exact Or.inr ⟨by rfl, rfl⟩) hH ?_
  try simp only [Act.put, List.setIfInBounds_toArray, List.set_cons_zero, List.set_cons_succ]
  refine wpK.take (i := 4) (v := _) (by simp only [List.getElem?_toArray, List.getElem?_cons_succ, List.getElem?_cons_zero]; rfl) (by kernel_rfl) (by kernel_rfl) (by kernel_rfl) (by kernel_rfl) (by kernel_rfl) (by exact fun _ _ _ h => h) (by first | exact Or.inl ⟨by rfl, by intro w hSw; go_simp; try with_reducible rfl⟩ | exact Or.inr ⟨by rfl, rfl⟩) hH ?_
  try simp only [Act.put, List.setIfInBounds_toArray, List.set_cons_zero, List.set_cons_succ]
  refine wpK.take (i := 5) (v := _) (by simp only [List.getElem?_toArray, List.getElem?_cons_succ, List.getElem?_cons_zero]; rfl) (by kernel_rfl) (by kernel_rfl) (by kernel_rfl) (by kernel_rfl) (by kernel_rfl) (by exact fun _ _ _ h => h) (by first | exact Or.inl ⟨by rfl, by intro w hSw; go_simp; try with_reducible rfl⟩ | exact Or.inr ⟨by rfl, rfl⟩) hH ?_
  try simp only [Act.put, List.setIfInBounds_toArray, List.set_cons_zero, List.set_cons_succ]
  refine wpK.step (i := 6) (by kernel_rfl) (by simp only [List.getElem?_toArray, List.getElem?_cons_succ, List.getElem?_cons_zero]; rfl) (fun K hK => ?_)
  go_simp
  (refine (sl_CloneI l (.slice a l.length c) _ (by rw [← HVA.out]; exact SlI.of_own (owns_below HO1.out hyd)) (by have := HLL.out; omega)).mono ?_); rintro e w2 ⟨v2, rfl, ho2, hb2⟩; (have hk2 : Below w1.heap.size w1 w2 := Below.next hyd hb2); (obtain ⟨a2, c2, hva2, -⟩ := ownsRow.rd ho2); (subst hva2); go_simp
  refine hK.out _ _ (by assumption) (fun hH => ?_)
  clear hK K
  try simp only [Act.put, List.setIfInBounds_toArray, List.set_cons_zero, List.set_cons_succ]
  refine wpK.late (i := 7) (by kernel_rfl) (by simp only [List.getElem?_toArray, List.getElem?_cons_succ, List.getElem?_cons_zero]; rfl) (by kernel_rfl) (fun K hK => ?_)
  go_simp
  refine hK.out _ _ ?_
  clear hK K
  try simp only [Act.put, List.setIfInBounds_toArray, List.set_cons_zero, List.set_cons_succ]
  refine wpK.done (by kernel_rfl) ?_ _
  have HO : Hid (w2.ownsRow w.heap.size 3 1 (.slice a2 l.length c2) l.length (iv l)) := hid (owns_base21 ho2 (HB1.out.size))
  have HB := hid (Below.next HB1.out hk2)
  clear hyd hk2 hb2 ho2 e1 x0 x1 x2 hlk hH
  go_wp2_with fail
  go_ret
  exact ⟨_, rfl, HO.out, HB.out⟩
theorem ThCore.next {w : World} {s : Nat} {F : Nat → Prop} {L : List Th} {nx : Int} (h : ThCore w s F L nx) (n : Int) : ThCore (w.setCell ⟨s, 2, none⟩ (.int .i64 n)) s F L n := by
  obtain ⟨b1, b2, M, R, hp, hr, hs⟩ := h
  have hu := Upd.setCell w s 2 (.int .i64 n)
  exact ⟨b1, b2, M, R, ⟨by simpa using hp.blk.set 2 (.int .i64 n), hp.m1.upd hu (fun q => hp.n1 q.symm), hp.m2.upd hu (fun q => hp.n2 q.symm), hp.fs, hp.f1, hp.f2, hp.n1, hp.n2, hp.n3, fun r hr => hu.owns (hp.row r hr) (fun k hk q => (hp.feet r hr k hk).2.1 q), hp.feet, hp.far⟩, hr, hs⟩
theorem ThCore.nxt {w : World} {s : Nat} {F : Nat → Prop} {L : List Th} {nx : Int} (h : ThCore w s F L nx) : w.cell? ⟨s, 2, none⟩ = some (.int .i64 nx) ∧ w.frozen? ⟨s, 2, none⟩ = false ∧ F s := by
  obtain ⟨b1, b2, M, R, hp, hr, hs⟩ := h
  exact ⟨hp.cells.2.2, hp.blk.unfrozen 2, hp.fs⟩
theorem ThingIs.small {w : World} {s : Nat} {F : Nat → Prop} {X : ThX} (h : ThingIs w s F X) : TInv X := h.2
set_option maxRecDepth 100000 in
set_option maxHeartbeats 2000000 in
theorem thing_Make {s : Nat} {F : Nat → Prop} {X : ThX} (w : World) (h : ThingIs w s F X) (hl : X.L.length ≤ 900) (hnx : X.nx ≤ 4611686018427387904) (nm : List UInt8) (hnm : nm.length ≤ 1000000) (o : Int) (ho : o ≤ 9223372036854775807) :
    Calls Tryd.prog 26 #[.pointer (some ⟨s, 0, none⟩), .string ⟨nm.toArray⟩, .int .i64 o] w (TPost w s F (makeX X nm o) (.tuple #[.int .i64 (makeI X nm o), .int .i64 (makeE X.L nm o)])) := by
  have H := hid h
  have HNM : Hid ((⟨nm.toArray⟩ : ByteArray).size ≤ 9223372036854775807) := hid (by show nm.toArray.size ≤ _; simp; omega)
  have HL := hid hl
  have HNX := hid hnx
  clear h hl hnm hnx
  by_cases h1 : nameB nm = true
  · have HN := hid h1
    by_cases h2 : o < 1
    · have HE : Hid (makeE X.L nm o = 10) := hid (by unfold makeE; rw [if_neg (by rw [h1]; simp), if_pos h2])
      have h2b : decide (o < 1) = true := by simpa using h2
      clear h1
      go_enter Tryd.func26, Tryd.ntmps26
      go_wp2_with fail
      refine (folk_Name ⟨nm.toArray⟩ w HNM.out).mono ?_
      rintro e w1 ⟨rfl, hb⟩
      have HB := hid hb
      have hn2 : nameB ((⟨nm.toArray⟩ : ByteArray).data.toList) = true := HN.out
      rw [hn2]
      clear hb hn2
      go_wp2_with fail
      go_ret2
      rw [show makeX X nm o = X by unfold makeX; rw [HE.out]; rfl, show makeI X nm o = 0 by unfold makeI; rw [HE.out]; rfl, HE.out]
      exact TPost.below H.out HB.out
    · have HE : Hid (makeE X.L nm o = 0) := hid (by unfold makeE; rw [if_neg (by rw [h1]; simp), if_neg h2, if_neg (by have := HL.out; omega)])
      have h2b : decide (o < 1) = false := by simpa using h2
      have HO : Hid (1 ≤ o ∧ o ≤ 9223372036854775807) := hid (by omega)
      obtain ⟨n, hn⟩ : ∃ n, X.L.length = n := ⟨_, rfl⟩
      obtain ⟨nx, hx⟩ : ∃ nx, X.nx = nx := ⟨_, rfl⟩
      have HLN := hid hn
      have HX := hid hx
      have hn4 : ¬ (4096 : Int) ≤ (n : Int) := by have := HL.out; omega
      clear h1 h2 hn hx
      go_enter Tryd.func26, Tryd.ntmps26
      go_wp2_with fail
      refine (folk_Name ⟨nm.toArray⟩ w HNM.out).mono ?_
      rintro e w1 ⟨rfl, hb⟩
      have HB := hid hb
      have H1 := hid (H.out.below hb)
      have hn2 : nameB ((⟨nm.toArray⟩ : ByteArray).data.toList) = true := HN.out
      rw [hn2]
      clear hb hn2
      go_wp2_with fail
      refine (thing_Len w1 H1.out n HLN).mono ?_
      rintro e w2 ⟨rfl, rfl⟩
      obtain ⟨c2, -, -⟩ := H1.out.1.nxt
      rw [HX.out] at c2
      go_wp2_with fail
      refine (thing_put w1 H1.out.1 ⟨nx, nm, o, (1, o, 0)⟩ (fun y hy => by have := (H.out.2.one y hy).1.2; rw [← HX.out]; show y.id ≠ X.nx; omega) HL.out).mono ?_
      rintro e w2 ⟨rfl, hc2, hu2⟩
      rw [ins_end (x := ⟨nx, nm, o, (1, o, 0)⟩) (fun y hy => by have := (H.out.2.one y hy).1.2; rw [← HX.out]; exact this)] at hc2
      have HC2 := hid hc2
      have HU2 := hid hu2
      obtain ⟨c3, f3, hs3⟩ := hc2.nxt
      rw [HX.out] at c3
      have hwr : IntKind.i64.wrap (nx + 1) = nx + 1 := by have := HNX.out; have := H.out.2.n; have := HX.out; rw [IntKind.wrap_i64]; omega
      have HS3 := hid hs3
      clear hc2 hu2 c2 hs3
      go_upto_region 10 with fail
      have HC3 := hid (HC2.out.next (nx + 1))
      have HU3 := hid (Upd.setCell w2 s 2 (.int .i64 (nx + 1)))
      generalize World.setCell w2 _ _ = w3 at HC3 HU3
      clear c3 f3 hwr
      go_wp2_with fail
      go_ret2
      rw [show makeX X nm o = ⟨X.L ++ [⟨X.nx, nm, o, (1, o, 0)⟩], X.nx + 1⟩ by unfold makeX; rw [HE.out]; rfl, show makeI X nm o = X.nx by unfold makeI; rw [HE.out]; rfl, HE.out, HX.out]
      refine ⟨rfl, ⟨?_, ?_⟩, ?_⟩
      · refine HC3.out.weaken (fun k q _ => ?_)
        rcases q with q | q
        · exact .inl q
        · exact .inr (by have := HB.out.size; omega)
      · have := H.out.2.make (nm := nm) (o := o) HO.out HN.out
        rw [HX.out] at this
        exact this
      · exact ((Upd.of_below (S := F) HB.out).trans HU2.out (fun _ _ q => q)).trans HU3.out (fun k hk q => by
          subst q
          exact (H.out.1.nxt).2.2)
  · have h1f : nameB nm = false := by simpa using h1
    have HN := hid h1f
    have HE : Hid (makeE X.L nm o = 16) := hid (by unfold makeE; rw [if_pos h1f])
    clear h1 h1f
    go_enter Tryd.func26, Tryd.ntmps26
    go_wp2_with fail
    refine (folk_Name ⟨nm.toArray⟩ w HNM.out).mono ?_
    rintro e w1 ⟨rfl, hb⟩
    have HB := hid hb
    have hn2 : nameB ((⟨nm.toArray⟩ : ByteArray).data.toList) = false := HN.out
    rw [hn2]
    clear hb hn2
    go_wp2_with fail
    go_ret2
    rw [show makeX X nm o = X by unfold makeX; rw [HE.out]; rfl, show makeI X nm o = 0 by unfold makeI; rw [HE.out]; rfl, HE.out]
    exact TPost.below H.out HB.out
end Go.Proofs.YtdoflhiogoefjaaDoor
end
