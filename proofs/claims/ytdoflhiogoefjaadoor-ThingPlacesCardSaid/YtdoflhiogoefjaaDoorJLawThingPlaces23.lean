/- Joined texts, in this order: ThingOps. Each one's first remark says what it proves; no condition beyond those that its theorems name. -/
import Derived.Test.YtdoflhiogoefjaaDoorJLawThingPlaces20
import Derived.Test.YtdoflhiogoefjaaDoorJLawThingPlaces21
import Derived.WideLaws
import Derived.Test.YtdoflhiogoefjaaDoorJLawThingPlaces22
section
/- Contracts of the package thing: Len, Next, Get, In, Make, Move, Destroy. -/
namespace Go.Proofs.YtdoflhiogoefjaaDoor
open Go.RowKit
open Go.Lib (hid)
set_option linter.unusedVariables false

def TPost (w : World) (s : Nat) (F : Nat → Prop) (X' : ThX) (r : Value) (e : Ending) (w' : World) : Prop :=
  e = .returned r ∧ ThingIs w' s (fun k => F k ∨ w.heap.size ≤ k) X' ∧ Upd F w w'
theorem TPost.below {w w' : World} {s : Nat} {F : Nat → Prop} {X : ThX} {r : Value} (h : ThingIs w s F X) (hb : Below w.heap.size w w') : TPost w s F X r (.returned r) w' :=
  ⟨rfl, (h.below hb).weaken (fun _ q _ => .inl q), Upd.of_below hb⟩
theorem MapE.run_len {P : Program} {w : World} {b : Nat} {m : List (Int × Value)} {t kt et : TypeId} (h : MapE w b m) (ht : P.underlying t = some (.map kt et)) (ty : TypeId) : (Builtin.len_ #[t] ty #[.map (some b)]).run P w = .ok (.int .i64 (m.length : Int)) w := by
  obtain ⟨es, c, hb, -, he⟩ := h
  have hl : es.size = m.length := by have := congrArg List.length he; simpa using this
  simp [Builtin.len_, run_underlying ht, Go.MapKept.run_getObj_map hb, Result.andThen, hl, goInt]
theorem wpList_lenE {P : Program} (w : World) {ops : Array Oper} {rest : List Oper} {o : Oper} {a : Act} {Q : Exit → Act → World → Prop} {t kt et : TypeId} {b : Nat} {m : List (Int × Value)} (hg : o.guard = none) (mo : Operand)
    (hop : o.op = Op.call { callee := Callee.builtin Builtin.len, args := #[mo], argTypes := #[t] }) (ht : P.underlying t = some (.map kt et)) (hm : a.eval mo = .map (some b)) (h : MapE w b m)
    (n : Nat) (hn : Hid (m.length = n)) (hK : wpList P ops Q rest (a.put o.dst (.int .i64 (n : Int))) w) : wpList P ops Q (o :: rest) a w := by
  refine wpList_plain hg fun K' hK' => ?_
  have hrun := h.run_len (P := P) ht o.type
  rw [hn.out] at hrun
  unfold Oper.wp execOp
  simp only [hop, resolve, invoke, builtin, Sem.run_bind, Sem.run_pure, Result.andThen_ok, List.map_toArray, List.map_cons, List.map_nil, hm, hrun]
  exact hK' _ _ hK
theorem zero_thing21 (w : World) : (zeroValue 48).run Tryd.prog w = .ok (thV ⟨0, [], 0, (0, 0, 0)⟩) w := by kernel_rfl
set_option maxRecDepth 100000 in
theorem thing_Len {s : Nat} {F : Nat → Prop} {X : ThX} (w : World) (h : ThingIs w s F X) (n : Nat) (hn : Hid (X.L.length = n)) :
    Calls Tryd.prog 29 #[.pointer (some ⟨s, 0, none⟩)] w fun e w' => e = .returned (.int .i64 (n : Int)) ∧ w = w' := by
  obtain ⟨⟨b1, b2, M, R, hp, hr, hs⟩, hi⟩ := h
  obtain ⟨c0, -, -⟩ := hp.cells
  have HM := hid hp.m1
  have HN : Hid ((M.map thKV).length = n) := hid (by rw [List.length_map, hr.r1.length_eq]; exact hn.out)
  clear hp hr hs hi hn
  go_enter Tryd.func29, Tryd.ntmps29
  go_wp2_with (with_reducible refine wpList_lenE _ rfl (.tmp 6) rfl Tryd.underlying68 rfl HM.out n HN ?_)
  go_ret
  exact ⟨rfl, rfl⟩
set_option maxRecDepth 100000 in
theorem thing_Next {s : Nat} {F : Nat → Prop} {X : ThX} (w : World) (h : ThingIs w s F X) (n : Int) (hn : Hid (X.nx = n)) :
    Calls Tryd.prog 35 #[.pointer (some ⟨s, 0, none⟩)] w fun e w' => e = .returned (.int .i64 n) ∧ w = w' := by
  obtain ⟨⟨b1, b2, M, R, hp, hr, hs⟩, hi⟩ := h
  obtain ⟨-, -, c2⟩ := hp.cells
  rw [hn.out] at c2
  clear hp hr hs hi hn
  go_enter Tryd.func35, Tryd.ntmps35
  go_wp2
  go_ret
  exact ⟨rfl, rfl⟩
theorem Blk.c6 {w : World} {g : Nat} {c0 c1 c2 c3 c4 c5 : Value} (h : Blk w g #[c0, c1, c2, c3, c4, c5]) : w.cell? ⟨g, 0, none⟩ = some c0 ∧ w.cell? ⟨g, 1, none⟩ = some c1 ∧ w.cell? ⟨g, 2, none⟩ = some c2 ∧ w.cell? ⟨g, 3, none⟩ = some c3 ∧ w.cell? ⟨g, 4, none⟩ = some c4 ∧ w.cell? ⟨g, 5, none⟩ = some c5 :=
  ⟨by rw [h.cell]; rfl, by rw [h.cell]; rfl, by rw [h.cell]; rfl, by rw [h.cell]; rfl, by rw [h.cell]; rfl, by rw [h.cell]; rfl⟩
theorem Blk.f6 {w : World} {g : Nat} {cs : Array Value} (h : Blk w g cs) : w.frozen? ⟨g, 0, none⟩ = false ∧ w.frozen? ⟨g, 1, none⟩ = false ∧ w.frozen? ⟨g, 2, none⟩ = false ∧ w.frozen? ⟨g, 3, none⟩ = false ∧ w.frozen? ⟨g, 4, none⟩ = false ∧ w.frozen? ⟨g, 5, none⟩ = false :=
  ⟨h.unfrozen _, h.unfrozen _, h.unfrozen _, h.unfrozen _, h.unfrozen _, h.unfrozen _⟩
theorem Upd.set6 {w : World} {g : Nat} {a0 a1 a2 a3 a4 a5 : Value} (h : Blk w g #[a0, a1, a2, a3, a4, a5]) (u0 u1 u2 u3 u4 u5 : Value) : ∃ w', w' = (((((w.setCell ⟨g, 0, none⟩ u0).setCell ⟨g, 1, none⟩ u1).setCell ⟨g, 2, none⟩ u2).setCell ⟨g, 3, none⟩ u3).setCell ⟨g, 4, none⟩ u4).setCell ⟨g, 5, none⟩ u5 ∧
    Blk w' g #[u0, u1, u2, u3, u4, u5] ∧ Upd (fun k => k = g) w w' := by
  refine ⟨_, rfl, ?_, ?_⟩
  · exact ((((((h.set 0 u0).set 1 u1).set 2 u2).set 3 u3).set 4 u4).set 5 u5)
  · exact (((((Upd.setCell w g 0 u0).trans (Upd.setCell _ g 1 u1) (fun _ _ q => q)).trans (Upd.setCell _ g 2 u2) (fun _ _ q => q)).trans (Upd.setCell _ g 3 u3) (fun _ _ q => q)).trans (Upd.setCell _ g 4 u4) (fun _ _ q => q)).trans (Upd.setCell _ g 5 u5) (fun _ _ q => q)
def getR (L : List Th) (n : Int) : Value := match fdT L n with
  | some x => .tuple #[thV x, .int .i64 0]
  | none => .tuple #[thV ⟨0, [], 0, (0, 0, 0)⟩, .int .i64 14]
set_option maxRecDepth 100000 in
theorem thing_Get {s : Nat} {F : Nat → Prop} {L : List Th} {nx : Int} (w : World) (h : ThCore w s F L nx) (n : Int) :
    Calls Tryd.prog 18 #[.pointer (some ⟨s, 0, none⟩), .int .i64 n] w fun e w' => e = .returned (getR L n) ∧ Below w.heap.size w w' := by
  obtain ⟨b1, b2, M, R, hp, hr, hs⟩ := h
  have hlk := lookM hr.r1 hs n
  obtain ⟨r, hr1⟩ : ∃ r : Th, (((M.map thKV).lookup n).getD (thV ⟨0, [], 0, (0, 0, 0)⟩) = thV r) := by
    rw [hlk]
    cases fdT L n with
    | none => exact ⟨_, rfl⟩
    | some x => exact ⟨x, rfl⟩
  obtain ⟨ok, hok⟩ : ∃ ok, ((M.map thKV).lookup n).isSome = ok := ⟨_, rfl⟩
  have HR : Hid (getR L n = .tuple #[if ok then thV r else thV ⟨0, [], 0, (0, 0, 0)⟩, .int .i64 (if ok then 0 else 14)]) := hid (by
    unfold getR
    rw [hlk] at hr1 hok
    cases hf : fdT L n with
    | none =>
      rw [hf] at hok
      have : ok = false := by rw [← hok]; rfl
      subst this
      rfl
    | some x =>
      rw [hf] at hok hr1
      have : ok = true := by rw [← hok]; rfl
      subst this
      have h2 : thV x = thV r := hr1
      rw [if_pos rfl, if_pos rfl, ← h2])
  have HOK := hid hok
  obtain ⟨ri, rn, ro, rk, rh, rs⟩ := r
  simp only [thV, strV] at hr1
  have H1 := hid hr1
  have HP := hid hp
  clear hr hs hlk hr1 hok hp
  go_enter Tryd.func18, Tryd.ntmps18
  go_upto_region 1 with fail
  obtain ⟨w1, hw1⟩ : ∃ w1, w1 = w.alloc (.cells #[.int .i64 0, .string ⟨#[]⟩, .int .i64 0, .int .i64 0, .int .i64 0, .int .i64 0] 48) := ⟨_, rfl⟩
  rw [← hw1]
  obtain ⟨b4, hb4⟩ : ∃ b, b = w.heap.size := ⟨_, rfl⟩
  rw [← hb4]
  have hb1 : Below w.heap.size w w1 := by rw [hw1]; exact Below.new _ _
  have HK4 : Hid (Blk w1 b4 #[.int .i64 0, .string ⟨#[]⟩, .int .i64 0, .int .i64 0, .int .i64 0, .int .i64 0]) := hid (by rw [hw1, hb4]; exact Blk.new _ _ _)
  have HP1 := hid (HP.out.upd (S := fun _ => False) (Upd.of_below hb1) (fun _ q => q.elim))
  have HM := hid HP1.out.m1
  have HB1 := hid hb1
  have HB4 : Hid (w.heap.size ≤ b4) := hid (by omega)
  obtain ⟨c0, -, -⟩ := HP1.out.cells
  clear hw1 hb4 hb1
  go_upto_region 2 with (at_lookup; refine wpList_look2 _ rfl _ _ rfl Tryd.underlying68 Tryd.underlying3 _ zero_thing21 rfl HM.out n rfl _ H1 _ HOK ?_)
  obtain ⟨w2, hw2⟩ : ∃ w2, w2 = w1.alloc (.cells #[.int .i64 ri, .string ⟨rn.toArray⟩, .int .i64 ro, .int .i64 rk, .int .i64 rh, .int .i64 rs] 48) := ⟨_, rfl⟩
  rw [← hw2]
  obtain ⟨b6, hb6⟩ : ∃ b, b = w1.heap.size := ⟨_, rfl⟩
  rw [← hb6]
  have hb2 : Below w1.heap.size w1 w2 := by rw [hw2]; exact Below.new _ _
  have HK6 : Hid (Blk w2 b6 #[.int .i64 ri, .string ⟨rn.toArray⟩, .int .i64 ro, .int .i64 rk, .int .i64 rh, .int .i64 rs]) := hid (by rw [hw2, hb6]; exact Blk.new _ _ _)
  have HK42 := hid (HK4.out.below hb2)
  have HB2 := hid (Below.next HB1.out hb2)
  obtain ⟨x0, x1, x2, x3, x4, x5⟩ := HK6.out.c6
  obtain ⟨y0, y1, y2, y3, y4, y5⟩ := HK42.out.c6
  obtain ⟨f0, f1, f2, f3, f4, f5⟩ := HK42.out.f6
  clear hw2 hb6 hb2 c0 HM
  cases ok with
  | true =>
    obtain ⟨w3, hw3, hk3, hu3⟩ := Upd.set6 HK42.out (.int .i64 ri) (.string ⟨rn.toArray⟩) (.int .i64 ro) (.int .i64 rk) (.int .i64 rh) (.int .i64 rs)
    have HW3 := hid hw3
    have HK3 := hid hk3
    have HU3 := hid (HB2.out.trans (hu3.below HB2.out.size (fun k _ q => by rw [q]; exact HB4.out)))
    clear hw3 hk3 hu3
    go_wp2_with fail
    rw [← HW3.out]
    obtain ⟨z0, z1, z2, z3, z4, z5⟩ := HK3.out.c6
    refine bodyPost_ret (res_cell_tmp rfl _ _ _ rfl (by go_simp; rfl)) rfl ?_
    exact ⟨by rw [HR.out]; rfl, HU3.out⟩
  | false =>
    obtain ⟨w3, hw3, hk3, hu3⟩ := Upd.set6 HK42.out (.int .i64 0) (.string ⟨#[]⟩) (.int .i64 0) (.int .i64 0) (.int .i64 0) (.int .i64 0)
    have HW3 := hid hw3
    have HK3 := hid hk3
    have HU3 := hid (HB2.out.trans (hu3.below HB2.out.size (fun k _ q => by rw [q]; exact HB4.out)))
    clear hw3 hk3 hu3
    go_wp2_with fail
    rw [← HW3.out]
    obtain ⟨z0, z1, z2, z3, z4, z5⟩ := HK3.out.c6
    refine bodyPost_ret (res_cell_tmp rfl _ _ _ rfl (by go_simp; rfl)) rfl ?_
    exact ⟨by rw [HR.out]; rfl, HU3.out⟩
end Go.Proofs.YtdoflhiogoefjaaDoor
end
