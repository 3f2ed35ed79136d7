/- Joined texts, in this order: ThingSeq, ThingIter, RegionW. Each one's first remark says what it proves; no condition beyond those that its theorems name. -/
import Derived.Test.YtdoflhiogoefjaaDoorJLawThingCopies20
import Derived.RangeFuncNested
import Derived.RangeFuncBound
import Derived.RangeFuncCalls
import Derived.RangeFuncLeaves
import Derived.Shelf.Abstract
import Derived.Shelf.RegionOpen
import Derived.OwnWalkIn
import Derived.TacticsInMore
import Derived.LoopNIn
import Derived.LoopIn
import Derived.Maps.OwnIn
import Derived.WalkArith
import Derived.Test.YtdoflhiogoefjaaDoorJLawThingCopies12
import Derived.OrdersIn
section
/- Iterators over things: the makers and their tests. -/
namespace Go.Proofs.YtdoflhiogoefjaaDoor
open Go.RowKit
open Go.Lib (hid)
set_option linter.unusedVariables false

/-- what a round keeps: all that lay below n0, and all cells that were laid since B -/
structure KeepIt (n0 B : Nat) (W W' : World) : Prop where
  os : W'.os = W.os
  tape : W'.tape = W.tape
  output : W'.output = W.output
  size : W.heap.size ≤ W'.heap.size
  low : ∀ k, k < n0 → W'.heap[k]? = W.heap[k]?
  cells : ∀ (k : Nat) (o : Obj), B ≤ k → W.heap[k]? = some o → o.isCells = true → W'.heap[k]? = some o
theorem KeepIt.refl (n0 B : Nat) (W : World) : KeepIt n0 B W W := ⟨rfl, rfl, rfl, Nat.le_refl _, fun _ _ => rfl, fun _ _ _ h _ => h⟩
theorem KeepIt.trans {n0 B : Nat} {X Y Z : World} (h : KeepIt n0 B X Y) (k : KeepIt n0 B Y Z) : KeepIt n0 B X Z :=
  ⟨k.os.trans h.os, k.tape.trans h.tape, k.output.trans h.output, Nat.le_trans h.size k.size, fun i hi => (k.low i hi).trans (h.low i hi), fun i o hB hi ho => k.cells i o hB (h.cells i o hB hi ho) ho⟩
theorem KeepIt.put {n0 B : Nat} (hn : n0 ≤ B) (W : World) (l : Nat) (o o' : Obj) (hl : B ≤ l) (h : W.heap[l]? = some o) (hc : o.isCells = false) : KeepIt n0 B W (W.putObj l o') :=
  ⟨rfl, rfl, rfl, by simp, fun k hk => World.putObj_heap_other (by omega), fun k o2 _ hk ho => by
    by_cases e : k = l
    · subst e; rw [h] at hk; cases hk; rw [hc] at ho; cases ho
    · exact (World.putObj_heap_other e).trans hk⟩
theorem KeepIt.below {n0 B : Nat} {W W' : World} (h : KeepIt n0 B W W') : Below n0 W W' := ⟨h.os, h.tape, h.output, h.size, fun k hk => h.low k hk⟩
theorem KeepIt.blk {n0 B : Nat} {W W' : World} (h : KeepIt n0 B W W') {g : Nat} {cs : Array Value} (hg : B ≤ g) (hk : Blk W g cs) : Blk W' g cs := by
  obtain ⟨e, hk⟩ := hk; exact ⟨e, h.cells g _ hg hk rfl⟩
theorem KeepIt.of_upd {n0 B : Nat} {S : Nat → Prop} {W W' : World} (h : Upd S W W') (hn : n0 ≤ W.heap.size) (hS : ∀ k, k < W.heap.size → S k → n0 ≤ k ∧ k < B) : KeepIt n0 B W W' :=
  ⟨h.os, h.tape, h.output, h.size, fun k hk => h.block k (by omega) (fun q => by have := (hS k (by omega) q).1; omega), fun k o hB hk _ => by
    have hl := (Array.getElem?_eq_some_iff.1 hk).1
    rw [h.block k hl (fun q => by have := (hS k hl q).2; omega)]; exact hk⟩
theorem grown_below {W W' : World} (h : Below W.heap.size W W') : W.grownBy W' none := ⟨h.os, h.tape, h.output, h.size, fun k hk _ => h.block k hk⟩
def fnV (g : Nat) (lb : Array Value) : Value := .func (.func g) #[] lb
set_option maxRecDepth 100000 in
theorem thing_where (w : World) (s g : Nat) (lb : Array Value) :
    Calls Tryd.prog 37 #[.pointer (some ⟨s, 0, none⟩), .func (.func g) #[] lb] w fun e w' => ∃ bT bI, e = .returned (.func (.func 47) #[] #[.pointer (some ⟨bT, 0, none⟩), .pointer (some ⟨bI, 0, none⟩)]) ∧ Blk w' bT #[.pointer (some ⟨s, 0, none⟩)] ∧ Blk w' bI #[.func (.func g) #[] lb] ∧ Below w.heap.size w w' := by
  go_enter Tryd.func37, Tryd.ntmps37
  go_wp2_with fail
  go_ret
  refine ⟨w.heap.size, w.heap.size + 1, rfl, (Blk.new w _ _).below (Below.new _ _), ?_, Below.next (Below.new _ _) (Below.new _ _)⟩
  have := Blk.new (w.alloc (.cells #[.pointer (some ⟨s, 0, none⟩)] 29)) #[.func (.func g) #[] lb] 82
  simpa using this
set_option maxRecDepth 100000 in
theorem thing_All (w : World) (s : Nat) :
    Calls Tryd.prog 34 #[.pointer (some ⟨s, 0, none⟩)] w fun e w' => ∃ bT bI, e = .returned (.func (.func 47) #[] #[.pointer (some ⟨bT, 0, none⟩), .pointer (some ⟨bI, 0, none⟩)]) ∧ Blk w' bT #[.pointer (some ⟨s, 0, none⟩)] ∧ Blk w' bI #[.func (.func 46) #[] #[]] ∧ Below w.heap.size w w' := by
  go_enter Tryd.func34, Tryd.ntmps34
  go_wp2_with fail
  refine (thing_where w s 46 #[]).mono ?_
  rintro e w1 ⟨bT, bI, rfl, h1, h2, hb⟩
  have HQ := hid (And.intro h1 (And.intro h2 hb))
  clear h1 h2 hb
  go_wp2_with fail
  go_ret
  exact ⟨bT, bI, rfl, HQ.out.1, HQ.out.2.1, HQ.out.2.2⟩
set_option maxRecDepth 100000 in
theorem all_test (x : Th) (w : World) : Calls Tryd.prog 46 #[thV x] w fun e w' => e = .returned (.bool true) ∧ Below w.heap.size w w' := by
  obtain ⟨xi, xn, xo, xk, xh, xs⟩ := x
  simp only [thV, strV]
  go_enter Tryd.func46, Tryd.ntmps46
  go_wp2_with fail
  go_ret
  exact ⟨rfl, Below.new _ _⟩
end Go.Proofs.YtdoflhiogoefjaaDoor
end
section
/- Iterators over things: what where's closure gives. -/
namespace Go.Proofs.YtdoflhiogoefjaaDoor
open Go.RowKit
open Go.Lib (hid)
set_option linter.unusedVariables false
attribute [local go_sem] Oper.semAt_some

theorem wpListIn_look1 {F : Fence} {nF : Nat} {P : Program} (w : World) {ops : Array Oper} {rest : List Oper} {o : Oper} {a : Act} {Q : Exit → Act → World → Prop} {t kt et : TypeId} {b : Nat} {m : List (Int × Value)} (hg : o.guard = none) (mo x : Operand) (hop : o.op = Op.lookup t mo x false) (ht : P.underlying t = some (.map kt et)) (hk : P.underlying kt = some (.int .i64)) (z : Value) (hz : ∀ w, (zeroValue et).run P w = .ok z w)
    (hm : a.eval mo = .map (some b)) (h : MapE w b m) (k : Int) (hx : a.eval x = .int .i64 k) (r : Value) (hr : Hid ((m.lookup k).getD z = r))
    (hK : wpListIn F nF P ops Q rest (a.put o.dst r) w) : wpListIn F nF P ops Q (o :: rest) a w := by
  refine wpListIn_plain hg fun K' hK' => ?_
  have hrun := h.run_lookup ht hk z (hz w) k false
  unfold Oper.wpIn
  refine ⟨by simp [Oper.about, hop], ?_⟩
  rw [Oper.semAt_plain F _ _ (by rw [hop]; intro c hc'; cases hc')]
  simp [execOp, hop, hm, hx, hrun, Result.andThen]
  exact hK' _ _ (by rw [hr.out]; exact hK)
theorem keysT_of {M L : List Th} (hp : M.Perm L) (hs : SortK kI L) : keysL (M.map thKV) = L.map (fun x => x.id) := by
  have hperm : (keysL (M.map thKV)).Perm (L.map (fun x => x.id)) := by
    refine (List.mergeSort_perm _ _).trans ?_
    rw [List.map_map]
    exact hp.map (fun x => x.id)
  have hnd : (L.map (fun x => x.id)).Nodup := SortK.nodup kI hs
  have h1 : (keysL (M.map thKV)).Pairwise (fun a b => decide (a ≤ b) = true) := List.pairwise_mergeSort (fun a b c h1 h2 => by simp at *; omega) (fun a b => by simp; omega) _
  have h2 : (keysL (M.map thKV)).Nodup := hperm.nodup_iff.2 hnd
  refine sortK_ext kN ?_ ?_ (fun x => hperm.mem_iff)
  · unfold SortK
    refine (h1.and h2).imp ?_
    intro a b h
    have := h.1
    have := h.2
    simp only [kN]
    simp at *
    omega
  · unfold SortK
    rw [List.pairwise_map]
    exact hs
theorem KeepIt.cell {n0 B : Nat} {W W' : World} (h : KeepIt n0 B W W') {a : Addr} {v : Value} (hB : B ≤ a.block) (hc : W.cell? a = some v) : W'.cell? a = some v := by
  unfold World.cell? at hc ⊢
  cases ho : W.heap[a.block]? with
  | none => rw [ho] at hc; simp at hc
  | some o =>
    have hcell : o.isCells = true := by
      rw [ho] at hc
      cases o <;> simp_all [Obj.isCells]
    rw [h.cells a.block o hB ho hcell]
    rw [ho] at hc
    exact hc
theorem KeepIt.thing {n0 B : Nat} {W W' : World} (h : KeepIt n0 B W W') {s : Nat} {F : Nat → Prop} {X : ThX} (hx : ThingIs W s F X) (hF : ∀ k, F k → k < n0) : ThingIs W' s F X :=
  hx.upd (S := fun k => n0 ≤ k) ⟨h.os, h.tape, h.output, h.size, fun k _ hk => h.low k (by omega)⟩ (fun k q hk => by have := hF k hk; omega)
theorem KeepIt.blkLow {n0 B : Nat} {W W' : World} (h : KeepIt n0 B W W') {g : Nat} {cs : Array Value} (hg : g < n0) (hk : Blk W g cs) : Blk W' g cs := by
  obtain ⟨e, hk⟩ := hk; exact ⟨e, (h.low g hg).trans hk⟩
/-- the numbers that a sorted row has -/
def IdsAt (B : Nat) (W : World) (a : Option Addr) (L : List Th) : Prop := ∀ j x, L[j]? = some x → ∃ g off, a = some ⟨g, off, none⟩ ∧ B ≤ g ∧ W.cell? ⟨g, off + j, none⟩ = some (.int .i64 x.id)
theorem IdsAt.keep {n0 B : Nat} {W W' : World} (h : KeepIt n0 B W W') {a : Option Addr} {L : List Th} (hi : IdsAt B W a L) : IdsAt B W' a L := fun j x hx => by
  obtain ⟨g, off, h1, h2, h3⟩ := hi j x hx
  exact ⟨g, off, h1, h2, h.cell h2 h3⟩
theorem IdsAt.below {B : Nat} {W W' : World} (h : Below W.heap.size W W') {a : Option Addr} {L : List Th} (hi : IdsAt B W a L) : IdsAt B W' a L := fun j x hx => by
  obtain ⟨g, off, h1, h2, h3⟩ := hi j x hx
  exact ⟨g, off, h1, h2, by rw [← h3]; exact World.cell?_of_block (h.block g (World.block_lt_of_cell? _ _ h3))⟩
set_option maxRecDepth 100000 in
set_option maxHeartbeats 4000000 in
theorem where1_All (n : Nat) (hn : 1 ≤ n) (l bT bI s n0 B : Nat) (F : Nat → Prop) (X : ThX) (J Jx : List Th → World → Prop) (W : World)
    (hY : ∀ pre x W1, J pre W1 → pre.length < X.L.length → YieldAt Fence.wide (n - 1) Tryd.prog l #[thV x] W1 fun e W' => (e = .returned (.bool true) ∧ J (pre ++ [x]) W' ∧ KeepIt n0 B W1 W') ∨ (e = .returned (.bool false) ∧ Jx (pre ++ [x]) W'))
    (hJ : AbidesFrom W.heap.size J) (hB : B ≤ W.heap.size) (hn0 : n0 ≤ B)
    (hT : Blk W bT #[.pointer (some ⟨s, 0, none⟩)]) (hI : Blk W bI #[.func (.func 46) #[] #[]]) (hTn : bT < n0) (hIn : bI < n0)
    (hX : ThingIs W s F X) (hF : ∀ k, F k → k < n0) (h0 : J [] W) (hl : X.L.length ≤ 900) (hnx : X.nx ≤ 4611686018427387904) :
    CallsIn Fence.wide n Tryd.prog 47 #[.func (.yield l) #[] #[], .pointer (some ⟨bT, 0, none⟩), .pointer (some ⟨bI, 0, none⟩)] W fun e W' => (∃ v, e = .returned v) ∧ ((∃ ys, ys = X.L ∧ J ys W') ∨ (∃ pre, pre <+: X.L ∧ Jx pre W')) := by
  obtain ⟨⟨b1, b2, M, R, hp, hr, hs⟩, hi⟩ := id hX
  have t0 : W.cell? ⟨bT, 0, none⟩ = some (.pointer (some ⟨s, 0, none⟩)) := by rw [hT.cell]; rfl
  obtain ⟨s0, -, -⟩ := hp.cells
  have HM := hid hp.m1
  have HWF : Hid (∀ p ∈ M.map thKV, (Lit.int .i64 p.1).wf = true) := hid (fun p hpm => by
    obtain ⟨x, hx, rfl⟩ := List.mem_map.1 hpm
    have h1 := (hi.one x (hr.r1.mem_iff.1 hx)).1
    show (Lit.int .i64 x.id).wf = true
    exact Go.WalkArith.wf_i64 ⟨by omega, by omega⟩)
  have HLEN : Hid ((M.map thKV).length ≤ 1000000) := hid (by rw [List.length_map, hr.r1.length_eq]; omega)
  obtain ⟨N, hN⟩ : ∃ N, X.L.length = N := ⟨_, rfl⟩
  have HN := hid hN
  have HKEY : Hid (keysL (M.map thKV) = X.L.map (fun x => x.id)) := hid (keysT_of hr.r1 hs)
  refine callsIn_of_wp Tryd.func47 rfl trivial ?_ rfl
  simp only [Tryd.ntmps47, List.size_toArray, List.length_cons, List.length_nil, Nat.reduceAdd, Nat.reduceSub, Array.replicate_succ, Array.replicate_zero, List.push_toArray, List.append_toArray, List.nil_append, List.cons_append]
  gi_wp2_with (first | (refine ⟨trivial, ?_⟩; gi_at_call 49; refine (callsIn_wide.2 (keys_TT (some b1) _)).mono ?_; rintro e w' ⟨rfl, rfl⟩) | (refine ⟨trivial, ?_⟩; gi_at_call 48; refine (callsIn_wide.2 (sorted_TT b1 _ W HM.out HWF.out HLEN.out)).mono ?_; rintro e w2 ⟨v, rfl, hown, hbW⟩; rw [HKEY.out, List.length_map, HN.out] at hown; obtain ⟨av, cv, rfl, -, -, hrd, -⟩ := ownsRow.rd hown))
  have hids : IdsAt B w2 av X.L := fun j x hx => by
    obtain ⟨g, off, ha, hc⟩ := hrd j (by rw [List.length_map, List.length_map]; exact (List.getElem?_eq_some_iff.1 hx).1)
    refine ⟨g, off, ha, ?_, ?_⟩
    · have h1 := hown.lt g (by rw [ha]; rfl)
      omega
    · rw [hc, List.getElem?_map, List.getElem?_map, hx]; rfl
  have hJ2 : J [] w2 := hJ _ _ _ none h0 (grown_below hbW) (fun r e => by cases e)
  have hX2 := hX.below hbW
  have hT2 := hT.below hbW
  have hI2 := hI.below hbW
  have hz2 := hbW.size
  clear hown hrd hbW t0 s0 h0
  gi_loopw [14] (fun v14 wr => ∃ k : Nat, v14 = .int .i64 (k : Int) ∧ k ≤ N ∧ Hid (J (X.L.take k) wr ∧ ThingIs wr s F X ∧ Blk wr bT #[.pointer (some ⟨s, 0, none⟩)] ∧ Blk wr bI #[.func (.func 46) #[] #[]] ∧ IdsAt B wr av X.L ∧ W.heap.size ≤ wr.heap.size)) (fun v14 _ => N - (intOf v14).toNat)
  case atStart => exact ⟨0, rfl, by omega, hid ⟨hJ2, hX2, hT2, hI2, hids, hz2⟩⟩
  case round =>
    clear hJ2 hX2 hT2 hI2 hids hz2
    obtain ⟨k, rfl, hk, HR⟩ := hrel
    by_cases hlt : k < N
    · have k1 : (k : Int) < (N : Int) := by omega
      have k0 : (0 : Int) ≤ (k : Int) := by omega
      have hk63 : (k : Int) ≤ 900 := by have := HN.out; omega
      obtain ⟨x, hx⟩ : ∃ x, X.L[k]? = some x := ⟨_, List.getElem?_eq_getElem (by have := HN.out; omega)⟩
      obtain ⟨g, off, rfl, hBg, d0⟩ := HR.out.2.2.2.2.1 k x hx
      have t0 : wr.cell? ⟨bT, 0, none⟩ = some (.pointer (some ⟨s, 0, none⟩)) := by rw [HR.out.2.2.1.cell]; rfl
      obtain ⟨⟨b1', b2', M', R', hp', hr', hs'⟩, -⟩ := id HR.out.2.1
      obtain ⟨s0, -, -⟩ := hp'.cells
      have HM' := hid hp'.m1
      have HLK : Hid (((M'.map thKV).lookup x.id).getD (thV ⟨0, [], 0, (0, 0, 0)⟩) = thV x) := hid (by rw [lookM hr'.r1 hs', (fdT_some hs').2 ⟨List.mem_of_getElem? hx, rfl⟩]; rfl)
      have HTK : Hid (X.L.take (k + 1) = X.L.take k ++ [x]) := hid (by
        obtain ⟨h1, h2⟩ := List.getElem?_eq_some_iff.1 hx
        rw [List.take_succ_eq_append_getElem h1, h2])
      have HPX : Hid ((X.L.take k).length < X.L.length) := hid (by rw [List.length_take]; have := HN.out; omega)
      have HPF : Hid (X.L.take (k + 1) <+: X.L) := hid (List.take_prefix _ _)
      have HAT := hid (all_test x)
      have HYY := hid (fun W1 h => hY (X.L.take k) x W1 h HPX.out)
      obtain ⟨xi, xn, xo, xk, xh, xs⟩ := x
      simp only [thV, strV] at d0 HLK HAT HYY
      have HX6 : Hid (Blk (wr.alloc (.cells #[.int .i64 xi, .string ⟨xn.toArray⟩, .int .i64 xo, .int .i64 xk, .int .i64 xh, .int .i64 xs] 48)) wr.heap.size #[.int .i64 xi, .string ⟨xn.toArray⟩, .int .i64 xo, .int .i64 xk, .int .i64 xh, .int .i64 xs]) := hid (Blk.new _ _ _)
      have i0 : (wr.alloc (.cells #[.int .i64 xi, .string ⟨xn.toArray⟩, .int .i64 xo, .int .i64 xk, .int .i64 xh, .int .i64 xs] 48)).cell? ⟨bI, 0, none⟩ = some (.func (.func 46) #[] #[]) := by rw [(HR.out.2.2.2.1.below (Below.new _ _)).cell]; rfl
      have HBN := hid (Below.new wr (.cells #[.int .i64 xi, .string ⟨xn.toArray⟩, .int .i64 xo, .int .i64 xk, .int .i64 xh, .int .i64 xs] 48))
      clear hx hp' hr' hs'
      gi_wp2_with (first | (refine ⟨trivial, ?_⟩; gi_at_call 46; refine (callsIn_wide.2 (HAT.out _)).mono ?_; rintro e w4 ⟨rfl, hb4⟩; obtain ⟨x0, x1, x2, x3, x4, x5⟩ := (HX6.out.below hb4).c6; have HB4 := hid (Below.next HBN.out hb4); have HJ4 := hid (hJ _ _ _ none HR.out.1 (grown_below HB4.out) (fun r e => by cases e)); obtain ⟨fn, tmps, assign, body, hy, hR⟩ := HYY.out w4 HJ4.out) | (gi_at_lookup; refine wpListIn_look1 _ rfl _ _ rfl Tryd.underlying68 Tryd.underlying3 _ zero_thing21 rfl HM'.out xi rfl _ HLK ?_))
      have HQ4 : Hid (ThingIs w4 s F X ∧ Blk w4 bT #[.pointer (some ⟨s, 0, none⟩)] ∧ Blk w4 bI #[.func (.func 46) #[] #[]] ∧ IdsAt B w4 (some ⟨g, off, none⟩) X.L ∧ W.heap.size ≤ w4.heap.size) := hid ⟨HR.out.2.1.below HB4.out, HR.out.2.2.1.below HB4.out, HR.out.2.2.2.1.below HB4.out, HR.out.2.2.2.2.1.below HB4.out, by have := HR.out.2.2.2.2.2; have := HB4.out.size; omega⟩
      clear x0 x1 x2 x3 x4 x5 hb4 hy t0 s0 i0 d0
      refine hR.mono ?_
      clear hR
      rintro e W3 (⟨rfl, hJ3, hk3⟩ | ⟨rfl, hJx3⟩)
      · have HR3 : Hid (J (X.L.take (k + 1)) W3 ∧ ThingIs W3 s F X ∧ Blk W3 bT #[.pointer (some ⟨s, 0, none⟩)] ∧ Blk W3 bI #[.func (.func 46) #[] #[]] ∧ IdsAt B W3 (some ⟨g, off, none⟩) X.L ∧ W.heap.size ≤ W3.heap.size) := hid ⟨by rw [HTK.out]; exact hJ3, hk3.thing HQ4.out.1 hF, hk3.blkLow hTn HQ4.out.2.1, hk3.blkLow hIn HQ4.out.2.2.1, HQ4.out.2.2.2.1.keep hk3, by have := HQ4.out.2.2.2.2; have := hk3.size; omega⟩
        clear hJ3 hk3
        gi_wp2
        go_roundw
        case rel => exact ⟨k + 1, by go_num, by omega, HR3⟩
        case measure => simp [intOf]; omega
      · have HJX : Hid (Jx (X.L.take (k + 1)) W3) := hid (by rw [HTK.out]; exact hJx3)
        clear hJx3
        gi_wp2
        refine bodyPost_ret (results_none rfl _ _ _) rfl ?_
        exact ⟨⟨_, rfl⟩, .inr ⟨_, HPF.out, HJX.out⟩⟩
    · have k1 : ¬ (k : Int) < (N : Int) := by omega
      have HJE : Hid (J X.L wr) := hid (by
        have := HR.out.1
        rw [List.take_of_length_le (by have := HN.out; omega)] at this
        exact this)
      gi_wp2
      go_end0
      exact ⟨⟨_, rfl⟩, .inl HJE.out⟩
end Go.Proofs.YtdoflhiogoefjaaDoor
end
section
/- A region inside a round of a range over a function, in the wide fence: it is walked as the same region outside, if it defers nothing. No program in sight. -/
namespace Go.Proofs.YtdoflhiogoefjaaDoor
set_option linter.unusedVariables false
section
variable {P : Program} {ops : Array Oper} {Q : Exit → Act → World → Prop} {md : Region.Mode} {S : World → Prop} {ex : List Nat}
def noDefer (ops : Array Oper) : Bool := ops.all fun o => match o.op with | .defer _ => false | _ => true
theorem noDefer_spec (h : noDefer ops = true) {i : Nat} {o : Oper} (ho : ops[i]? = some o) (c) : o.op ≠ .defer c := by
  obtain ⟨hi, rfl⟩ := Array.getElem?_eq_some_iff.1 ho
  have := (Array.all_eq_true.1 h) i hi
  intro e
  rw [e] at this
  cases this
theorem wpOpIn_of {l n i : Nat} (hlo : ¬ LetsOut Q) (hnd : noDefer ops = true) {K : Act → World → Prop} {a : Act} {w : World} (h : wpOp P ops Q i K a w) : wpOpIn (Fence.wide.inRound l) n P ops Q i K a w := by
  unfold wpOp at h
  unfold wpOpIn
  cases ho : ops[i]? with
  | none => simpa [ho] using h
  | some o =>
    simp only [ho] at h ⊢
    split
    · rename_i hw
      simp only [hw, if_true] at h
      replace h := h.resolve_right (fun q => hlo q.2)
      unfold Oper.wpIn
      refine ⟨fun _ _ => trivial, ?_⟩
      rw [Oper.semAt_eq _ _ _ (noDefer_spec hnd ho)]
      unfold Oper.wp at h
      generalize (execOp a.eval o).run P w = r at h ⊢
      cases r with
      | ok x w' =>
        cases x <;> simp only [Oper.upon, Oper.uponIn] at h ⊢
        case value => exact h
        case skip => exact h
        case defer => exact h
        case enter f args => exact ⟨(fun h => by cases h), CallsIn.inRound l (callsIn_wide.2 h)⟩
        case row row args =>
          refine ⟨(fun h => by cases h), fun c cs _ => ?_⟩
          obtain ⟨v, w', r, s⟩ := h c cs
          exact ⟨v, w', r, stepsIn_wide.2 s⟩
      | halt x w' => cases x <;> simp only [Oper.upon, Oper.uponIn] at h ⊢ <;> exact h
    · rename_i hw
      simp only [hw] at h
      exact ⟨fun _ _ => trivial, h⟩
theorem wpAnyIn_of {l n : Nat} (hlo : ¬ LetsOut Q) (hnd : noDefer ops = true) : ∀ (m : Nat) (ls : Array Bool) (a : Act) (w : World), wpAny P md ops Q m ls a w → wpAnyIn (Fence.wide.inRound l) n P md ops Q m ls a w
  | 0, _, _, _, h => h
  | m + 1, _, _, _, h => ⟨h.1, fun i hi => wpOpIn_mono (fun a' w' k => wpAnyIn_of hlo hnd m _ a' w' k) (wpOpIn_of hlo hnd (h.2 i hi))⟩
theorem wpIn_region_kept {l n : Nat} (ex : List Nat) (S : World → Prop) {id : Nat} {a : Act} {w : World} (hm : P.follows .mixedOrders = true) (hS : S w.drew) (h : S w.drew → wpK P .any ops Q ex S ops.size (Array.replicate ops.size false) a w.drew)
    (hnd : noDefer ops = true := by kernel_rfl) (hlo : ¬ LetsOut Q := by (rintro ⟨_, _, h⟩; exact h)) : (Code.region id ops true).wpIn (Fence.wide.inRound l) n P Q a w :=
  wpIn_region_any hm (wpAnyIn_of hlo hnd _ _ _ _ (wpK.any _ _ _ _ (h hS)))
end
end Go.Proofs.YtdoflhiogoefjaaDoor
end
