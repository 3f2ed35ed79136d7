/- The orders of AccessPlays, opened; the state of its loop. -/
import Derived.Test.YtdchopckbklncaaAccSetsLaw
import Derived.Test.YtdchopckbklncaaOpenE
namespace Go.Proofs.Ytdchopckbklncaa
open Go.RowKit Go.ChangeShapes Go.WideShapes Go.Deep Go.Joins
open Go.Lib (hid)
set_option linter.unusedVariables false

def OpE (_ : World) (f : Nat → Option Value) (x : Int × Int × Bool) : Prop := f 0 = some (.int .i64 x.1) ∧ f 1 = some (.int .i64 x.2.1) ∧ f 2 = some (.bool x.2.2)
theorem OpE.kept : Kept OpE 3 := ⟨fun _ h ⟨h0, h1, h2⟩ => ⟨h 0 _ (by omega) h0, h 1 _ (by omega) h1, h 2 _ (by omega) h2⟩, fun ⟨h0, _⟩ => ⟨_, h0⟩⟩
theorem uOps : Try.prog.underlying 74 = some (.slice 78) := Try.underlying74
set_option maxRecDepth 100000 in
theorem open_op {H : Type} {enc : TypeId × Value → H} {w : World} (n : Nat) (cs : List Value) (x : DataW H × List MemPlace) (h : DataW.trod enc Try.prog w 0 (fun _ => true) true n 78 cs = some x) : ∃ t, OpE w (fun j => cs[j]?) t := by
  obtain ⟨hlen, ys, n', hyl, one⟩ := structE_fields Try.underlying78 (by kernel_rfl) h
  have h3 : Try.prog.cellsOf 78 = 3 := by kernel_rfl
  rw [h3] at hlen
  obtain ⟨v0, v1, v2, rfl⟩ := listOf3 hlen
  have hyl3 : ys.length = 3 := hyl
  obtain ⟨y0, y1, y2, rfl⟩ := listOf3 hyl3
  have t0 : DataW.trod enc Try.prog w 0 (fun _ => true) true n' 3 [v0] = some y0 := one 0 _ rfl
  have t1 : DataW.trod enc Try.prog w 0 (fun _ => true) true n' 3 [v1] = some y1 := one 1 _ rfl
  have t2 : DataW.trod enc Try.prog w 0 (fun _ => true) true n' 4 [v2] = some y2 := one 2 _ rfl
  obtain ⟨a, e0, -, -⟩ := DataW.trod_int Try.underlying3 t0
  obtain ⟨b, e1, -, -⟩ := DataW.trod_int Try.underlying3 t1
  obtain ⟨c, e2, -⟩ := DataW.trod_bool Try.underlying4 t2
  simp only [List.cons.injEq, and_true] at e0 e1 e2
  subst e0 e1 e2
  exact ⟨(a, b, c), rfl, rfl, rfl⟩
set_option maxRecDepth 100000 in
theorem open_ops {H : Type} {enc : TypeId × Value → H} {w : World} {r0 : Reach} {b0 : Nat} {v : Value} {d : DataW H} {p : List MemPlace}
    (hok : Value.okWide Try.prog w r0 b0 74 v) (h : DataW.Trod enc Try.prog w 0 (fun _ => true) true 74 v d p) : ∃ L, SlE OpE 3 w v L :=
  open_slE OpE.kept uOps (by kernel_rfl) (fun n cs x h => open_op n cs x h) hok h
theorem SlE.op {w wr : World} {a : Option Addr} {n c : Nat} {L : List (Int × Int × Bool)} (h : SlE OpE 3 w (.slice a n c) L) (hb : Below w.heap.size w wr) (k : Nat) (hk : k < L.length) :
    ∃ b off x, a = some ⟨b, off, none⟩ ∧ wr.cell? ⟨b, off + k * 3, none⟩ = some (.int .i64 (x : Int × Int × Bool).1) ∧ wr.cell? ⟨b, off + k * 3 + 1, none⟩ = some (.int .i64 x.2.1) ∧ wr.cell? ⟨b, off + k * 3 + 2, none⟩ = some (.bool x.2.2) := by
  obtain ⟨a', c', e, -, -, -, h5⟩ := h.below OpE.kept hb
  simp only [Value.slice.injEq] at e
  obtain ⟨rfl, -, rfl⟩ := e
  obtain ⟨b, off, rfl, -, h0, h1, h2⟩ := h5 k L[k] (List.getElem?_eq_getElem hk)
  exact ⟨b, off, L[k], rfl, h0, h1, h2⟩
theorem SlE.len {α : Type} {E : World → (Nat → Option Value) → α → Prop} {k : Nat} {w : World} {a : Option Addr} {n c : Nat} {L : List α} (h : SlE E k w (.slice a n c) L) : n = L.length ∧ L.length ≤ 9223372036854775807 := by
  obtain ⟨a', c', e, h1, h2, -⟩ := h
  simp only [Value.slice.injEq] at e
  exact ⟨e.2.1, by omega⟩

/-- not in the two blocks -/
def Off (v : Value) (g5 g6 : Nat) : Prop := ∀ k, v.ownBlock = some k → k ≠ g5 ∧ k ≠ g6
/-- the loop's state: the house in block g5, the lists in block g6 -/
structure PlayIs (w wr : World) (g5 g6 : Nat) (o : Int) (l1 l2 l3 : List Int) (v1 v2 v3 u0 u1 u2 u3 : Value) : Prop where
  b5 : Blk wr g5 #[.int .i64 o, v1, v2, v3]
  b6 : Blk wr g6 #[u0, u1, u2, u3]
  s1 : SlI wr v1 l1
  s2 : SlI wr v2 l2
  s3 : SlI wr v3 l3
  t1 : SlI wr u1 l1
  t2 : SlI wr u2 l2
  t3 : SlI wr u3 l3
  f1 : Off v1 g5 g6
  f2 : Off v2 g5 g6
  f3 : Off v3 g5 g6
  k1 : Off u1 g5 g6
  k2 : Off u2 g5 g6
  k3 : Off u3 g5 g6
  r1 : RightL l1 o
  r2 : RightL l2 o
  r3 : RightL l3 o
  bel : Below w.heap.size w wr
  q5 : w.heap.size ≤ g5
  q6 : w.heap.size ≤ g6
  ne : g5 ≠ g6
theorem PlayIs.next {w wr wx : World} {g5 g6 : Nat} {o : Int} {l1 l2 l3 : List Int} {v1 v2 v3 u0 u1 u2 u3 : Value} (h : PlayIs w wr g5 g6 o l1 l2 l3 v1 v2 v3 u0 u1 u2 u3) (hb : Below wr.heap.size wr wx) : PlayIs w wx g5 g6 o l1 l2 l3 v1 v2 v3 u0 u1 u2 u3 :=
  { h with b5 := h.b5.below hb, b6 := h.b6.below hb, s1 := h.s1.below hb, s2 := h.s2.below hb, s3 := h.s3.below hb, t1 := h.t1.below hb, t2 := h.t2.below hb, t3 := h.t3.below hb, bel := Below.next h.bel hb }
/-- the house is put anew -/
theorem PlayIs.house {w wr wx wz : World} {g5 g6 : Nat} {o : Int} {l1 l2 l3 m1 m2 m3 : List Int} {v1 v2 v3 u0 u1 u2 u3 x1 x2 x3 : Value} (h : PlayIs w wr g5 g6 o l1 l2 l3 v1 v2 v3 u0 u1 u2 u3) (hb : Below wr.heap.size wr wx)
    (h1 : OwnI wx wr.heap.size x1 m1) (h2 : OwnI wx wr.heap.size x2 m2) (h3 : OwnI wx wr.heap.size x3 m3) (hz : Blk wz g5 #[.int .i64 o, x1, x2, x3]) (hu : Upd (fun k => k = g5) wx wz) :
    SlI wz x1 m1 ∧ SlI wz x2 m2 ∧ SlI wz x3 m3 ∧ Off x1 g5 g6 ∧ Off x2 g5 g6 ∧ Off x3 g5 g6 ∧ Blk wz g6 #[u0, u1, u2, u3] ∧ SlI wz u1 l1 ∧ SlI wz u2 l2 ∧ SlI wz u3 l3 ∧ Below w.heap.size w wz := by
  have e5 := h.b5.lt
  have e6 := h.b6.lt
  have off : ∀ {v : Value} {l : List Int}, OwnI wx wr.heap.size v l → Off v g5 g6 := fun hv k hk => by have := (hv.lt k hk).1; omega
  have hn := h.next hb
  exact ⟨(h1.upd hu (fun k hk e => (off h1 k hk).1 e)).sli, (h2.upd hu (fun k hk e => (off h2 k hk).1 e)).sli, (h3.upd hu (fun k hk e => (off h3 k hk).1 e)).sli, off h1, off h2, off h3,
    hn.b6.upd hu (fun e => h.ne e.symm), hn.t1.upd hu (fun k hk e => (h.k1 k hk).1 e), hn.t2.upd hu (fun k hk e => (h.k2 k hk).1 e), hn.t3.upd hu (fun k hk e => (h.k3 k hk).1 e),
    hn.bel.trans (hu.below hn.bel.size (fun k _ e => e ▸ h.q5))⟩
/-- one of the lists is put anew -/
theorem put_lists {w : World} {g : Nat} {z u1 u2 u3 v : Value} {lc lf lb l' : List Int} (hblk : Blk w g #[z, u1, u2, u3]) (h1 : SlI w u1 lc) (h2 : SlI w u2 lf) (h3 : SlI w u3 lb) (hv : SlI w v l')
    (n1 : ∀ k, u1.ownBlock = some k → k ≠ g) (n2 : ∀ k, u2.ownBlock = some k → k ≠ g) (n3 : ∀ k, u3.ownBlock = some k → k ≠ g) (nv : ∀ k, v.ownBlock = some k → k ≠ g) {n : Nat} (hn1 : 1 ≤ n) (hn3 : n ≤ 3) (P : Value → Prop) (p1 : P u1) (p2 : P u2) (p3 : P u3) (pv : P v) :
    ∃ x1 x2 x3, Blk (w.setCell ⟨g, n, none⟩ v) g #[z, x1, x2, x3] ∧ SlI (w.setCell ⟨g, n, none⟩ v) x1 (if n = 1 then l' else lc) ∧ SlI (w.setCell ⟨g, n, none⟩ v) x2 (if n = 2 then l' else lf) ∧ SlI (w.setCell ⟨g, n, none⟩ v) x3 (if n = 3 then l' else lb) ∧ P x1 ∧ P x2 ∧ P x3 := by
  have hS := Upd.setCell w g n v
  have h9 := hblk.set n v
  have k1 := h1.upd hS (fun k hk e => n1 k hk e)
  have k2 := h2.upd hS (fun k hk e => n2 k hk e)
  have k3 := h3.upd hS (fun k hk e => n3 k hk e)
  have kv := hv.upd hS (fun k hk e => nv k hk e)
  obtain rfl | rfl | rfl : n = 1 ∨ n = 2 ∨ n = 3 := by omega
  · exact ⟨v, u2, u3, by simpa using h9, by simpa using kv, by simpa using k2, by simpa using k3, pv, p2, p3⟩
  · exact ⟨u1, v, u3, by simpa using h9, by simpa using k1, by simpa using kv, by simpa using k3, p1, pv, p3⟩
  · exact ⟨u1, u2, v, by simpa using h9, by simpa using k1, by simpa using k2, by simpa using kv, p1, p2, pv⟩
end Go.Proofs.Ytdchopckbklncaa
