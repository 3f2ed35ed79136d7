/- What comes in, opened: slices of things. -/
import Derived.Test.YtdchopckbklncaaVarTell
import Derived.Deep.Slices
import Derived.Deep.Fields
import Derived.ChangeSame
import Derived.OpenShut
namespace Go.Proofs.Ytdchopckbklncaa
open Go.RowKit Go.ChangeShapes Go.WideShapes Go.Deep
open Go.Lib (hid)
set_option linter.unusedVariables false

/-- five cells are a thing -/
structure ThingAt (w : World) (cell : Nat → Option Value) (x : Thing) (la : Option Addr) (lc : Nat) : Prop where
  c0 : cell 0 = some (.int .i64 x.kind)
  c1 : cell 1 = some (.int .i64 x.n)
  c2 : cell 2 = some (.string ⟨x.text.toArray⟩)
  c3 : cell 3 = some (.bool x.flag)
  c4 : cell 4 = some (.slice la x.list.length lc)
  rd : Rd w la (iv x.list)
  n1 : -9223372036854775808 ≤ x.n
  n2 : x.n ≤ 9223372036854775807
  tl : x.text.length ≤ 9223372036854775807
  ll : x.list.length ≤ 9223372036854775807
  bd : ∀ y ∈ x.list, -9223372036854775808 ≤ y ∧ y ≤ 9223372036854775807
theorem ThingAt.below {w w' : World} {cell cell' : Nat → Option Value} {x : Thing} {la : Option Addr} {lc : Nat} (h : ThingAt w cell x la lc) (hb : Below w.heap.size w w') (hc : ∀ j u, j < 5 → cell j = some u → cell' j = some u) : ThingAt w' cell' x la lc :=
  ⟨hc 0 _ (by omega) h.c0, hc 1 _ (by omega) h.c1, hc 2 _ (by omega) h.c2, hc 3 _ (by omega) h.c3, hc 4 _ (by omega) h.c4, h.rd.below' hb, h.n1, h.n2, h.tl, h.ll, h.bd⟩
/-- a slice of things -/
def SlTh (w : World) (v : Value) (L : List Thing) : Prop :=
  ∃ a c, v = .slice a L.length c ∧ L.length ≤ c ∧ c ≤ 9223372036854775807 ∧ (a = none → c = 0) ∧
    ∀ i x, L[i]? = some x → ∃ b off la lc, a = some ⟨b, off, none⟩ ∧ b < w.heap.size ∧ ThingAt w (fun j => w.cell? ⟨b, off + i * 5 + j, none⟩) x la lc
theorem SlTh.below {w w' : World} {v : Value} {L : List Thing} (h : SlTh w v L) (hb : Below w.heap.size w w') : SlTh w' v L := by
  obtain ⟨a, c, h1, h2, h3, h4, h5⟩ := h
  refine ⟨a, c, h1, h2, h3, h4, fun i x hx => ?_⟩
  obtain ⟨b, off, la, lc, k1, k2, k3⟩ := h5 i x hx
  exact ⟨b, off, la, lc, k1, Nat.lt_of_lt_of_le k2 hb.size, k3.below hb (fun j u _ hu => by rw [← hu]; exact World.cell?_of_block (hb.block b k2))⟩

instance : Inhabited Thing := ⟨⟨0, 0, [], false, []⟩⟩
theorem uTs : Try.prog.underlying 53 = some (.slice 56) := Try.underlying53

theorem struct_fields {H : Type} {enc : TypeId × Value → H} {P : Program} {w : World} {base : Nat} {spare : Nat → Bool} {held : Bool} {t : TypeId} {fs : Array Field} {n : Nat} {cs : List Value} {x : DataW H × List MemPlace} (ht : P.underlying t = some (.struct fs)) (hone : oneCellFields P fs = true)
    (h : DataW.trod enc P w base spare held n t cs = some x) : cs.length = P.cellsOf t ∧ ∃ (ys : List (DataW H × List MemPlace)) (n' : Nat), ys.length = fs.size ∧ ∀ (j : Nat) (f : Field), fs[j]? = some f → DataW.trod enc P w base spare held n' f.type ((cs.drop j).take 1) = ys[j]? := by
  obtain ⟨ys, n', hn', hy, hlen, hyl, hf⟩ := DataW.trod_struct ht h
  refine ⟨hlen, ys, n', hyl, fun j f hj => ?_⟩
  obtain ⟨ho, hk⟩ := hone_of hone j f hj
  have := hf j f hj
  rwa [ho, hk] at this
theorem list5 {α : Type} : ∀ {l : List α}, l.length = 5 → ∃ a b c d e, l = [a, b, c, d, e]
  | [a, b, c, d, e], _ => ⟨a, b, c, d, e, rfl⟩
set_option maxRecDepth 100000 in
theorem open_thing {H : Type} {enc : TypeId × Value → H} {w : World} {n : Nat} {cs : List Value} {x : DataW H × List MemPlace} (h : DataW.trod enc Try.prog w 0 (fun _ => true) true n 56 cs = some x) :
    ∃ (t : Thing) (la : Option Addr) (lc : Nat), ThingAt w (fun j => cs[j]?) t la lc := by
  obtain ⟨hlen, ys, n', hyl, one⟩ := struct_fields Try.underlying56 (by kernel_rfl) h
  have h5 : Try.prog.cellsOf 56 = 5 := by kernel_rfl
  rw [h5] at hlen
  obtain ⟨v0, v1, v2, v3, v4, rfl⟩ := list5 hlen
  have hyl5 : ys.length = 5 := hyl
  obtain ⟨y0, y1, y2, y3, y4, rfl⟩ := list5 hyl5
  have t0 : DataW.trod enc Try.prog w 0 (fun _ => true) true n' 3 [v0] = some y0 := one 0 _ rfl
  have t1 : DataW.trod enc Try.prog w 0 (fun _ => true) true n' 3 [v1] = some y1 := one 1 _ rfl
  have t2 : DataW.trod enc Try.prog w 0 (fun _ => true) true n' 9 [v2] = some y2 := one 2 _ rfl
  have t3 : DataW.trod enc Try.prog w 0 (fun _ => true) true n' 4 [v3] = some y3 := one 3 _ rfl
  have t4 : DataW.trod enc Try.prog w 0 (fun _ => true) true n' 39 [v4] = some y4 := one 4 _ rfl
  obtain ⟨k, e0, -, -⟩ := DataW.trod_int Try.underlying3 t0
  obtain ⟨m, e1, -, hm⟩ := DataW.trod_int Try.underlying3 t1
  obtain ⟨s, e2, -, hs⟩ := DataW.trod_string Try.underlying9 t2
  obtain ⟨f, e3, -⟩ := DataW.trod_bool Try.underlying4 t3
  simp only [List.cons.injEq, and_true] at e0 e1 e2 e3
  subst e0 e1 e2 e3
  have hrow : ∃ (a : Option Addr) (len cap : Nat) (zs : List Int), v4 = .slice a len cap ∧ ((a = none ∧ len = 0 ∧ cap = 0 ∧ zs = []) ∨
      ∃ x, a = some x ∧ len ≤ cap ∧ cap ≤ maxLen ∧ zs.length = cap ∧ (∀ i, i < zs.length → w.cell? (x.add i) = some (.int .i64 (zs.getD i 0))) ∧ ∀ n ∈ zs, (Lit.int .i64 n).wf = true) := by
    rcases open_ints Try.underlying39 Try.underlying3 (by kernel_rfl) t4 with ⟨hcs, _⟩ | ⟨x, l, c, zs, hcs, _, hl, hm, hz, _, hcell, hwz⟩
    · simp at hcs
      exact ⟨none, 0, 0, [], hcs, .inl ⟨rfl, rfl, rfl, rfl⟩⟩
    · simp at hcs
      exact ⟨some x, l, c, zs, hcs, .inr ⟨_, rfl, hl, hm, by simpa using hz, hcell, hwz⟩⟩
  obtain ⟨la, len, lc, zs, rfl, hr⟩ := hrow
  obtain ⟨l, rfl, hl2, hrd, hwf, -⟩ := Rd.of_row hr
  refine ⟨⟨k, m, s.data.toList, f, l⟩, la, lc, rfl, rfl, (by show some (Value.string s) = some (.string ⟨s.data.toList.toArray⟩); rw [Array.toArray_toList]), rfl, rfl, hrd, (wf64 hm).1, (wf64 hm).2, ?_, hl2, fun y hy => wf64 (hwf y hy)⟩
  have e : s.data.toList.length = s.size := Array.length_toList
  show s.data.toList.length ≤ 9223372036854775807
  rw [e]
  unfold maxLen at hs; exact hs

set_option maxRecDepth 100000 in
theorem open_things {H : Type} {enc : TypeId × Value → H} {w : World} {r0 : Reach} {b0 : Nat} {v : Value} {d : DataW H} {p : List MemPlace}
    (hok : Value.okWide Try.prog w r0 b0 53 v) (h : DataW.Trod enc Try.prog w 0 (fun _ => true) true 53 v d p) : ∃ L, SlTh w v L := by
  obtain ⟨a0, len0, cap0, rfl⟩ := okWide_slice uTs hok
  obtain ⟨fuel, hf⟩ := h
  have h5 : Try.prog.cellsOf 56 = 5 := by kernel_rfl
  rcases open_slice uTs hf with ⟨hcs, -⟩ | ⟨a, len, cap, m, n, D, Pl, hcs, hb, hl, hm, hmm, hx, hi⟩
  · simp [Value.cells] at hcs
    obtain ⟨rfl, rfl, rfl⟩ := hcs
    exact ⟨[], none, 0, rfl, by simp, by omega, fun _ => rfl, fun i r hr => by simp at hr⟩
  · simp [Value.cells] at hcs
    obtain ⟨rfl, rfl, rfl⟩ := hcs
    simp only [if_true] at hmm
    obtain rfl : cap0 = m := hmm.symm
    have key : ∀ i, i < cap0 → ∃ q : Thing × Option Addr × Nat, ThingAt w (fun j => w.cell? (a.add (i * 5 + j))) q.1 q.2.1 q.2.2 := by
      intro i hic
      obtain ⟨cs', hc, ht'⟩ := hi i hic
      rw [h5] at hc
      obtain ⟨t, la, lc, ht⟩ := open_thing ht'
      obtain ⟨-, hcl, hat⟩ := World.cells?_some hc
      exact ⟨(t, la, lc), ht.below (Below.refl _ _) (fun j u hj hu => by rw [← Go.Deep.add_add, hat j hj]; exact hu)⟩
    obtain ⟨f, hfun⟩ := choose_lt key
    have hlen : ((List.range len0).map fun i => (f i).1).length = len0 := by simp
    refine ⟨(List.range len0).map fun i => (f i).1, some a, cap0, by rw [hlen], by rw [hlen]; exact hl, by unfold maxLen at hm; omega, nofun, ?_⟩
    intro i r hr
    rw [List.getElem?_map] at hr
    by_cases hil : i < len0
    · rw [List.getElem?_range hil] at hr
      simp at hr
      subst hr
      have q := hfun i (by omega)
      obtain ⟨b, off, spot⟩ := a
      have p0 := (hfun 0 (by omega)).c0
      have hspot : spot = none := by simpa [Addr.add] using World.cell?_spot p0
      subst hspot
      have q0 := q.c0
      simp only [Addr.add_lit] at q0
      refine ⟨b, off, (f i).2.1, (f i).2.2, rfl, World.block_lt_of_cell? w _ q0, q.below (Below.refl _ _) (fun j u hj hu => ?_)⟩
      rw [Addr.add_lit] at hu
      rw [Nat.add_assoc]; exact hu
    · rw [List.getElem?_eq_none (by simp; omega)] at hr; simp at hr
end Go.Proofs.Ytdchopckbklncaa
