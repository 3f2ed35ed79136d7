/- Joined texts, in this order: OpenE, OpenI, ThingOpen. Each one's first remark says what it proves; no condition beyond those that its theorems name. -/
import Derived.Test.YtdoflhiogoefjaaDoorJLawThingRestores02
import Derived.Test.YtdoflhiogoefjaaDoorJLawThingRestores07
import Derived.Deep.Slices
import Derived.Deep.Fields
import Derived.ChangeSame
import Derived.OpenShut
import Derived.Test.YtdoflhiogoefjaaDoorJLawThingRestores06
import Derived.Lib.SmallJoins
import Derived.Test.YtdoflhiogoefjaaDoorJLawThingRestores08
section
/- What comes in, opened: a slice of elements of k cells, each of which reads as E says. No program in sight. -/
namespace Go.Proofs.YtdoflhiogoefjaaDoor
open Go.RowKit Go.ChangeShapes Go.WideShapes Go.Deep
open Go.Lib (hid)
set_option linter.unusedVariables false

/-- a slice whose elements of k cells read as E says -/
def SlE {α : Type} (E : World → (Nat → Option Value) → α → Prop) (k : Nat) (w : World) (v : Value) (L : List α) : Prop :=
  ∃ a c, v = .slice a L.length c ∧ L.length ≤ c ∧ c ≤ 9223372036854775807 ∧ (a = none → c = 0) ∧
    ∀ i x, L[i]? = some x → ∃ b off, a = some ⟨b, off, none⟩ ∧ b < w.heap.size ∧ E w (fun j => w.cell? ⟨b, off + i * k + j, none⟩) x
/-- what a reading of an element keeps -/
structure Kept {α : Type} (E : World → (Nat → Option Value) → α → Prop) (k : Nat) : Prop where
  keep : ∀ {w w' : World} {f g : Nat → Option Value} {x : α}, Below w.heap.size w w' → (∀ j u, j < k → f j = some u → g j = some u) → E w f x → E w' g x
  zero : ∀ {w : World} {f : Nat → Option Value} {x : α}, E w f x → ∃ u, f 0 = some u
theorem SlE.below {α : Type} {E : World → (Nat → Option Value) → α → Prop} {k : Nat} (K : Kept E k) {w w' : World} {v : Value} {L : List α} (h : SlE E k w v L) (hb : Below w.heap.size w w') : SlE E k w' v L := by
  obtain ⟨a, c, h1, h2, h3, h4, h5⟩ := h
  refine ⟨a, c, h1, h2, h3, h4, fun i x hx => ?_⟩
  obtain ⟨b, off, k1, k2, k3⟩ := h5 i x hx
  exact ⟨b, off, k1, Nat.lt_of_lt_of_le k2 hb.size, K.keep hb (fun j u _ hu => by rw [← hu]; exact World.cell?_of_block (hb.block b k2)) k3⟩
theorem open_slE {α : Type} [Inhabited α] {E : World → (Nat → Option Value) → α → Prop} {k : Nat} (K : Kept E k) {H : Type} {enc : TypeId × Value → H} {P : Program} {t e : TypeId} {w : World} {r0 : Reach} {b0 : Nat} {v : Value} {d : DataW H} {p : List MemPlace}
    (ht : P.underlying t = some (.slice e)) (hk : P.cellsOf e = k) (elem : ∀ (n : Nat) (cs : List Value) (x : DataW H × List MemPlace), DataW.trod enc P w 0 (fun _ => true) true n e cs = some x → ∃ t, E w (fun j => cs[j]?) t)
    (hok : Value.okWide P w r0 b0 t v) (h : DataW.Trod enc P w 0 (fun _ => true) true t v d p) : ∃ L, SlE E k w v L := by
  obtain ⟨a0, len0, cap0, rfl⟩ := okWide_slice ht hok
  obtain ⟨fuel, hf⟩ := h
  rcases open_slice ht hf with ⟨hcs, -⟩ | ⟨a, len, cap, m, n, D, Pl, hcs, hb, hl, hm, hmm, hx, hi⟩
  · simp [Value.cells] at hcs
    obtain ⟨rfl, rfl, rfl⟩ := hcs
    exact ⟨[], none, 0, rfl, by simp, by omega, fun _ => rfl, fun i r hr => by simp at hr⟩
  · simp [Value.cells] at hcs
    obtain ⟨rfl, rfl, rfl⟩ := hcs
    simp only [if_true] at hmm
    obtain rfl : cap0 = m := hmm.symm
    have key : ∀ i, i < cap0 → ∃ q : α, E w (fun j => w.cell? (a.add (i * k + j))) q := by
      intro i hic
      obtain ⟨cs', hc, ht'⟩ := hi i hic
      rw [hk] at hc
      obtain ⟨t, ht⟩ := elem _ _ _ ht'
      obtain ⟨-, hcl, hat⟩ := World.cells?_some hc
      exact ⟨t, K.keep (Below.refl _ _) (fun j u hj hu => by rw [← Go.Deep.add_add, hat j hj]; exact hu) ht⟩
    obtain ⟨f, hfun⟩ := choose_lt key
    have hlen : ((List.range len0).map f).length = len0 := by simp
    refine ⟨(List.range len0).map f, some a, cap0, by rw [hlen], by rw [hlen]; exact hl, by unfold maxLen at hm; omega, nofun, ?_⟩
    intro i r hr
    rw [List.getElem?_map] at hr
    by_cases hil : i < len0
    · rw [List.getElem?_range hil] at hr
      simp at hr
      subst hr
      have q := hfun i (by omega)
      obtain ⟨b, off, spot⟩ := a
      obtain ⟨u0, p0⟩ := K.zero (hfun 0 (by omega))
      have hspot : spot = none := by simpa [Addr.add] using World.cell?_spot p0
      subst hspot
      obtain ⟨u1, q0⟩ := K.zero q
      simp only [Addr.add_lit] at q0
      refine ⟨b, off, rfl, World.block_lt_of_cell? w _ q0, K.keep (Below.refl _ _) (fun j u hj hu => ?_) q⟩
      rw [Addr.add_lit] at hu
      rw [Nat.add_assoc]; exact hu
    · rw [List.getElem?_eq_none (by simp; omega)] at hr; simp at hr
theorem structE_fields {H : Type} {enc : TypeId × Value → H} {P : Program} {w : World} {base : Nat} {spare : Nat → Bool} {held : Bool} {t : TypeId} {fs : Array Field} {n : Nat} {cs : List Value} {x : DataW H × List MemPlace} (ht : P.underlying t = some (.struct fs)) (hone : oneCellFields P fs = true)
    (h : DataW.trod enc P w base spare held n t cs = some x) : cs.length = P.cellsOf t ∧ ∃ (ys : List (DataW H × List MemPlace)) (n' : Nat), ys.length = fs.size ∧ ∀ (j : Nat) (f : Field), fs[j]? = some f → DataW.trod enc P w base spare held n' f.type ((cs.drop j).take 1) = ys[j]? := by
  obtain ⟨ys, n', hn', hy, hlen, hyl, hf⟩ := DataW.trod_struct ht h
  refine ⟨hlen, ys, n', hyl, fun j f hj => ?_⟩
  obtain ⟨ho, hk⟩ := hone_of hone j f hj
  have := hf j f hj
  rwa [ho, hk] at this
theorem listOf2 {α : Type} : ∀ {l : List α}, l.length = 2 → ∃ a b, l = [a, b]
  | [a, b], _ => ⟨a, b, rfl⟩
theorem listOf3 {α : Type} : ∀ {l : List α}, l.length = 3 → ∃ a b c, l = [a, b, c]
  | [a, b, c], _ => ⟨a, b, c, rfl⟩
theorem listOf4 {α : Type} : ∀ {l : List α}, l.length = 4 → ∃ a b c d, l = [a, b, c, d]
  | [a, b, c, d], _ => ⟨a, b, c, d, rfl⟩
theorem listOf5 {α : Type} : ∀ {l : List α}, l.length = 5 → ∃ a b c d e, l = [a, b, c, d, e]
  | [a, b, c, d, e], _ => ⟨a, b, c, d, e, rfl⟩
theorem listOf6 {α : Type} : ∀ {l : List α}, l.length = 6 → ∃ a b c d e f, l = [a, b, c, d, e, f]
  | [a, b, c, d, e, f], _ => ⟨a, b, c, d, e, f, rfl⟩
end Go.Proofs.YtdoflhiogoefjaaDoor
end
section
/- What comes in, opened: a field that is a slice of numbers. -/
namespace Go.Proofs.YtdoflhiogoefjaaDoor
open Go.RowKit Go.ChangeShapes Go.WideShapes Go.Deep Go.Joins
open Go.Lib (hid)
set_option linter.unusedVariables false

set_option maxRecDepth 100000 in
theorem open_sliF {H : Type} {enc : TypeId × Value → H} {w : World} {n : Nat} {v : Value} {y : DataW H × List MemPlace} (t4 : DataW.trod enc Tryd.prog w 0 (fun _ => true) true n 41 [v] = some y) : ∃ l : List Int, SlI w v l ∧ ∀ x ∈ l, (Lit.int .i64 x).wf = true := by
  have hrow : ∃ (a : Option Addr) (len cap : Nat) (zs : List Int), v = .slice a len cap ∧ ((a = none ∧ len = 0 ∧ cap = 0 ∧ zs = []) ∨
      ∃ x, a = some x ∧ len ≤ cap ∧ cap ≤ maxLen ∧ zs.length = cap ∧ (∀ i, i < zs.length → w.cell? (x.add i) = some (.int .i64 (zs.getD i 0))) ∧ ∀ n ∈ zs, (Lit.int .i64 n).wf = true) := by
    rcases open_ints Tryd.underlying41 Tryd.underlying3 (by kernel_rfl) t4 with ⟨hcs, _⟩ | ⟨x, l, c, zs, hcs, _, hl, hm, hz, _, hcell, hwz⟩
    · simp at hcs
      exact ⟨none, 0, 0, [], hcs, .inl ⟨rfl, rfl, rfl, rfl⟩⟩
    · simp at hcs
      exact ⟨some x, l, c, zs, hcs, .inr ⟨_, rfl, hl, hm, by simpa using hz, hcell, hwz⟩⟩
  obtain ⟨la, len, lc, zs, rfl, hr⟩ := hrow
  obtain ⟨l, -, h, hw⟩ := sli_of_row hr
  exact ⟨l, h, hw⟩
end Go.Proofs.YtdoflhiogoefjaaDoor
end
section
/- What comes in, opened: places, operations, things. -/
namespace Go.Proofs.YtdoflhiogoefjaaDoor
open Go.RowKit Go.ChangeShapes Go.WideShapes Go.Deep Go.Joins
open Go.Lib (hid)
set_option linter.unusedVariables false

theorem list3p {α : Type} : ∀ {l : List α}, l.length = 3 → ∃ a b c, l = [a, b, c]
  | [a, b, c], _ => ⟨a, b, c, rfl⟩
theorem list4p {α : Type} : ∀ {l : List α}, l.length = 4 → ∃ a b c d, l = [a, b, c, d]
  | [a, b, c, d], _ => ⟨a, b, c, d, rfl⟩
theorem list5p {α : Type} : ∀ {l : List α}, l.length = 5 → ∃ a b c d e, l = [a, b, c, d, e]
  | [a, b, c, d, e], _ => ⟨a, b, c, d, e, rfl⟩
theorem list6p {α : Type} : ∀ {l : List α}, l.length = 6 → ∃ a b c d e f, l = [a, b, c, d, e, f]
  | [a, b, c, d, e, f], _ => ⟨a, b, c, d, e, f, rfl⟩
theorem list7p {α : Type} : ∀ {l : List α}, l.length = 7 → ∃ a b c d e f g, l = [a, b, c, d, e, f, g]
  | [a, b, c, d, e, f, g], _ => ⟨a, b, c, d, e, f, g, rfl⟩
def In63 (x : Int) : Prop := -9223372036854775808 ≤ x ∧ x ≤ 9223372036854775807
theorem in63_of_wf {x : Int} (h : (Lit.int .i64 x).wf = true) : In63 x := by
  have := wf64 h
  exact ⟨by omega, by omega⟩
set_option maxRecDepth 100000 in
theorem open_place {H : Type} {enc : TypeId × Value → H} {w : World} {b0 : Nat} {d0 : DataW H} {p0 : List MemPlace} {v0 : Value} (ok0 : Value.okWide Tryd.prog w .any b0 23 v0) (k0 : DataW.Trod enc Tryd.prog w 0 (fun _ => true) true 23 v0 d0 p0) :
    ∃ a b c : Int, v0 = .agg #[.int .i64 a, .int .i64 b, .int .i64 c] := by
  obtain ⟨cs, rfl, hsz⟩ := okWide_struct Tryd.underlying23 ok0
  have h3 : Tryd.prog.cellsOf 23 = 3 := by kernel_rfl
  rw [h3] at hsz
  obtain ⟨l⟩ := cs
  obtain ⟨c0, c1, c2, rfl⟩ := list3p (show l.length = 3 from hsz)
  obtain ⟨fuel, h⟩ := k0
  have h' : DataW.trod enc Tryd.prog w 0 (fun _ => true) true fuel 23 [c0, c1, c2] = some (d0, p0) := h
  obtain ⟨ys, n', -, -, -, hyl, hf⟩ := DataW.trod_struct Tryd.underlying23 h'
  obtain ⟨z0, z1, z2, rfl⟩ := list3p (show ys.length = 3 from hyl)
  have g0 : DataW.trod enc Tryd.prog w 0 (fun _ => true) true n' 3 [c0] = some z0 := hf 0 _ rfl
  have g1 : DataW.trod enc Tryd.prog w 0 (fun _ => true) true n' 3 [c1] = some z1 := hf 1 _ rfl
  have g2 : DataW.trod enc Tryd.prog w 0 (fun _ => true) true n' 3 [c2] = some z2 := hf 2 _ rfl
  obtain ⟨i0, e0, -, w0⟩ := DataW.trod_int Tryd.underlying3 g0
  obtain ⟨i1, e1, -, w1⟩ := DataW.trod_int Tryd.underlying3 g1
  obtain ⟨i2, e2, -, w2⟩ := DataW.trod_int Tryd.underlying3 g2
  simp only [List.cons.injEq, and_true] at e0 e1 e2
  subst e0 e1 e2
  exact ⟨i0, i1, i2, rfl⟩
/-- an operation that comes in -/
structure OpT where
  k : Int
  n : Int
  o : Int
  s : List UInt8
  p : P3
instance : Inhabited OpT := ⟨⟨0, 0, 0, [], (0, 0, 0)⟩⟩
instance : Inhabited Th := ⟨⟨0, [], 0, (0, 0, 0)⟩⟩
def OpTE (w : World) (f : Nat → Option Value) (x : OpT) : Prop :=
  f 0 = some (.int .i64 x.k) ∧ f 1 = some (.int .i64 x.n) ∧ f 2 = some (.int .i64 x.o) ∧ f 3 = some (.string ⟨x.s.toArray⟩) ∧ f 4 = some (.int .i64 x.p.1) ∧ f 5 = some (.int .i64 x.p.2.1) ∧ f 6 = some (.int .i64 x.p.2.2) ∧ In63 x.n ∧ In63 x.o ∧ x.s.length ≤ 9223372036854775807
theorem opTKept : Kept OpTE 7 := ⟨fun hb hf h => ⟨hf 0 _ (by omega) h.1, hf 1 _ (by omega) h.2.1, hf 2 _ (by omega) h.2.2.1, hf 3 _ (by omega) h.2.2.2.1, hf 4 _ (by omega) h.2.2.2.2.1, hf 5 _ (by omega) h.2.2.2.2.2.1, hf 6 _ (by omega) h.2.2.2.2.2.2.1, h.2.2.2.2.2.2.2⟩, fun h => ⟨_, h.1⟩⟩
theorem str_len (q : ByteArray) : q.size = q.data.toList.length := by show q.data.size = _; simp
theorem str_eta (s : ByteArray) : s = ⟨s.data.toList.toArray⟩ := by simp
set_option maxRecDepth 100000 in
theorem elem_opT {H : Type} {enc : TypeId × Value → H} {w : World} (n : Nat) (cs : List Value) (x : DataW H × List MemPlace) (h : DataW.trod enc Tryd.prog w 0 (fun _ => true) true n 36 cs = some x) : ∃ t, OpTE w (fun j => cs[j]?) t := by
  obtain ⟨ys, n', -, -, hlen0, hyl, one⟩ := DataW.trod_struct Tryd.underlying36 h
  have h7 : Tryd.prog.cellsOf 36 = 7 := by kernel_rfl
  have hlen : cs.length = 7 := by rw [← h7]; exact hlen0
  obtain ⟨c0, c1, c2, c3, c4, c5, c6, rfl⟩ := list7p hlen
  have hyl5 : ys.length = 5 := hyl
  obtain ⟨z0, z1, z2, z3, z4, rfl⟩ := list5p hyl5
  have g0 : DataW.trod enc Tryd.prog w 0 (fun _ => true) true n' 3 [c0] = some z0 := one 0 _ rfl
  have g1 : DataW.trod enc Tryd.prog w 0 (fun _ => true) true n' 3 [c1] = some z1 := one 1 _ rfl
  have g2 : DataW.trod enc Tryd.prog w 0 (fun _ => true) true n' 3 [c2] = some z2 := one 2 _ rfl
  have g3 : DataW.trod enc Tryd.prog w 0 (fun _ => true) true n' 9 [c3] = some z3 := one 3 _ rfl
  have g4 : DataW.trod enc Tryd.prog w 0 (fun _ => true) true n' 23 [c4, c5, c6] = some z4 := one 4 _ rfl
  obtain ⟨us, n2, -, -, -, hul, hf2⟩ := DataW.trod_struct Tryd.underlying23 g4
  obtain ⟨y0, y1, y2, rfl⟩ := list3p (show us.length = 3 from hul)
  have k0 : DataW.trod enc Tryd.prog w 0 (fun _ => true) true n2 3 [c4] = some y0 := hf2 0 _ rfl
  have k1 : DataW.trod enc Tryd.prog w 0 (fun _ => true) true n2 3 [c5] = some y1 := hf2 1 _ rfl
  have k2 : DataW.trod enc Tryd.prog w 0 (fun _ => true) true n2 3 [c6] = some y2 := hf2 2 _ rfl
  obtain ⟨i0, e0, -, w0⟩ := DataW.trod_int Tryd.underlying3 g0
  obtain ⟨i1, e1, -, w1⟩ := DataW.trod_int Tryd.underlying3 g1
  obtain ⟨i2, e2, -, w2⟩ := DataW.trod_int Tryd.underlying3 g2
  obtain ⟨q3, e3, -, s3⟩ := DataW.trod_string Tryd.underlying9 g3
  obtain ⟨i4, e4, -, w4⟩ := DataW.trod_int Tryd.underlying3 k0
  obtain ⟨i5, e5, -, w5⟩ := DataW.trod_int Tryd.underlying3 k1
  obtain ⟨i6, e6, -, w6⟩ := DataW.trod_int Tryd.underlying3 k2
  simp only [List.cons.injEq, and_true] at e0 e1 e2 e3 e4 e5 e6
  subst e0 e1 e2 e3 e4 e5 e6
  refine ⟨⟨i0, i1, i2, q3.data.toList, (i4, i5, i6)⟩, rfl, rfl, rfl, ?_, rfl, rfl, rfl, in63_of_wf w1, in63_of_wf w2, ?_⟩
  · show some (Value.string q3) = some (Value.string ⟨q3.data.toList.toArray⟩)
    rw [← str_eta]
  · have := str_len q3
    show q3.data.toList.length ≤ _
    rw [← this]; unfold maxLen at s3; omega
set_option maxRecDepth 100000 in
theorem open_opsT {H : Type} {enc : TypeId × Value → H} {w : World} {b0 : Nat} {d0 : DataW H} {p0 : List MemPlace} {v0 : Value} (ok0 : Value.okWide Tryd.prog w .any b0 28 v0) (k0 : DataW.Trod enc Tryd.prog w 0 (fun _ => true) true 28 v0 d0 p0) : ∃ L, SlE OpTE 7 w v0 L :=
  open_slE opTKept Tryd.underlying28 (by kernel_rfl) elem_opT ok0 k0
/-- a thing that comes in -/
def ThE (w : World) (f : Nat → Option Value) (x : Th) : Prop :=
  f 0 = some (.int .i64 x.id) ∧ f 1 = some (strV x.nm) ∧ f 2 = some (.int .i64 x.ow) ∧ f 3 = some (.int .i64 x.pl.1) ∧ f 4 = some (.int .i64 x.pl.2.1) ∧ f 5 = some (.int .i64 x.pl.2.2) ∧ In63 x.id ∧ In63 x.ow ∧ x.nm.length ≤ 9223372036854775807
theorem thKept : Kept ThE 6 := ⟨fun hb hf h => ⟨hf 0 _ (by omega) h.1, hf 1 _ (by omega) h.2.1, hf 2 _ (by omega) h.2.2.1, hf 3 _ (by omega) h.2.2.2.1, hf 4 _ (by omega) h.2.2.2.2.1, hf 5 _ (by omega) h.2.2.2.2.2.1, h.2.2.2.2.2.2⟩, fun h => ⟨_, h.1⟩⟩
set_option maxRecDepth 100000 in
theorem elem_th {H : Type} {enc : TypeId × Value → H} {w : World} (n : Nat) (cs : List Value) (x : DataW H × List MemPlace) (h : DataW.trod enc Tryd.prog w 0 (fun _ => true) true n 48 cs = some x) : ∃ t, ThE w (fun j => cs[j]?) t := by
  obtain ⟨ys, n', -, -, hlen0, hyl, one⟩ := DataW.trod_struct Tryd.underlying48 h
  have h6 : Tryd.prog.cellsOf 48 = 6 := by kernel_rfl
  have hlen : cs.length = 6 := by rw [← h6]; exact hlen0
  obtain ⟨c0, c1, c2, c3, c4, c5, rfl⟩ := list6p hlen
  have hyl4 : ys.length = 4 := hyl
  obtain ⟨z0, z1, z2, z3, rfl⟩ := list4p hyl4
  have g0 : DataW.trod enc Tryd.prog w 0 (fun _ => true) true n' 3 [c0] = some z0 := one 0 _ rfl
  have g1 : DataW.trod enc Tryd.prog w 0 (fun _ => true) true n' 9 [c1] = some z1 := one 1 _ rfl
  have g2 : DataW.trod enc Tryd.prog w 0 (fun _ => true) true n' 3 [c2] = some z2 := one 2 _ rfl
  have g3 : DataW.trod enc Tryd.prog w 0 (fun _ => true) true n' 23 [c3, c4, c5] = some z3 := one 3 _ rfl
  obtain ⟨us, n2, -, -, -, hul, hf2⟩ := DataW.trod_struct Tryd.underlying23 g3
  obtain ⟨y0, y1, y2, rfl⟩ := list3p (show us.length = 3 from hul)
  have k0 : DataW.trod enc Tryd.prog w 0 (fun _ => true) true n2 3 [c3] = some y0 := hf2 0 _ rfl
  have k1 : DataW.trod enc Tryd.prog w 0 (fun _ => true) true n2 3 [c4] = some y1 := hf2 1 _ rfl
  have k2 : DataW.trod enc Tryd.prog w 0 (fun _ => true) true n2 3 [c5] = some y2 := hf2 2 _ rfl
  obtain ⟨i0, e0, -, w0⟩ := DataW.trod_int Tryd.underlying3 g0
  obtain ⟨q1, e1, -, s1⟩ := DataW.trod_string Tryd.underlying9 g1
  obtain ⟨i2, e2, -, w2⟩ := DataW.trod_int Tryd.underlying3 g2
  obtain ⟨i3, e3, -, w3⟩ := DataW.trod_int Tryd.underlying3 k0
  obtain ⟨i4, e4, -, w4⟩ := DataW.trod_int Tryd.underlying3 k1
  obtain ⟨i5, e5, -, w5⟩ := DataW.trod_int Tryd.underlying3 k2
  simp only [List.cons.injEq, and_true] at e0 e1 e2 e3 e4 e5
  subst e0 e1 e2 e3 e4 e5
  refine ⟨⟨i0, q1.data.toList, i2, (i3, i4, i5)⟩, rfl, ?_, rfl, rfl, rfl, rfl, in63_of_wf w0, in63_of_wf w2, ?_⟩
  · show some (Value.string q1) = some (Value.string ⟨q1.data.toList.toArray⟩)
    rw [← str_eta]
  · have := str_len q1
    show q1.data.toList.length ≤ _
    rw [← this]; unfold maxLen at s1; omega
set_option maxRecDepth 100000 in
theorem open_ths {H : Type} {enc : TypeId × Value → H} {w : World} {b0 : Nat} {d0 : DataW H} {p0 : List MemPlace} {v0 : Value} (ok0 : Value.okWide Tryd.prog w .any b0 58 v0) (k0 : DataW.Trod enc Tryd.prog w 0 (fun _ => true) true 58 v0 d0 p0) : ∃ L, SlE ThE 6 w v0 L :=
  open_slE thKept Tryd.underlying58 (by kernel_rfl) elem_th ok0 k0
end Go.Proofs.YtdoflhiogoefjaaDoor
end
