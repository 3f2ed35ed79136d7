/- Joined texts, in this order: ThingOpen. Each one's first remark says what it proves; no condition beyond those that its theorems name. -/
import Derived.Test.YtdoflhiogoefjaaDoorJLawThingPlaces07
import Derived.Test.YtdoflhiogoefjaaDoorJLawThingPlaces28
import Derived.Lib.SmallJoins
import Derived.Test.YtdoflhiogoefjaaDoorJLawThingPlaces12
section
/- What comes in, opened: places, operations, things. -/
namespace Go.Proofs.YtdoflhiogoefjaaDoor
open Go.RowKit Go.ChangeShapes Go.WideShapes Go.Deep Go.Joins
open Go.Lib (hid)
set_option linter.unusedVariables false

theorem list3p {α : Type} : ∀ {l : List α}, l.length = 3 → ∃ a b c, l = [a, b, c]
  | [a, b, c], _ => ⟨a, b, c, rfl⟩
theorem list4p {α : Type} : ∀ {l : List α}, l.length = 4 → ∃ a b c d, l = [a, b, c, d]
  | [a, b, c, d], _ => ⟨a, b, c, d, rfl⟩
theorem list5p {α : Type} : ∀ {l : List α}, l.length = 5 → ∃ a b c d e, l = [a, b, c, d, e]
  | [a, b, c, d, e], _ => ⟨a, b, c, d, e, rfl⟩
theorem list6p {α : Type} : ∀ {l : List α}, l.length = 6 → ∃ a b c d e f, l = [a, b, c, d, e, f]
  | [a, b, c, d, e, f], _ => ⟨a, b, c, d, e, f, rfl⟩
theorem list7p {α : Type} : ∀ {l : List α}, l.length = 7 → ∃ a b c d e f g, l = [a, b, c, d, e, f, g]
  | [a, b, c, d, e, f, g], _ => ⟨a, b, c, d, e, f, g, rfl⟩
def In63 (x : Int) : Prop := -9223372036854775808 ≤ x ∧ x ≤ 9223372036854775807
theorem in63_of_wf {x : Int} (h : (Lit.int .i64 x).wf = true) : In63 x := by
  have := wf64 h
  exact ⟨by omega, by omega⟩
set_option maxRecDepth 100000 in
theorem open_place {H : Type} {enc : TypeId × Value → H} {w : World} {b0 : Nat} {d0 : DataW H} {p0 : List MemPlace} {v0 : Value} (ok0 : Value.okWide Tryd.prog w .any b0 23 v0) (k0 : DataW.Trod enc Tryd.prog w 0 (fun _ => true) true 23 v0 d0 p0) :
    ∃ a b c : Int, v0 = .agg #[.int .i64 a, .int .i64 b, .int .i64 c] := by
  obtain ⟨cs, rfl, hsz⟩ := okWide_struct Tryd.underlying23 ok0
  have h3 : Tryd.prog.cellsOf 23 = 3 := by kernel_rfl
  rw [h3] at hsz
  obtain ⟨l⟩ := cs
  obtain ⟨c0, c1, c2, rfl⟩ := list3p (show l.length = 3 from hsz)
  obtain ⟨fuel, h⟩ := k0
  have h' : DataW.trod enc Tryd.prog w 0 (fun _ => true) true fuel 23 [c0, c1, c2] = some (d0, p0) := h
  obtain ⟨ys, n', -, -, -, hyl, hf⟩ := DataW.trod_struct Tryd.underlying23 h'
  obtain ⟨z0, z1, z2, rfl⟩ := list3p (show ys.length = 3 from hyl)
  have g0 : DataW.trod enc Tryd.prog w 0 (fun _ => true) true n' 3 [c0] = some z0 := hf 0 _ rfl
  have g1 : DataW.trod enc Tryd.prog w 0 (fun _ => true) true n' 3 [c1] = some z1 := hf 1 _ rfl
  have g2 : DataW.trod enc Tryd.prog w 0 (fun _ => true) true n' 3 [c2] = some z2 := hf 2 _ rfl
  obtain ⟨i0, e0, -, w0⟩ := DataW.trod_int Tryd.underlying3 g0
  obtain ⟨i1, e1, -, w1⟩ := DataW.trod_int Tryd.underlying3 g1
  obtain ⟨i2, e2, -, w2⟩ := DataW.trod_int Tryd.underlying3 g2
  simp only [List.cons.injEq, and_true] at e0 e1 e2
  subst e0 e1 e2
  exact ⟨i0, i1, i2, rfl⟩
/-- an operation that comes in -/
structure OpT where
  k : Int
  n : Int
  o : Int
  s : List UInt8
  p : P3
instance : Inhabited OpT := ⟨⟨0, 0, 0, [], (0, 0, 0)⟩⟩
instance : Inhabited Th := ⟨⟨0, [], 0, (0, 0, 0)⟩⟩
def OpTE (w : World) (f : Nat → Option Value) (x : OpT) : Prop :=
  f 0 = some (.int .i64 x.k) ∧ f 1 = some (.int .i64 x.n) ∧ f 2 = some (.int .i64 x.o) ∧ f 3 = some (.string ⟨x.s.toArray⟩) ∧ f 4 = some (.int .i64 x.p.1) ∧ f 5 = some (.int .i64 x.p.2.1) ∧ f 6 = some (.int .i64 x.p.2.2) ∧ In63 x.n ∧ In63 x.o ∧ x.s.length ≤ 9223372036854775807
theorem opTKept : Kept OpTE 7 := ⟨fun hb hf h => ⟨hf 0 _ (by omega) h.1, hf 1 _ (by omega) h.2.1, hf 2 _ (by omega) h.2.2.1, hf 3 _ (by omega) h.2.2.2.1, hf 4 _ (by omega) h.2.2.2.2.1, hf 5 _ (by omega) h.2.2.2.2.2.1, hf 6 _ (by omega) h.2.2.2.2.2.2.1, h.2.2.2.2.2.2.2⟩, fun h => ⟨_, h.1⟩⟩
theorem str_len (q : ByteArray) : q.size = q.data.toList.length := by show q.data.size = _; simp
theorem str_eta (s : ByteArray) : s = ⟨s.data.toList.toArray⟩ := by simp
set_option maxRecDepth 100000 in
theorem elem_opT {H : Type} {enc : TypeId × Value → H} {w : World} (n : Nat) (cs : List Value) (x : DataW H × List MemPlace) (h : DataW.trod enc Tryd.prog w 0 (fun _ => true) true n 36 cs = some x) : ∃ t, OpTE w (fun j => cs[j]?) t := by
  obtain ⟨ys, n', -, -, hlen0, hyl, one⟩ := DataW.trod_struct Tryd.underlying36 h
  have h7 : Tryd.prog.cellsOf 36 = 7 := by kernel_rfl
  have hlen : cs.length = 7 := by rw [← h7]; exact hlen0
  obtain ⟨c0, c1, c2, c3, c4, c5, c6, rfl⟩ := list7p hlen
  have hyl5 : ys.length = 5 := hyl
  obtain ⟨z0, z1, z2, z3, z4, rfl⟩ := list5p hyl5
  have g0 : DataW.trod enc Tryd.prog w 0 (fun _ => true) true n' 3 [c0] = some z0 := one 0 _ rfl
  have g1 : DataW.trod enc Tryd.prog w 0 (fun _ => true) true n' 3 [c1] = some z1 := one 1 _ rfl
  have g2 : DataW.trod enc Tryd.prog w 0 (fun _ => true) true n' 3 [c2] = some z2 := one 2 _ rfl
  have g3 : DataW.trod enc Tryd.prog w 0 (fun _ => true) true n' 9 [c3] = some z3 := one 3 _ rfl
  have g4 : DataW.trod enc Tryd.prog w 0 (fun _ => true) true n' 23 [c4, c5, c6] = some z4 := one 4 _ rfl
  obtain ⟨us, n2, -, -, -, hul, hf2⟩ := DataW.trod_struct Tryd.underlying23 g4
  obtain ⟨y0, y1, y2, rfl⟩ := list3p (show us.length = 3 from hul)
  have k0 : DataW.trod enc Tryd.prog w 0 (fun _ => true) true n2 3 [c4] = some y0 := hf2 0 _ rfl
  have k1 : DataW.trod enc Tryd.prog w 0 (fun _ => true) true n2 3 [c5] = some y1 := hf2 1 _ rfl
  have k2 : DataW.trod enc Tryd.prog w 0 (fun _ => true) true n2 3 [c6] = some y2 := hf2 2 _ rfl
  obtain ⟨i0, e0, -, w0⟩ := DataW.trod_int Tryd.underlying3 g0
  obtain ⟨i1, e1, -, w1⟩ := DataW.trod_int Tryd.underlying3 g1
  obtain ⟨i2, e2, -, w2⟩ := DataW.trod_int Tryd.underlying3 g2
  obtain ⟨q3, e3, -, s3⟩ := DataW.trod_string Tryd.underlying9 g3
  obtain ⟨i4, e4, -, w4⟩ := DataW.trod_int Tryd.underlying3 k0
  obtain ⟨i5, e5, -, w5⟩ := DataW.trod_int Tryd.underlying3 k1
  obtain ⟨i6, e6, -, w6⟩ := DataW.trod_int Tryd.underlying3 k2
  simp only [List.cons.injEq, and_true] at e0 e1 e2 e3 e4 e5 e6
  subst e0 e1 e2 e3 e4 e5 e6
  refine ⟨⟨i0, i1, i2, q3.data.toList, (i4, i5, i6)⟩, rfl, rfl, rfl, ?_, rfl, rfl, rfl, in63_of_wf w1, in63_of_wf w2, ?_⟩
  · show some (Value.string q3) = some (Value.string ⟨q3.data.toList.toArray⟩)
    rw [← str_eta]
  · have := str_len q3
    show q3.data.toList.length ≤ _
    rw [← this]; unfold maxLen at s3; omega
set_option maxRecDepth 100000 in
theorem open_opsT {H : Type} {enc : TypeId × Value → H} {w : World} {b0 : Nat} {d0 : DataW H} {p0 : List MemPlace} {v0 : Value} (ok0 : Value.okWide Tryd.prog w .any b0 28 v0) (k0 : DataW.Trod enc Tryd.prog w 0 (fun _ => true) true 28 v0 d0 p0) : ∃ L, SlE OpTE 7 w v0 L :=
  open_slE opTKept Tryd.underlying28 (by kernel_rfl) elem_opT ok0 k0
/-- a thing that comes in -/
def ThE (w : World) (f : Nat → Option Value) (x : Th) : Prop :=
  f 0 = some (.int .i64 x.id) ∧ f 1 = some (strV x.nm) ∧ f 2 = some (.int .i64 x.ow) ∧ f 3 = some (.int .i64 x.pl.1) ∧ f 4 = some (.int .i64 x.pl.2.1) ∧ f 5 = some (.int .i64 x.pl.2.2) ∧ In63 x.id ∧ In63 x.ow ∧ x.nm.length ≤ 9223372036854775807
theorem thKept : Kept ThE 6 := ⟨fun hb hf h => ⟨hf 0 _ (by omega) h.1, hf 1 _ (by omega) h.2.1, hf 2 _ (by omega) h.2.2.1, hf 3 _ (by omega) h.2.2.2.1, hf 4 _ (by omega) h.2.2.2.2.1, hf 5 _ (by omega) h.2.2.2.2.2.1, h.2.2.2.2.2.2⟩, fun h => ⟨_, h.1⟩⟩
set_option maxRecDepth 100000 in
theorem elem_th {H : Type} {enc : TypeId × Value → H} {w : World} (n : Nat) (cs : List Value) (x : DataW H × List MemPlace) (h : DataW.trod enc Tryd.prog w 0 (fun _ => true) true n 48 cs = some x) : ∃ t, ThE w (fun j => cs[j]?) t := by
  obtain ⟨ys, n', -, -, hlen0, hyl, one⟩ := DataW.trod_struct Tryd.underlying48 h
  have h6 : Tryd.prog.cellsOf 48 = 6 := by kernel_rfl
  have hlen : cs.length = 6 := by rw [← h6]; exact hlen0
  obtain ⟨c0, c1, c2, c3, c4, c5, rfl⟩ := list6p hlen
  have hyl4 : ys.length = 4 := hyl
  obtain ⟨z0, z1, z2, z3, rfl⟩ := list4p hyl4
  have g0 : DataW.trod enc Tryd.prog w 0 (fun _ => true) true n' 3 [c0] = some z0 := one 0 _ rfl
  have g1 : DataW.trod enc Tryd.prog w 0 (fun _ => true) true n' 9 [c1] = some z1 := one 1 _ rfl
  have g2 : DataW.trod enc Tryd.prog w 0 (fun _ => true) true n' 3 [c2] = some z2 := one 2 _ rfl
  have g3 : DataW.trod enc Tryd.prog w 0 (fun _ => true) true n' 23 [c3, c4, c5] = some z3 := one 3 _ rfl
  obtain ⟨us, n2, -, -, -, hul, hf2⟩ := DataW.trod_struct Tryd.underlying23 g3
  obtain ⟨y0, y1, y2, rfl⟩ := list3p (show us.length = 3 from hul)
  have k0 : DataW.trod enc Tryd.prog w 0 (fun _ => true) true n2 3 [c3] = some y0 := hf2 0 _ rfl
  have k1 : DataW.trod enc Tryd.prog w 0 (fun _ => true) true n2 3 [c4] = some y1 := hf2 1 _ rfl
  have k2 : DataW.trod enc Tryd.prog w 0 (fun _ => true) true n2 3 [c5] = some y2 := hf2 2 _ rfl
  obtain ⟨i0, e0, -, w0⟩ := DataW.trod_int Tryd.underlying3 g0
  obtain ⟨q1, e1, -, s1⟩ := DataW.trod_string Tryd.underlying9 g1
  obtain ⟨i2, e2, -, w2⟩ := DataW.trod_int Tryd.underlying3 g2
  obtain ⟨i3, e3, -, w3⟩ := DataW.trod_int Tryd.underlying3 k0
  obtain ⟨i4, e4, -, w4⟩ := DataW.trod_int Tryd.underlying3 k1
  obtain ⟨i5, e5, -, w5⟩ := DataW.trod_int Tryd.underlying3 k2
  simp only [List.cons.injEq, and_true] at e0 e1 e2 e3 e4 e5
  subst e0 e1 e2 e3 e4 e5
  refine ⟨⟨i0, q1.data.toList, i2, (i3, i4, i5)⟩, rfl, ?_, rfl, rfl, rfl, rfl, in63_of_wf w0, in63_of_wf w2, ?_⟩
  · show some (Value.string q1) = some (Value.string ⟨q1.data.toList.toArray⟩)
    rw [← str_eta]
  · have := str_len q1
    show q1.data.toList.length ≤ _
    rw [← this]; unfold maxLen at s1; omega
set_option maxRecDepth 100000 in
theorem open_ths {H : Type} {enc : TypeId × Value → H} {w : World} {b0 : Nat} {d0 : DataW H} {p0 : List MemPlace} {v0 : Value} (ok0 : Value.okWide Tryd.prog w .any b0 58 v0) (k0 : DataW.Trod enc Tryd.prog w 0 (fun _ => true) true 58 v0 d0 p0) : ∃ L, SlE ThE 6 w v0 L :=
  open_slE thKept Tryd.underlying58 (by kernel_rfl) elem_th ok0 k0
end Go.Proofs.YtdoflhiogoefjaaDoor
end
