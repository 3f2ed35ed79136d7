/- Joined texts, in this order: ThingOpen, ThingSame. Each one's first remark says what it proves; no condition beyond those that its theorems name. -/
import Derived.Test.YtdoflhiogoefjaaDoorJLawThingCopies05
import Derived.Test.YtdoflhiogoefjaaDoorJLawThingCopies22
import Derived.Lib.SmallJoins
import Derived.Test.YtdoflhiogoefjaaDoorJLawThingCopies06
import Derived.Test.YtdoflhiogoefjaaDoorJLawThingCopies20
section
/- What comes in, opened: places, operations, things. -/
namespace Go.Proofs.YtdoflhiogoefjaaDoor
open Go.RowKit Go.ChangeShapes Go.WideShapes Go.Deep Go.Joins
open Go.Lib (hid)
set_option linter.unusedVariables false

theorem list3p {α : Type} : ∀ {l : List α}, l.length = 3 → ∃ a b c, l = [a, b, c]
  | [a, b, c], _ => ⟨a, b, c, rfl⟩
theorem list4p {α : Type} : ∀ {l : List α}, l.length = 4 → ∃ a b c d, l = [a, b, c, d]
  | [a, b, c, d], _ => ⟨a, b, c, d, rfl⟩
theorem list5p {α : Type} : ∀ {l : List α}, l.length = 5 → ∃ a b c d e, l = [a, b, c, d, e]
  | [a, b, c, d, e], _ => ⟨a, b, c, d, e, rfl⟩
theorem list6p {α : Type} : ∀ {l : List α}, l.length = 6 → ∃ a b c d e f, l = [a, b, c, d, e, f]
  | [a, b, c, d, e, f], _ => ⟨a, b, c, d, e, f, rfl⟩
theorem list7p {α : Type} : ∀ {l : List α}, l.length = 7 → ∃ a b c d e f g, l = [a, b, c, d, e, f, g]
  | [a, b, c, d, e, f, g], _ => ⟨a, b, c, d, e, f, g, rfl⟩
def In63 (x : Int) : Prop := -9223372036854775808 ≤ x ∧ x ≤ 9223372036854775807
theorem in63_of_wf {x : Int} (h : (Lit.int .i64 x).wf = true) : In63 x := by
  have := wf64 h
  exact ⟨by omega, by omega⟩
set_option maxRecDepth 100000 in
theorem open_place {H : Type} {enc : TypeId × Value → H} {w : World} {b0 : Nat} {d0 : DataW H} {p0 : List MemPlace} {v0 : Value} (ok0 : Value.okWide Tryd.prog w .any b0 23 v0) (k0 : DataW.Trod enc Tryd.prog w 0 (fun _ => true) true 23 v0 d0 p0) :
    ∃ a b c : Int, v0 = .agg #[.int .i64 a, .int .i64 b, .int .i64 c] := by
  obtain ⟨cs, rfl, hsz⟩ := okWide_struct Tryd.underlying23 ok0
  have h3 : Tryd.prog.cellsOf 23 = 3 := by kernel_rfl
  rw [h3] at hsz
  obtain ⟨l⟩ := cs
  obtain ⟨c0, c1, c2, rfl⟩ := list3p (show l.length = 3 from hsz)
  obtain ⟨fuel, h⟩ := k0
  have h' : DataW.trod enc Tryd.prog w 0 (fun _ => true) true fuel 23 [c0, c1, c2] = some (d0, p0) := h
  obtain ⟨ys, n', -, -, -, hyl, hf⟩ := DataW.trod_struct Tryd.underlying23 h'
  obtain ⟨z0, z1, z2, rfl⟩ := list3p (show ys.length = 3 from hyl)
  have g0 : DataW.trod enc Tryd.prog w 0 (fun _ => true) true n' 3 [c0] = some z0 := hf 0 _ rfl
  have g1 : DataW.trod enc Tryd.prog w 0 (fun _ => true) true n' 3 [c1] = some z1 := hf 1 _ rfl
  have g2 : DataW.trod enc Tryd.prog w 0 (fun _ => true) true n' 3 [c2] = some z2 := hf 2 _ rfl
  obtain ⟨i0, e0, -, w0⟩ := DataW.trod_int Tryd.underlying3 g0
  obtain ⟨i1, e1, -, w1⟩ := DataW.trod_int Tryd.underlying3 g1
  obtain ⟨i2, e2, -, w2⟩ := DataW.trod_int Tryd.underlying3 g2
  simp only [List.cons.injEq, and_true] at e0 e1 e2
  subst e0 e1 e2
  exact ⟨i0, i1, i2, rfl⟩
/-- an operation that comes in -/
structure OpT where
  k : Int
  n : Int
  o : Int
  s : List UInt8
  p : P3
instance : Inhabited OpT := ⟨⟨0, 0, 0, [], (0, 0, 0)⟩⟩
instance : Inhabited Th := ⟨⟨0, [], 0, (0, 0, 0)⟩⟩
def OpTE (w : World) (f : Nat → Option Value) (x : OpT) : Prop :=
  f 0 = some (.int .i64 x.k) ∧ f 1 = some (.int .i64 x.n) ∧ f 2 = some (.int .i64 x.o) ∧ f 3 = some (.string ⟨x.s.toArray⟩) ∧ f 4 = some (.int .i64 x.p.1) ∧ f 5 = some (.int .i64 x.p.2.1) ∧ f 6 = some (.int .i64 x.p.2.2) ∧ In63 x.n ∧ In63 x.o ∧ x.s.length ≤ 9223372036854775807
theorem opTKept : Kept OpTE 7 := ⟨fun hb hf h => ⟨hf 0 _ (by omega) h.1, hf 1 _ (by omega) h.2.1, hf 2 _ (by omega) h.2.2.1, hf 3 _ (by omega) h.2.2.2.1, hf 4 _ (by omega) h.2.2.2.2.1, hf 5 _ (by omega) h.2.2.2.2.2.1, hf 6 _ (by omega) h.2.2.2.2.2.2.1, h.2.2.2.2.2.2.2⟩, fun h => ⟨_, h.1⟩⟩
theorem str_len (q : ByteArray) : q.size = q.data.toList.length := by show q.data.size = _; simp
theorem str_eta (s : ByteArray) : s = ⟨s.data.toList.toArray⟩ := by simp
set_option maxRecDepth 100000 in
theorem elem_opT {H : Type} {enc : TypeId × Value → H} {w : World} (n : Nat) (cs : List Value) (x : DataW H × List MemPlace) (h : DataW.trod enc Tryd.prog w 0 (fun _ => true) true n 36 cs = some x) : ∃ t, OpTE w (fun j => cs[j]?) t := by
  obtain ⟨ys, n', -, -, hlen0, hyl, one⟩ := DataW.trod_struct Tryd.underlying36 h
  have h7 : Tryd.prog.cellsOf 36 = 7 := by kernel_rfl
  have hlen : cs.length = 7 := by rw [← h7]; exact hlen0
  obtain ⟨c0, c1, c2, c3, c4, c5, c6, rfl⟩ := list7p hlen
  have hyl5 : ys.length = 5 := hyl
  obtain ⟨z0, z1, z2, z3, z4, rfl⟩ := list5p hyl5
  have g0 : DataW.trod enc Tryd.prog w 0 (fun _ => true) true n' 3 [c0] = some z0 := one 0 _ rfl
  have g1 : DataW.trod enc Tryd.prog w 0 (fun _ => true) true n' 3 [c1] = some z1 := one 1 _ rfl
  have g2 : DataW.trod enc Tryd.prog w 0 (fun _ => true) true n' 3 [c2] = some z2 := one 2 _ rfl
  have g3 : DataW.trod enc Tryd.prog w 0 (fun _ => true) true n' 9 [c3] = some z3 := one 3 _ rfl
  have g4 : DataW.trod enc Tryd.prog w 0 (fun _ => true) true n' 23 [c4, c5, c6] = some z4 := one 4 _ rfl
  obtain ⟨us, n2, -, -, -, hul, hf2⟩ := DataW.trod_struct Tryd.underlying23 g4
  obtain ⟨y0, y1, y2, rfl⟩ := list3p (show us.length = 3 from hul)
  have k0 : DataW.trod enc Tryd.prog w 0 (fun _ => true) true n2 3 [c4] = some y0 := hf2 0 _ rfl
  have k1 : DataW.trod enc Tryd.prog w 0 (fun _ => true) true n2 3 [c5] = some y1 := hf2 1 _ rfl
  have k2 : DataW.trod enc Tryd.prog w 0 (fun _ => true) true n2 3 [c6] = some y2 := hf2 2 _ rfl
  obtain ⟨i0, e0, -, w0⟩ := DataW.trod_int Tryd.underlying3 g0
  obtain ⟨i1, e1, -, w1⟩ := DataW.trod_int Tryd.underlying3 g1
  obtain ⟨i2, e2, -, w2⟩ := DataW.trod_int Tryd.underlying3 g2
  obtain ⟨q3, e3, -, s3⟩ := DataW.trod_string Tryd.underlying9 g3
  obtain ⟨i4, e4, -, w4⟩ := DataW.trod_int Tryd.underlying3 k0
  obtain ⟨i5, e5, -, w5⟩ := DataW.trod_int Tryd.underlying3 k1
  obtain ⟨i6, e6, -, w6⟩ := DataW.trod_int Tryd.underlying3 k2
  simp only [List.cons.injEq, and_true] at e0 e1 e2 e3 e4 e5 e6
  subst e0 e1 e2 e3 e4 e5 e6
  refine ⟨⟨i0, i1, i2, q3.data.toList, (i4, i5, i6)⟩, rfl, rfl, rfl, ?_, rfl, rfl, rfl, in63_of_wf w1, in63_of_wf w2, ?_⟩
  · show some (Value.string q3) = some (Value.string ⟨q3.data.toList.toArray⟩)
    rw [← str_eta]
  · have := str_len q3
    show q3.data.toList.length ≤ _
    rw [← this]; unfold maxLen at s3; omega
set_option maxRecDepth 100000 in
theorem open_opsT {H : Type} {enc : TypeId × Value → H} {w : World} {b0 : Nat} {d0 : DataW H} {p0 : List MemPlace} {v0 : Value} (ok0 : Value.okWide Tryd.prog w .any b0 28 v0) (k0 : DataW.Trod enc Tryd.prog w 0 (fun _ => true) true 28 v0 d0 p0) : ∃ L, SlE OpTE 7 w v0 L :=
  open_slE opTKept Tryd.underlying28 (by kernel_rfl) elem_opT ok0 k0
/-- a thing that comes in -/
def ThE (w : World) (f : Nat → Option Value) (x : Th) : Prop :=
  f 0 = some (.int .i64 x.id) ∧ f 1 = some (strV x.nm) ∧ f 2 = some (.int .i64 x.ow) ∧ f 3 = some (.int .i64 x.pl.1) ∧ f 4 = some (.int .i64 x.pl.2.1) ∧ f 5 = some (.int .i64 x.pl.2.2) ∧ In63 x.id ∧ In63 x.ow ∧ x.nm.length ≤ 9223372036854775807
theorem thKept : Kept ThE 6 := ⟨fun hb hf h => ⟨hf 0 _ (by omega) h.1, hf 1 _ (by omega) h.2.1, hf 2 _ (by omega) h.2.2.1, hf 3 _ (by omega) h.2.2.2.1, hf 4 _ (by omega) h.2.2.2.2.1, hf 5 _ (by omega) h.2.2.2.2.2.1, h.2.2.2.2.2.2⟩, fun h => ⟨_, h.1⟩⟩
set_option maxRecDepth 100000 in
theorem elem_th {H : Type} {enc : TypeId × Value → H} {w : World} (n : Nat) (cs : List Value) (x : DataW H × List MemPlace) (h : DataW.trod enc Tryd.prog w 0 (fun _ => true) true n 48 cs = some x) : ∃ t, ThE w (fun j => cs[j]?) t := by
  obtain ⟨ys, n', -, -, hlen0, hyl, one⟩ := DataW.trod_struct Tryd.underlying48 h
  have h6 : Tryd.prog.cellsOf 48 = 6 := by kernel_rfl
  have hlen : cs.length = 6 := by rw [← h6]; exact hlen0
  obtain ⟨c0, c1, c2, c3, c4, c5, rfl⟩ := list6p hlen
  have hyl4 : ys.length = 4 := hyl
  obtain ⟨z0, z1, z2, z3, rfl⟩ := list4p hyl4
  have g0 : DataW.trod enc Tryd.prog w 0 (fun _ => true) true n' 3 [c0] = some z0 := one 0 _ rfl
  have g1 : DataW.trod enc Tryd.prog w 0 (fun _ => true) true n' 9 [c1] = some z1 := one 1 _ rfl
  have g2 : DataW.trod enc Tryd.prog w 0 (fun _ => true) true n' 3 [c2] = some z2 := one 2 _ rfl
  have g3 : DataW.trod enc Tryd.prog w 0 (fun _ => true) true n' 23 [c3, c4, c5] = some z3 := one 3 _ rfl
  obtain ⟨us, n2, -, -, -, hul, hf2⟩ := DataW.trod_struct Tryd.underlying23 g3
  obtain ⟨y0, y1, y2, rfl⟩ := list3p (show us.length = 3 from hul)
  have k0 : DataW.trod enc Tryd.prog w 0 (fun _ => true) true n2 3 [c3] = some y0 := hf2 0 _ rfl
  have k1 : DataW.trod enc Tryd.prog w 0 (fun _ => true) true n2 3 [c4] = some y1 := hf2 1 _ rfl
  have k2 : DataW.trod enc Tryd.prog w 0 (fun _ => true) true n2 3 [c5] = some y2 := hf2 2 _ rfl
  obtain ⟨i0, e0, -, w0⟩ := DataW.trod_int Tryd.underlying3 g0
  obtain ⟨q1, e1, -, s1⟩ := DataW.trod_string Tryd.underlying9 g1
  obtain ⟨i2, e2, -, w2⟩ := DataW.trod_int Tryd.underlying3 g2
  obtain ⟨i3, e3, -, w3⟩ := DataW.trod_int Tryd.underlying3 k0
  obtain ⟨i4, e4, -, w4⟩ := DataW.trod_int Tryd.underlying3 k1
  obtain ⟨i5, e5, -, w5⟩ := DataW.trod_int Tryd.underlying3 k2
  simp only [List.cons.injEq, and_true] at e0 e1 e2 e3 e4 e5
  subst e0 e1 e2 e3 e4 e5
  refine ⟨⟨i0, q1.data.toList, i2, (i3, i4, i5)⟩, rfl, ?_, rfl, rfl, rfl, rfl, in63_of_wf w0, in63_of_wf w2, ?_⟩
  · show some (Value.string q1) = some (Value.string ⟨q1.data.toList.toArray⟩)
    rw [← str_eta]
  · have := str_len q1
    show q1.data.toList.length ≤ _
    rw [← this]; unfold maxLen at s1; omega
set_option maxRecDepth 100000 in
theorem open_ths {H : Type} {enc : TypeId × Value → H} {w : World} {b0 : Nat} {d0 : DataW H} {p0 : List MemPlace} {v0 : Value} (ok0 : Value.okWide Tryd.prog w .any b0 58 v0) (k0 : DataW.Trod enc Tryd.prog w 0 (fun _ => true) true 58 v0 d0 p0) : ∃ L, SlE ThE 6 w v0 L :=
  open_slE thKept Tryd.underlying58 (by kernel_rfl) elem_th ok0 k0
end Go.Proofs.YtdoflhiogoefjaaDoor
end
section
/- The law's same: do the things tell what x tells? And equal, small. -/
namespace Go.Proofs.YtdoflhiogoefjaaDoor
open Go.RowKit
open Go.Lib (hid)
set_option linter.unusedVariables false

set_option maxRecDepth 100000 in
set_option maxHeartbeats 4000000 in
theorem law21_same {s : Nat} {F : Nat → Prop} {a : Option Addr} {c : Nat} {X : ThX} (w : World) (h : BothT w s F a c X) (hl : X.L.length ≤ 900) (hnx : X.nx ≤ 4611686018427387904) :
    Calls Tryd.prog 14 #[.pointer (some ⟨s, 0, none⟩), .agg #[.slice a X.L.length c, .int .i64 X.nx]] w fun e w' => e = .returned (.bool true) ∧ Below w.heap.size w w' := by
  have HBT := hid h
  have HL := hid hl
  have HNX := hid hnx
  clear h hl hnx
  obtain ⟨n, hn⟩ : ∃ n, n = X.L.length := ⟨_, rfl⟩
  obtain ⟨nx, hx⟩ : ∃ nx, nx = X.nx := ⟨_, rfl⟩
  have HN := hid hn
  have HX := hid hx
  rw [← hn, ← hx]
  clear hn hx
  go_enter Tryd.func14, Tryd.ntmps14
  go_upto_region 1 with fail
  generalize hw2 : World.alloc w _ = w2
  obtain ⟨bs, hbs⟩ : ∃ b, b = w.heap.size := ⟨_, rfl⟩
  try rw [← hbs]
  have hb2 : Below w.heap.size w w2 := by rw [← hw2]; exact Below.new _ _
  have HK : Hid (Blk w2 bs #[.slice a n c, .int .i64 nx]) := hid (by rw [← hw2, hbs]; exact Blk.new w _ _)
  have HX2 := hid (HBT.out.rx.below hb2)
  have H2 := hid (HBT.out.st.below hb2)
  have HLOW : Hid (∀ k, aB a k → k < w2.heap.size) := hid (fun k hk => by have := HBT.out.low k hk; have := hb2.size; omega)
  have HB2 := hid hb2
  clear hw2 hbs hb2
  have c0 : ∀ y, Below w2.heap.size w2 y → y.cell? ⟨bs, 0, none⟩ = some (.slice a n c) := fun y hy => by rw [(HK.out.below hy).cell]; rfl
  have c1 : ∀ y, Below w2.heap.size w2 y → y.cell? ⟨bs, 1, none⟩ = some (.int .i64 nx) := fun y hy => by rw [(HK.out.below hy).cell]; rfl
  have hyd := (Below.refl w2.heap.size w2).drew
  refine wp_region_kept [20] (fun y => Below w2.heap.size w2 y) (by kernel_rfl) (by assumption) (fun hH => ?_)
  refine wpK.take (i := 0) (v := _) (by simp only [List.getElem?_toArray, List.getElem?_cons_succ, List.getElem?_cons_zero]; rfl) (by kernel_rfl) (by kernel_rfl) (by kernel_rfl) (by kernel_rfl) (by kernel_rfl) (by exact fun _ _ _ h => h) (by first | exact Or.inl ⟨by rfl, by intro w hSw; go_simp; try with_reducible rfl⟩ | exact Or.inr ⟨by rfl, rfl⟩) hH ?_
  try simp only [Act.put, List.setIfInBounds_toArray, List.set_cons_zero, List.set_cons_succ]
  refine wpK.take (i := 2) (v := _) (by simp only [List.getElem?_toArray, List.getElem?_cons_succ, List.getElem?_cons_zero]; rfl) (by kernel_rfl) (by kernel_rfl) (by kernel_rfl) (by kernel_rfl) (by kernel_rfl) (by exact fun _ _ _ h => h) (by first | exact Or.inl ⟨by rfl, by intro w hSw; go_simp; try with_reducible rfl⟩ | exact Or.inr ⟨by rfl, rfl⟩) hH ?_
  try simp only [Act.put, List.setIfInBounds_toArray, List.set_cons_zero, List.set_cons_succ]
  refine wpK.take (i := 3) (v := _) (by simp only [List.getElem?_toArray, List.getElem?_cons_succ, List.getElem?_cons_zero]; rfl) (by kernel_rfl) (by kernel_rfl) (by kernel_rfl) (by kernel_rfl) (by kernel_rfl) (by exact fun _ _ _ h => h) (by first | exact Or.inl ⟨by rfl, by intro w hSw; go_simp; try with_reducible rfl⟩ | exact Or.inr ⟨by rfl, rfl⟩) hH ?_
  try simp only [Act.put, List.setIfInBounds_toArray, List.set_cons_zero, List.set_cons_succ]
  refine wpK.step (i := 1) (by kernel_rfl) (by simp only [List.getElem?_toArray, List.getElem?_cons_succ, List.getElem?_cons_zero]; rfl) (fun K hK => ?_)
  go_simp
  (refine (thing_All _ s).mono ?_); rintro e w3 ⟨bT, bI, rfl, hT, hI, hb3⟩; (have HT := hid hT); (have HI := hid hI); (have hk3 := Below.next hH hb3); (have HK3 := hid hk3); clear hT hI; go_simp
  refine hK.out _ _ (by assumption) (fun hH => ?_)
  clear hK K
  try simp only [Act.put, List.setIfInBounds_toArray, List.set_cons_zero, List.set_cons_succ]
  refine wpK.step (i := 4) (by kernel_rfl) (by simp only [List.getElem?_toArray, List.getElem?_cons_succ, List.getElem?_cons_zero]; rfl) (fun K hK => ?_)
  go_simp
  (rw [HN.out]); (refine (law21_told w3 HT.out HI.out (H2.out.below HK3.out) (HX2.out.below HK3.out) (fun k hk => by have := HLOW.out k hk; have := HK3.out.size; omega) HL.out HNX.out).mono ?_); (rw [← HN.out]); rintro e w4 ⟨rfl, hb4⟩; (have hk4 := Below.next hH hb4); (have HK4 := hid hk4); go_simp
  refine hK.out _ _ (by assumption) (fun hH => ?_)
  clear hK K
  try simp only [Act.put, List.setIfInBounds_toArray, List.set_cons_zero, List.set_cons_succ]
  refine wpK.take (i := 5) (v := _) (by simp only [List.getElem?_toArray, List.getElem?_cons_succ, List.getElem?_cons_zero]; rfl) (by kernel_rfl) (by kernel_rfl) (by kernel_rfl) (by kernel_rfl) (by kernel_rfl) (by exact fun _ _ _ h => h) (by first | exact Or.inl ⟨by rfl, by intro w hSw; go_simp; try with_reducible rfl⟩ | exact Or.inr ⟨by rfl, rfl⟩) hH ?_
  try simp only [Act.put, List.setIfInBounds_toArray, List.set_cons_zero, List.set_cons_succ]
  refine wpK.take (i := 6) (v := _) (by simp only [List.getElem?_toArray, List.getElem?_cons_succ, List.getElem?_cons_zero]; rfl) (by kernel_rfl) (by kernel_rfl) (by kernel_rfl) (by kernel_rfl) (by kernel_rfl) (by exact fun _ _ _ h => h) (by first | exact Or.inl ⟨by rfl, by intro w hSw; go_simp; try with_reducible rfl⟩ | exact Or.inr ⟨by rfl, rfl⟩) hH ?_
  try simp only [Act.put, List.setIfInBounds_toArray, List.set_cons_zero, List.set_cons_succ]
  refine wpK.take (i := 8) (v := _) (by simp only [List.getElem?_toArray, List.getElem?_cons_succ, List.getElem?_cons_zero]; rfl) (by kernel_rfl) (by kernel_rfl) (by kernel_rfl) (by kernel_rfl) (by kernel_rfl) (by exact fun _ _ _ h => h) (by first | exact Or.inl ⟨by rfl, by intro w hSw; go_simp; try with_reducible rfl⟩ | exact Or.inr ⟨by rfl, rfl⟩) hH ?_
  try simp only [Act.put, List.setIfInBounds_toArray, List.set_cons_zero, List.set_cons_succ]
  refine wpK.take (i := 9) (v := _) (by simp only [List.getElem?_toArray, List.getElem?_cons_succ, List.getElem?_cons_zero]; rfl) (by kernel_rfl) (by kernel_rfl) (by kernel_rfl) (by kernel_rfl) (by kernel_rfl) (by exact fun _ _ _ h => h) (by first | exact Or.inl ⟨by rfl, by intro w hSw; go_simp; try with_reducible rfl⟩ | exact Or.inr ⟨by rfl, rfl⟩) hH ?_
  try simp only [Act.put, List.setIfInBounds_toArray, List.set_cons_zero, List.set_cons_succ]
  refine wpK.take (i := 10) (v := _) (by simp only [List.getElem?_toArray, List.getElem?_cons_succ, List.getElem?_cons_zero]; rfl) (by kernel_rfl) (by kernel_rfl) (by kernel_rfl) (by kernel_rfl) (by kernel_rfl) (by exact fun _ _ _ h => h) (by first | exact Or.inl ⟨by rfl, by intro w hSw; go_simp; try with_reducible rfl⟩ | exact Or.inr ⟨by rfl, rfl⟩) hH ?_
  try simp only [Act.put, List.setIfInBounds_toArray, List.set_cons_zero, List.set_cons_succ]
  refine wpK.step (i := 7) (by kernel_rfl) (by simp only [List.getElem?_toArray, List.getElem?_cons_succ, List.getElem?_cons_zero]; rfl) (fun K hK => ?_)
  go_simp
  (refine (thing_Len w4 (H2.out.below HK4.out) n (hid HN.out.symm)).mono ?_); rintro e w5 ⟨rfl, rfl⟩; go_simp
  refine hK.out _ _ (by assumption) (fun hH => ?_)
  clear hK K
  try simp only [Act.put, List.setIfInBounds_toArray, List.set_cons_zero, List.set_cons_succ]
  refine wpK.take (i := 11) (v := _) (by simp only [List.getElem?_toArray, List.getElem?_cons_succ, List.getElem?_cons_zero]; rfl) (by kernel_rfl) (by kernel_rfl) (by kernel_rfl) (by kernel_rfl) (by kernel_rfl) (by exact fun _ _ _ h => h) (by first | exact Or.inl ⟨by rfl, by intro w hSw; go_simp; try with_reducible rfl⟩ | exact Or.inr ⟨by rfl, rfl⟩) hH ?_
  try simp only [Act.put, List.setIfInBounds_toArray, List.set_cons_zero, List.set_cons_succ]
  refine wpK.take (i := 12) (v := _) (by simp only [List.getElem?_toArray, List.getElem?_cons_succ, List.getElem?_cons_zero]; rfl) (by kernel_rfl) (by kernel_rfl) (by kernel_rfl) (by kernel_rfl) (by kernel_rfl) (by exact fun _ _ _ h => h) (by first | exact Or.inl ⟨by rfl, by intro w hSw; go_simp; try with_reducible rfl⟩ | exact Or.inr ⟨by rfl, rfl⟩) hH ?_
  try simp only [Act.put, List.setIfInBounds_toArray, List.set_cons_zero, List.set_cons_succ]
  refine wpK.take (i := 13) (v := _) (by simp only [List.getElem?_toArray, List.getElem?_cons_succ, List.getElem?_cons_zero]; rfl) (by kernel_rfl) (by kernel_rfl) (by kernel_rfl) (by kernel_rfl) (by kernel_rfl) (by exact fun _ _ _ h => h) (by first | exact Or.inl ⟨by rfl, by intro w hSw; go_simp; try with_reducible rfl⟩ | exact Or.inr ⟨by rfl, rfl⟩) hH ?_
  try simp only [Act.put, List.setIfInBounds_toArray, List.set_cons_zero, List.set_cons_succ]
  refine wpK.take (i := 14) (v := _) (by simp only [List.getElem?_toArray, List.getElem?_cons_succ, List.getElem?_cons_zero]; rfl) (by kernel_rfl) (by kernel_rfl) (by kernel_rfl) (by kernel_rfl) (by kernel_rfl) (by exact fun _ _ _ h => h) (by first | exact Or.inl ⟨by rfl, by intro w hSw; go_simp; try with_reducible rfl⟩ | exact Or.inr ⟨by rfl, rfl⟩) hH ?_
  try simp only [Act.put, List.setIfInBounds_toArray, List.set_cons_zero, List.set_cons_succ]
  refine wpK.take (i := 16) (v := _) (by simp only [List.getElem?_toArray, List.getElem?_cons_succ, List.getElem?_cons_zero]; rfl) (by kernel_rfl) (by kernel_rfl) (by kernel_rfl) (by kernel_rfl) (by kernel_rfl) (by exact fun _ _ _ h => h) (by first | exact Or.inl ⟨by rfl, by intro w hSw; go_simp; try with_reducible rfl⟩ | exact Or.inr ⟨by rfl, rfl⟩) hH ?_
  try simp only [Act.put, List.setIfInBounds_toArray, List.set_cons_zero, List.set_cons_succ]
  refine wpK.take (i := 17) (v := _) (by simp only [List.getElem?_toArray, List.getElem?_cons_succ, List.getElem?_cons_zero]; rfl) (by kernel_rfl) (by kernel_rfl) (by kernel_rfl) (by kernel_rfl) (by kernel_rfl) (by exact fun _ _ _ h => h) (by first | exact Or.inl ⟨by rfl, by intro w hSw; go_simp; try with_reducible rfl⟩ | exact Or.inr ⟨by rfl, rfl⟩) hH ?_
  try simp only [Act.put, List.setIfInBounds_toArray, List.set_cons_zero, List.set_cons_succ]
  refine wpK.step (i := 15) (by kernel_rfl) (by simp only [List.getElem?_toArray, List.getElem?_cons_succ, List.getElem?_cons_zero]; rfl) (fun K hK => ?_)
  go_simp
  (refine (thing_Next w4 (H2.out.below HK4.out) nx (hid HX.out.symm)).mono ?_); rintro e w5 ⟨rfl, rfl⟩; go_simp
  refine hK.out _ _ (by assumption) (fun hH => ?_)
  clear hK K
  try simp only [Act.put, List.setIfInBounds_toArray, List.set_cons_zero, List.set_cons_succ]
  refine wpK.take (i := 18) (v := _) (by simp only [List.getElem?_toArray, List.getElem?_cons_succ, List.getElem?_cons_zero]; rfl) (by kernel_rfl) (by kernel_rfl) (by kernel_rfl) (by kernel_rfl) (by kernel_rfl) (by exact fun _ _ _ h => h) (by first | exact Or.inl ⟨by rfl, by intro w hSw; go_simp; try with_reducible rfl⟩ | exact Or.inr ⟨by rfl, rfl⟩) hH ?_
  try simp only [Act.put, List.setIfInBounds_toArray, List.set_cons_zero, List.set_cons_succ]
  refine wpK.take (i := 19) (v := _) (by simp only [List.getElem?_toArray, List.getElem?_cons_succ, List.getElem?_cons_zero]; rfl) (by kernel_rfl) (by kernel_rfl) (by kernel_rfl) (by kernel_rfl) (by kernel_rfl) (by exact fun _ _ _ h => h) (by first | exact Or.inl ⟨by rfl, by intro w hSw; go_simp; try with_reducible rfl⟩ | exact Or.inr ⟨by rfl, rfl⟩) hH ?_
  try simp only [Act.put, List.setIfInBounds_toArray, List.set_cons_zero, List.set_cons_succ]
  refine wpK.late (i := 20) (by kernel_rfl) (by simp only [List.getElem?_toArray, List.getElem?_cons_succ, List.getElem?_cons_zero]; rfl) (by kernel_rfl) (fun K hK => ?_)
  go_simp
  refine hK.out _ _ ?_
  clear hK K
  try simp only [Act.put, List.setIfInBounds_toArray, List.set_cons_zero, List.set_cons_succ]
  refine wpK.done (by kernel_rfl) ?_ _
  clear c0 c1
  go_wp2_with fail
  go_ret
  exact ⟨rfl, Below.next HB2.out HK4.out⟩
def EqR (w : World) (n : Nat) (v13 : Value) (wr : World) : Prop := ∃ j : Nat, v13 = .int .i64 (j : Int) ∧ j ≤ n ∧ Below w.heap.size w wr
set_option maxRecDepth 100000 in
set_option maxHeartbeats 2000000 in
theorem law21_equal (l : List Int) (v u : Value) (w : World) (h : SlI w v l) (k : SlI w u l) :
    Calls Tryd.prog 15 #[v, u] w fun e w' => e = .returned (.bool true) ∧ Below w.heap.size w w' := by
  obtain ⟨a, c, rfl, hr, hlc, hcm, -⟩ := h
  obtain ⟨a', c', rfl, hr', -, -, -⟩ := k
  have HR := hid hr
  have HR' := hid hr'
  have HC : Hid (l.length ≤ 9223372036854775807) := hid (by omega)
  clear hr hr' hlc hcm
  go_enter Tryd.func15, Tryd.ntmps15
  go_wp2_with fail
  go_loopw [13] (fun v13 wr => EqR w l.length v13 wr) (fun v13 _ => l.length - (intOf v13).toNat)
  case atStart => exact ⟨0, rfl, by omega, Below.refl _ _⟩
  case round =>
    obtain ⟨j, rfl, hj, hb⟩ := hrel
    have HB := hid hb
    by_cases hlt : j < l.length
    · obtain ⟨b0, o0, x, rfl, d0, hx, -⟩ := (HR.out.below' HB.out).int j hlt
      obtain ⟨b1, o1, x', rfl, d1, hx', -⟩ := (HR'.out.below' HB.out).int j hlt
      obtain rfl : x' = x := by rw [hx] at hx'; exact (Option.some.inj hx').symm
      have e0 : (0 : Int) ≤ (j : Int) := by omega
      have e1 : (j : Int) < (l.length : Int) := by omega
      have e2 : (x' == x') = true := by simp
      have hwr : IntKind.i64.wrap ((j : Int) + 1) = (j : Int) + 1 := by rw [IntKind.wrap_i64]; have := HC.out; omega
      clear hx hx' hb
      go_upto_region 6 with fail
      go_quiet (fail)
      have hb3 := Below.drawn wr nq
      obtain ⟨w3, hw3⟩ : ∃ w3, w3 = wr.drewN nq := ⟨_, rfl⟩
      rw [← hw3] at hb3 ⊢
      have HB3 := hid (Below.next HB.out hb3)
      clear hb3 hw3 d0 d1
      go_wp2_with fail
      go_roundw
      case rel => exact ⟨j + 1, by go_num, by omega, HB3.out⟩
      case measure => simp [intOf]; omega
    · have e1 : ¬ (j : Int) < (l.length : Int) := by omega
      go_wp2_with fail
      go_ret
      exact ⟨rfl, HB.out⟩
theorem SlE.opT {w wr : World} {a : Option Addr} {n c : Nat} {L : List OpT} (h : SlE OpTE 7 w (.slice a n c) L) (hb : Below w.heap.size w wr) {k : Nat} {o : OpT} (hp : L[k]? = some o) :
    ∃ b off, a = some ⟨b, off, none⟩ ∧ wr.cell? ⟨b, off + k * 7, none⟩ = some (.int .i64 o.k) ∧ wr.cell? ⟨b, off + k * 7 + 1, none⟩ = some (.int .i64 o.n) ∧ wr.cell? ⟨b, off + k * 7 + 2, none⟩ = some (.int .i64 o.o) ∧ wr.cell? ⟨b, off + k * 7 + 3, none⟩ = some (.string ⟨o.s.toArray⟩) ∧ wr.cell? ⟨b, off + k * 7 + 4, none⟩ = some (.int .i64 o.p.1) ∧ wr.cell? ⟨b, off + k * 7 + 5, none⟩ = some (.int .i64 o.p.2.1) ∧ wr.cell? ⟨b, off + k * 7 + 6, none⟩ = some (.int .i64 o.p.2.2) ∧ o.o ≤ 9223372036854775807 := by
  obtain ⟨a', c', e', -, -, -, hrows⟩ := h
  simp only [Value.slice.injEq] at e'
  obtain ⟨rfl, -, rfl⟩ := e'
  obtain ⟨b, off, rfl, hbs, h0, h1, h2, h3, h4, h5, h6, -, h8, -⟩ := hrows k o hp
  have hc : ∀ j, wr.cell? ⟨b, j, none⟩ = w.cell? ⟨b, j, none⟩ := fun j => World.cell?_of_block (hb.block b hbs)
  exact ⟨b, off, rfl, by rw [hc]; exact h0, by rw [hc]; exact h1, by rw [hc]; exact h2, by rw [hc]; exact h3, by rw [hc]; exact h4, by rw [hc]; exact h5, by rw [hc]; exact h6, h8.2⟩
def okT (o : OpT) : Bool := decide (o.s.length ≤ 60)
def smallT (L : List OpT) (most : Nat) : Bool := L.all okT && decide (L.length ≤ most)
def SmT (w : World) (L : List OpT) (v9 : Value) (wr : World) : Prop := ∃ k : Nat, v9 = .int .i64 (k : Int) ∧ k ≤ L.length ∧ (L.take k).all okT = true ∧ Below w.heap.size w wr
set_option maxRecDepth 100000 in
set_option maxHeartbeats 1000000 in
theorem law21_small (L : List OpT) (most : Nat) (hm : most ≤ 1000) (v : Value) (w : World) (h : SlE OpTE 7 w v L) (bb : Bool) (hbb : Hid (smallT L most = bb)) :
    Calls Tryd.prog 12 #[v, .int .i64 (most : Int)] w fun e w' => e = .returned (.bool bb) ∧ Below w.heap.size w w' := by
  have HL := hid h
  obtain ⟨a, c, rfl, hlc, hcm, -⟩ := h
  have hl63 : L.length ≤ 9223372036854775807 := by omega
  clear hlc hcm
  go_enter Tryd.func12, Tryd.ntmps12
  go_wp2_with fail
  go_loopw [9] (fun v9 wr => SmT w L v9 wr) (fun v9 _ => L.length - (intOf v9).toNat)
  case atStart => exact ⟨0, rfl, by omega, by simp, Below.refl _ _⟩
  case round =>
    obtain ⟨k, rfl, hk, hall, hb⟩ := hrel
    have HALL := hid hall
    have HB := hid hb
    clear hall
    by_cases hlt : k < L.length
    · obtain ⟨o, hp⟩ : ∃ o, L[k]? = some o := ⟨_, List.getElem?_eq_getElem hlt⟩
      have HTK := hid (show L.take (k + 1) = L.take k ++ [o] from by
        obtain ⟨hk, rfl⟩ := List.getElem?_eq_some_iff.1 hp
        exact List.take_succ_eq_append_getElem hk)
      have HMEM := hid (List.mem_of_getElem? hp)
      obtain ⟨b, off, rfl, q0, q1, q2, q3, q4, q5, q6, -⟩ := HL.out.opT hb hp
      have e0 : (0 : Int) ≤ (k : Int) := by omega
      have e1 : (k : Int) < (L.length : Int) := by omega
      obtain ⟨ok, on, oo, os, ok1, oh1, os1⟩ := o
      simp only at q0 q1 q2 q3 q4 q5 q6
      clear hp hb
      go_upto_region 4 with fail
      obtain ⟨w5, hw5⟩ : ∃ w5, w5 = wr.alloc (.cells #[.int .i64 ok, .int .i64 on, .int .i64 oo, .string ⟨os.toArray⟩, .int .i64 ok1, .int .i64 oh1, .int .i64 os1] 36) := ⟨_, rfl⟩
      rw [← hw5]
      have hb5 : Below wr.heap.size wr w5 := by rw [hw5]; exact Below.new _ _
      have HX5 : Hid (Blk w5 wr.heap.size #[.int .i64 ok, .int .i64 on, .int .i64 oo, .string ⟨os.toArray⟩, .int .i64 ok1, .int .i64 oh1, .int .i64 os1]) := hid (by rw [hw5]; exact Blk.new _ _ _)
      have cx4 : w5.cell? ⟨wr.heap.size, 3, none⟩ = some (.string ⟨os.toArray⟩) := by rw [HX5.out.cell]; rfl
      have HB5 := hid (Below.next HB.out hb5)
      clear hw5 hb5 q0 q1 q2 q3 q4 q5 q6
      by_cases h60 : os.length ≤ 60
      · have h6 : ¬ (60 : Int) < (os.length : Int) := by omega
        go_wp2_with fail
        go_roundw
        case rel => exact ⟨k + 1, by go_num, by omega, by rw [HTK.out, List.all_append, HALL.out]; simp [okT]; omega, HB5.out⟩
        case measure => simp [intOf]; omega
      · have h6 : (60 : Int) < (os.length : Int) := by omega
        have hbf : bb = false := by
          rw [← hbb.out]; unfold smallT
          have : L.all okT = false := by
            rw [List.all_eq_false]
            exact ⟨_, HMEM.out, by simp [okT]; omega⟩
          rw [this]; rfl
        subst hbf
        go_wp2_with fail
        go_ret
        exact ⟨rfl, HB5.out⟩
    · have e1 : ¬ (k : Int) < (L.length : Int) := by omega
      have hbf : bb = decide (L.length ≤ most) := by
        have := HALL.out
        rw [List.take_of_length_le (by omega)] at this
        rw [← hbb.out]; unfold smallT; rw [this]; rfl
      by_cases hlm : L.length ≤ most
      · have hlm2 : (L.length : Int) ≤ (most : Int) := by omega
        have hb2 : bb = true := by rw [hbf]; simpa using hlm
        subst hb2
        clear hbf
        go_wp2_with fail
        go_ret
        exact ⟨by simp [hlm2], HB.out⟩
      · have hlm2 : ¬ (L.length : Int) ≤ (most : Int) := by omega
        have hb2 : bb = false := by rw [hbf]; simpa using hlm
        subst hb2
        clear hbf
        go_wp2_with fail
        go_ret
        exact ⟨by simp, HB.out⟩
end Go.Proofs.YtdoflhiogoefjaaDoor
end
