/- Joined texts, in this order: Ints, OpenE, OpenI, OrdOpen, OrdLaws. Each one's first remark says what it proves; no condition beyond those that its theorems name. -/
import Derived.Test.YtcjdlckfbkdibaaDoorJLawOrderBytes01
import Derived.Test.YtcjdlckfbkdibaaDoorJLawOrderBytes02
import Derived.Test.YtcjdlckfbkdibaaDoorProg
import Derived.Test.YtcjdlckfbkdibaaDoorJLawOrderBytes03
import Derived.Deep.Slices
import Derived.Deep.Fields
import Derived.ChangeSame
import Derived.OpenShut
import Derived.Test.YtcjdlckfbkdibaaDoorJLawOrderBytes13
import Derived.Lib.SmallJoins
import Derived.Test.YtcjdlckfbkdibaaDoorJLawOrderBytes28
section
/- Contracts: slices of numbers: Index, Contains. -/
namespace Go.Proofs.YtcjdlckfbkdibaaDoor
open Go.RowKit
open Go.Lib (hid)
set_option linter.unusedVariables false

/-- the slice reads as the list of numbers -/
def SlI (w : World) (v : Value) (l : List Int) : Prop := ∃ a c, v = .slice a l.length c ∧ Rd w a (l.map (.int .i64)) ∧ l.length ≤ c ∧ c ≤ 9223372036854775807 ∧ (a = none → c = 0)
theorem SlI.nil (w : World) : SlI w (.slice none 0 0) [] := ⟨none, 0, rfl, Rd.nil _ _, by simp, by omega, fun _ => rfl⟩
theorem SlI.below {w w' : World} {v : Value} {l : List Int} (h : SlI w v l) (hb : Below w.heap.size w w') : SlI w' v l := by
  obtain ⟨a, c, rfl, h2, h3⟩ := h
  exact ⟨a, c, rfl, h2.below' hb, h3⟩
theorem SlI.upd {S : Nat → Prop} {w w' : World} {v : Value} {l : List Int} (h : SlI w v l) (hu : Upd S w w') (hn : ∀ k, v.ownBlock = some k → ¬ S k) : SlI w' v l := by
  obtain ⟨a, c, rfl, h2, h3⟩ := h
  exact ⟨a, c, rfl, hu.rd h2 (fun b off e => hn _ (by rw [e]; rfl)), h3⟩
theorem SlI.of_own {w : World} {base : Nat} {e : TypeId} {v : Value} {l : List Int} (h : w.ownsRow base e 1 v l.length (l.map (.int .i64))) : SlI w v l := by
  obtain ⟨a, cap, rfl, h1, h2, hr, h3⟩ := ownsRow.rd h
  exact ⟨a, cap, rfl, hr, h1, by unfold maxLen at h2; omega, h3⟩
/-- an incoming slice of numbers -/
theorem sli_of_row {w : World} {a : Option Addr} {len cap : Nat} {zs : List Int}
    (h : (a = none ∧ len = 0 ∧ cap = 0 ∧ zs = []) ∨
      ∃ x, a = some x ∧ len ≤ cap ∧ cap ≤ maxLen ∧ zs.length = cap ∧ (∀ i, i < zs.length → w.cell? (x.add i) = some (.int .i64 (zs.getD i 0))) ∧ ∀ n ∈ zs, (Lit.int .i64 n).wf = true) :
    ∃ l : List Int, len = l.length ∧ SlI w (.slice a len cap) l ∧ ∀ n ∈ l, (Lit.int .i64 n).wf = true := by
  obtain ⟨ys, rfl, h1, h2, h3, h4, h5, h6⟩ := Rd.of_row h
  exact ⟨ys, rfl, ⟨a, cap, rfl, h2, h4, h5, h6⟩, h3⟩

end Go.Proofs.YtcjdlckfbkdibaaDoor
end
section
/- What comes in, opened: a slice of elements of k cells, each of which reads as E says. No program in sight. -/
namespace Go.Proofs.YtcjdlckfbkdibaaDoor
open Go.RowKit Go.ChangeShapes Go.WideShapes Go.Deep
open Go.Lib (hid)
set_option linter.unusedVariables false

/-- a slice whose elements of k cells read as E says -/
def SlE {α : Type} (E : World → (Nat → Option Value) → α → Prop) (k : Nat) (w : World) (v : Value) (L : List α) : Prop :=
  ∃ a c, v = .slice a L.length c ∧ L.length ≤ c ∧ c ≤ 9223372036854775807 ∧ (a = none → c = 0) ∧
    ∀ i x, L[i]? = some x → ∃ b off, a = some ⟨b, off, none⟩ ∧ b < w.heap.size ∧ E w (fun j => w.cell? ⟨b, off + i * k + j, none⟩) x
/-- what a reading of an element keeps -/
structure Kept {α : Type} (E : World → (Nat → Option Value) → α → Prop) (k : Nat) : Prop where
  keep : ∀ {w w' : World} {f g : Nat → Option Value} {x : α}, Below w.heap.size w w' → (∀ j u, j < k → f j = some u → g j = some u) → E w f x → E w' g x
  zero : ∀ {w : World} {f : Nat → Option Value} {x : α}, E w f x → ∃ u, f 0 = some u
theorem SlE.below {α : Type} {E : World → (Nat → Option Value) → α → Prop} {k : Nat} (K : Kept E k) {w w' : World} {v : Value} {L : List α} (h : SlE E k w v L) (hb : Below w.heap.size w w') : SlE E k w' v L := by
  obtain ⟨a, c, h1, h2, h3, h4, h5⟩ := h
  refine ⟨a, c, h1, h2, h3, h4, fun i x hx => ?_⟩
  obtain ⟨b, off, k1, k2, k3⟩ := h5 i x hx
  exact ⟨b, off, k1, Nat.lt_of_lt_of_le k2 hb.size, K.keep hb (fun j u _ hu => by rw [← hu]; exact World.cell?_of_block (hb.block b k2)) k3⟩
theorem open_slE {α : Type} [Inhabited α] {E : World → (Nat → Option Value) → α → Prop} {k : Nat} (K : Kept E k) {H : Type} {enc : TypeId × Value → H} {P : Program} {t e : TypeId} {w : World} {r0 : Reach} {b0 : Nat} {v : Value} {d : DataW H} {p : List MemPlace}
    (ht : P.underlying t = some (.slice e)) (hk : P.cellsOf e = k) (elem : ∀ (n : Nat) (cs : List Value) (x : DataW H × List MemPlace), DataW.trod enc P w 0 (fun _ => true) true n e cs = some x → ∃ t, E w (fun j => cs[j]?) t)
    (hok : Value.okWide P w r0 b0 t v) (h : DataW.Trod enc P w 0 (fun _ => true) true t v d p) : ∃ L, SlE E k w v L := by
  obtain ⟨a0, len0, cap0, rfl⟩ := okWide_slice ht hok
  obtain ⟨fuel, hf⟩ := h
  rcases open_slice ht hf with ⟨hcs, -⟩ | ⟨a, len, cap, m, n, D, Pl, hcs, hb, hl, hm, hmm, hx, hi⟩
  · simp [Value.cells] at hcs
    obtain ⟨rfl, rfl, rfl⟩ := hcs
    exact ⟨[], none, 0, rfl, by simp, by omega, fun _ => rfl, fun i r hr => by simp at hr⟩
  · simp [Value.cells] at hcs
    obtain ⟨rfl, rfl, rfl⟩ := hcs
    simp only [if_true] at hmm
    obtain rfl : cap0 = m := hmm.symm
    have key : ∀ i, i < cap0 → ∃ q : α, E w (fun j => w.cell? (a.add (i * k + j))) q := by
      intro i hic
      obtain ⟨cs', hc, ht'⟩ := hi i hic
      rw [hk] at hc
      obtain ⟨t, ht⟩ := elem _ _ _ ht'
      obtain ⟨-, hcl, hat⟩ := World.cells?_some hc
      exact ⟨t, K.keep (Below.refl _ _) (fun j u hj hu => by rw [← Go.Deep.add_add, hat j hj]; exact hu) ht⟩
    obtain ⟨f, hfun⟩ := choose_lt key
    have hlen : ((List.range len0).map f).length = len0 := by simp
    refine ⟨(List.range len0).map f, some a, cap0, by rw [hlen], by rw [hlen]; exact hl, by unfold maxLen at hm; omega, nofun, ?_⟩
    intro i r hr
    rw [List.getElem?_map] at hr
    by_cases hil : i < len0
    · rw [List.getElem?_range hil] at hr
      simp at hr
      subst hr
      have q := hfun i (by omega)
      obtain ⟨b, off, spot⟩ := a
      obtain ⟨u0, p0⟩ := K.zero (hfun 0 (by omega))
      have hspot : spot = none := by simpa [Addr.add] using World.cell?_spot p0
      subst hspot
      obtain ⟨u1, q0⟩ := K.zero q
      simp only [Addr.add_lit] at q0
      refine ⟨b, off, rfl, World.block_lt_of_cell? w _ q0, K.keep (Below.refl _ _) (fun j u hj hu => ?_) q⟩
      rw [Addr.add_lit] at hu
      rw [Nat.add_assoc]; exact hu
    · rw [List.getElem?_eq_none (by simp; omega)] at hr; simp at hr
theorem structE_fields {H : Type} {enc : TypeId × Value → H} {P : Program} {w : World} {base : Nat} {spare : Nat → Bool} {held : Bool} {t : TypeId} {fs : Array Field} {n : Nat} {cs : List Value} {x : DataW H × List MemPlace} (ht : P.underlying t = some (.struct fs)) (hone : oneCellFields P fs = true)
    (h : DataW.trod enc P w base spare held n t cs = some x) : cs.length = P.cellsOf t ∧ ∃ (ys : List (DataW H × List MemPlace)) (n' : Nat), ys.length = fs.size ∧ ∀ (j : Nat) (f : Field), fs[j]? = some f → DataW.trod enc P w base spare held n' f.type ((cs.drop j).take 1) = ys[j]? := by
  obtain ⟨ys, n', hn', hy, hlen, hyl, hf⟩ := DataW.trod_struct ht h
  refine ⟨hlen, ys, n', hyl, fun j f hj => ?_⟩
  obtain ⟨ho, hk⟩ := hone_of hone j f hj
  have := hf j f hj
  rwa [ho, hk] at this
theorem listOf2 {α : Type} : ∀ {l : List α}, l.length = 2 → ∃ a b, l = [a, b]
  | [a, b], _ => ⟨a, b, rfl⟩
theorem listOf3 {α : Type} : ∀ {l : List α}, l.length = 3 → ∃ a b c, l = [a, b, c]
  | [a, b, c], _ => ⟨a, b, c, rfl⟩
theorem listOf4 {α : Type} : ∀ {l : List α}, l.length = 4 → ∃ a b c d, l = [a, b, c, d]
  | [a, b, c, d], _ => ⟨a, b, c, d, rfl⟩
theorem listOf5 {α : Type} : ∀ {l : List α}, l.length = 5 → ∃ a b c d e, l = [a, b, c, d, e]
  | [a, b, c, d, e], _ => ⟨a, b, c, d, e, rfl⟩
theorem listOf6 {α : Type} : ∀ {l : List α}, l.length = 6 → ∃ a b c d e f, l = [a, b, c, d, e, f]
  | [a, b, c, d, e, f], _ => ⟨a, b, c, d, e, f, rfl⟩
end Go.Proofs.YtcjdlckfbkdibaaDoor
end
section
/- What comes in, opened: a field that is a slice of numbers. -/
namespace Go.Proofs.YtcjdlckfbkdibaaDoor
open Go.RowKit Go.ChangeShapes Go.WideShapes Go.Deep Go.Joins
open Go.Lib (hid)
set_option linter.unusedVariables false

set_option maxRecDepth 100000 in
theorem open_sliF {H : Type} {enc : TypeId × Value → H} {w : World} {n : Nat} {v : Value} {y : DataW H × List MemPlace} (t4 : DataW.trod enc Tryd.prog w 0 (fun _ => true) true n 33 [v] = some y) : ∃ l : List Int, SlI w v l ∧ ∀ x ∈ l, (Lit.int .i64 x).wf = true := by
  have hrow : ∃ (a : Option Addr) (len cap : Nat) (zs : List Int), v = .slice a len cap ∧ ((a = none ∧ len = 0 ∧ cap = 0 ∧ zs = []) ∨
      ∃ x, a = some x ∧ len ≤ cap ∧ cap ≤ maxLen ∧ zs.length = cap ∧ (∀ i, i < zs.length → w.cell? (x.add i) = some (.int .i64 (zs.getD i 0))) ∧ ∀ n ∈ zs, (Lit.int .i64 n).wf = true) := by
    rcases open_ints Tryd.underlying33 Tryd.underlying3 (by kernel_rfl) t4 with ⟨hcs, _⟩ | ⟨x, l, c, zs, hcs, _, hl, hm, hz, _, hcell, hwz⟩
    · simp at hcs
      exact ⟨none, 0, 0, [], hcs, .inl ⟨rfl, rfl, rfl, rfl⟩⟩
    · simp at hcs
      exact ⟨some x, l, c, zs, hcs, .inr ⟨_, rfl, hl, hm, by simpa using hz, hcell, hwz⟩⟩
  obtain ⟨la, len, lc, zs, rfl, hr⟩ := hrow
  obtain ⟨l, -, h, hw⟩ := sli_of_row hr
  exact ⟨l, h, hw⟩
end Go.Proofs.YtcjdlckfbkdibaaDoor
end
section
/- An incoming command, and an incoming reply, opened. -/
namespace Go.Proofs.YtcjdlckfbkdibaaDoor
open Go.RowKit Go.ChangeShapes Go.WideShapes Go.Deep Go.Joins
open Go.Lib (hid)
set_option linter.unusedVariables false

theorem list3o {α : Type} : ∀ {l : List α}, l.length = 3 → ∃ a b c, l = [a, b, c]
  | [a, b, c], _ => ⟨a, b, c, rfl⟩
theorem list7o {α : Type} : ∀ {l : List α}, l.length = 7 → ∃ a b c d e f g, l = [a, b, c, d, e, f, g]
  | [a, b, c, d, e, f, g], _ => ⟨a, b, c, d, e, f, g, rfl⟩
theorem list9o {α : Type} : ∀ {l : List α}, l.length = 9 → ∃ a b c d e f g h i, l = [a, b, c, d, e, f, g, h, i]
  | [a, b, c, d, e, f, g, h, i], _ => ⟨a, b, c, d, e, f, g, h, i, rfl⟩
set_option maxRecDepth 100000 in
theorem open_cm {H : Type} {enc : TypeId × Value → H} {w : World} {b0 : Nat} {d0 : DataW H} {p0 : List MemPlace} {v0 : Value} (ok0 : Value.okWide Tryd.prog w .any b0 60 v0) (k0 : DataW.Trod enc Tryd.prog w 0 (fun _ => true) true 60 v0 d0 p0) :
    ∃ (ses who kind a b c d : Int) (text login : ByteArray), v0 = .agg #[.int .i64 ses, .int .i64 who, .int .i64 kind, .int .i64 a, .int .i64 b, .int .i64 c, .int .i64 d, .string text, .string login] ∧
      (∀ x ∈ [ses, who, kind, a, b, c, d], (Lit.int .i64 x).wf = true) ∧ text.size ≤ maxLen ∧ login.size ≤ maxLen := by
  obtain ⟨cs, rfl, hsz⟩ := okWide_struct Tryd.underlying60 ok0
  have h9 : Tryd.prog.cellsOf 60 = 9 := by kernel_rfl
  rw [h9] at hsz
  obtain ⟨l⟩ := cs
  obtain ⟨c0, c1, c2, c3, c4, c5, c6, c7, c8, rfl⟩ := list9o (show l.length = 9 from hsz)
  obtain ⟨fuel, h⟩ := k0
  have h' : DataW.trod enc Tryd.prog w 0 (fun _ => true) true fuel 60 [c0, c1, c2, c3, c4, c5, c6, c7, c8] = some (d0, p0) := h
  obtain ⟨ys, n', -, -, -, hyl, hf⟩ := DataW.trod_struct Tryd.underlying60 h'
  obtain ⟨z0, z1, z2, rfl⟩ := list3o (show ys.length = 3 from hyl)
  have g0 : DataW.trod enc Tryd.prog w 0 (fun _ => true) true n' 3 [c0] = some z0 := hf 0 _ rfl
  have g1 : DataW.trod enc Tryd.prog w 0 (fun _ => true) true n' 58 [c1, c2, c3, c4, c5, c6, c7] = some z1 := hf 1 _ rfl
  have g2 : DataW.trod enc Tryd.prog w 0 (fun _ => true) true n' 9 [c8] = some z2 := hf 2 _ rfl
  obtain ⟨us, n2, -, -, -, hul, hf2⟩ := DataW.trod_struct Tryd.underlying58 g1
  obtain ⟨y0, y1, y2, y3, y4, y5, y6, rfl⟩ := list7o (show us.length = 7 from hul)
  have k0 : DataW.trod enc Tryd.prog w 0 (fun _ => true) true n2 3 [c1] = some y0 := hf2 0 _ rfl
  have k1 : DataW.trod enc Tryd.prog w 0 (fun _ => true) true n2 3 [c2] = some y1 := hf2 1 _ rfl
  have k2 : DataW.trod enc Tryd.prog w 0 (fun _ => true) true n2 3 [c3] = some y2 := hf2 2 _ rfl
  have k3 : DataW.trod enc Tryd.prog w 0 (fun _ => true) true n2 3 [c4] = some y3 := hf2 3 _ rfl
  have k4 : DataW.trod enc Tryd.prog w 0 (fun _ => true) true n2 3 [c5] = some y4 := hf2 4 _ rfl
  have k5 : DataW.trod enc Tryd.prog w 0 (fun _ => true) true n2 3 [c6] = some y5 := hf2 5 _ rfl
  have k6 : DataW.trod enc Tryd.prog w 0 (fun _ => true) true n2 9 [c7] = some y6 := hf2 6 _ rfl
  obtain ⟨i0, e0, -, w0⟩ := DataW.trod_int Tryd.underlying3 g0
  obtain ⟨i1, e1, -, w1⟩ := DataW.trod_int Tryd.underlying3 k0
  obtain ⟨i2, e2, -, w2⟩ := DataW.trod_int Tryd.underlying3 k1
  obtain ⟨i3, e3, -, w3⟩ := DataW.trod_int Tryd.underlying3 k2
  obtain ⟨i4, e4, -, w4⟩ := DataW.trod_int Tryd.underlying3 k3
  obtain ⟨i5, e5, -, w5⟩ := DataW.trod_int Tryd.underlying3 k4
  obtain ⟨i6, e6, -, w6⟩ := DataW.trod_int Tryd.underlying3 k5
  obtain ⟨q7, e7, -, s7⟩ := DataW.trod_string Tryd.underlying9 k6
  obtain ⟨q8, e8, -, s8⟩ := DataW.trod_string Tryd.underlying9 g2
  simp only [List.cons.injEq, and_true] at e0 e1 e2 e3 e4 e5 e6 e7 e8
  subst e0 e1 e2 e3 e4 e5 e6 e7 e8
  exact ⟨i0, i1, i2, i3, i4, i5, i6, q7, q8, rfl, by simp only [List.mem_cons, List.not_mem_nil, or_false]; rintro x (rfl | rfl | rfl | rfl | rfl | rfl | rfl) <;> assumption, s7, s8⟩
end Go.Proofs.YtcjdlckfbkdibaaDoor
end
section
/- Plain: what the laws of orders lean on; short ways. -/
namespace Go.Proofs.YtcjdlckfbkdibaaDoor
open Go.RowKit
open Go.Lib (hid)
set_option linter.unusedVariables false

theorem encB_le (l : List UInt8) (h : l.length ≤ 100) : (encB l).length ≤ l.length + 10 := by
  unfold encB
  have := enc_len10 (zz (l.length : Int)) (zz_lt _ (by omega) (by omega))
  rw [List.length_append]; omega
theorem bytes_le (c : Cm) (ok : c.Ok) (h1 : c.text.length ≤ 100) (h2 : c.login.length ≤ 100) : c.bytes.length ≤ 300 := by
  unfold Cm.bytes
  have e1 := enc_len10 (zz c.ses) (zz_lt _ ok.s1 ok.s2)
  have e2 := enc_len10 (zz c.kind) (zz_lt _ ok.k1 ok.k2)
  have e3 := encB_le c.text h1
  have e4 := encB_le c.login h2
  have e5 := encs_le (c.ns.take (usesN c.kind)) (fun x hx => ok.bd x (List.mem_of_mem_take hx))
  have e6 : (c.ns.take (usesN c.kind)).length ≤ 4 := by rw [List.length_take, ok.ns]; omega
  simp only [List.length_append]
  split
  · split <;> omega
  · omega
theorem parseV_bytes (c : Cm) (ok : c.Ok) (h : c.right = true) (h1 : c.text.length ≤ 100) (h2 : c.login.length ≤ 100) : parseV c.bytes = some c := by
  unfold parseV
  have := bytes_le c ok h1 h2
  rw [if_neg (by omega), parse_bytes c ok h]
theorem parseV_sound (b : List UInt8) (c : Cm) (h : parseV b = some c) : b.length ≤ 512 ∧ c.right = true ∧ c.bytes = b ∧ c.who = 0 := by
  unfold parseV at h
  split at h
  · simp at h
  · exact ⟨by omega, parse_sound b c h⟩
theorem wf7 {ses who kind a b c d : Int} (h : ∀ x ∈ [ses, who, kind, a, b, c, d], (Lit.int .i64 x).wf = true) (text login : ByteArray) : (cmOf ses who kind a b c d text login).Ok := by
  have h1 := wf64 (h ses (by simp))
  have h2 := wf64 (h kind (by simp))
  refine ⟨h1.1, h1.2, h2.1, h2.2, rfl, ?_⟩
  intro x hx
  simp only [cmOf, List.mem_cons, List.not_mem_nil, or_false] at hx
  rcases hx with rfl | rfl | rfl | rfl
  · exact wf64 (h _ (by simp))
  · exact wf64 (h _ (by simp))
  · exact wf64 (h _ (by simp))
  · exact wf64 (h _ (by simp))
theorem ba_len (q : ByteArray) : q.data.toList.length = q.size := by show q.data.toList.length = q.data.size; exact Array.length_toList
theorem inNums_bd : ∀ (n : Nat) (s : Option (List UInt8)), ∀ x ∈ (inNums n s).1, -9223372036854775808 ≤ x ∧ x ≤ 9223372036854775807
  | 0, s => by simp [inNums]
  | n + 1, s => by
    intro x hx
    rw [inNums, List.mem_cons] at hx
    rcases hx with rfl | hx
    · exact inInt_bd s
    · exact inNums_bd n _ x hx
/-- what is read has bounds -/
theorem readCm_ok (b : List UInt8) : (readCm b).cm.Ok ∧ (readCm b).cm.text.length ≤ 16 ∧ (readCm b).cm.login.length ≤ 16 := by
  have e1 : -9223372036854775808 ≤ (inWithin 0 1048576 (some b)).1 ∧ (inWithin 0 1048576 (some b)).1 ≤ 9223372036854775807 := ⟨by have := inWithin_lo 0 1048576 (some b) (by omega); omega, inWithin_hi _ _ _⟩
  have e2 := inInt_bd (inWithin 0 1048576 (some b)).2
  have hB : ∀ s, (inBytes 16 s).1.length ≤ 16 := fun s => by have := inBytes_len 16 s (by omega); omega
  have hn : (readCm b).nums.length ≤ 4 := by unfold readCm; simp only; rw [inNums_len]; exact usesN_le _
  refine ⟨⟨e1.1, e1.2, e2.1, e2.2, ?_, ?_⟩, ?_, ?_⟩
  · unfold Rd0.cm
    simp only [List.length_append, List.length_replicate]
    omega
  · intro x hx
    unfold Rd0.cm at hx
    simp only [List.mem_append, List.mem_replicate] at hx
    rcases hx with hx | ⟨-, rfl⟩
    · exact inNums_bd _ _ x hx
    · omega
  · unfold Rd0.cm readCm
    simp only
    split
    · exact hB _
    · simp
  · unfold Rd0.cm readCm
    simp only
    split
    · exact hB _
    · simp
theorem parseV_ok (b : List UInt8) (c : Cm) (h : parseV b = some c) : c.Ok ∧ c.text.length ≤ 16 ∧ c.login.length ≤ 16 := by
  unfold parseV parseCm at h
  split at h
  · simp at h
  · split at h
    · simp only [Option.some.injEq] at h
      subst h
      exact readCm_ok b
    · simp at h
end Go.Proofs.YtcjdlckfbkdibaaDoor
end
