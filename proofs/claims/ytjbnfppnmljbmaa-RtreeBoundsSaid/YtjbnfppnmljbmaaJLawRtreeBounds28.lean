/- Joined texts, in this order: Ints, OpenI, OpenG, Law14Pl, RtBounds. Each one's first remark says what it proves; no condition beyond those that its theorems name. -/
import Derived.Test.YtjbnfppnmljbmaaJLawRtreeBounds01
import Derived.Test.YtjbnfppnmljbmaaJLawRtreeBounds02
import Derived.Test.YtjbnfppnmljbmaaProg
import Derived.Test.YtjbnfppnmljbmaaJLawRtreeBounds27
import Derived.Test.YtjbnfppnmljbmaaJLawRtreeBounds25
import Derived.Lib.SmallJoins
section
/- Contracts: slices of numbers: Index, Contains. -/
namespace Go.Proofs.Ytjbnfppnmljbmaa
open Go.RowKit
open Go.Lib (hid)
set_option linter.unusedVariables false

/-- the slice reads as the list of numbers -/
def SlI (w : World) (v : Value) (l : List Int) : Prop := ∃ a c, v = .slice a l.length c ∧ Rd w a (l.map (.int .i64)) ∧ l.length ≤ c ∧ c ≤ 9223372036854775807 ∧ (a = none → c = 0)
theorem SlI.nil (w : World) : SlI w (.slice none 0 0) [] := ⟨none, 0, rfl, Rd.nil _ _, by simp, by omega, fun _ => rfl⟩
theorem SlI.below {w w' : World} {v : Value} {l : List Int} (h : SlI w v l) (hb : Below w.heap.size w w') : SlI w' v l := by
  obtain ⟨a, c, rfl, h2, h3⟩ := h
  exact ⟨a, c, rfl, h2.below' hb, h3⟩
theorem SlI.upd {S : Nat → Prop} {w w' : World} {v : Value} {l : List Int} (h : SlI w v l) (hu : Upd S w w') (hn : ∀ k, v.ownBlock = some k → ¬ S k) : SlI w' v l := by
  obtain ⟨a, c, rfl, h2, h3⟩ := h
  exact ⟨a, c, rfl, hu.rd h2 (fun b off e => hn _ (by rw [e]; rfl)), h3⟩
theorem SlI.of_own {w : World} {base : Nat} {e : TypeId} {v : Value} {l : List Int} (h : w.ownsRow base e 1 v l.length (l.map (.int .i64))) : SlI w v l := by
  obtain ⟨a, cap, rfl, h1, h2, hr, h3⟩ := ownsRow.rd h
  exact ⟨a, cap, rfl, hr, h1, by unfold maxLen at h2; omega, h3⟩
/-- an incoming slice of numbers -/
theorem sli_of_row {w : World} {a : Option Addr} {len cap : Nat} {zs : List Int}
    (h : (a = none ∧ len = 0 ∧ cap = 0 ∧ zs = []) ∨
      ∃ x, a = some x ∧ len ≤ cap ∧ cap ≤ maxLen ∧ zs.length = cap ∧ (∀ i, i < zs.length → w.cell? (x.add i) = some (.int .i64 (zs.getD i 0))) ∧ ∀ n ∈ zs, (Lit.int .i64 n).wf = true) :
    ∃ l : List Int, len = l.length ∧ SlI w (.slice a len cap) l ∧ ∀ n ∈ l, (Lit.int .i64 n).wf = true := by
  obtain ⟨ys, rfl, h1, h2, h3, h4, h5, h6⟩ := Rd.of_row h
  exact ⟨ys, rfl, ⟨a, cap, rfl, h2, h4, h5, h6⟩, h3⟩

end Go.Proofs.Ytjbnfppnmljbmaa
end
section
/- What comes in, opened: a field that is a slice of numbers. -/
namespace Go.Proofs.Ytjbnfppnmljbmaa
open Go.RowKit Go.ChangeShapes Go.WideShapes Go.Deep Go.Joins
open Go.Lib (hid)
set_option linter.unusedVariables false

set_option maxRecDepth 100000 in
theorem open_sliF {H : Type} {enc : TypeId × Value → H} {w : World} {n : Nat} {v : Value} {y : DataW H × List MemPlace} (t4 : DataW.trod enc Try.prog w 0 (fun _ => true) true n 148 [v] = some y) : ∃ l : List Int, SlI w v l ∧ ∀ x ∈ l, (Lit.int .i64 x).wf = true := by
  have hrow : ∃ (a : Option Addr) (len cap : Nat) (zs : List Int), v = .slice a len cap ∧ ((a = none ∧ len = 0 ∧ cap = 0 ∧ zs = []) ∨
      ∃ x, a = some x ∧ len ≤ cap ∧ cap ≤ maxLen ∧ zs.length = cap ∧ (∀ i, i < zs.length → w.cell? (x.add i) = some (.int .i64 (zs.getD i 0))) ∧ ∀ n ∈ zs, (Lit.int .i64 n).wf = true) := by
    rcases open_ints Try.underlying148 Try.underlying3 (by kernel_rfl) t4 with ⟨hcs, _⟩ | ⟨x, l, c, zs, hcs, _, hl, hm, hz, _, hcell, hwz⟩
    · simp at hcs
      exact ⟨none, 0, 0, [], hcs, .inl ⟨rfl, rfl, rfl, rfl⟩⟩
    · simp at hcs
      exact ⟨some x, l, c, zs, hcs, .inr ⟨_, rfl, hl, hm, by simpa using hz, hcell, hwz⟩⟩
  obtain ⟨la, len, lc, zs, rfl, hr⟩ := hrow
  obtain ⟨l, -, h, hw⟩ := sli_of_row hr
  exact ⟨l, h, hw⟩
end Go.Proofs.Ytjbnfppnmljbmaa
end
section
/- What comes in, opened: the law's calls of a tree; rectangles. -/
namespace Go.Proofs.Ytjbnfppnmljbmaa
open Go.RowKit Go.ChangeShapes Go.WideShapes Go.Deep Go.Joins
open Go.Lib (hid)
set_option linter.unusedVariables false

theorem list4g {α : Type} : ∀ {l : List α}, l.length = 4 → ∃ a b c d, l = [a, b, c, d]
  | [a, b, c, d], _ => ⟨a, b, c, d, rfl⟩
theorem list7g {α : Type} : ∀ {l : List α}, l.length = 7 → ∃ a b c d e f g, l = [a, b, c, d, e, f, g]
  | [a, b, c, d, e, f, g], _ => ⟨a, b, c, d, e, f, g, rfl⟩
def InG (x : Int) : Prop := -9223372036854775808 ≤ x ∧ x ≤ 9223372036854775807
theorem inG_of_wf {x : Int} (h : (Lit.int .i64 x).wf = true) : InG x := by
  have := wf64 h
  exact ⟨by omega, by omega⟩
def InR4 (r : R4) : Prop := InG r.1 ∧ InG r.2.1 ∧ InG r.2.2.1 ∧ InG r.2.2.2
set_option maxRecDepth 100000 in
theorem trod_rect {H : Type} {enc : TypeId × Value → H} {w : World} {n : Nat} {cs : List Value} {x : DataW H × List MemPlace} (h : DataW.trod enc Try.prog w 0 (fun _ => true) true n 33 cs = some x) :
    ∃ r : R4, cs = [.int .i64 r.1, .int .i64 r.2.1, .int .i64 r.2.2.1, .int .i64 r.2.2.2] ∧ InR4 r := by
  obtain ⟨ys, n', -, -, hlen0, hyl, hf⟩ := DataW.trod_struct Try.underlying33 h
  have h4 : Try.prog.cellsOf 33 = 4 := by kernel_rfl
  have hlen : cs.length = 4 := by rw [← h4]; exact hlen0
  obtain ⟨c0, c1, c2, c3, rfl⟩ := list4g hlen
  obtain ⟨z0, z1, z2, z3, rfl⟩ := list4g (show ys.length = 4 from hyl)
  have g0 : DataW.trod enc Try.prog w 0 (fun _ => true) true n' 3 [c0] = some z0 := hf 0 _ rfl
  have g1 : DataW.trod enc Try.prog w 0 (fun _ => true) true n' 3 [c1] = some z1 := hf 1 _ rfl
  have g2 : DataW.trod enc Try.prog w 0 (fun _ => true) true n' 3 [c2] = some z2 := hf 2 _ rfl
  have g3 : DataW.trod enc Try.prog w 0 (fun _ => true) true n' 3 [c3] = some z3 := hf 3 _ rfl
  obtain ⟨i0, e0, -, w0⟩ := DataW.trod_int Try.underlying3 g0
  obtain ⟨i1, e1, -, w1⟩ := DataW.trod_int Try.underlying3 g1
  obtain ⟨i2, e2, -, w2⟩ := DataW.trod_int Try.underlying3 g2
  obtain ⟨i3, e3, -, w3⟩ := DataW.trod_int Try.underlying3 g3
  simp only [List.cons.injEq, and_true] at e0 e1 e2 e3
  subst e0 e1 e2 e3
  exact ⟨(i0, i1, i2, i3), rfl, inG_of_wf w0, inG_of_wf w1, inG_of_wf w2, inG_of_wf w3⟩
set_option maxRecDepth 100000 in
theorem open_rect {H : Type} {enc : TypeId × Value → H} {w : World} {b0 : Nat} {d0 : DataW H} {p0 : List MemPlace} {v0 : Value} (ok0 : Value.okWide Try.prog w .any b0 33 v0) (k0 : DataW.Trod enc Try.prog w 0 (fun _ => true) true 33 v0 d0 p0) :
    ∃ r : R4, v0 = rV r ∧ InR4 r := by
  obtain ⟨cs, rfl, hsz⟩ := okWide_struct Try.underlying33 ok0
  obtain ⟨fuel, h⟩ := k0
  obtain ⟨l⟩ := cs
  have h' : DataW.trod enc Try.prog w 0 (fun _ => true) true fuel 33 l = some (d0, p0) := h
  obtain ⟨r, rfl, h2⟩ := trod_rect h'
  exact ⟨r, rfl, h2⟩
instance : Inhabited OpG := ⟨⟨0, 0, 0, (0, 0, 0, 0)⟩⟩
def OpGE (w : World) (f : Nat → Option Value) (x : OpG) : Prop :=
  f 0 = some (.int .i64 x.k) ∧ f 1 = some (.int .i64 x.v) ∧ f 2 = some (.int .i64 x.i) ∧ f 3 = some (.int .i64 x.r.1) ∧ f 4 = some (.int .i64 x.r.2.1) ∧ f 5 = some (.int .i64 x.r.2.2.1) ∧ f 6 = some (.int .i64 x.r.2.2.2)
theorem opGKept : Kept OpGE 7 := ⟨fun hb hf h => ⟨hf 0 _ (by omega) h.1, hf 1 _ (by omega) h.2.1, hf 2 _ (by omega) h.2.2.1, hf 3 _ (by omega) h.2.2.2.1, hf 4 _ (by omega) h.2.2.2.2.1, hf 5 _ (by omega) h.2.2.2.2.2.1, hf 6 _ (by omega) h.2.2.2.2.2.2⟩, fun h => ⟨_, h.1⟩⟩
set_option maxRecDepth 100000 in
theorem elem_opG {H : Type} {enc : TypeId × Value → H} {w : World} (n : Nat) (cs : List Value) (x : DataW H × List MemPlace) (h : DataW.trod enc Try.prog w 0 (fun _ => true) true n 41 cs = some x) : ∃ t, OpGE w (fun j => cs[j]?) t := by
  obtain ⟨ys, n', -, -, hlen0, hyl, one⟩ := DataW.trod_struct Try.underlying41 h
  have h7 : Try.prog.cellsOf 41 = 7 := by kernel_rfl
  have hlen : cs.length = 7 := by rw [← h7]; exact hlen0
  obtain ⟨c0, c1, c2, c3, c4, c5, c6, rfl⟩ := list7g hlen
  obtain ⟨z0, z1, z2, z3, rfl⟩ := list4g (show ys.length = 4 from hyl)
  have g0 : DataW.trod enc Try.prog w 0 (fun _ => true) true n' 3 [c0] = some z0 := one 0 _ rfl
  have g1 : DataW.trod enc Try.prog w 0 (fun _ => true) true n' 3 [c1] = some z1 := one 1 _ rfl
  have g2 : DataW.trod enc Try.prog w 0 (fun _ => true) true n' 3 [c2] = some z2 := one 2 _ rfl
  have g3 : DataW.trod enc Try.prog w 0 (fun _ => true) true n' 33 [c3, c4, c5, c6] = some z3 := one 3 _ rfl
  obtain ⟨i0, e0, -, w0⟩ := DataW.trod_int Try.underlying3 g0
  obtain ⟨i1, e1, -, w1⟩ := DataW.trod_int Try.underlying3 g1
  obtain ⟨i2, e2, -, w2⟩ := DataW.trod_int Try.underlying3 g2
  obtain ⟨⟨r1, r2, r3, r4⟩, e3, -⟩ := trod_rect g3
  simp only [List.cons.injEq, and_true] at e0 e1 e2 e3
  obtain ⟨q0, q1, q2, q3⟩ := e3
  subst e0 e1 e2 q0 q1 q2 q3
  exact ⟨⟨i0, i1, i2, (r1, r2, r3, r4)⟩, rfl, rfl, rfl, rfl, rfl, rfl, rfl⟩
set_option maxRecDepth 100000 in
theorem open_opsG {H : Type} {enc : TypeId × Value → H} {w : World} {b0 : Nat} {d0 : DataW H} {p0 : List MemPlace} {v0 : Value} (ok0 : Value.okWide Try.prog w .any b0 36 v0) (k0 : DataW.Trod enc Try.prog w 0 (fun _ => true) true 36 v0 d0 p0) : ∃ L, SlE OpGE 7 w v0 L :=
  open_slE opGKept Try.underlying36 (by kernel_rfl) elem_opG ok0 k0
theorem SlE.opG {w w' : World} {a : Option Addr} {c : Nat} {L : List OpG} (h : SlE OpGE 7 w (.slice a L.length c) L) (hb : Below w.heap.size w w') {i : Nat} {o : OpG} (hi : L[i]? = some o) :
    ∃ b off, a = some ⟨b, off, none⟩ ∧ w'.cell? ⟨b, off + i * 7, none⟩ = some (.int .i64 o.k) ∧ w'.cell? ⟨b, off + i * 7 + 1, none⟩ = some (.int .i64 o.v) ∧ w'.cell? ⟨b, off + i * 7 + 2, none⟩ = some (.int .i64 o.i) ∧ w'.cell? ⟨b, off + i * 7 + 3, none⟩ = some (.int .i64 o.r.1) ∧ w'.cell? ⟨b, off + i * 7 + 4, none⟩ = some (.int .i64 o.r.2.1) ∧ w'.cell? ⟨b, off + i * 7 + 5, none⟩ = some (.int .i64 o.r.2.2.1) ∧ w'.cell? ⟨b, off + i * 7 + 6, none⟩ = some (.int .i64 o.r.2.2.2) := by
  obtain ⟨a', c', e, -, -, -, h5⟩ := h.below opGKept hb
  simp only [Value.slice.injEq, true_and] at e
  obtain ⟨rfl, rfl⟩ := e
  obtain ⟨b, off, rfl, -, k0, k1, k2, k3, k4, k5, k6⟩ := h5 i o hi
  exact ⟨b, off, rfl, k0, k1, k2, k3, k4, k5, k6⟩
end Go.Proofs.Ytjbnfppnmljbmaa
end
section
/- Law 14: played, RtreePlays. -/
namespace Go.Proofs.Ytjbnfppnmljbmaa
open Go.RowKit
open Go.Lib (hid)
set_option linter.unusedVariables false
attribute [local go_sem] Oper.semAt_some

def PlR (w : World) (s n : Nat) (v5 v14 : Value) (wr : World) : Prop := ∃ (j : Nat) (X : List Tg) (F : Nat → Prop), v14 = .int .i64 (j : Int) ∧ j ≤ n ∧ Hid (BothG wr s F v5 X) ∧ Hid (X.length ≤ j ∧ (∀ k, F k → w.heap.size ≤ k)) ∧ Hid (Below w.heap.size w wr)
def PlayedPost (w : World) (n : Nat) (e : Ending) (w' : World) : Prop := ∃ (s : Nat) (F : Nat → Prop) (v : Value) (X : List Tg), e = .returned (.tuple #[.pointer (some ⟨s, 0, none⟩), v]) ∧ BothG w' s F v X ∧ X.length ≤ n ∧ (∀ k, F k → w.heap.size ≤ k) ∧ Below w.heap.size w w'
theorem BothG.new {w : World} {s : Nat} {F : Nat → Prop} (h : TreeIs w s F []) : BothG w s F (.slice none 0 0) [] := ⟨h, SlG.nil w, fun k q => by simp [Value.ownBlock] at q, by simp, fun k q => by simp [Value.ownBlock] at q⟩
set_option maxRecDepth 100000 in
set_option maxHeartbeats 4000000 in
theorem law14_played (L : List OpG) (a : Option Addr) (c : Nat) (w : World) (hl : SlE OpGE 7 w (.slice a L.length c) L) (h120 : L.length ≤ 120) :
    Calls Try.prog 22 #[.slice a L.length c] w (PlayedPost w L.length) := by
  have HL := hid hl
  have H120 := hid h120
  clear hl h120
  go_enter Try.func22, Try.ntmps22
  go_wp2_with fail
  refine (rt_New w).mono ?_
  rintro e w1 ⟨s, rfl, h1, hb1⟩
  have HP0 : Hid (PlR w s L.length (.slice none 0 0) (.int .i64 0) w1) := hid ⟨0, [], _, rfl, by omega, hid (BothG.new h1), hid ⟨by simp, fun k q => q⟩, hid hb1⟩
  clear h1 hb1
  go_wp2_with fail
  go_loopw [5, 14] (fun v5 v14 wr => PlR w s L.length v5 v14 wr) (fun _ v14 _ => L.length - (intOf v14).toNat)
  case atStart => exact HP0.out
  case round =>
    clear HP0
    obtain ⟨j, X, F, rfl, hj, HBO, HN, HB⟩ := hrel
    rename_i vx _
    by_cases hlt : j < L.length
    · have j1 : (j : Int) < (L.length : Int) := by omega
      have j0 : (0 : Int) ≤ (j : Int) := by omega
      have j9 : (j : Int) < 120 := by have := H120.out; omega
      obtain ⟨o, hp⟩ : ∃ o, L[j]? = some o := ⟨_, List.getElem?_eq_getElem hlt⟩
      obtain ⟨bo, off, rfl, q0, q1, q2, q3, q4, q5, q6⟩ := HL.out.opG HB.out hp
      obtain ⟨ok, ov, oi, ⟨ox, oy, oa, ob⟩⟩ := o
      simp only at q0 q1 q2 q3 q4 q5 q6
      obtain ⟨X', hX'⟩ : ∃ X', stepG X ⟨ok, ov, oi, (ox, oy, oa, ob)⟩ = X' := ⟨_, rfl⟩
      have HXN := hid hX'
      have HLEN : Hid (X'.length ≤ j + 1) := hid (by have := stepG_len X ⟨ok, ov, oi, (ox, oy, oa, ob)⟩; rw [hX'] at this; have := HN.out.1; omega)
      clear hp hX'
      go_upto_region 8 with fail
      obtain ⟨w5, hw5⟩ : ∃ w5, w5 = wr.alloc (.cells #[.int .i64 ok, .int .i64 ov, .int .i64 oi, .int .i64 ox, .int .i64 oy, .int .i64 oa, .int .i64 ob] 41) := ⟨_, rfl⟩
      rw [← hw5]
      have hb5 : Below wr.heap.size wr w5 := by rw [hw5]; exact Below.new _ _
      obtain ⟨bb, hbb⟩ : ∃ bb, bb = wr.heap.size := ⟨_, rfl⟩
      rw [← hbb]
      have HO5 : Hid (Blk w5 bb #[.int .i64 ok, .int .i64 ov, .int .i64 oi, .int .i64 ox, .int .i64 oy, .int .i64 oa, .int .i64 ob]) := hid (by rw [hw5, hbb]; exact Blk.new _ _ _)
      have HBO5 := hid (HBO.out.below hb5)
      have HB5 := hid (Below.next HB.out hb5)
      clear hw5 hb5 hbb q0 q1 q2 q3 q4 q5 q6
      have x0 : w5.cell? ⟨bb, 0, none⟩ = some (.int .i64 ok) := by rw [HO5.out.cell]; rfl
      have x1 : w5.cell? ⟨bb, 1, none⟩ = some (.int .i64 ov) := by rw [HO5.out.cell]; rfl
      have x2 : w5.cell? ⟨bb, 2, none⟩ = some (.int .i64 oi) := by rw [HO5.out.cell]; rfl
      have x3 : w5.cell? ⟨bb, 3, none⟩ = some (.int .i64 ox) := by rw [HO5.out.cell]; rfl
      have x4 : w5.cell? ⟨bb, 4, none⟩ = some (.int .i64 oy) := by rw [HO5.out.cell]; rfl
      have x5 : w5.cell? ⟨bb, 5, none⟩ = some (.int .i64 oa) := by rw [HO5.out.cell]; rfl
      have x6 : w5.cell? ⟨bb, 6, none⟩ = some (.int .i64 ob) := by rw [HO5.out.cell]; rfl
      go_wp2_with fail
      refine (law14_step ⟨ok, ov, oi, (ox, oy, oa, ob)⟩ s F _ X w5 HBO5.out (by have := HN.out.1; have := H120.out; omega)).mono ?_
      rintro e w6 ⟨F', v', rfl, hbo6, hu6, hF6, -⟩
      rw [HXN.out] at hbo6
      have HBO6 := hid hbo6
      have HB6 := hid (HB5.out.trans (hu6.below HB5.out.size (fun k _ q => HN.out.2 k q)))
      have HN6 : Hid (X'.length ≤ j + 1 ∧ (∀ k, F' k → w.heap.size ≤ k)) := hid ⟨HLEN.out, fun k hk => by
        rcases hF6 k hk with q | q
        · exact HN.out.2 k q
        · have := HB5.out.size; omega⟩
      clear hbo6 hu6 hF6 x0 x1 x2 x3 x4 x5 x6
      go_wp2_with fail
      go_roundw
      case rel => exact ⟨j + 1, X', F', by go_num, by omega, HBO6, HN6, HB6⟩
      case measure => simp [intOf]; omega
    · have j1 : ¬ (j : Int) < (L.length : Int) := by omega
      have HJ : Hid (X.length ≤ L.length) := hid (by have := HN.out.1; omega)
      go_wp2_with fail
      go_ret2
      exact ⟨s, F, _, X, rfl, HBO.out, HJ.out, HN.out.2, HB.out⟩
set_option maxRecDepth 100000 in
set_option maxHeartbeats 4000000 in
theorem law14_Plays (L : List OpG) (a : Option Addr) (c : Nat) (w : World) (hl : SlE OpGE 7 w (.slice a L.length c) L) :
    Calls Try.prog 4 #[.slice a L.length c] w fun e w' => e = .returned (.bool true) ∧ Below w.heap.size w w' := by
  have HL := hid hl
  clear hl
  go_enter Try.func4, Try.ntmps4
  go_wp2_with fail
  refine (rt_New w).mono ?_
  rintro e w1 ⟨s, rfl, h1, hb1⟩
  have HP0 : Hid (PlR w s L.length (.slice none 0 0) (.int .i64 0) w1) := hid ⟨0, [], _, rfl, by omega, hid (BothG.new h1), hid ⟨by simp, fun k q => q⟩, hid hb1⟩
  have HB1 := hid hb1
  clear h1 hb1
  by_cases h120 : L.length ≤ 120
  case neg =>
    have c1 : ¬ (L.length : Int) ≤ 120 := by omega
    have c2 : (120 : Int) < (L.length : Int) := by omega
    go_wp2_with fail
    refine (law14_awake w1).mono ?_
    rintro e w2 ⟨rfl, hb⟩
    have HZ := hid (Below.next HB1.out hb)
    clear hb
    go_wp2_with fail
    go_ret
    exact ⟨rfl, HZ.out⟩
  have H120 := hid h120
  have c1 : ¬ (120 : Int) < (L.length : Int) := by omega
  clear h120
  go_wp2_with fail
  go_loopw [4, 23] (fun v5 v14 wr => PlR w s L.length v5 v14 wr) (fun _ v14 _ => L.length - (intOf v14).toNat)
  case atStart => exact HP0.out
  case round =>
    clear HP0
    obtain ⟨j, X, F, rfl, hj, HBO, HN, HB⟩ := hrel
    rename_i vx _
    by_cases hlt : j < L.length
    · have j1 : (j : Int) < (L.length : Int) := by omega
      have j0 : (0 : Int) ≤ (j : Int) := by omega
      have j9 : (j : Int) < 120 := by have := H120.out; omega
      obtain ⟨o, hp⟩ : ∃ o, L[j]? = some o := ⟨_, List.getElem?_eq_getElem hlt⟩
      obtain ⟨bo, off, rfl, q0, q1, q2, q3, q4, q5, q6⟩ := HL.out.opG HB.out hp
      obtain ⟨ok, ov, oi, ⟨ox, oy, oa, ob⟩⟩ := o
      simp only at q0 q1 q2 q3 q4 q5 q6
      obtain ⟨X', hX'⟩ : ∃ X', stepG X ⟨ok, ov, oi, (ox, oy, oa, ob)⟩ = X' := ⟨_, rfl⟩
      have HXN := hid hX'
      have HLEN : Hid (X'.length ≤ j + 1) := hid (by have := stepG_len X ⟨ok, ov, oi, (ox, oy, oa, ob)⟩; rw [hX'] at this; have := HN.out.1; omega)
      clear hp hX'
      go_upto_region 8 with fail
      obtain ⟨w5, hw5⟩ : ∃ w5, w5 = wr.alloc (.cells #[.int .i64 ok, .int .i64 ov, .int .i64 oi, .int .i64 ox, .int .i64 oy, .int .i64 oa, .int .i64 ob] 41) := ⟨_, rfl⟩
      rw [← hw5]
      have hb5 : Below wr.heap.size wr w5 := by rw [hw5]; exact Below.new _ _
      obtain ⟨bb, hbb⟩ : ∃ bb, bb = wr.heap.size := ⟨_, rfl⟩
      rw [← hbb]
      have HO5 : Hid (Blk w5 bb #[.int .i64 ok, .int .i64 ov, .int .i64 oi, .int .i64 ox, .int .i64 oy, .int .i64 oa, .int .i64 ob]) := hid (by rw [hw5, hbb]; exact Blk.new _ _ _)
      have HBO5 := hid (HBO.out.below hb5)
      have HB5 := hid (Below.next HB.out hb5)
      clear hw5 hb5 hbb q0 q1 q2 q3 q4 q5 q6
      have x0 : w5.cell? ⟨bb, 0, none⟩ = some (.int .i64 ok) := by rw [HO5.out.cell]; rfl
      have x1 : w5.cell? ⟨bb, 1, none⟩ = some (.int .i64 ov) := by rw [HO5.out.cell]; rfl
      have x2 : w5.cell? ⟨bb, 2, none⟩ = some (.int .i64 oi) := by rw [HO5.out.cell]; rfl
      have x3 : w5.cell? ⟨bb, 3, none⟩ = some (.int .i64 ox) := by rw [HO5.out.cell]; rfl
      have x4 : w5.cell? ⟨bb, 4, none⟩ = some (.int .i64 oy) := by rw [HO5.out.cell]; rfl
      have x5 : w5.cell? ⟨bb, 5, none⟩ = some (.int .i64 oa) := by rw [HO5.out.cell]; rfl
      have x6 : w5.cell? ⟨bb, 6, none⟩ = some (.int .i64 ob) := by rw [HO5.out.cell]; rfl
      go_wp2_with fail
      refine (law14_step ⟨ok, ov, oi, (ox, oy, oa, ob)⟩ s F _ X w5 HBO5.out (by have := HN.out.1; have := H120.out; omega)).mono ?_
      rintro e w6 ⟨F', v', rfl, hbo6, hu6, hF6, -⟩
      rw [HXN.out] at hbo6
      have HBO6 := hid hbo6
      have HB6 := hid (HB5.out.trans (hu6.below HB5.out.size (fun k _ q => HN.out.2 k q)))
      have HN6 : Hid (X'.length ≤ j + 1 ∧ (∀ k, F' k → w.heap.size ≤ k)) := hid ⟨HLEN.out, fun k hk => by
        rcases hF6 k hk with q | q
        · exact HN.out.2 k q
        · have := HB5.out.size; omega⟩
      clear hbo6 hu6 hF6 x0 x1 x2 x3 x4 x5 x6
      obtain ⟨av, cv, hv, -⟩ := id HBO6.out.l
      have HVE := hid hv
      clear hv
      go_wp2_with fail
      refine (rt_Check w6 s F' X' HBO6.out.t (by have := HLEN.out; have := H120.out; omega)).mono ?_
      rintro e w7 ⟨rfl, hb7⟩
      replace HBO6 := hid (HBO6.out.below hb7)
      replace HB6 := hid (Below.next HB6.out hb7)
      clear hb7
      go_wp2_with fail
      refine (rt_Len w7 s F' X' HBO6.out.t).mono ?_
      rintro e w8 ⟨rfl, h8⟩
      replace h8 := h8.symm
      subst h8
      have hv := HVE.out
      subst hv
      go_wp2_with fail
      go_roundw
      case rel => exact ⟨j + 1, X', F', by go_num, by omega, HBO6, HN6, HB6⟩
      case measure => simp [intOf]; omega
    · have j1 : ¬ (j : Int) < (L.length : Int) := by omega
      have HJ : Hid (X.length ≤ L.length) := hid (by have := HN.out.1; omega)
      have HT := hid HBO.out.t
      have hv900 : X.length ≤ 900 := by have := HJ.out; have := H120.out; omega
      have HV9 := hid hv900
      clear hv900
      go_wp2_with fail
      refine (rt_All wr s).mono ?_
      rintro e w2 ⟨bT, bI, rfl, hT, hI, hb2⟩
      have HTI := hid (And.intro hT hI)
      have HBO2 := hid (HBO.out.below hb2)
      have HB2 := hid (Below.next HB.out hb2)
      clear hT hI hb2
      go_wp2_with fail
      refine (law14_thingsL w2 bT bI s _ F X _ _ rightR 0 HTI.out.1 HTI.out.2 HBO2.out.t HV9.out (fun z _ => test_All _ _ z)).mono ?_
      rintro e w3 ⟨Y, hYp, hq⟩
      obtain ⟨v3, rfl, hs3, hb3⟩ := hq.whole
      rw [flR_right HBO2.out.t] at hYp
      have HY := hid (And.intro hYp hs3)
      have HBO3 := hid (HBO2.out.below hb3)
      have HB3 := hid (Below.next HB2.out hb3)
      clear hYp hs3 hb3 hq
      go_wp2_with fail
      refine (ref14_Same w3 HY.out.2 HBO3.out.l (by have := HV9.out; rw [HY.out.1.length_eq]; omega) HY.out.1 (HY.out.1.nodup_iff.2 HBO3.out.nd)).mono ?_
      rintro e w4 ⟨rfl, hb4⟩
      have HB4 := hid (Below.next HB3.out hb4)
      clear hb4
      go_wp2_with fail
      refine (law14_awake w4).mono ?_
      rintro e w5 ⟨rfl, hb5⟩
      have HB5 := hid (Below.next HB4.out hb5)
      clear hb5
      go_wp2_with fail
      go_ret
      exact ⟨rfl, HB5.out⟩
set_option maxRecDepth 100000 in
theorem RtreePlays_walk {H : Type} {enc : TypeId × Value → H} {b0 : Nat} {d0 : DataW H} {p0 : List MemPlace} (v0 : Value) (w : World) (ok0 : Value.okWide Try.prog w .any b0 36 v0) (k0 : DataW.Trod enc Try.prog w 0 (fun _ => true) true 36 v0 d0 p0) :
    Calls Try.prog 4 #[v0] w fun e w' => e = .returned (.bool true) ∧ Below w.heap.size w w' := by
  obtain ⟨L, hl⟩ := open_opsG ok0 k0
  obtain ⟨a, c, rfl, h2⟩ := id hl
  exact law14_Plays L a c w hl
end Go.Proofs.Ytjbnfppnmljbmaa
end
section
/- Contract of rtree's Bounds. -/
namespace Go.Proofs.Ytjbnfppnmljbmaa
open Go.RowKit
open Go.Lib (hid)
set_option linter.unusedVariables false
attribute [local go_sem] Oper.semAt_some

set_option maxRecDepth 100000 in
set_option maxHeartbeats 4000000 in
theorem rt_Bounds (w : World) (s d : Nat) (n : Nd) (cnt : Int) (x y a b : Int) (ht : TreeAt w s d n cnt) (hr : n.r = (x, y, a, b)) :
    Calls Try.prog 30 #[.pointer (some ⟨s, 0, none⟩)] w fun e w' => e = .returned (.tuple #[.agg #[.int .i64 x, .int .i64 y, .int .i64 a, .int .i64 b], .bool (decide (0 < cnt))]) ∧ Below w.heap.size w w' := by
  have hbs := ht.blk
  have hbn := ht.node.blk
  unfold ptrN at hbs
  obtain ⟨p, hp⟩ : ∃ p, n.p = p := ⟨_, rfl⟩
  rw [hp] at hbs hbn
  obtain ⟨c0, c1, -⟩ := hbs.c2
  obtain ⟨d0, d1, d2, d3⟩ : w.cell? ⟨p, 0, none⟩ = some (.int .i64 x) ∧ w.cell? ⟨p, 1, none⟩ = some (.int .i64 y) ∧ w.cell? ⟨p, 2, none⟩ = some (.int .i64 a) ∧ w.cell? ⟨p, 3, none⟩ = some (.int .i64 b) := by
    have := hbn.c7.1
    rw [hr] at this; exact this
  have HSP : Hid (s < w.heap.size ∧ p < w.heap.size) := hid ⟨hbs.lt, hbn.lt⟩
  clear ht hr hbs hbn hp
  go_enter Try.func30, Try.ntmps30
  go_upto_region 1 with fail
  obtain ⟨w1, hw1⟩ : ∃ w1, w1 = w.alloc (.cells #[.int .i64 0, .int .i64 0, .int .i64 0, .int .i64 0] 33) := ⟨_, rfl⟩
  rw [← hw1]
  obtain ⟨g, hg⟩ : ∃ g, g = w.heap.size := ⟨_, rfl⟩
  rw [← hg]
  have hb1 : Below w.heap.size w w1 := by rw [hw1]; exact Below.new _ _
  have hblk8 : Blk w1 g #[.int .i64 0, .int .i64 0, .int .i64 0, .int .i64 0] := by rw [hw1, hg]; exact Blk.new _ _ _
  have HB1 := hid hb1
  have HG := hid hg
  replace c0 := cellOf_belowR hb1 c0
  replace c1 := cellOf_belowR hb1 c1
  replace d0 := cellOf_belowR hb1 d0
  replace d1 := cellOf_belowR hb1 d1
  replace d2 := cellOf_belowR hb1 d2
  replace d3 := cellOf_belowR hb1 d3
  clear hw1 hg hb1
  have hsg : ¬ s = g := fun q => by have h1 := HG.out; have h2 := HSP.out.1; omega
  have hpg : ¬ p = g := fun q => by have h1 := HG.out; have h2 := HSP.out.2; omega
  replace c0 := fun (z : World) (hz : Upd (fun k => k = g) w1 z) => hz.cell c0 hsg
  replace c1 := fun (z : World) (hz : Upd (fun k => k = g) w1 z) => hz.cell c1 hsg
  replace d0 := fun (z : World) (hz : Upd (fun k => k = g) w1 z) => hz.cell d0 hpg
  replace d1 := fun (z : World) (hz : Upd (fun k => k = g) w1 z) => hz.cell d1 hpg
  replace d2 := fun (z : World) (hz : Upd (fun k => k = g) w1 z) => hz.cell d2 hpg
  replace d3 := fun (z : World) (hz : Upd (fun k => k = g) w1 z) => hz.cell d3 hpg
  have hyd : Upd (fun k => k = g) w1 w1.drew := Upd.of_below (Below.refl w1.heap.size w1).drew
  clear hsg hpg
  refine wp_region_kept [13] (fun z => Upd (fun k => k = g) w1 z) (by kernel_rfl) (by assumption) (fun hH => ?_)
  refine wpK.take (i := 0) (v := _) (by simp only [List.getElem?_toArray, List.getElem?_cons_succ, List.getElem?_cons_zero]; rfl) (by kernel_rfl) (by kernel_rfl) (by kernel_rfl) (by kernel_rfl) (by kernel_rfl) (by exact fun _ _ _ h => h) (by first | exact Or.inl ⟨by rfl, by intro w hSw; go_simp; try with_reducible rfl⟩ | exact Or.inr ⟨by rfl, rfl⟩) hH ?_
  try simp only [Act.put, List.setIfInBounds_toArray, List.set_cons_zero, List.set_cons_succ]
  refine wpK.take (i := 1) (v := _) (by simp only [List.getElem?_toArray, List.getElem?_cons_succ, List.getElem?_cons_zero]; rfl) (by kernel_rfl) (by kernel_rfl) (by kernel_rfl) (by kernel_rfl) (by kernel_rfl) (by exact fun _ _ _ h => h) (by first | exact Or.inl ⟨by rfl, by intro w hSw; go_simp; try with_reducible rfl⟩ | exact Or.inr ⟨by rfl, rfl⟩) hH ?_
  try simp only [Act.put, List.setIfInBounds_toArray, List.set_cons_zero, List.set_cons_succ]
  refine wpK.take (i := 2) (v := _) (by simp only [List.getElem?_toArray, List.getElem?_cons_succ, List.getElem?_cons_zero]; rfl) (by kernel_rfl) (by kernel_rfl) (by kernel_rfl) (by kernel_rfl) (by kernel_rfl) (by exact fun _ _ _ h => h) (by first | exact Or.inl ⟨by rfl, by intro w hSw; go_simp; try with_reducible rfl⟩ | exact Or.inr ⟨by rfl, rfl⟩) hH ?_
  try simp only [Act.put, List.setIfInBounds_toArray, List.set_cons_zero, List.set_cons_succ]
  refine wpK.take (i := 3) (v := _) (by simp only [List.getElem?_toArray, List.getElem?_cons_succ, List.getElem?_cons_zero]; rfl) (by kernel_rfl) (by kernel_rfl) (by kernel_rfl) (by kernel_rfl) (by kernel_rfl) (by exact fun _ _ _ h => h) (by first | exact Or.inl ⟨by rfl, by intro w hSw; go_simp; try with_reducible rfl⟩ | exact Or.inr ⟨by rfl, rfl⟩) hH ?_
  try simp only [Act.put, List.setIfInBounds_toArray, List.set_cons_zero, List.set_cons_succ]
  refine wpK.take (i := 4) (v := _) (by simp only [List.getElem?_toArray, List.getElem?_cons_succ, List.getElem?_cons_zero]; rfl) (by kernel_rfl) (by kernel_rfl) (by kernel_rfl) (by kernel_rfl) (by kernel_rfl) (by exact fun _ _ _ h => h) (by first | exact Or.inl ⟨by rfl, by intro w hSw; go_simp; try with_reducible rfl⟩ | exact Or.inr ⟨by rfl, rfl⟩) hH ?_
  try simp only [Act.put, List.setIfInBounds_toArray, List.set_cons_zero, List.set_cons_succ]
  refine wpK.take (i := 5) (v := _) (by simp only [List.getElem?_toArray, List.getElem?_cons_succ, List.getElem?_cons_zero]; rfl) (by kernel_rfl) (by kernel_rfl) (by kernel_rfl) (by kernel_rfl) (by kernel_rfl) (by exact fun _ _ _ h => h) (by first | exact Or.inl ⟨by rfl, by intro w hSw; go_simp; try with_reducible rfl⟩ | exact Or.inr ⟨by rfl, rfl⟩) hH ?_
  try simp only [Act.put, List.setIfInBounds_toArray, List.set_cons_zero, List.set_cons_succ]
  refine wpK.take (i := 6) (v := _) (by simp only [List.getElem?_toArray, List.getElem?_cons_succ, List.getElem?_cons_zero]; rfl) (by kernel_rfl) (by kernel_rfl) (by kernel_rfl) (by kernel_rfl) (by kernel_rfl) (by exact fun _ _ _ h => h) (by first | exact Or.inl ⟨by rfl, by intro w hSw; go_simp; try with_reducible rfl⟩ | exact Or.inr ⟨by rfl, rfl⟩) hH ?_
  try simp only [Act.put, List.setIfInBounds_toArray, List.set_cons_zero, List.set_cons_succ]
  refine wpK.take (i := 7) (v := _) (by simp only [List.getElem?_toArray, List.getElem?_cons_succ, List.getElem?_cons_zero]; rfl) (by kernel_rfl) (by kernel_rfl) (by kernel_rfl) (by kernel_rfl) (by kernel_rfl) (by exact fun _ _ _ h => h) (by first | exact Or.inl ⟨by rfl, by intro w hSw; go_simp; try with_reducible rfl⟩ | exact Or.inr ⟨by rfl, rfl⟩) hH ?_
  try simp only [Act.put, List.setIfInBounds_toArray, List.set_cons_zero, List.set_cons_succ]
  refine wpK.take (i := 8) (v := _) (by simp only [List.getElem?_toArray, List.getElem?_cons_succ, List.getElem?_cons_zero]; rfl) (by kernel_rfl) (by kernel_rfl) (by kernel_rfl) (by kernel_rfl) (by kernel_rfl) (by exact fun _ _ _ h => h) (by first | exact Or.inl ⟨by rfl, by intro w hSw; go_simp; try with_reducible rfl⟩ | exact Or.inr ⟨by rfl, rfl⟩) hH ?_
  try simp only [Act.put, List.setIfInBounds_toArray, List.set_cons_zero, List.set_cons_succ]
  refine wpK.take (i := 9) (v := _) (by simp only [List.getElem?_toArray, List.getElem?_cons_succ, List.getElem?_cons_zero]; rfl) (by kernel_rfl) (by kernel_rfl) (by kernel_rfl) (by kernel_rfl) (by kernel_rfl) (by exact fun _ _ _ h => h) (by first | exact Or.inl ⟨by rfl, by intro w hSw; go_simp; try with_reducible rfl⟩ | exact Or.inr ⟨by rfl, rfl⟩) hH ?_
  try simp only [Act.put, List.setIfInBounds_toArray, List.set_cons_zero, List.set_cons_succ]
  refine wpK.take (i := 10) (v := _) (by simp only [List.getElem?_toArray, List.getElem?_cons_succ, List.getElem?_cons_zero]; rfl) (by kernel_rfl) (by kernel_rfl) (by kernel_rfl) (by kernel_rfl) (by kernel_rfl) (by exact fun _ _ _ h => h) (by first | exact Or.inl ⟨by rfl, by intro w hSw; go_simp; try with_reducible rfl⟩ | exact Or.inr ⟨by rfl, rfl⟩) hH ?_
  try simp only [Act.put, List.setIfInBounds_toArray, List.set_cons_zero, List.set_cons_succ]
  refine wpK.take (i := 11) (v := _) (by simp only [List.getElem?_toArray, List.getElem?_cons_succ, List.getElem?_cons_zero]; rfl) (by kernel_rfl) (by kernel_rfl) (by kernel_rfl) (by kernel_rfl) (by kernel_rfl) (by exact fun _ _ _ h => h) (by first | exact Or.inl ⟨by rfl, by intro w hSw; go_simp; try with_reducible rfl⟩ | exact Or.inr ⟨by rfl, rfl⟩) hH ?_
  try simp only [Act.put, List.setIfInBounds_toArray, List.set_cons_zero, List.set_cons_succ]
  refine wpK.step (i := 12) (by kernel_rfl) (by simp only [List.getElem?_toArray, List.getElem?_cons_succ, List.getElem?_cons_zero]; rfl) (fun K hK => ?_)
  (obtain ⟨p0, p1, p2, p3⟩ := hblk8.c4r); (obtain ⟨f0, f1, f2, f3⟩ := hblk8.f4r); (obtain ⟨wz, hwz, hkz, huz⟩ := set4r hblk8 (.int .i64 x) (.int .i64 y) (.int .i64 a) (.int .i64 b)); (have HBZ : Hid (Below w.heap.size w wz) := hid (HB1.out.trans (huz.below HB1.out.size (fun k _ q => by rw [q]; have := HG.out; omega)))); (have HWZ := hid hwz); (have HKZ := hid hkz); (have hkk : Upd (fun k => k = g) w1 wz.drew := huz.trans (Upd.of_below (Below.refl _ _).drew) (fun _ _ q => q)); clear hwz hkz huz; go_simp; (try rw [← HWZ.out])
  refine hK.out _ _ (by assumption) (fun hH => ?_)
  clear hK K
  try simp only [Act.put, List.setIfInBounds_toArray, List.set_cons_zero, List.set_cons_succ]
  refine wpK.late (i := 13) (by kernel_rfl) (by simp only [List.getElem?_toArray, List.getElem?_cons_succ, List.getElem?_cons_zero]; rfl) (by kernel_rfl) (fun K hK => ?_)
  go_simp
  refine hK.out _ _ ?_
  clear hK K
  try simp only [Act.put, List.setIfInBounds_toArray, List.set_cons_zero, List.set_cons_succ]
  refine wpK.done (by kernel_rfl) ?_ _
  clear c0 c1 d0 d1 d2 d3 hyd hH hkk
  obtain ⟨z0, z1, z2, z3⟩ := HKZ.out.c4r
  go_wp2_with fail
  refine bodyPost_ret (results_cell_tmp rfl _ _ _ rfl (by go_simp; rfl)) rfl ?_
  exact ⟨by simp, HBZ.out.drew⟩
end Go.Proofs.Ytjbnfppnmljbmaa
end
