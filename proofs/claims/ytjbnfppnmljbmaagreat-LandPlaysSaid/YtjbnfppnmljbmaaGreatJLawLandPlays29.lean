/- Joined texts, in this order: Law19Rt, OpenE, OpenL. Each one's first remark says what it proves; no condition beyond those that its theorems name. -/
import Derived.Test.YtjbnfppnmljbmaaGreatJLawLandPlays24
import Derived.Test.YtjbnfppnmljbmaaGreatJLawLandPlays25
import Derived.Test.YtjbnfppnmljbmaaGreatJLawLandPlays01
import Derived.Test.YtjbnfppnmljbmaaGreatJLawLandPlays02
import Derived.Deep.Slices
import Derived.Deep.Fields
import Derived.ChangeSame
import Derived.OpenShut
import Derived.Test.YtjbnfppnmljbmaaGreatJLawLandPlays27
import Derived.Lib.SmallJoins
section
/- Law 19: right, inside. -/
namespace Go.Proofs.YtjbnfppnmljbmaaGreat
open Go.RowKit Go.Deep
open Go.Lib (hid)
set_option linter.unusedVariables false
attribute [local go_sem] Oper.semAt_some

def sideOk (S : Int) : Bool := decide (S = 16 ∨ S = 32 ∨ S = 64 ∨ S = 128 ∨ S = 256)
theorem sideOk_iff (S : Int) : sideOk S = true ↔ rightQ S = true ∧ 16 ≤ S := by
  unfold sideOk
  rw [decide_eq_true_iff]
  constructor
  · rintro (rfl | rfl | rfl | rfl | rfl) <;> exact ⟨by decide, by decide⟩
  · rintro ⟨h1, h2⟩
    have h3 : S ≤ 256 := by
      unfold rightQ at h1
      simp at h1
      exact h1.2.1
    obtain ⟨n, rfl⟩ : ∃ n : Nat, S = (n : Int) := ⟨S.toNat, by omega⟩
    have := (rightQ_all ⟨n, by omega⟩ (by simp; omega)).1 h1
    simp only at this
    omega
def withB (S : Int) (b : R4) : Bool := decide (WithinR b S)
def rtX (S : Int) (Bs : List R4) : Bool := sideOk S && Bs.all (withB S)
theorem rtX_iff (S : Int) (Bs : List R4) : rtX S Bs = true ↔ okL S Bs := by
  unfold rtX okL withB
  rw [Bool.and_eq_true, sideOk_iff, List.all_eq_true]
  simp
theorem rtX_snoc (S : Int) (A : List R4) (r : R4) : rtX S (A ++ [r]) = (rtX S A && withB S r) := by
  unfold rtX
  rw [List.all_append, List.all_cons, List.all_nil, Bool.and_true, Bool.and_assoc]
def RgR (w : World) (S : Int) (Bs : List R4) (n : Nat) (v5 v28 : Value) (wr : World) : Prop := ∃ (j : Nat) (q : Bool), v5 = .bool q ∧ v28 = .int .i64 (j : Int) ∧ j ≤ n ∧ Hid (rtX S (Bs.take j) = q) ∧ Hid (Below w.heap.size w wr)
set_option maxRecDepth 100000 in
set_option maxHeartbeats 4000000 in
theorem law19_right0 (S : Int) (av : Option Addr) (nb cb : Nat) (Bs : List R4) (w : World) (hs : SlR w (.slice av nb cb) Bs) (hl : Bs.length ≤ 1000) (x : Bool) (hx : Hid (rtX S Bs = x)) : Calls Tryz.prog 6 #[.int .i64 S, .slice av nb cb] w fun e w' => e = .returned (.bool x) ∧ Below w.heap.size w w' := by
  have hnb : Bs.length = nb := by obtain ⟨a, c, e, -⟩ := hs; simp only [Value.slice.injEq] at e; exact e.2.1.symm
  have HS := hid hs
  have HN := hid hnb
  rw [hnb] at hl
  obtain ⟨q0, hq0⟩ : ∃ q0, sideOk S = q0 := ⟨_, rfl⟩
  have HQ0 : Hid (rtX S (Bs.take 0) = q0) := hid (by unfold rtX; simpa using hq0)
  clear hs hnb
  go_enter Tryz.func6, Tryz.ntmps6
  go_upto_region 1 with fail
  go_cut [5] (fun c wx => c = .bool q0 ∧ w = wx)
  case first =>
    unfold sideOk at hq0
    by_cases s1 : S = 16
    · subst s1
      obtain rfl : q0 = true := by rw [← hq0]; decide
      go_wp2_with fail
      go_meet
      exact ⟨rfl, rfl⟩
    by_cases s2 : S = 32
    · subst s2
      obtain rfl : q0 = true := by rw [← hq0]; decide
      go_wp2_with fail
      go_meet
      exact ⟨rfl, rfl⟩
    by_cases s3 : S = 64
    · subst s3
      obtain rfl : q0 = true := by rw [← hq0]; decide
      go_wp2_with fail
      go_meet
      exact ⟨rfl, rfl⟩
    by_cases s4 : S = 128
    · subst s4
      obtain rfl : q0 = true := by rw [← hq0]; decide
      go_wp2_with fail
      go_meet
      exact ⟨rfl, rfl⟩
    by_cases s5 : S = 256
    · subst s5
      obtain rfl : q0 = true := by rw [← hq0]; decide
      go_wp2_with fail
      go_meet
      exact ⟨rfl, rfl⟩
    obtain rfl : q0 = false := by rw [← hq0]; simp [s1, s2, s3, s4, s5]
    have t1 : (S == 16) = false := by simpa using s1
    have t2 : (S == 32) = false := by simpa using s2
    have t3 : (S == 64) = false := by simpa using s3
    have t4 : (S == 128) = false := by simpa using s4
    have t5 : (S == 256) = false := by simpa using s5
    clear hq0
    go_wp2_with fail
    go_meet
    exact ⟨by simp [t1, t2, t3, t4, t5], rfl⟩
  case rest =>
  obtain ⟨rfl, rfl⟩ := hcut
  clear hq0
  go_wp2_with fail
  go_loopw [5, 28] (fun v5 v28 wr => RgR w S Bs nb v5 v28 wr) (fun _ v28 _ => nb - (intOf v28).toNat)
  case atStart => exact ⟨0, q0, rfl, rfl, by omega, HQ0, hid (Below.refl _ _)⟩
  case round =>
    obtain ⟨j, q, rfl, rfl, hj, HR, HB⟩ := hrel
    by_cases hlt : j < nb
    · have j1 : (j : Int) < (nb : Int) := by omega
      have j0 : (0 : Int) ≤ (j : Int) := by omega
      have j9 : (j : Int) < 1000 := by omega
      obtain ⟨a', c', e', hrd, -⟩ := HS.out.below HB.out
      simp only [Value.slice.injEq] at e'
      obtain ⟨rfl, -, rfl⟩ := e'
      obtain ⟨b0, off, r, rfl, d0, d1, d2, d3, hat, -, htk⟩ := hrd.four j (by rw [HN.out]; exact hlt)
      obtain ⟨x1, x2, x3, x4⟩ := r
      simp only at d0 d1 d2 d3
      obtain ⟨qw, hqw⟩ : ∃ qw, withB S (x1, x2, x3, x4) = qw := ⟨_, rfl⟩
      have HR2 : Hid (rtX S (Bs.take (j + 1)) = (q && qw)) := hid (by rw [htk, rtX_snoc, HR.out, hqw])
      have HQW : Hid (decide (WithinR (x1, x2, x3, x4) S) = qw) := hid hqw
      clear hat htk hrd hqw
      go_upto_region 5 with fail
      obtain ⟨w2, hw2⟩ : ∃ w2, w2 = wr.alloc (.cells #[.int .i64 x1, .int .i64 x2, .int .i64 x3, .int .i64 x4] 25) := ⟨_, rfl⟩
      rw [← hw2]
      obtain ⟨g, hg⟩ : ∃ g, g = wr.heap.size := ⟨_, rfl⟩
      rw [← hg]
      have hb2 : Below wr.heap.size wr w2 := by rw [hw2]; exact Below.new _ _
      have hk : Blk w2 g #[.int .i64 x1, .int .i64 x2, .int .i64 x3, .int .i64 x4] := by rw [hw2, hg]; exact Blk.new _ _ _
      have HB2 := hid (Below.next HB.out hb2)
      clear hw2 hg hb2 d0 d1 d2 d3
      obtain ⟨c0, c1, c2, c3⟩ := hk.c4r
      cases q with
      | false =>
        go_wp2_with fail
        go_roundw
        case rel => exact ⟨j + 1, false, rfl, by go_num, by omega, HR2, HB2⟩
        case measure => simp [intOf]; omega
      | true =>
        clear hk
        go_wp2_with fail
        refine (law19_ref x1 x2 x3 x4 w2).mono ?_
        rintro e w3 ⟨rfl, hb3⟩
        have HB3 := hid (Below.next HB2.out hb3)
        clear hb3 c0 c1 c2 c3
        go_wp2_with fail
        refine (ref19_Within x1 x2 x3 x4 S w3 qw HQW).mono ?_
        rintro e w4 ⟨rfl, hb4⟩
        have HB4 := hid (Below.next HB3.out hb4)
        clear hb4
        have HR3 : Hid (rtX S (Bs.take (j + 1)) = qw) := hid (by rw [HR2.out, Bool.true_and])
        go_wp2_with fail
        go_roundw
        case rel => exact ⟨j + 1, qw, rfl, by go_num, by omega, HR3, HB4⟩
        case measure => simp [intOf]; omega
    · have j1 : ¬ (j : Int) < (nb : Int) := by omega
      have HX : Hid (q = x) := hid (by
        rw [← HR.out, ← hx.out, List.take_of_length_le (by rw [HN.out]; omega)])
      go_wp2_with fail
      go_ret
      rw [HX.out]
      exact ⟨rfl, HB.out⟩
theorem law19_right (S : Int) (v : Value) (Bs : List R4) (w : World) (hs : SlR w v Bs) (hl : Bs.length ≤ 1000) (x : Bool) (hx : Hid (rtX S Bs = x)) : Calls Tryz.prog 6 #[.int .i64 S, v] w fun e w' => e = .returned (.bool x) ∧ Below w.heap.size w w' := by
  obtain ⟨a, c, rfl, -⟩ := id hs
  exact law19_right0 S a _ c Bs w hs hl x hx
set_option maxRecDepth 100000 in
theorem law19_inside (rx ry ra rb : Int) (w : World) (q : Bool) (hq : Hid (rightR (rx, ry, ra, rb) = q)) : Calls Tryz.prog 14 #[.agg #[.int .i64 rx, .int .i64 ry, .int .i64 ra, .int .i64 rb]] w fun e w' => e = .returned (.bool q) ∧ Below w.heap.size w w' := by
  go_enter Tryz.func14, Tryz.ntmps14
  go_upto_region 1 with fail
  obtain ⟨w2, hw2⟩ : ∃ w2, w2 = w.alloc (.cells #[.int .i64 rx, .int .i64 ry, .int .i64 ra, .int .i64 rb] 25) := ⟨_, rfl⟩
  rw [← hw2]
  have hb2 : Below w.heap.size w w2 := by rw [hw2]; exact Below.new _ _
  have hk : Blk w2 w.heap.size #[.int .i64 rx, .int .i64 ry, .int .i64 ra, .int .i64 rb] := by rw [hw2]; exact Blk.new _ _ _
  have HB2 := hid hb2
  clear hw2 hb2
  obtain ⟨c0, c1, c2, c3⟩ := hk.c4r
  clear hk
  go_wp2_with fail
  refine (law19_ref rx ry ra rb w2).mono ?_
  rintro e w3 ⟨rfl, hb3⟩
  have HB3 := hid (Below.next HB2.out hb3)
  clear hb3 c0 c1 c2 c3
  go_wp2_with fail
  refine (ref02_Right4 rx ry ra rb q hq w3).mono ?_
  rintro e w4 ⟨rfl, hb4⟩
  have HB4 := hid (Below.next HB3.out hb4)
  clear hb4
  go_wp2_with fail
  go_ret
  exact ⟨rfl, HB4.out⟩
end Go.Proofs.YtjbnfppnmljbmaaGreat
end
section
/- What comes in, opened: a slice of elements of k cells, each of which reads as E says. No program in sight. -/
namespace Go.Proofs.YtjbnfppnmljbmaaGreat
open Go.RowKit Go.ChangeShapes Go.WideShapes Go.Deep
open Go.Lib (hid)
set_option linter.unusedVariables false

/-- a slice whose elements of k cells read as E says -/
def SlE {α : Type} (E : World → (Nat → Option Value) → α → Prop) (k : Nat) (w : World) (v : Value) (L : List α) : Prop :=
  ∃ a c, v = .slice a L.length c ∧ L.length ≤ c ∧ c ≤ 9223372036854775807 ∧ (a = none → c = 0) ∧
    ∀ i x, L[i]? = some x → ∃ b off, a = some ⟨b, off, none⟩ ∧ b < w.heap.size ∧ E w (fun j => w.cell? ⟨b, off + i * k + j, none⟩) x
/-- what a reading of an element keeps -/
structure Kept {α : Type} (E : World → (Nat → Option Value) → α → Prop) (k : Nat) : Prop where
  keep : ∀ {w w' : World} {f g : Nat → Option Value} {x : α}, Below w.heap.size w w' → (∀ j u, j < k → f j = some u → g j = some u) → E w f x → E w' g x
  zero : ∀ {w : World} {f : Nat → Option Value} {x : α}, E w f x → ∃ u, f 0 = some u
theorem SlE.below {α : Type} {E : World → (Nat → Option Value) → α → Prop} {k : Nat} (K : Kept E k) {w w' : World} {v : Value} {L : List α} (h : SlE E k w v L) (hb : Below w.heap.size w w') : SlE E k w' v L := by
  obtain ⟨a, c, h1, h2, h3, h4, h5⟩ := h
  refine ⟨a, c, h1, h2, h3, h4, fun i x hx => ?_⟩
  obtain ⟨b, off, k1, k2, k3⟩ := h5 i x hx
  exact ⟨b, off, k1, Nat.lt_of_lt_of_le k2 hb.size, K.keep hb (fun j u _ hu => by rw [← hu]; exact World.cell?_of_block (hb.block b k2)) k3⟩
theorem open_slE {α : Type} [Inhabited α] {E : World → (Nat → Option Value) → α → Prop} {k : Nat} (K : Kept E k) {H : Type} {enc : TypeId × Value → H} {P : Program} {t e : TypeId} {w : World} {r0 : Reach} {b0 : Nat} {v : Value} {d : DataW H} {p : List MemPlace}
    (ht : P.underlying t = some (.slice e)) (hk : P.cellsOf e = k) (elem : ∀ (n : Nat) (cs : List Value) (x : DataW H × List MemPlace), DataW.trod enc P w 0 (fun _ => true) true n e cs = some x → ∃ t, E w (fun j => cs[j]?) t)
    (hok : Value.okWide P w r0 b0 t v) (h : DataW.Trod enc P w 0 (fun _ => true) true t v d p) : ∃ L, SlE E k w v L := by
  obtain ⟨a0, len0, cap0, rfl⟩ := okWide_slice ht hok
  obtain ⟨fuel, hf⟩ := h
  rcases open_slice ht hf with ⟨hcs, -⟩ | ⟨a, len, cap, m, n, D, Pl, hcs, hb, hl, hm, hmm, hx, hi⟩
  · simp [Value.cells] at hcs
    obtain ⟨rfl, rfl, rfl⟩ := hcs
    exact ⟨[], none, 0, rfl, by simp, by omega, fun _ => rfl, fun i r hr => by simp at hr⟩
  · simp [Value.cells] at hcs
    obtain ⟨rfl, rfl, rfl⟩ := hcs
    simp only [if_true] at hmm
    obtain rfl : cap0 = m := hmm.symm
    have key : ∀ i, i < cap0 → ∃ q : α, E w (fun j => w.cell? (a.add (i * k + j))) q := by
      intro i hic
      obtain ⟨cs', hc, ht'⟩ := hi i hic
      rw [hk] at hc
      obtain ⟨t, ht⟩ := elem _ _ _ ht'
      obtain ⟨-, hcl, hat⟩ := World.cells?_some hc
      exact ⟨t, K.keep (Below.refl _ _) (fun j u hj hu => by rw [← Go.Deep.add_add, hat j hj]; exact hu) ht⟩
    obtain ⟨f, hfun⟩ := choose_lt key
    have hlen : ((List.range len0).map f).length = len0 := by simp
    refine ⟨(List.range len0).map f, some a, cap0, by rw [hlen], by rw [hlen]; exact hl, by unfold maxLen at hm; omega, nofun, ?_⟩
    intro i r hr
    rw [List.getElem?_map] at hr
    by_cases hil : i < len0
    · rw [List.getElem?_range hil] at hr
      simp at hr
      subst hr
      have q := hfun i (by omega)
      obtain ⟨b, off, spot⟩ := a
      obtain ⟨u0, p0⟩ := K.zero (hfun 0 (by omega))
      have hspot : spot = none := by simpa [Addr.add] using World.cell?_spot p0
      subst hspot
      obtain ⟨u1, q0⟩ := K.zero q
      simp only [Addr.add_lit] at q0
      refine ⟨b, off, rfl, World.block_lt_of_cell? w _ q0, K.keep (Below.refl _ _) (fun j u hj hu => ?_) q⟩
      rw [Addr.add_lit] at hu
      rw [Nat.add_assoc]; exact hu
    · rw [List.getElem?_eq_none (by simp; omega)] at hr; simp at hr
theorem structE_fields {H : Type} {enc : TypeId × Value → H} {P : Program} {w : World} {base : Nat} {spare : Nat → Bool} {held : Bool} {t : TypeId} {fs : Array Field} {n : Nat} {cs : List Value} {x : DataW H × List MemPlace} (ht : P.underlying t = some (.struct fs)) (hone : oneCellFields P fs = true)
    (h : DataW.trod enc P w base spare held n t cs = some x) : cs.length = P.cellsOf t ∧ ∃ (ys : List (DataW H × List MemPlace)) (n' : Nat), ys.length = fs.size ∧ ∀ (j : Nat) (f : Field), fs[j]? = some f → DataW.trod enc P w base spare held n' f.type ((cs.drop j).take 1) = ys[j]? := by
  obtain ⟨ys, n', hn', hy, hlen, hyl, hf⟩ := DataW.trod_struct ht h
  refine ⟨hlen, ys, n', hyl, fun j f hj => ?_⟩
  obtain ⟨ho, hk⟩ := hone_of hone j f hj
  have := hf j f hj
  rwa [ho, hk] at this
theorem listOf2 {α : Type} : ∀ {l : List α}, l.length = 2 → ∃ a b, l = [a, b]
  | [a, b], _ => ⟨a, b, rfl⟩
theorem listOf3 {α : Type} : ∀ {l : List α}, l.length = 3 → ∃ a b c, l = [a, b, c]
  | [a, b, c], _ => ⟨a, b, c, rfl⟩
theorem listOf4 {α : Type} : ∀ {l : List α}, l.length = 4 → ∃ a b c d, l = [a, b, c, d]
  | [a, b, c, d], _ => ⟨a, b, c, d, rfl⟩
theorem listOf5 {α : Type} : ∀ {l : List α}, l.length = 5 → ∃ a b c d e, l = [a, b, c, d, e]
  | [a, b, c, d, e], _ => ⟨a, b, c, d, e, rfl⟩
theorem listOf6 {α : Type} : ∀ {l : List α}, l.length = 6 → ∃ a b c d e f, l = [a, b, c, d, e, f]
  | [a, b, c, d, e, f], _ => ⟨a, b, c, d, e, f, rfl⟩
end Go.Proofs.YtjbnfppnmljbmaaGreat
end
section
/- What comes in, opened: the law's calls of land; rectangles. -/
namespace Go.Proofs.YtjbnfppnmljbmaaGreat
open Go.RowKit Go.ChangeShapes Go.WideShapes Go.Deep Go.Joins
open Go.Lib (hid)
set_option linter.unusedVariables false

set_option maxRecDepth 100000 in
theorem trod_rectL {H : Type} {enc : TypeId × Value → H} {w : World} {n : Nat} {cs : List Value} {x : DataW H × List MemPlace} (h : DataW.trod enc Tryz.prog w 0 (fun _ => true) true n 25 cs = some x) :
    ∃ r : R4, cs = [.int .i64 r.1, .int .i64 r.2.1, .int .i64 r.2.2.1, .int .i64 r.2.2.2] := by
  obtain ⟨ys, n', -, -, hlen0, hyl, hf⟩ := DataW.trod_struct Tryz.underlying25 h
  have h4 : Tryz.prog.cellsOf 25 = 4 := by kernel_rfl
  have hlen : cs.length = 4 := by rw [← h4]; exact hlen0
  obtain ⟨c0, c1, c2, c3, rfl⟩ := listOf4 hlen
  obtain ⟨z0, z1, z2, z3, rfl⟩ := listOf4 (show ys.length = 4 from hyl)
  have g0 : DataW.trod enc Tryz.prog w 0 (fun _ => true) true n' 3 [c0] = some z0 := hf 0 _ rfl
  have g1 : DataW.trod enc Tryz.prog w 0 (fun _ => true) true n' 3 [c1] = some z1 := hf 1 _ rfl
  have g2 : DataW.trod enc Tryz.prog w 0 (fun _ => true) true n' 3 [c2] = some z2 := hf 2 _ rfl
  have g3 : DataW.trod enc Tryz.prog w 0 (fun _ => true) true n' 3 [c3] = some z3 := hf 3 _ rfl
  obtain ⟨i0, e0, -, w0⟩ := DataW.trod_int Tryz.underlying3 g0
  obtain ⟨i1, e1, -, w1⟩ := DataW.trod_int Tryz.underlying3 g1
  obtain ⟨i2, e2, -, w2⟩ := DataW.trod_int Tryz.underlying3 g2
  obtain ⟨i3, e3, -, w3⟩ := DataW.trod_int Tryz.underlying3 g3
  simp only [List.cons.injEq, and_true] at e0 e1 e2 e3
  subst e0 e1 e2 e3
  exact ⟨(i0, i1, i2, i3), rfl⟩
set_option maxRecDepth 100000 in
theorem open_rectL {H : Type} {enc : TypeId × Value → H} {w : World} {b0 : Nat} {d0 : DataW H} {p0 : List MemPlace} {v0 : Value} (ok0 : Value.okWide Tryz.prog w .any b0 25 v0) (k0 : DataW.Trod enc Tryz.prog w 0 (fun _ => true) true 25 v0 d0 p0) :
    ∃ r : R4, v0 = rV r := by
  obtain ⟨cs, rfl, hsz⟩ := okWide_struct Tryz.underlying25 ok0
  obtain ⟨fuel, h⟩ := k0
  obtain ⟨l⟩ := cs
  have h' : DataW.trod enc Tryz.prog w 0 (fun _ => true) true fuel 25 l = some (d0, p0) := h
  obtain ⟨r, rfl⟩ := trod_rectL h'
  exact ⟨r, rfl⟩
def RcE (w : World) (f : Nat → Option Value) (x : R4) : Prop :=
  f 0 = some (.int .i64 x.1) ∧ f 1 = some (.int .i64 x.2.1) ∧ f 2 = some (.int .i64 x.2.2.1) ∧ f 3 = some (.int .i64 x.2.2.2)
theorem rcKept : Kept RcE 4 := ⟨fun hb hf h => ⟨hf 0 _ (by omega) h.1, hf 1 _ (by omega) h.2.1, hf 2 _ (by omega) h.2.2.1, hf 3 _ (by omega) h.2.2.2⟩, fun h => ⟨_, h.1⟩⟩
def OpLE (w : World) (f : Nat → Option Value) (x : OpL) : Prop :=
  f 0 = some (.int .i64 x.k) ∧ f 1 = some (.int .i64 x.i) ∧ f 2 = some (.int .i64 x.r.1) ∧ f 3 = some (.int .i64 x.r.2.1) ∧ f 4 = some (.int .i64 x.r.2.2.1) ∧ f 5 = some (.int .i64 x.r.2.2.2) ∧ (Lit.int .i64 x.i).wf = true
theorem opLKept : Kept OpLE 6 := ⟨fun hb hf h => ⟨hf 0 _ (by omega) h.1, hf 1 _ (by omega) h.2.1, hf 2 _ (by omega) h.2.2.1, hf 3 _ (by omega) h.2.2.2.1, hf 4 _ (by omega) h.2.2.2.2.1, hf 5 _ (by omega) h.2.2.2.2.2.1, h.2.2.2.2.2.2⟩, fun h => ⟨_, h.1⟩⟩
set_option maxRecDepth 100000 in
theorem elem_opL {H : Type} {enc : TypeId × Value → H} {w : World} (n : Nat) (cs : List Value) (x : DataW H × List MemPlace) (h : DataW.trod enc Tryz.prog w 0 (fun _ => true) true n 55 cs = some x) : ∃ t, OpLE w (fun j => cs[j]?) t := by
  obtain ⟨ys, n', -, -, hlen0, hyl, one⟩ := DataW.trod_struct Tryz.underlying55 h
  have h6 : Tryz.prog.cellsOf 55 = 6 := by kernel_rfl
  have hlen : cs.length = 6 := by rw [← h6]; exact hlen0
  obtain ⟨c0, c1, c2, c3, c4, c5, rfl⟩ := listOf6 hlen
  obtain ⟨z0, z1, z2, rfl⟩ := listOf3 (show ys.length = 3 from hyl)
  have g0 : DataW.trod enc Tryz.prog w 0 (fun _ => true) true n' 3 [c0] = some z0 := one 0 _ rfl
  have g1 : DataW.trod enc Tryz.prog w 0 (fun _ => true) true n' 3 [c1] = some z1 := one 1 _ rfl
  have g2 : DataW.trod enc Tryz.prog w 0 (fun _ => true) true n' 25 [c2, c3, c4, c5] = some z2 := one 2 _ rfl
  obtain ⟨i0, e0, -, w0⟩ := DataW.trod_int Tryz.underlying3 g0
  obtain ⟨i1, e1, -, w1⟩ := DataW.trod_int Tryz.underlying3 g1
  obtain ⟨⟨r1, r2, r3, r4⟩, e3⟩ := trod_rectL g2
  simp only [List.cons.injEq, and_true] at e0 e1 e3
  obtain ⟨q0, q1, q2, q3⟩ := e3
  subst e0 e1 q0 q1 q2 q3
  exact ⟨⟨i0, i1, (r1, r2, r3, r4)⟩, rfl, rfl, rfl, rfl, rfl, rfl, w1⟩
theorem elem_rc {H : Type} {enc : TypeId × Value → H} {w : World} (n : Nat) (cs : List Value) (x : DataW H × List MemPlace) (h : DataW.trod enc Tryz.prog w 0 (fun _ => true) true n 25 cs = some x) : ∃ t, RcE w (fun j => cs[j]?) t := by
  obtain ⟨r, rfl⟩ := trod_rectL h
  exact ⟨r, rfl, rfl, rfl, rfl⟩
set_option maxRecDepth 100000 in
theorem open_opsL {H : Type} {enc : TypeId × Value → H} {w : World} {b0 : Nat} {d0 : DataW H} {p0 : List MemPlace} {v0 : Value} (ok0 : Value.okWide Tryz.prog w .any b0 23 v0) (k0 : DataW.Trod enc Tryz.prog w 0 (fun _ => true) true 23 v0 d0 p0) : ∃ L, SlE OpLE 6 w v0 L :=
  open_slE opLKept Tryz.underlying23 (by kernel_rfl) elem_opL ok0 k0
theorem SlE.opL {w w' : World} {a : Option Addr} {c : Nat} {L : List OpL} (h : SlE OpLE 6 w (.slice a L.length c) L) (hb : Below w.heap.size w w') {i : Nat} {o : OpL} (hi : L[i]? = some o) :
    (∃ b off, a = some ⟨b, off, none⟩ ∧ w'.cell? ⟨b, off + i * 6, none⟩ = some (.int .i64 o.k) ∧ w'.cell? ⟨b, off + i * 6 + 1, none⟩ = some (.int .i64 o.i) ∧ w'.cell? ⟨b, off + i * 6 + 2, none⟩ = some (.int .i64 o.r.1) ∧ w'.cell? ⟨b, off + i * 6 + 3, none⟩ = some (.int .i64 o.r.2.1) ∧ w'.cell? ⟨b, off + i * 6 + 4, none⟩ = some (.int .i64 o.r.2.2.1) ∧ w'.cell? ⟨b, off + i * 6 + 5, none⟩ = some (.int .i64 o.r.2.2.2)) ∧ (Lit.int .i64 o.i).wf = true := by
  obtain ⟨a', c', e, -, -, -, h5⟩ := h.below opLKept hb
  simp only [Value.slice.injEq, true_and] at e
  obtain ⟨rfl, rfl⟩ := e
  obtain ⟨b, off, rfl, -, k0, k1, k2, k3, k4, k5, k6⟩ := h5 i o hi
  exact ⟨⟨b, off, rfl, k0, k1, k2, k3, k4, k5⟩, k6⟩
theorem SlE.slR {w : World} {v : Value} {X : List R4} (h : SlE RcE 4 w v X) : SlR w v X := by
  obtain ⟨a, c, h1, h2, h3, h4, h5⟩ := h
  refine ⟨a, c, h1, fun i hi => ?_, h2, h3, h4⟩
  rw [svR_length] at hi
  have hj : i / 4 < X.length := by omega
  obtain ⟨x, hx⟩ : ∃ x, X[i / 4]? = some x := ⟨_, List.getElem?_eq_getElem hj⟩
  obtain ⟨b, off, rfl, -, k0, k1, k2, k3⟩ := h5 _ x hx
  obtain ⟨e0, e1, e2, e3⟩ := svR_at X (i / 4) x hx
  refine ⟨b, off, rfl, ?_⟩
  have hr : i % 4 = 0 ∨ i % 4 = 1 ∨ i % 4 = 2 ∨ i % 4 = 3 := by omega
  rcases hr with r | r | r | r
  · have : i = i / 4 * 4 := by omega
    rw [this, e0]; exact k0
  · have : i = i / 4 * 4 + 1 := by omega
    rw [this, e1]; exact k1
  · have : i = i / 4 * 4 + 2 := by omega
    rw [this, e2]; exact k2
  · have : i = i / 4 * 4 + 3 := by omega
    rw [this, e3]; exact k3
set_option maxRecDepth 100000 in
theorem open_rcs {H : Type} {enc : TypeId × Value → H} {w : World} {b0 : Nat} {d0 : DataW H} {p0 : List MemPlace} {v0 : Value} (ok0 : Value.okWide Tryz.prog w .any b0 22 v0) (k0 : DataW.Trod enc Tryz.prog w 0 (fun _ => true) true 22 v0 d0 p0) : ∃ L, SlR w v0 L := by
  obtain ⟨L, h⟩ := open_slE rcKept Tryz.underlying22 (by kernel_rfl) elem_rc ok0 k0
  exact ⟨L, h.slR⟩
end Go.Proofs.YtjbnfppnmljbmaaGreat
end
