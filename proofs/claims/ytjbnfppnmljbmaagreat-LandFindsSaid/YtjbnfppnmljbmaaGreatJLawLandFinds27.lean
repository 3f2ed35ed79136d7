/- Joined texts, in this order: Law19Rt, Law19Py, Law19Wd, LayKeys, Keys, SortI. Each one's first remark says what it proves; no condition beyond those that its theorems name. -/
import Derived.Test.YtjbnfppnmljbmaaGreatJLawLandFinds22
import Derived.Test.YtjbnfppnmljbmaaGreatJLawLandFinds24
import Derived.Test.YtjbnfppnmljbmaaGreatJLawLandFinds26
import Derived.Shelf.SlGeneric
import Derived.Ground.NamesProg
import Derived.Shelf.Sort.Plain
import Derived.Shelf.Slices.In.SortNone
import Derived.Ground.GgzProg
import Derived.Shelf.SlIterI.Nil
import Derived.Test.YtjbnfppnmljbmaaGreatProg
import Derived.Test.YtjbnfppnmljbmaaGreatJLawLandFinds18
import Derived.Test.YtjbnfppnmljbmaaGreatJLawLandFinds01
import Derived.Sort.OwnSortedInts
section
/- Law 19: right, inside. -/
namespace Go.Proofs.YtjbnfppnmljbmaaGreat
open Go.RowKit Go.Deep
open Go.Lib (hid)
set_option linter.unusedVariables false
attribute [local go_sem] Oper.semAt_some

def sideOk (S : Int) : Bool := decide (S = 16 ∨ S = 32 ∨ S = 64 ∨ S = 128 ∨ S = 256)
theorem sideOk_iff (S : Int) : sideOk S = true ↔ rightQ S = true ∧ 16 ≤ S := by
  unfold sideOk
  rw [decide_eq_true_iff]
  constructor
  · rintro (rfl | rfl | rfl | rfl | rfl) <;> exact ⟨by decide, by decide⟩
  · rintro ⟨h1, h2⟩
    have h3 : S ≤ 256 := by
      unfold rightQ at h1
      simp at h1
      exact h1.2.1
    obtain ⟨n, rfl⟩ : ∃ n : Nat, S = (n : Int) := ⟨S.toNat, by omega⟩
    have := (rightQ_all ⟨n, by omega⟩ (by simp; omega)).1 h1
    simp only at this
    omega
def withB (S : Int) (b : R4) : Bool := decide (WithinR b S)
def rtX (S : Int) (Bs : List R4) : Bool := sideOk S && Bs.all (withB S)
theorem rtX_iff (S : Int) (Bs : List R4) : rtX S Bs = true ↔ okL S Bs := by
  unfold rtX okL withB
  rw [Bool.and_eq_true, sideOk_iff, List.all_eq_true]
  simp
theorem rtX_snoc (S : Int) (A : List R4) (r : R4) : rtX S (A ++ [r]) = (rtX S A && withB S r) := by
  unfold rtX
  rw [List.all_append, List.all_cons, List.all_nil, Bool.and_true, Bool.and_assoc]
def RgR (w : World) (S : Int) (Bs : List R4) (n : Nat) (v5 v28 : Value) (wr : World) : Prop := ∃ (j : Nat) (q : Bool), v5 = .bool q ∧ v28 = .int .i64 (j : Int) ∧ j ≤ n ∧ Hid (rtX S (Bs.take j) = q) ∧ Hid (Below w.heap.size w wr)
set_option maxRecDepth 100000 in
set_option maxHeartbeats 4000000 in
theorem law19_right0 (S : Int) (av : Option Addr) (nb cb : Nat) (Bs : List R4) (w : World) (hs : SlR w (.slice av nb cb) Bs) (x : Bool) (hx : Hid (rtX S Bs = x)) : Calls Tryz.prog 6 #[.int .i64 S, .slice av nb cb] w fun e w' => e = .returned (.bool x) ∧ Below w.heap.size w w' := by
  have hnb : Bs.length = nb := by obtain ⟨a, c, e, -⟩ := hs; simp only [Value.slice.injEq] at e; exact e.2.1.symm
  have HS := hid hs
  have HN := hid hnb
  have hl : nb ≤ 9223372036854775807 := by obtain ⟨a, c, e, -, h1, h2, -⟩ := hs; omega
  obtain ⟨q0, hq0⟩ : ∃ q0, sideOk S = q0 := ⟨_, rfl⟩
  have HQ0 : Hid (rtX S (Bs.take 0) = q0) := hid (by unfold rtX; simpa using hq0)
  clear hs hnb
  go_enter Tryz.func6, Tryz.ntmps6
  go_upto_region 1 with fail
  go_cut [5] (fun c wx => c = .bool q0 ∧ w = wx)
  case first =>
    unfold sideOk at hq0
    by_cases s1 : S = 16
    · subst s1
      obtain rfl : q0 = true := by rw [← hq0]; decide
      go_wp2_with fail
      go_meet
      exact ⟨rfl, rfl⟩
    by_cases s2 : S = 32
    · subst s2
      obtain rfl : q0 = true := by rw [← hq0]; decide
      go_wp2_with fail
      go_meet
      exact ⟨rfl, rfl⟩
    by_cases s3 : S = 64
    · subst s3
      obtain rfl : q0 = true := by rw [← hq0]; decide
      go_wp2_with fail
      go_meet
      exact ⟨rfl, rfl⟩
    by_cases s4 : S = 128
    · subst s4
      obtain rfl : q0 = true := by rw [← hq0]; decide
      go_wp2_with fail
      go_meet
      exact ⟨rfl, rfl⟩
    by_cases s5 : S = 256
    · subst s5
      obtain rfl : q0 = true := by rw [← hq0]; decide
      go_wp2_with fail
      go_meet
      exact ⟨rfl, rfl⟩
    obtain rfl : q0 = false := by rw [← hq0]; simp [s1, s2, s3, s4, s5]
    have t1 : (S == 16) = false := by simpa using s1
    have t2 : (S == 32) = false := by simpa using s2
    have t3 : (S == 64) = false := by simpa using s3
    have t4 : (S == 128) = false := by simpa using s4
    have t5 : (S == 256) = false := by simpa using s5
    clear hq0
    go_wp2_with fail
    go_meet
    exact ⟨by simp [t1, t2, t3, t4, t5], rfl⟩
  case rest =>
  obtain ⟨rfl, rfl⟩ := hcut
  clear hq0
  go_wp2_with fail
  go_loopw [5, 28] (fun v5 v28 wr => RgR w S Bs nb v5 v28 wr) (fun _ v28 _ => nb - (intOf v28).toNat)
  case atStart => exact ⟨0, q0, rfl, rfl, by omega, HQ0, hid (Below.refl _ _)⟩
  case round =>
    obtain ⟨j, q, rfl, rfl, hj, HR, HB⟩ := hrel
    by_cases hlt : j < nb
    · have j1 : (j : Int) < (nb : Int) := by omega
      have j0 : (0 : Int) ≤ (j : Int) := by omega
      have j9 : (j : Int) < 9223372036854775807 := by omega
      obtain ⟨a', c', e', hrd, -⟩ := HS.out.below HB.out
      simp only [Value.slice.injEq] at e'
      obtain ⟨rfl, -, rfl⟩ := e'
      obtain ⟨b0, off, r, rfl, d0, d1, d2, d3, hat, -, htk⟩ := hrd.four j (by rw [HN.out]; exact hlt)
      obtain ⟨x1, x2, x3, x4⟩ := r
      simp only at d0 d1 d2 d3
      obtain ⟨qw, hqw⟩ : ∃ qw, withB S (x1, x2, x3, x4) = qw := ⟨_, rfl⟩
      have HR2 : Hid (rtX S (Bs.take (j + 1)) = (q && qw)) := hid (by rw [htk, rtX_snoc, HR.out, hqw])
      have HQW : Hid (decide (WithinR (x1, x2, x3, x4) S) = qw) := hid hqw
      clear hat htk hrd hqw
      go_upto_region 5 with fail
      obtain ⟨w2, hw2⟩ : ∃ w2, w2 = wr.alloc (.cells #[.int .i64 x1, .int .i64 x2, .int .i64 x3, .int .i64 x4] 25) := ⟨_, rfl⟩
      rw [← hw2]
      obtain ⟨g, hg⟩ : ∃ g, g = wr.heap.size := ⟨_, rfl⟩
      rw [← hg]
      have hb2 : Below wr.heap.size wr w2 := by rw [hw2]; exact Below.new _ _
      have hk : Blk w2 g #[.int .i64 x1, .int .i64 x2, .int .i64 x3, .int .i64 x4] := by rw [hw2, hg]; exact Blk.new _ _ _
      have HB2 := hid (Below.next HB.out hb2)
      clear hw2 hg hb2 d0 d1 d2 d3
      obtain ⟨c0, c1, c2, c3⟩ := hk.c4r
      cases q with
      | false =>
        go_wp2_with fail
        go_roundw
        case rel => exact ⟨j + 1, false, rfl, by go_num, by omega, HR2, HB2⟩
        case measure => simp [intOf]; omega
      | true =>
        clear hk
        go_wp2_with fail
        refine (law19_ref x1 x2 x3 x4 w2).mono ?_
        rintro e w3 ⟨rfl, hb3⟩
        have HB3 := hid (Below.next HB2.out hb3)
        clear hb3 c0 c1 c2 c3
        go_wp2_with fail
        refine (ref19_Within x1 x2 x3 x4 S w3 qw HQW).mono ?_
        rintro e w4 ⟨rfl, hb4⟩
        have HB4 := hid (Below.next HB3.out hb4)
        clear hb4
        have HR3 : Hid (rtX S (Bs.take (j + 1)) = qw) := hid (by rw [HR2.out, Bool.true_and])
        go_wp2_with fail
        go_roundw
        case rel => exact ⟨j + 1, qw, rfl, by go_num, by omega, HR3, HB4⟩
        case measure => simp [intOf]; omega
    · have j1 : ¬ (j : Int) < (nb : Int) := by omega
      have HX : Hid (q = x) := hid (by
        rw [← HR.out, ← hx.out, List.take_of_length_le (by rw [HN.out]; omega)])
      go_wp2_with fail
      go_ret
      rw [HX.out]
      exact ⟨rfl, HB.out⟩
theorem law19_rightA (S : Int) (v : Value) (Bs : List R4) (w : World) (hs : SlR w v Bs) (x : Bool) (hx : Hid (rtX S Bs = x)) : Calls Tryz.prog 6 #[.int .i64 S, v] w fun e w' => e = .returned (.bool x) ∧ Below w.heap.size w w' := by
  obtain ⟨a, c, rfl, -⟩ := id hs
  exact law19_right0 S a _ c Bs w hs x hx
theorem law19_right (S : Int) (v : Value) (Bs : List R4) (w : World) (hs : SlR w v Bs) (hl : Bs.length ≤ 1000) (x : Bool) (hx : Hid (rtX S Bs = x)) : Calls Tryz.prog 6 #[.int .i64 S, v] w fun e w' => e = .returned (.bool x) ∧ Below w.heap.size w w' := law19_rightA S v Bs w hs x hx
set_option maxRecDepth 100000 in
theorem law19_inside (rx ry ra rb : Int) (w : World) (q : Bool) (hq : Hid (rightR (rx, ry, ra, rb) = q)) : Calls Tryz.prog 14 #[.agg #[.int .i64 rx, .int .i64 ry, .int .i64 ra, .int .i64 rb]] w fun e w' => e = .returned (.bool q) ∧ Below w.heap.size w w' := by
  go_enter Tryz.func14, Tryz.ntmps14
  go_upto_region 1 with fail
  obtain ⟨w2, hw2⟩ : ∃ w2, w2 = w.alloc (.cells #[.int .i64 rx, .int .i64 ry, .int .i64 ra, .int .i64 rb] 25) := ⟨_, rfl⟩
  rw [← hw2]
  have hb2 : Below w.heap.size w w2 := by rw [hw2]; exact Below.new _ _
  have hk : Blk w2 w.heap.size #[.int .i64 rx, .int .i64 ry, .int .i64 ra, .int .i64 rb] := by rw [hw2]; exact Blk.new _ _ _
  have HB2 := hid hb2
  clear hw2 hb2
  obtain ⟨c0, c1, c2, c3⟩ := hk.c4r
  clear hk
  go_wp2_with fail
  refine (law19_ref rx ry ra rb w2).mono ?_
  rintro e w3 ⟨rfl, hb3⟩
  have HB3 := hid (Below.next HB2.out hb3)
  clear hb3 c0 c1 c2 c3
  go_wp2_with fail
  refine (ref02_Right4 rx ry ra rb q hq w3).mono ?_
  rintro e w4 ⟨rfl, hb4⟩
  have HB4 := hid (Below.next HB3.out hb4)
  clear hb4
  go_wp2_with fail
  go_ret
  exact ⟨rfl, HB4.out⟩
end Go.Proofs.YtjbnfppnmljbmaaGreat
end
section
/- Law 19: what holds behind some calls. -/
namespace Go.Proofs.YtjbnfppnmljbmaaGreat
open Go.RowKit Go.Deep
open Go.Lib (hid)
set_option linter.unusedVariables false

theorem Blk.c5v {w : World} {g : Nat} {c0 c1 c2 c3 c4 : Value} (h : Blk w g #[c0, c1, c2, c3, c4]) : w.cell? ⟨g, 0, none⟩ = some c0 ∧ w.cell? ⟨g, 1, none⟩ = some c1 ∧ w.cell? ⟨g, 2, none⟩ = some c2 ∧ w.cell? ⟨g, 3, none⟩ = some c3 ∧ w.cell? ⟨g, 4, none⟩ = some c4 :=
  ⟨by rw [h.cell]; rfl, by rw [h.cell]; rfl, by rw [h.cell]; rfl, by rw [h.cell]; rfl, by rw [h.cell]; rfl⟩
theorem KeyWf.step {S : Int} {B : List R4} {P : List Pl} {o : OpL} (h : KeyWf P) (ho : (Lit.int .i64 o.i).wf = true) : KeyWf (stepL S B P o) := by
  unfold stepL
  split
  · unfold claimP
    split
    · intro p hp
      rcases (mem_insK keyP).1 hp with rfl | hp
      · exact ho
      · exact h p hp
    · exact h
  · split
    · intro p hp
      exact h p ((List.mem_filter.1 hp).1)
    · exact h
/-- behind some calls: all lies as it must, the document's in a box -/
structure PyI (w wr : World) (l g8 k : Nat) (F : Nat → Prop) (B : List R4) (S : Int) (vs vp : Value) (P : List Pl) : Prop where
  both : BothL wr l F k B vs vp P
  box : Blk wr g8 #[.int .i64 S, vs, vp]
  wfk : KeyWf P
  low : ∀ b, F b → w.heap.size ≤ b
  nbox : ¬ F g8
  gl : w.heap.size ≤ g8
  ns : ∀ b, vs.ownBlock = some b → b ≠ g8
  np : ∀ b, vp.ownBlock = some b → b ≠ g8
  below : Below w.heap.size w wr
theorem PyI.next {w wr wz : World} {l g8 k : Nat} {F : Nat → Prop} {B : List R4} {S : Int} {vs vp : Value} {P : List Pl} (h : PyI w wr l g8 k F B S vs vp P) (hb : Below wr.heap.size wr wz) : PyI w wz l g8 k F B S vs vp P :=
  ⟨h.both.below hb, h.box.below hb, h.wfk, h.low, h.nbox, h.gl, h.ns, h.np, Below.next h.below hb⟩
theorem PyI.stepped {w wr wx wz : World} {l g8 k : Nat} {F F' : Nat → Prop} {B : List R4} {S : Int} {vs vp vp' : Value} {P P' : List Pl} (h : PyI w wr l g8 k F B S vs vp P) (hb : BothL wx l F' k B vs vp' P') (hu : Upd F wr wx) (hF : ∀ b, F' b → F b ∨ wr.heap.size ≤ b) (hv : vp' = vp ∨ ∀ b, vp'.ownBlock = some b → wr.heap.size ≤ b) (hw : KeyWf P') (hk : Blk wz g8 #[.int .i64 S, vs, vp']) (hz : Upd (fun b => b = g8) wx wz) : PyI w wz l g8 k F' B S vs vp' P' := by
  have hg := h.box.lt
  have z1 := h.below.size
  have n8 : ¬ F' g8 := fun q => by rcases hF g8 q with q | q; exact h.nbox q; omega
  have np' : ∀ b, vp'.ownBlock = some b → b ≠ g8 := fun b e q => by
    rcases hv with rfl | hv
    · exact h.np b e q
    · have := hv b e; omega
  exact ⟨hb.upd hz (fun b e q => by subst e; exact n8 q) (fun b e q => h.ns b e q) (fun b e q => np' b e q), hk, hw, fun b q => by rcases hF b q with q | q; exact h.low b q; omega, n8, h.gl, h.ns, np', (h.below.trans (hu.below z1 (fun b _ q => h.low b q))).trans (hz.below (by have := hu.size; omega) (fun b _ q => by have := h.gl; omega))⟩
theorem meetsR_symmL {a b : R4} (h : MeetsR a b) : MeetsR b a := by unfold MeetsR at h ⊢; obtain ⟨h1, h2, h3⟩ := h; exact ⟨h2, h1, h3.2.1, h3.1, h3.2.2.2, h3.2.2.1⟩
end Go.Proofs.YtjbnfppnmljbmaaGreat
end
section
/- Law 19: world. -/
namespace Go.Proofs.YtjbnfppnmljbmaaGreat
open Go.RowKit Go.Deep
open Go.Lib (hid)
set_option linter.unusedVariables false
attribute [local go_sem] Oper.semAt_some

theorem results_tc19 {fn : Func} {a b : Tmp} {t : TypeId} (h : fn.results = #[.tmp a, .cell b t]) (tmps : Array Value) (P : Program) (w : World) {x : Addr} {v : Value} (ha : tmps.getD b undef = .pointer (some x)) (hl : (loadVar t x).run P w = .ok v w) : (results fn tmps).run P w = .ok (.tuple #[tmps.getD a undef, v]) w := by
  have ha' : tmps[b]?.getD undef = .pointer (some x) := by rw [← ha]; simp
  simp [results, h, ha', asAddr, hl, Result.andThen]
def runL (S : Int) (B : List R4) (P : List Pl) (L : List OpL) : List Pl := L.foldl (stepL S B) P
theorem runL_snoc (S : Int) (B : List R4) (P : List Pl) (L : List OpL) (o : OpL) : runL S B P (L ++ [o]) = stepL S B (runL S B P L) o := by unfold runL; rw [List.foldl_append]; rfl
def WorldPost (w : World) (B : List R4) (L : List OpL) (e : Ending) (w' : World) : Prop :=
  ∃ (l k : Nat) (F : Nat → Prop) (vs vp : Value), e = .returned (.tuple #[.pointer (some ⟨l, 0, none⟩), xV 32 vs vp]) ∧ sd k = 32 ∧ BothL w' l F k B vs vp (runL 32 B [] L) ∧ KeyWf (runL 32 B [] L) ∧ (∀ b, F b → w.heap.size ≤ b) ∧ Below w.heap.size w w'
def WdR (w : World) (l g8 g5 k n : Nat) (B : List R4) (L : List OpL) (vs : Value) (v26 : Value) (wr : World) : Prop := ∃ (j : Nat) (F : Nat → Prop) (vp : Value), v26 = .int .i64 (j : Int) ∧ j ≤ n ∧ Hid (PyI w wr l g8 k F B 32 vs vp (runL 32 B [] (L.take j)) ∧ Blk wr g5 #[.int .i64 0, .slice none 0 0, .slice none 0 0] ∧ ¬ F g5 ∧ (∀ b, vp.ownBlock = some b → b ≠ g5))
set_option maxRecDepth 100000 in
set_option maxHeartbeats 8000000 in
theorem law19_world (ab ao : Option Addr) (nb cb co : Nat) (B : List R4) (L : List OpL) (w : World) (hs : SlR w (.slice ab nb cb) B) (hl : SlE OpLE 6 w (.slice ao L.length co) L) (hok : okL 32 B) (hB : B.length ≤ 1000) (hL : L.length ≤ 1000) :
    Calls Tryz.prog 8 #[.slice ab nb cb, .slice ao L.length co] w (WorldPost w B L) := by
  have HS := hid hs
  have HL := hid hl
  have HOK := hid hok
  have HB1000 := hid hB
  obtain ⟨n, hn⟩ : ∃ n, L.length = n := ⟨_, rfl⟩
  rw [hn] at hL ⊢
  have HLN := hid hn
  have H1000 := hid hL
  clear hs hl hok hB hL hn
  go_enter Tryz.func8, Tryz.ntmps8
  go_upto_region 1 with fail
  obtain ⟨w0, hw0⟩ : ∃ w0, w0 = w.alloc (.cells #[.int .i64 0, .slice none 0 0, .slice none 0 0] 32) := ⟨_, rfl⟩
  rw [← hw0]
  obtain ⟨g5, hg5⟩ : ∃ g5, g5 = w.heap.size := ⟨_, rfl⟩
  rw [← hg5]
  have hb0 : Below w.heap.size w w0 := by rw [hw0]; exact Below.new _ _
  have HK0 : Hid (Blk w0 g5 #[.int .i64 0, .slice none 0 0, .slice none 0 0]) := hid (by rw [hw0, hg5]; exact Blk.new _ _ _)
  have HB0 := hid hb0
  have HG5 := hid hg5
  clear hw0 hg5 hb0
  go_wp2_with fail
  refine (law19_made 32 _ B w0 (HS.out.below HB0.out) HB1000.out).mono ?_
  rintro e w1 ⟨lv, vs, E, rfl, hvs, hvl, hb1, hcase⟩
  rcases hcase with ⟨-, hE, l, k, F, hSk, hlv, hLI, hF⟩ | ⟨hno, hE, hlv⟩
  case inr => exact absurd HOK.out hno
  subst hE hlv
  obtain ⟨va, vc, hve, -⟩ := id hvs
  subst hve
  obtain ⟨nv, hnv⟩ : ∃ nv, B.length = nv := ⟨_, rfl⟩
  rw [hnv] at hvs hvl hF ⊢
  have HVS := hid hvs
  have HVL := hid hvl
  have HB1 := hid (Below.next HB0.out hb1)
  have HK1 := hid (HK0.out.below hb1)
  have HW01 : Hid (w.heap.size ≤ w0.heap.size ∧ g5 < w0.heap.size) := hid ⟨HB0.out.size, HK0.out.lt⟩
  have HSD : Hid (sd k = 32) := hid hSk.symm
  have HLI := hid (And.intro hLI hF)
  clear hvs hvl hb1 hnv hSk hLI hF
  simp only [xV]
  go_upto_region 2 with fail
  obtain ⟨w2, hw2⟩ : ∃ w2, w2 = w1.alloc (.cells #[.int .i64 32, .slice va nv vc, .slice none 0 0] 32) := ⟨_, rfl⟩
  rw [← hw2]
  obtain ⟨g8, hg8⟩ : ∃ g8, g8 = w1.heap.size := ⟨_, rfl⟩
  rw [← hg8]
  have HI2 : Hid (PyI w w2 l g8 k (fun b => F b ∧ b < w1.heap.size) B 32 (.slice va nv vc) (.slice none 0 0) []) := hid (by
    have hb2 : Below w1.heap.size w1 w2 := by rw [hw2]; exact Below.new _ _
    have z1 := HB1.out.size
    have z2 := hb2.size
    have z0 := HW01.out.1
    refine ⟨⟨(HLI.out.1.weaken (fun b y z => ⟨y, z⟩)).below hb2, HVS.out.below hb2, SlPl.nil _, fun b e y => (HLI.out.2 b y.1).2 e, fun b e => (by simp [Value.ownBlock] at e), fun b e => by have := (HVL.out b e).2; omega, fun b e => (by simp [Value.ownBlock] at e)⟩, by rw [hw2, hg8]; exact Blk.new _ _ _, fun p hp => (by simp at hp), fun b y => by have := (HLI.out.2 b y.1).1; omega, fun y => by have := y.2; omega, by omega, fun b e => by have := (HVL.out b e).2; omega, fun b e => (by simp [Value.ownBlock] at e), Below.next HB1.out hb2⟩)
  have HP0 : Hid (WdR w l g8 g5 k n B L (.slice va nv vc) (.int .i64 0) w2) := hid ⟨0, _, _, rfl, by omega, hid ⟨HI2.out, HK1.out.below (by rw [hw2]; exact Below.new _ _), fun y => by have := (HLI.out.2 g5 y.1).1; have := HW01.out.2; omega, fun b e => (by simp [Value.ownBlock] at e)⟩⟩
  have HG58 : Hid (g5 < g8) := hid (by have h1 := HW01.out; have h2 := HK1.out.lt; omega)
  clear hw2 hg8
  go_wp2_with fail
  go_loopw [26] (fun v26 wr => WdR w l g8 g5 k n B L (.slice va nv vc) v26 wr) (fun v26 _ => n - (intOf v26).toNat)
  case atStart => exact HP0.out
  case round =>
    clear HP0
    obtain ⟨j, F2, vp, rfl, hj, HJ⟩ := hrel
    obtain ⟨P, hP⟩ : ∃ P, runL 32 B [] (L.take j) = P := ⟨_, rfl⟩
    have HI : Hid (PyI w wr l g8 k F2 B 32 (.slice va nv vc) vp P) := hid (by rw [← hP]; exact HJ.out.1)
    have HJ2 := hid HJ.out.2
    have HPP := hid hP
    clear HJ hP
    obtain ⟨ap, cp, hvp, -⟩ := id HI.out.both.pl
    obtain ⟨np, hnp⟩ : ∃ np, P.length = np := ⟨_, rfl⟩
    rw [hnp] at hvp
    subst hvp
    clear hnp
    by_cases hlt : j < n
    · have j1 : (j : Int) < (n : Int) := by omega
      have j0 : (0 : Int) ≤ (j : Int) := by omega
      have j9 : (j : Int) < 1000 := by have := H1000.out; omega
      obtain ⟨o, hp⟩ : ∃ o, L[j]? = some o := ⟨_, List.getElem?_eq_getElem (by have := HLN.out; omega)⟩
      obtain ⟨⟨bo, off, rfl, q0, q1, q2, q3, q4, q5⟩, howf⟩ := HL.out.opL HI.out.below hp
      have HOW := hid howf
      have HTK : Hid (L.take (j + 1) = L.take j ++ [o]) := hid (by
        obtain ⟨h1, h2⟩ := List.getElem?_eq_some_iff.1 hp
        rw [List.take_succ_eq_append_getElem h1, h2])
      obtain ⟨ok, oi, ⟨ox, oy, oa, ob⟩⟩ := o
      simp only at q0 q1 q2 q3 q4 q5
      clear hp howf
      go_upto_region 7 with fail
      obtain ⟨w5, hw5⟩ : ∃ w5, w5 = wr.alloc (.cells #[.int .i64 ok, .int .i64 oi, .int .i64 ox, .int .i64 oy, .int .i64 oa, .int .i64 ob] 55) := ⟨_, rfl⟩
      rw [← hw5]
      obtain ⟨bb, hbb⟩ : ∃ bb, bb = wr.heap.size := ⟨_, rfl⟩
      rw [← hbb]
      have hb5 : Below wr.heap.size wr w5 := by rw [hw5]; exact Below.new _ _
      have HO5 : Hid (Blk w5 bb #[.int .i64 ok, .int .i64 oi, .int .i64 ox, .int .i64 oy, .int .i64 oa, .int .i64 ob]) := hid (by rw [hw5, hbb]; exact Blk.new _ _ _)
      have HI5 := hid (HI.out.next hb5)
      have HK5 := hid (HJ2.out.1.below hb5)
      clear hw5 hb5 hbb q0 q1 q2 q3 q4 q5
      obtain ⟨x0, x1, x2, x3, x4, x5⟩ := HO5.out.c6v
      obtain ⟨l0, l1, l2⟩ := HI5.out.box.c3v
      go_wp2_with fail
      refine (law19_step 32 (.slice va nv vc) (.slice ap np cp) k B P ⟨ok, oi, (ox, oy, oa, ob)⟩ l F2 w5 HI5.out.both HSD.out HB1000.out).mono ?_
      rintro e w9 ⟨F9, vp9, rfl, hbo9, hu9, hF9, hv9⟩
      obtain ⟨P9, hP9⟩ : ∃ P9, stepL 32 B P ⟨ok, oi, (ox, oy, oa, ob)⟩ = P9 := ⟨_, rfl⟩
      rw [hP9] at hbo9
      have HKW : Hid (KeyWf P9) := hid (by rw [← hP9]; exact HI5.out.wfk.step HOW.out)
      have HP9 : Hid (runL 32 B [] (L.take (j + 1)) = P9) := hid (by rw [HTK.out, runL_snoc, HPP.out, hP9])
      obtain ⟨ap9, cp9, hve9, -⟩ := id hbo9.pl
      obtain ⟨np9, hnp9⟩ : ∃ np, P9.length = np := ⟨_, rfl⟩
      rw [hnp9] at hve9
      subst hve9
      have hr9 := HI5.out.box.upd hu9 HI5.out.nbox
      obtain ⟨p0, p1, p2⟩ := hr9.c3v
      have f0 := hr9.unfrozen 0
      have f1 := hr9.unfrozen 1
      have f2 := hr9.unfrozen 2
      obtain ⟨wz, hwz, hkz, huz⟩ := set3v hr9 (.int .i64 32) (.slice va nv vc) (.slice ap9 np9 cp9)
      have HWZ := hid hwz
      have HIZ := hid (HI5.out.stepped hbo9 hu9 hF9 hv9 HKW.out hkz huz)
      have hn5 : ¬ F9 g5 := fun q => by
        rcases hF9 g5 q with q | q
        · exact HJ2.out.2.1 q
        · have := HK5.out.lt; omega
      have HZ : Hid (PyI w wz l g8 k F9 B 32 (.slice va nv vc) (.slice ap9 np9 cp9) (runL 32 B [] (L.take (j + 1))) ∧ Blk wz g5 #[.int .i64 0, .slice none 0 0, .slice none 0 0] ∧ ¬ F9 g5 ∧ (∀ b, Value.ownBlock (.slice ap9 np9 cp9) = some b → b ≠ g5)) := hid ⟨by rw [HP9.out]; exact HIZ.out, (HK5.out.upd hu9 HJ2.out.2.1).upd huz (fun e => by
        have h1 := HG58.out
        omega), hn5, fun b e q => by
        rcases hv9 with z | z
        · rw [z] at e; exact HJ2.out.2.2 b e q
        · have := z b e; have := HK5.out.lt; omega⟩
      clear hwz hkz huz hr9 hbo9 hu9 hF9 hv9 hP9 hnp9 hn5 x0 x1 x2 x3 x4 x5 l0 l1 l2
      simp only [xV]
      go_wp2_with fail
      try rw [← HWZ.out]
      go_roundw
      case rel => exact ⟨j + 1, F9, _, by go_num, by omega, HZ⟩
      case measure => simp [intOf]; omega
    · have j1 : ¬ (j : Int) < (n : Int) := by omega
      have HRL : Hid (runL 32 B [] L = P) := hid (by
        have := HPP.out
        rw [List.take_of_length_le (by have := HLN.out; omega)] at this
        exact this)
      go_upto_region 9 with fail
      obtain ⟨m0, m1, m2⟩ := HI.out.box.c3v
      replace m0 := fun (z : World) (hz : Below wr.heap.size wr z) => cellOf_belowR hz m0
      replace m1 := fun (z : World) (hz : Below wr.heap.size wr z) => cellOf_belowR hz m1
      replace m2 := fun (z : World) (hz : Below wr.heap.size wr z) => cellOf_belowR hz m2
      have hyd := (Below.refl wr.heap.size wr).drew
      refine wp_region_kept [3] (fun z => Below wr.heap.size wr z) (by kernel_rfl) (by assumption) (fun hH => ?_)
      refine wpK.take (i := 0) (v := _) (by simp only [List.getElem?_toArray, List.getElem?_cons_succ, List.getElem?_cons_zero]; rfl) (by kernel_rfl) (by kernel_rfl) (by kernel_rfl) (by kernel_rfl) (by kernel_rfl) (by exact fun _ _ _ h => h) (by first | exact Or.inl ⟨by rfl, by intro w hSw; go_simp; try with_reducible rfl⟩ | exact Or.inr ⟨by rfl, rfl⟩) hH ?_
      try simp only [Act.put, List.setIfInBounds_toArray, List.set_cons_zero, List.set_cons_succ]
      refine wpK.take (i := 1) (v := _) (by simp only [List.getElem?_toArray, List.getElem?_cons_succ, List.getElem?_cons_zero]; rfl) (by kernel_rfl) (by kernel_rfl) (by kernel_rfl) (by kernel_rfl) (by kernel_rfl) (by exact fun _ _ _ h => h) (by first | exact Or.inl ⟨by rfl, by intro w hSw; go_simp; try with_reducible rfl⟩ | exact Or.inr ⟨by rfl, rfl⟩) hH ?_
      try simp only [Act.put, List.setIfInBounds_toArray, List.set_cons_zero, List.set_cons_succ]
      refine wpK.take (i := 2) (v := _) (by simp only [List.getElem?_toArray, List.getElem?_cons_succ, List.getElem?_cons_zero]; rfl) (by kernel_rfl) (by kernel_rfl) (by kernel_rfl) (by kernel_rfl) (by kernel_rfl) (by exact fun _ _ _ h => h) (by first | exact Or.inl ⟨by rfl, by intro w hSw; go_simp; try with_reducible rfl⟩ | exact Or.inr ⟨by rfl, rfl⟩) hH ?_
      try simp only [Act.put, List.setIfInBounds_toArray, List.set_cons_zero, List.set_cons_succ]
      refine wpK.late (i := 3) (by kernel_rfl) (by simp only [List.getElem?_toArray, List.getElem?_cons_succ, List.getElem?_cons_zero]; rfl) (by kernel_rfl) (fun K hK => ?_)
      (have hr := HJ2.out.1); (obtain ⟨p0, p1, p2⟩ := hr.c3v); (have f0 := hr.unfrozen 0); (have f1 := hr.unfrozen 1); (have f2 := hr.unfrozen 2); (obtain ⟨wy, hwy, hky, huy⟩ := set3v hr (.int .i64 32) (.slice va nv vc) (.slice ap np cp)); (obtain ⟨wz, hwz⟩ : ∃ wz, wz = wy.drew := ⟨_, rfl⟩); (have hdr : Below wy.heap.size wy wz := by rw [hwz]; exact (Below.refl _ _).drew); (have HKZ := hid (hky.below hdr)); (have HUZ := hid (huy.trans (Upd.of_below hdr) (fun _ _ q => q))); (rw [hwy] at hwz); (have HWZ := hid hwz); clear hwz hwy hky huy hr hdr; go_simp; (try rw [← HWZ.out])
      refine hK.out _ _ ?_
      clear hK K
      try simp only [Act.put, List.setIfInBounds_toArray, List.set_cons_zero, List.set_cons_succ]
      refine wpK.done (by kernel_rfl) ?_ _
      clear hyd m0 m1 m2
      go_wp2_with fail
      obtain ⟨z0, z1, z2⟩ := HKZ.out.c3v
      refine bodyPost_ret (results_tc19 rfl _ _ _ rfl (by go_simp; rfl)) rfl ?_
      have hI := HI.out
      have hz := HUZ.out
      have hg5 := HG5.out
      refine ⟨l, k, F2, _, _, rfl, HSD.out, ?_, by rw [HRL.out]; exact hI.wfk, hI.low, hI.below.trans (hz.below hI.below.size (fun b _ q => by omega))⟩
      rw [HRL.out]
      exact hI.both.upd hz (fun b e y => by subst e; exact HJ2.out.2.1 y) (fun b e q => by have := (HVL.out b e).1; have := HW01.out.2; omega) (fun b e q => HJ2.out.2.2 b e q)
end Go.Proofs.YtjbnfppnmljbmaaGreat
end
section
/- Layings of the shelf's contracts at this dump (printed by the shelf's lay-plain). -/
namespace Go.Proofs
open Go.Shelf
def Tryz.lays_Lays_n189_ren : Go.Shelf.Ren := ⟨fun | 189 => 32 | 125 => 55 | 257 => 54 | 128 => 85 | 129 => 86 | 294 => 76 | 295 => 77 | 296 => 78 | 297 => 79 | 298 => 80 | 299 => 81 | 216 => 82 | 300 => 83 | 301 => 84 | 328 => 101 | 329 => 102 | 330 => 103 | 331 => 104 | 332 => 105 | 215 => 106 | 343 => 113 | n => n, fun | 28 => 35 | 3 => 3 | 46 => 97 | 0 => 0 | 51 => 131 | 53 => 133 | 4 => 4 | 183 => 125 | 182 => 124 | 131 => 42 | 5 => 5 | 9 => 9 | 218 => 147 | 222 => 151 | 228 => 160 | 229 => 135 | n => n, fun | n => n⟩
theorem Tryz.lays_Lays_n189 : Go.Proofs.Lays.n189 Tryz.prog Tryz.lays_Lays_n189_ren := {
  mixed := by kernel_rfl
  f125 := Tryz.func55.trans (congrArg some (by kernel_rfl))
  f128 := Tryz.func85.trans (congrArg some (by kernel_rfl))
  f129 := Tryz.func86.trans (congrArg some (by kernel_rfl))
  f189 := Tryz.func32.trans (congrArg some (by kernel_rfl))
  f215 := Tryz.func106.trans (congrArg some (by kernel_rfl))
  f216 := Tryz.func82.trans (congrArg some (by kernel_rfl))
  f257 := Tryz.func54.trans (congrArg some (by kernel_rfl))
  f294 := Tryz.func76.trans (congrArg some (by kernel_rfl))
  f295 := Tryz.func77.trans (congrArg some (by kernel_rfl))
  f296 := Tryz.func78.trans (congrArg some (by kernel_rfl))
  f297 := Tryz.func79.trans (congrArg some (by kernel_rfl))
  f298 := Tryz.func80.trans (congrArg some (by kernel_rfl))
  f299 := Tryz.func81.trans (congrArg some (by kernel_rfl))
  f300 := Tryz.func83.trans (congrArg some (by kernel_rfl))
  f301 := Tryz.func84.trans (congrArg some (by kernel_rfl))
  f328 := Tryz.func101.trans (congrArg some (by kernel_rfl))
  f329 := Tryz.func102.trans (congrArg some (by kernel_rfl))
  f330 := Tryz.func103.trans (congrArg some (by kernel_rfl))
  f331 := Tryz.func104.trans (congrArg some (by kernel_rfl))
  f332 := Tryz.func105.trans (congrArg some (by kernel_rfl))
  f343 := Tryz.func113.trans (congrArg some (by kernel_rfl))
  t0 := Tryz.underlying0
  a0 := Tryz.isAgg0
  z0 := Tryz.sizeOf0
  v0 := Tryz.zeroValue0
  t3 := Tryz.underlying3
  a3 := Tryz.isAgg3
  z3 := Tryz.sizeOf3
  v3 := Tryz.zeroValue3
  t4 := Tryz.underlying4
  a4 := Tryz.isAgg4
  z4 := Tryz.sizeOf4
  v4 := Tryz.zeroValue4
  t5 := Tryz.underlying5
  a5 := Tryz.isAgg5
  z5 := Tryz.sizeOf5
  v5 := Tryz.zeroValue5
  t9 := Tryz.underlying9
  a9 := Tryz.isAgg9
  z9 := Tryz.sizeOf9
  v9 := Tryz.zeroValue9
  t28 := Tryz.underlying35
  a28 := Tryz.isAgg35
  z28 := Tryz.sizeOf35
  v28 := Tryz.zeroValue35
  t46 := Tryz.underlying97
  a46 := Tryz.isAgg97
  z46 := Tryz.sizeOf97
  v46 := Tryz.zeroValue97
  t51 := Tryz.underlying131
  a51 := Tryz.isAgg131
  z51 := Tryz.sizeOf131
  v51 := Tryz.zeroValue131
  t53 := Tryz.underlying133
  a53 := Tryz.isAgg133
  z53 := Tryz.sizeOf133
  v53 := Tryz.zeroValue133
  t131 := Tryz.underlying42
  a131 := Tryz.isAgg42
  z131 := Tryz.sizeOf42
  v131 := Tryz.zeroValue42
  t182 := Tryz.underlying124
  a182 := Tryz.isAgg124
  z182 := Tryz.sizeOf124
  v182 := Tryz.zeroValue124
  t183 := Tryz.underlying125
  a183 := Tryz.isAgg125
  z183 := Tryz.sizeOf125
  v183 := Tryz.zeroValue125
  t218 := Tryz.underlying147
  a218 := Tryz.isAgg147
  z218 := Tryz.sizeOf147
  v218 := Tryz.zeroValue147
  t222 := Tryz.underlying151
  a222 := Tryz.isAgg151
  z222 := Tryz.sizeOf151
  v222 := Tryz.zeroValue151
  t228 := Tryz.underlying160
  a228 := Tryz.isAgg160
  z228 := Tryz.sizeOf160
  v228 := Tryz.zeroValue160
  t229 := Tryz.underlying135
  a229 := Tryz.isAgg135
  z229 := Tryz.sizeOf135
  v229 := Tryz.zeroValue135 }
def Tryz.lays_SlLaysZI_n6_62_ren : Go.Shelf.Ren := ⟨fun | 6 => 62 | 8 => 95 | 9 => 32 | 11 => 109 | 13 => 55 | 12 => 54 | 23 => 85 | 24 => 86 | 14 => 76 | 15 => 77 | 16 => 78 | 17 => 79 | 18 => 80 | 19 => 81 | 20 => 82 | 21 => 83 | 22 => 84 | 25 => 101 | 26 => 102 | 27 => 103 | 28 => 104 | 29 => 105 | 30 => 106 | 31 => 113 | n => n, fun | 26 => 3 | 28 => 103 | 24 => 35 | 0 => 0 | 3 => 3 | 37 => 97 | 48 => 131 | 50 => 133 | 4 => 4 | 40 => 125 | 39 => 124 | 45 => 42 | 5 => 5 | 9 => 9 | 51 => 147 | 55 => 151 | 57 => 160 | 58 => 135 | 33 => 116 | n => n, fun | n => n⟩
theorem Tryz.lays_SlLaysZI_n6_62 : Go.Proofs.SlLaysZI.n6 Tryz.prog Tryz.lays_SlLaysZI_n6_62_ren := {
  mixed := by kernel_rfl
  f6 := ⟨Tryz.f62.name, by decide, Tryz.func62.trans (congrArg some (by kernel_rfl))⟩
  f8 := ⟨Tryz.f95.name, by decide, Tryz.func95.trans (congrArg some (by kernel_rfl))⟩
  f11 := ⟨Tryz.f109.name, by decide, Tryz.func109.trans (congrArg some (by kernel_rfl))⟩
  t0 := Tryz.underlying0
  a0 := Tryz.isAgg0
  z0 := Tryz.sizeOf0
  v0 := Tryz.zeroValue0
  t24 := Tryz.underlying35
  a24 := Tryz.isAgg35
  z24 := Tryz.sizeOf35
  v24 := Tryz.zeroValue35
  t26 := Tryz.underlying3
  a26 := Tryz.isAgg3
  z26 := Tryz.sizeOf3
  v26 := Tryz.zeroValue3
  t28 := Tryz.underlying103
  a28 := Tryz.isAgg103
  z28 := Tryz.sizeOf103
  v28 := Tryz.zeroValue103
  i26 := by kernel_rfl }
def Tryz.lays_SlLaysZI_n7_63_ren : Go.Shelf.Ren := ⟨fun | 7 => 63 | 10 => 96 | n => n, fun | 23 => 74 | 26 => 3 | 3 => 25 | 28 => 103 | 0 => 0 | 27 => 102 | 33 => 116 | 4 => 4 | n => n, fun | n => n⟩
theorem Tryz.lays_SlLaysZI_n7_63 : Go.Proofs.SlLaysZI.n7 Tryz.prog Tryz.lays_SlLaysZI_n7_63_ren := {
  mixed := by kernel_rfl
  f7 := ⟨Tryz.f63.name, by decide, Tryz.func63.trans (congrArg some (by kernel_rfl))⟩
  f10 := ⟨Tryz.f96.name, by decide, Tryz.func96.trans (congrArg some (by kernel_rfl))⟩
  t0 := Tryz.underlying0
  a0 := Tryz.isAgg0
  z0 := Tryz.sizeOf0
  v0 := Tryz.zeroValue0
  t4 := Tryz.underlying4
  a4 := Tryz.isAgg4
  z4 := Tryz.sizeOf4
  v4 := Tryz.zeroValue4
  t23 := Tryz.underlying74
  a23 := Tryz.isAgg74
  z23 := Tryz.sizeOf74
  v23 := Tryz.zeroValue74
  t26 := Tryz.underlying3
  a26 := Tryz.isAgg3
  z26 := Tryz.sizeOf3
  v26 := Tryz.zeroValue3
  t27 := Tryz.underlying102
  a27 := Tryz.isAgg102
  z27 := Tryz.sizeOf102
  v27 := Tryz.zeroValue102
  t28 := Tryz.underlying103
  a28 := Tryz.isAgg103
  z28 := Tryz.sizeOf103
  v28 := Tryz.zeroValue103
  t33 := Tryz.underlying116
  a33 := Tryz.isAgg116
  z33 := Tryz.sizeOf116
  v33 := Tryz.zeroValue116 }
end Go.Proofs
end
section
/- slices.Sorted(maps.Keys(m)) at maps from integers, by the shelf's contracts. -/
namespace Go.Proofs.YtjbnfppnmljbmaaGreat
open Go.RowKit Go.Maps Go.Sort Go.Shelf
open Go.Lib (hid)
set_option linter.unusedVariables false

/-- the number of a key -/
def vkeyI : Value → Int
  | .int _ a => a
  | _ => 0
/-- a map's keys, rising -/
def keysL {α : Type} (m : List (Int × α)) : List Int := (m.map (·.1)).mergeSort (fun x y => decide (x ≤ y))
theorem MapE.ownsMap {P : Program} {w : World} {b : Nat} {m : List (Int × Value)} {k : TypeId} (hk : P.underlying k = some (.int .i64)) (h : MapE w b m) (hwf : ∀ p ∈ m, (Lit.int .i64 p.1).wf = true) (hm : m.length ≤ 1000000) :
    ∃ D : DataW Unit, w.ownsMap P k (fun _ => some (.nil, [])) b m.length D ∧ Maps.size D = m.length ∧ (intKeys D).Perm (m.map (·.1)) := by
  obtain ⟨es, clock, hb, hst, he⟩ := h
  have hlen : es.size = m.length := by have := congrArg List.length he; simpa using this
  have hkey : ∀ x ∈ es.toList, ∃ a : Int, x.key = .int .i64 a ∧ (Lit.int .i64 a).wf = true := by
    intro x hx
    have : (x.key, x.val) ∈ m.map (fun p => (Value.int .i64 p.1, p.2)) := by rw [← he]; exact List.mem_map.2 ⟨x, hx, rfl⟩
    obtain ⟨p, hp, h⟩ := List.mem_map.1 this
    exact ⟨p.1, (Prod.mk.inj h).1.symm, hwf p hp⟩
  have hrd : ∀ x ∈ es.toList, ∃ a : Int, x.key = .int .i64 a ∧ Go.WideElems.rd (H := Unit) P k (fun _ => some (.nil, [])) x = some (.int .i64 a, .nil) := by
    intro x hx
    obtain ⟨a, e, ha⟩ := hkey x hx
    refine ⟨a, e, ?_⟩
    unfold Go.WideElems.rd
    rw [e, Maps.keyOf_int_mk hk ha]
    rfl
  refine ⟨_, ⟨es, clock, hb, ⟨by unfold maxLen; omega, hst, fun x hx => by obtain ⟨a, -, h⟩ := hrd x hx; exact ⟨_, h⟩⟩, by omega, rfl⟩, ?_, ?_⟩
  · show ((es.toList.map (Go.WideElems.rg P k _)).foldr DataW.insert []).length = m.length
    rw [length_sorted]; simpa using hlen
  · show (((es.toList.map (Go.WideElems.rg P k _)).foldr DataW.insert []).map fun p => Go.intOf p.1).Perm _
    refine ((Go.WideShapes.sorted_perm _).map _).trans ?_
    rw [List.map_map]
    have e1 : es.toList.map ((fun p : Lit × DataW Unit => Go.intOf p.1) ∘ Go.WideElems.rg P k (fun _ => some (.nil, []))) = es.toList.map (fun x => vkeyI x.key) := by
      apply List.map_congr_left
      intro x hx
      obtain ⟨a, e, h⟩ := hrd x hx
      simp only [Function.comp, Go.WideElems.rg_of h, e]
      rfl
    have e2 : m.map (·.1) = es.toList.map (fun x => vkeyI x.key) := by
      have := congrArg (List.map fun q : Value × Value => vkeyI q.1) he
      rw [List.map_map, List.map_map] at this
      exact this.symm
    rw [e1, e2]
theorem sortsI (m : Nat) : AnyZI.SortsIn Tryz.prog Tryz.lays_SlLaysZI_n6_62_ren Fence.wide m :=
  ⟨fun blk off cap ss W hH hblk hsz => callsIn_wide.2 (Any.slices_Sort_int Tryz.lays_Lays_n189 blk off cap ss W hH hblk hsz),
   fun p cap W => callsIn_wide.2 (Any.slices_Sort_int_none Tryz.lays_Lays_n189 p cap W)⟩
theorem keys_LR (mb : Option Nat) (W : World) : Calls Tryz.prog 63 #[.map mb] W fun e w' => e = .returned (.func (.func 96) #[] #[.pointer (some ⟨W.heap.size, 0, none⟩)]) ∧ w' = W.alloc (.cells #[.map mb] 74) :=
  (callsIn_wide (n := 5)).1 (AnyZI.keys_in Tryz.lays_SlLaysZI_n7_63 Fence.wide 5 trivial rfl mb W)
set_option maxHeartbeats 1000000 in
theorem sorted_LR (b : Nat) (m : List (Int × Value)) (w : World) (h : MapE w b m) (hwf : ∀ p ∈ m, (Lit.int .i64 p.1).wf = true) (hm : m.length ≤ 1000000) :
    Calls Tryz.prog 62 #[.func (.func 96) #[] #[.pointer (some ⟨w.heap.size, 0, none⟩)]] (w.alloc (.cells #[.map (some b)] 74)) fun e w' => ∃ v, e = .returned v ∧ w'.ownsRow (w.heap.size + 1) 3 1 v (keysL m).length ((keysL m).map (.int .i64)) ∧ Below w.heap.size w w' := by
  obtain ⟨D, hown, hsz, hperm⟩ := h.ownsMap (P := Tryz.prog) Tryz.underlying3 hwf hm
  have hseq : SeqGives Fence.wide 2 Tryz.prog 96 #[.pointer (some ⟨w.heap.size, 0, none⟩)] encZ (fun ss => ss.Perm (intKeys D)) (Maps.size D) (w.alloc (.cells #[.map (some b)] 74)) :=
    AnyZI.keys_gives (ρ := Tryz.lays_SlLaysZI_n7_63_ren) { Tryz.lays_SlLaysZI_n7_63 with } Fence.wide _ trivial rfl (by omega) w.heap.size b m.length D _ (by simp) (by simp) (by
      have hbl := hown.lt
      obtain ⟨es, clock, hb, Ft, hs, hD⟩ := hown
      exact ⟨es, clock, (Below.heap_alloc _ _ b hbl).trans hb, Ft, hs, hD⟩)
  have cS := AnyZI.sorted_in Tryz.lays_SlLaysZI_n6_62 Fence.wide 5 trivial trivial trivial trivial rfl (by omega) (sortsI _) (enters_of Tryz.func32 (by kernel_rfl) rfl) 96 #[.pointer (some ⟨w.heap.size, 0, none⟩)] trivial (enters_of Tryz.func96 (by kernel_rfl) rfl) _ _ (by rw [hsz]; unfold maxLen; omega) (by rw [hsz]; omega) _ hseq
  refine ((callsIn_wide (n := 5)).1 cS).mono ?_
  rintro e w' ⟨v, ss, rfl, hS, hrow, -, hb⟩
  have hk : ss.mergeSort (fun x y => decide (x ≤ y)) = keysL m := mergeSort_of_perm_i (hS.trans hperm)
  have hl : ss.length = (keysL m).length := by rw [← hk, List.length_mergeSort]
  rw [hk, hl] at hrow
  have hz : (w.alloc (.cells #[.map (some b)] 74)).heap.size = w.heap.size + 1 := by simp
  exact ⟨v, rfl, by rw [hz] at hrow; exact hrow, ((Below.refl _ w).alloc (Nat.le_refl _) _).trans (hb.mono (by rw [hz]; omega))⟩
end Go.Proofs.YtjbnfppnmljbmaaGreat
end
section
/- slices.Sort at a slice of integers of the call's own, by the shelf. -/
namespace Go.Proofs.YtjbnfppnmljbmaaGreat
open Go.RowKit Go.Maps Go.Sort Go.Shelf
open Go.Lib (hid)
set_option linter.unusedVariables false

def sortI (zs : List Int) : List Int := zs.mergeSort fun x y => decide (x ≤ y)
theorem sort_own (base : Nat) (v : Value) (zs : List Int) (w : World) (h : w.ownsRow base 3 1 v zs.length (zs.map (.int .i64))) (hl : zs.length ≤ 1000000) :
    Calls Tryz.prog 32 #[v] w fun e w' => e = .returned (.tuple #[]) ∧ w'.ownsRow base 3 1 v zs.length ((sortI zs).map (.int .i64)) ∧ w.grownBy w' v.ownBlock := by
  obtain ⟨hlen, hcase⟩ := id h
  have hls : (sortI zs).length = zs.length := List.length_mergeSort _
  rcases hcase with ⟨rfl, h0⟩ | ⟨g, cap, cur, rfl, hbase, hb, h1, h2, h3, h4⟩
  · refine (Any.slices_Sort_int_none Tryz.lays_Lays_n189 none 0 w).mono ?_
    rintro e w' ⟨rfl, rfl⟩
    have hz : zs = [] := List.length_eq_zero_iff.1 (by simpa using h0)
    subst hz
    exact ⟨rfl, by simpa [sortI] using h, ⟨rfl, rfl, rfl, Nat.le_refl _, fun _ _ _ => rfl⟩⟩
  · rw [Nat.mul_one] at h4
    have hH := holds_of_blockI (ss := zs) hb h4
    have hlt : g < w.heap.size := (Array.getElem?_eq_some_iff.1 hb).1
    refine (Any.slices_Sort_int Tryz.lays_Lays_n189 g 0 cap zs w hH hlt (by omega)).mono ?_
    rintro e w' ⟨rfl, n, os, rfl⟩
    exact ⟨rfl, ownsRow_sortedI hls hbase hb h1 h2 h3, grownBy_sortedI _⟩
theorem sortI_of {zs ts : List Int} (h : zs.Perm ts) (hs : ts.Pairwise (fun a b => a < b)) : sortI zs = ts := by
  unfold sortI
  rw [mergeSort_of_perm_i h]
  exact List.mergeSort_of_pairwise (hs.imp fun {a b} hab => by simp; omega)
end Go.Proofs.YtjbnfppnmljbmaaGreat
end
