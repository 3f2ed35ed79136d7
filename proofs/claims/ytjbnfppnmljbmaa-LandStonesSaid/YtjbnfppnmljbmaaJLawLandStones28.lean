/- Joined texts, in this order: Law19Rt, Law19Py, Law19Wd, SeqS, LandSt. Each one's first remark says what it proves; no condition beyond those that its theorems name. -/
import Derived.Test.YtjbnfppnmljbmaaJLawLandStones24
import Derived.Test.YtjbnfppnmljbmaaJLawLandStones25
import Derived.Test.YtjbnfppnmljbmaaJLawLandStones27
import Derived.RangeFuncNested
import Derived.RangeFuncBound
import Derived.RangeFuncCalls
import Derived.RangeFuncLeaves
import Derived.Test.YtjbnfppnmljbmaaJLawLandStones22
import Derived.Test.YtjbnfppnmljbmaaJLawLandStones18
section
/- Law 19: right, inside. -/
namespace Go.Proofs.Ytjbnfppnmljbmaa
open Go.RowKit Go.Deep
open Go.Lib (hid)
set_option linter.unusedVariables false
attribute [local go_sem] Oper.semAt_some

def sideOk (S : Int) : Bool := decide (S = 16 ∨ S = 32 ∨ S = 64 ∨ S = 128 ∨ S = 256)
theorem sideOk_iff (S : Int) : sideOk S = true ↔ rightQ S = true ∧ 16 ≤ S := by
  unfold sideOk
  rw [decide_eq_true_iff]
  constructor
  · rintro (rfl | rfl | rfl | rfl | rfl) <;> exact ⟨by decide, by decide⟩
  · rintro ⟨h1, h2⟩
    have h3 : S ≤ 256 := by
      unfold rightQ at h1
      simp at h1
      exact h1.2.1
    obtain ⟨n, rfl⟩ : ∃ n : Nat, S = (n : Int) := ⟨S.toNat, by omega⟩
    have := (rightQ_all ⟨n, by omega⟩ (by simp; omega)).1 h1
    simp only at this
    omega
def withB (S : Int) (b : R4) : Bool := decide (WithinR b S)
def rtX (S : Int) (Bs : List R4) : Bool := sideOk S && Bs.all (withB S)
theorem rtX_iff (S : Int) (Bs : List R4) : rtX S Bs = true ↔ okL S Bs := by
  unfold rtX okL withB
  rw [Bool.and_eq_true, sideOk_iff, List.all_eq_true]
  simp
theorem rtX_snoc (S : Int) (A : List R4) (r : R4) : rtX S (A ++ [r]) = (rtX S A && withB S r) := by
  unfold rtX
  rw [List.all_append, List.all_cons, List.all_nil, Bool.and_true, Bool.and_assoc]
def RgR (w : World) (S : Int) (Bs : List R4) (n : Nat) (v5 v28 : Value) (wr : World) : Prop := ∃ (j : Nat) (q : Bool), v5 = .bool q ∧ v28 = .int .i64 (j : Int) ∧ j ≤ n ∧ Hid (rtX S (Bs.take j) = q) ∧ Hid (Below w.heap.size w wr)
set_option maxRecDepth 100000 in
set_option maxHeartbeats 4000000 in
theorem law19_right0 (S : Int) (av : Option Addr) (nb cb : Nat) (Bs : List R4) (w : World) (hs : SlR w (.slice av nb cb) Bs) (x : Bool) (hx : Hid (rtX S Bs = x)) : Calls Try.prog 35 #[.int .i64 S, .slice av nb cb] w fun e w' => e = .returned (.bool x) ∧ Below w.heap.size w w' := by
  have hnb : Bs.length = nb := by obtain ⟨a, c, e, -⟩ := hs; simp only [Value.slice.injEq] at e; exact e.2.1.symm
  have HS := hid hs
  have HN := hid hnb
  have hl : nb ≤ 9223372036854775807 := by obtain ⟨a, c, e, -, h1, h2, -⟩ := hs; omega
  obtain ⟨q0, hq0⟩ : ∃ q0, sideOk S = q0 := ⟨_, rfl⟩
  have HQ0 : Hid (rtX S (Bs.take 0) = q0) := hid (by unfold rtX; simpa using hq0)
  clear hs hnb
  go_enter Try.func35, Try.ntmps35
  go_upto_region 1 with fail
  go_cut [5] (fun c wx => c = .bool q0 ∧ w = wx)
  case first =>
    unfold sideOk at hq0
    by_cases s1 : S = 16
    · subst s1
      obtain rfl : q0 = true := by rw [← hq0]; decide
      go_wp2_with fail
      go_meet
      exact ⟨rfl, rfl⟩
    by_cases s2 : S = 32
    · subst s2
      obtain rfl : q0 = true := by rw [← hq0]; decide
      go_wp2_with fail
      go_meet
      exact ⟨rfl, rfl⟩
    by_cases s3 : S = 64
    · subst s3
      obtain rfl : q0 = true := by rw [← hq0]; decide
      go_wp2_with fail
      go_meet
      exact ⟨rfl, rfl⟩
    by_cases s4 : S = 128
    · subst s4
      obtain rfl : q0 = true := by rw [← hq0]; decide
      go_wp2_with fail
      go_meet
      exact ⟨rfl, rfl⟩
    by_cases s5 : S = 256
    · subst s5
      obtain rfl : q0 = true := by rw [← hq0]; decide
      go_wp2_with fail
      go_meet
      exact ⟨rfl, rfl⟩
    obtain rfl : q0 = false := by rw [← hq0]; simp [s1, s2, s3, s4, s5]
    have t1 : (S == 16) = false := by simpa using s1
    have t2 : (S == 32) = false := by simpa using s2
    have t3 : (S == 64) = false := by simpa using s3
    have t4 : (S == 128) = false := by simpa using s4
    have t5 : (S == 256) = false := by simpa using s5
    clear hq0
    go_wp2_with fail
    go_meet
    exact ⟨by simp [t1, t2, t3, t4, t5], rfl⟩
  case rest =>
  obtain ⟨rfl, rfl⟩ := hcut
  clear hq0
  go_wp2_with fail
  go_loopw [5, 28] (fun v5 v28 wr => RgR w S Bs nb v5 v28 wr) (fun _ v28 _ => nb - (intOf v28).toNat)
  case atStart => exact ⟨0, q0, rfl, rfl, by omega, HQ0, hid (Below.refl _ _)⟩
  case round =>
    obtain ⟨j, q, rfl, rfl, hj, HR, HB⟩ := hrel
    by_cases hlt : j < nb
    · have j1 : (j : Int) < (nb : Int) := by omega
      have j0 : (0 : Int) ≤ (j : Int) := by omega
      have j9 : (j : Int) < 9223372036854775807 := by omega
      obtain ⟨a', c', e', hrd, -⟩ := HS.out.below HB.out
      simp only [Value.slice.injEq] at e'
      obtain ⟨rfl, -, rfl⟩ := e'
      obtain ⟨b0, off, r, rfl, d0, d1, d2, d3, hat, -, htk⟩ := hrd.four j (by rw [HN.out]; exact hlt)
      obtain ⟨x1, x2, x3, x4⟩ := r
      simp only at d0 d1 d2 d3
      obtain ⟨qw, hqw⟩ : ∃ qw, withB S (x1, x2, x3, x4) = qw := ⟨_, rfl⟩
      have HR2 : Hid (rtX S (Bs.take (j + 1)) = (q && qw)) := hid (by rw [htk, rtX_snoc, HR.out, hqw])
      have HQW : Hid (decide (WithinR (x1, x2, x3, x4) S) = qw) := hid hqw
      clear hat htk hrd hqw
      go_upto_region 5 with fail
      obtain ⟨w2, hw2⟩ : ∃ w2, w2 = wr.alloc (.cells #[.int .i64 x1, .int .i64 x2, .int .i64 x3, .int .i64 x4] 33) := ⟨_, rfl⟩
      rw [← hw2]
      obtain ⟨g, hg⟩ : ∃ g, g = wr.heap.size := ⟨_, rfl⟩
      rw [← hg]
      have hb2 : Below wr.heap.size wr w2 := by rw [hw2]; exact Below.new _ _
      have hk : Blk w2 g #[.int .i64 x1, .int .i64 x2, .int .i64 x3, .int .i64 x4] := by rw [hw2, hg]; exact Blk.new _ _ _
      have HB2 := hid (Below.next HB.out hb2)
      clear hw2 hg hb2 d0 d1 d2 d3
      obtain ⟨c0, c1, c2, c3⟩ := hk.c4r
      cases q with
      | false =>
        go_wp2_with fail
        go_roundw
        case rel => exact ⟨j + 1, false, rfl, by go_num, by omega, HR2, HB2⟩
        case measure => simp [intOf]; omega
      | true =>
        clear hk
        go_wp2_with fail
        refine (law19_ref x1 x2 x3 x4 w2).mono ?_
        rintro e w3 ⟨rfl, hb3⟩
        have HB3 := hid (Below.next HB2.out hb3)
        clear hb3 c0 c1 c2 c3
        go_wp2_with fail
        refine (ref19_Within x1 x2 x3 x4 S w3 qw HQW).mono ?_
        rintro e w4 ⟨rfl, hb4⟩
        have HB4 := hid (Below.next HB3.out hb4)
        clear hb4
        have HR3 : Hid (rtX S (Bs.take (j + 1)) = qw) := hid (by rw [HR2.out, Bool.true_and])
        go_wp2_with fail
        go_roundw
        case rel => exact ⟨j + 1, qw, rfl, by go_num, by omega, HR3, HB4⟩
        case measure => simp [intOf]; omega
    · have j1 : ¬ (j : Int) < (nb : Int) := by omega
      have HX : Hid (q = x) := hid (by
        rw [← HR.out, ← hx.out, List.take_of_length_le (by rw [HN.out]; omega)])
      go_wp2_with fail
      go_ret
      rw [HX.out]
      exact ⟨rfl, HB.out⟩
theorem law19_rightA (S : Int) (v : Value) (Bs : List R4) (w : World) (hs : SlR w v Bs) (x : Bool) (hx : Hid (rtX S Bs = x)) : Calls Try.prog 35 #[.int .i64 S, v] w fun e w' => e = .returned (.bool x) ∧ Below w.heap.size w w' := by
  obtain ⟨a, c, rfl, -⟩ := id hs
  exact law19_right0 S a _ c Bs w hs x hx
theorem law19_right (S : Int) (v : Value) (Bs : List R4) (w : World) (hs : SlR w v Bs) (hl : Bs.length ≤ 1000) (x : Bool) (hx : Hid (rtX S Bs = x)) : Calls Try.prog 35 #[.int .i64 S, v] w fun e w' => e = .returned (.bool x) ∧ Below w.heap.size w w' := law19_rightA S v Bs w hs x hx
end Go.Proofs.Ytjbnfppnmljbmaa
end
section
/- Law 19: what holds behind some calls. -/
namespace Go.Proofs.Ytjbnfppnmljbmaa
open Go.RowKit Go.Deep
open Go.Lib (hid)
set_option linter.unusedVariables false

theorem Blk.c5v {w : World} {g : Nat} {c0 c1 c2 c3 c4 : Value} (h : Blk w g #[c0, c1, c2, c3, c4]) : w.cell? ⟨g, 0, none⟩ = some c0 ∧ w.cell? ⟨g, 1, none⟩ = some c1 ∧ w.cell? ⟨g, 2, none⟩ = some c2 ∧ w.cell? ⟨g, 3, none⟩ = some c3 ∧ w.cell? ⟨g, 4, none⟩ = some c4 :=
  ⟨by rw [h.cell]; rfl, by rw [h.cell]; rfl, by rw [h.cell]; rfl, by rw [h.cell]; rfl, by rw [h.cell]; rfl⟩
theorem KeyWf.step {S : Int} {B : List R4} {P : List Pl} {o : OpL} (h : KeyWf P) (ho : (Lit.int .i64 o.i).wf = true) : KeyWf (stepL S B P o) := by
  unfold stepL
  split
  · unfold claimP
    split
    · intro p hp
      rcases (mem_insK keyP).1 hp with rfl | hp
      · exact ho
      · exact h p hp
    · exact h
  · split
    · intro p hp
      exact h p ((List.mem_filter.1 hp).1)
    · exact h
/-- behind some calls: all lies as it must, the document's in a box -/
structure PyI (w wr : World) (l g8 k : Nat) (F : Nat → Prop) (B : List R4) (S : Int) (vs vp : Value) (P : List Pl) : Prop where
  both : BothL wr l F k B vs vp P
  box : Blk wr g8 #[.int .i64 S, vs, vp]
  wfk : KeyWf P
  low : ∀ b, F b → w.heap.size ≤ b
  nbox : ¬ F g8
  gl : w.heap.size ≤ g8
  ns : ∀ b, vs.ownBlock = some b → b ≠ g8
  np : ∀ b, vp.ownBlock = some b → b ≠ g8
  below : Below w.heap.size w wr
theorem PyI.next {w wr wz : World} {l g8 k : Nat} {F : Nat → Prop} {B : List R4} {S : Int} {vs vp : Value} {P : List Pl} (h : PyI w wr l g8 k F B S vs vp P) (hb : Below wr.heap.size wr wz) : PyI w wz l g8 k F B S vs vp P :=
  ⟨h.both.below hb, h.box.below hb, h.wfk, h.low, h.nbox, h.gl, h.ns, h.np, Below.next h.below hb⟩
theorem PyI.stepped {w wr wx wz : World} {l g8 k : Nat} {F F' : Nat → Prop} {B : List R4} {S : Int} {vs vp vp' : Value} {P P' : List Pl} (h : PyI w wr l g8 k F B S vs vp P) (hb : BothL wx l F' k B vs vp' P') (hu : Upd F wr wx) (hF : ∀ b, F' b → F b ∨ wr.heap.size ≤ b) (hv : vp' = vp ∨ ∀ b, vp'.ownBlock = some b → wr.heap.size ≤ b) (hw : KeyWf P') (hk : Blk wz g8 #[.int .i64 S, vs, vp']) (hz : Upd (fun b => b = g8) wx wz) : PyI w wz l g8 k F' B S vs vp' P' := by
  have hg := h.box.lt
  have z1 := h.below.size
  have n8 : ¬ F' g8 := fun q => by rcases hF g8 q with q | q; exact h.nbox q; omega
  have np' : ∀ b, vp'.ownBlock = some b → b ≠ g8 := fun b e q => by
    rcases hv with rfl | hv
    · exact h.np b e q
    · have := hv b e; omega
  exact ⟨hb.upd hz (fun b e q => by subst e; exact n8 q) (fun b e q => h.ns b e q) (fun b e q => np' b e q), hk, hw, fun b q => by rcases hF b q with q | q; exact h.low b q; omega, n8, h.gl, h.ns, np', (h.below.trans (hu.below z1 (fun b _ q => h.low b q))).trans (hz.below (by have := hu.size; omega) (fun b _ q => by have := h.gl; omega))⟩
theorem meetsR_symmL {a b : R4} (h : MeetsR a b) : MeetsR b a := by unfold MeetsR at h ⊢; obtain ⟨h1, h2, h3⟩ := h; exact ⟨h2, h1, h3.2.1, h3.1, h3.2.2.2, h3.2.2.1⟩
end Go.Proofs.Ytjbnfppnmljbmaa
end
section
/- Law 19: world. -/
namespace Go.Proofs.Ytjbnfppnmljbmaa
open Go.RowKit Go.Deep
open Go.Lib (hid)
set_option linter.unusedVariables false
attribute [local go_sem] Oper.semAt_some

theorem results_tc19 {fn : Func} {a b : Tmp} {t : TypeId} (h : fn.results = #[.tmp a, .cell b t]) (tmps : Array Value) (P : Program) (w : World) {x : Addr} {v : Value} (ha : tmps.getD b undef = .pointer (some x)) (hl : (loadVar t x).run P w = .ok v w) : (results fn tmps).run P w = .ok (.tuple #[tmps.getD a undef, v]) w := by
  have ha' : tmps[b]?.getD undef = .pointer (some x) := by rw [← ha]; simp
  simp [results, h, ha', asAddr, hl, Result.andThen]
def runL (S : Int) (B : List R4) (P : List Pl) (L : List OpL) : List Pl := L.foldl (stepL S B) P
theorem runL_snoc (S : Int) (B : List R4) (P : List Pl) (L : List OpL) (o : OpL) : runL S B P (L ++ [o]) = stepL S B (runL S B P L) o := by unfold runL; rw [List.foldl_append]; rfl
def WorldPost (w : World) (B : List R4) (L : List OpL) (e : Ending) (w' : World) : Prop :=
  ∃ (l k : Nat) (F : Nat → Prop) (vs vp : Value), e = .returned (.tuple #[.pointer (some ⟨l, 0, none⟩), xV 32 vs vp]) ∧ sd k = 32 ∧ BothL w' l F k B vs vp (runL 32 B [] L) ∧ KeyWf (runL 32 B [] L) ∧ (∀ b, F b → w.heap.size ≤ b) ∧ Below w.heap.size w w'
def WdR (w : World) (l g8 g5 k n : Nat) (B : List R4) (L : List OpL) (vs : Value) (v26 : Value) (wr : World) : Prop := ∃ (j : Nat) (F : Nat → Prop) (vp : Value), v26 = .int .i64 (j : Int) ∧ j ≤ n ∧ Hid (PyI w wr l g8 k F B 32 vs vp (runL 32 B [] (L.take j)) ∧ Blk wr g5 #[.int .i64 0, .slice none 0 0, .slice none 0 0] ∧ ¬ F g5 ∧ (∀ b, vp.ownBlock = some b → b ≠ g5))
set_option maxRecDepth 100000 in
set_option maxHeartbeats 8000000 in
theorem law19_world (ab ao : Option Addr) (nb cb co : Nat) (B : List R4) (L : List OpL) (w : World) (hs : SlR w (.slice ab nb cb) B) (hl : SlE OpLE 6 w (.slice ao L.length co) L) (hok : okL 32 B) (hB : B.length ≤ 1000) (hL : L.length ≤ 1000) :
    Calls Try.prog 36 #[.slice ab nb cb, .slice ao L.length co] w (WorldPost w B L) := by
  have HS := hid hs
  have HL := hid hl
  have HOK := hid hok
  have HB1000 := hid hB
  obtain ⟨n, hn⟩ : ∃ n, L.length = n := ⟨_, rfl⟩
  rw [hn] at hL ⊢
  have HLN := hid hn
  have H1000 := hid hL
  clear hs hl hok hB hL hn
  go_enter Try.func36, Try.ntmps36
  go_upto_region 1 with fail
  obtain ⟨w0, hw0⟩ : ∃ w0, w0 = w.alloc (.cells #[.int .i64 0, .slice none 0 0, .slice none 0 0] 27) := ⟨_, rfl⟩
  rw [← hw0]
  obtain ⟨g5, hg5⟩ : ∃ g5, g5 = w.heap.size := ⟨_, rfl⟩
  rw [← hg5]
  have hb0 : Below w.heap.size w w0 := by rw [hw0]; exact Below.new _ _
  have HK0 : Hid (Blk w0 g5 #[.int .i64 0, .slice none 0 0, .slice none 0 0]) := hid (by rw [hw0, hg5]; exact Blk.new _ _ _)
  have HB0 := hid hb0
  have HG5 := hid hg5
  clear hw0 hg5 hb0
  go_wp2_with fail
  refine (law19_made 32 _ B w0 (HS.out.below HB0.out) HB1000.out).mono ?_
  rintro e w1 ⟨lv, vs, E, rfl, hvs, hvl, hb1, hcase⟩
  rcases hcase with ⟨-, hE, l, k, F, hSk, hlv, hLI, hF⟩ | ⟨hno, hE, hlv⟩
  case inr => exact absurd HOK.out hno
  subst hE hlv
  obtain ⟨va, vc, hve, -⟩ := id hvs
  subst hve
  obtain ⟨nv, hnv⟩ : ∃ nv, B.length = nv := ⟨_, rfl⟩
  rw [hnv] at hvs hvl hF ⊢
  have HVS := hid hvs
  have HVL := hid hvl
  have HB1 := hid (Below.next HB0.out hb1)
  have HK1 := hid (HK0.out.below hb1)
  have HW01 : Hid (w.heap.size ≤ w0.heap.size ∧ g5 < w0.heap.size) := hid ⟨HB0.out.size, HK0.out.lt⟩
  have HSD : Hid (sd k = 32) := hid hSk.symm
  have HLI := hid (And.intro hLI hF)
  clear hvs hvl hb1 hnv hSk hLI hF
  simp only [xV]
  go_upto_region 2 with fail
  obtain ⟨w2, hw2⟩ : ∃ w2, w2 = w1.alloc (.cells #[.int .i64 32, .slice va nv vc, .slice none 0 0] 27) := ⟨_, rfl⟩
  rw [← hw2]
  obtain ⟨g8, hg8⟩ : ∃ g8, g8 = w1.heap.size := ⟨_, rfl⟩
  rw [← hg8]
  have HI2 : Hid (PyI w w2 l g8 k (fun b => F b ∧ b < w1.heap.size) B 32 (.slice va nv vc) (.slice none 0 0) []) := hid (by
    have hb2 : Below w1.heap.size w1 w2 := by rw [hw2]; exact Below.new _ _
    have z1 := HB1.out.size
    have z2 := hb2.size
    have z0 := HW01.out.1
    refine ⟨⟨(HLI.out.1.weaken (fun b y z => ⟨y, z⟩)).below hb2, HVS.out.below hb2, SlPl.nil _, fun b e y => (HLI.out.2 b y.1).2 e, fun b e => (by simp [Value.ownBlock] at e), fun b e => by have := (HVL.out b e).2; omega, fun b e => (by simp [Value.ownBlock] at e)⟩, by rw [hw2, hg8]; exact Blk.new _ _ _, fun p hp => (by simp at hp), fun b y => by have := (HLI.out.2 b y.1).1; omega, fun y => by have := y.2; omega, by omega, fun b e => by have := (HVL.out b e).2; omega, fun b e => (by simp [Value.ownBlock] at e), Below.next HB1.out hb2⟩)
  have HP0 : Hid (WdR w l g8 g5 k n B L (.slice va nv vc) (.int .i64 0) w2) := hid ⟨0, _, _, rfl, by omega, hid ⟨HI2.out, HK1.out.below (by rw [hw2]; exact Below.new _ _), fun y => by have := (HLI.out.2 g5 y.1).1; have := HW01.out.2; omega, fun b e => (by simp [Value.ownBlock] at e)⟩⟩
  have HG58 : Hid (g5 < g8) := hid (by have h1 := HW01.out; have h2 := HK1.out.lt; omega)
  clear hw2 hg8
  go_wp2_with fail
  go_loopw [26] (fun v26 wr => WdR w l g8 g5 k n B L (.slice va nv vc) v26 wr) (fun v26 _ => n - (intOf v26).toNat)
  case atStart => exact HP0.out
  case round =>
    clear HP0
    obtain ⟨j, F2, vp, rfl, hj, HJ⟩ := hrel
    obtain ⟨P, hP⟩ : ∃ P, runL 32 B [] (L.take j) = P := ⟨_, rfl⟩
    have HI : Hid (PyI w wr l g8 k F2 B 32 (.slice va nv vc) vp P) := hid (by rw [← hP]; exact HJ.out.1)
    have HJ2 := hid HJ.out.2
    have HPP := hid hP
    clear HJ hP
    obtain ⟨ap, cp, hvp, -⟩ := id HI.out.both.pl
    obtain ⟨np, hnp⟩ : ∃ np, P.length = np := ⟨_, rfl⟩
    rw [hnp] at hvp
    subst hvp
    clear hnp
    by_cases hlt : j < n
    · have j1 : (j : Int) < (n : Int) := by omega
      have j0 : (0 : Int) ≤ (j : Int) := by omega
      have j9 : (j : Int) < 1000 := by have := H1000.out; omega
      obtain ⟨o, hp⟩ : ∃ o, L[j]? = some o := ⟨_, List.getElem?_eq_getElem (by have := HLN.out; omega)⟩
      obtain ⟨⟨bo, off, rfl, q0, q1, q2, q3, q4, q5⟩, howf⟩ := HL.out.opL HI.out.below hp
      have HOW := hid howf
      have HTK : Hid (L.take (j + 1) = L.take j ++ [o]) := hid (by
        obtain ⟨h1, h2⟩ := List.getElem?_eq_some_iff.1 hp
        rw [List.take_succ_eq_append_getElem h1, h2])
      obtain ⟨ok, oi, ⟨ox, oy, oa, ob⟩⟩ := o
      simp only at q0 q1 q2 q3 q4 q5
      clear hp howf
      go_upto_region 7 with fail
      obtain ⟨w5, hw5⟩ : ∃ w5, w5 = wr.alloc (.cells #[.int .i64 ok, .int .i64 oi, .int .i64 ox, .int .i64 oy, .int .i64 oa, .int .i64 ob] 107) := ⟨_, rfl⟩
      rw [← hw5]
      obtain ⟨bb, hbb⟩ : ∃ bb, bb = wr.heap.size := ⟨_, rfl⟩
      rw [← hbb]
      have hb5 : Below wr.heap.size wr w5 := by rw [hw5]; exact Below.new _ _
      have HO5 : Hid (Blk w5 bb #[.int .i64 ok, .int .i64 oi, .int .i64 ox, .int .i64 oy, .int .i64 oa, .int .i64 ob]) := hid (by rw [hw5, hbb]; exact Blk.new _ _ _)
      have HI5 := hid (HI.out.next hb5)
      have HK5 := hid (HJ2.out.1.below hb5)
      clear hw5 hb5 hbb q0 q1 q2 q3 q4 q5
      obtain ⟨x0, x1, x2, x3, x4, x5⟩ := HO5.out.c6v
      obtain ⟨l0, l1, l2⟩ := HI5.out.box.c3v
      go_wp2_with fail
      refine (law19_step 32 (.slice va nv vc) (.slice ap np cp) k B P ⟨ok, oi, (ox, oy, oa, ob)⟩ l F2 w5 HI5.out.both HSD.out HB1000.out).mono ?_
      rintro e w9 ⟨F9, vp9, rfl, hbo9, hu9, hF9, hv9⟩
      obtain ⟨P9, hP9⟩ : ∃ P9, stepL 32 B P ⟨ok, oi, (ox, oy, oa, ob)⟩ = P9 := ⟨_, rfl⟩
      rw [hP9] at hbo9
      have HKW : Hid (KeyWf P9) := hid (by rw [← hP9]; exact HI5.out.wfk.step HOW.out)
      have HP9 : Hid (runL 32 B [] (L.take (j + 1)) = P9) := hid (by rw [HTK.out, runL_snoc, HPP.out, hP9])
      obtain ⟨ap9, cp9, hve9, -⟩ := id hbo9.pl
      obtain ⟨np9, hnp9⟩ : ∃ np, P9.length = np := ⟨_, rfl⟩
      rw [hnp9] at hve9
      subst hve9
      have hr9 := HI5.out.box.upd hu9 HI5.out.nbox
      obtain ⟨p0, p1, p2⟩ := hr9.c3v
      have f0 := hr9.unfrozen 0
      have f1 := hr9.unfrozen 1
      have f2 := hr9.unfrozen 2
      obtain ⟨wz, hwz, hkz, huz⟩ := set3v hr9 (.int .i64 32) (.slice va nv vc) (.slice ap9 np9 cp9)
      have HWZ := hid hwz
      have HIZ := hid (HI5.out.stepped hbo9 hu9 hF9 hv9 HKW.out hkz huz)
      have hn5 : ¬ F9 g5 := fun q => by
        rcases hF9 g5 q with q | q
        · exact HJ2.out.2.1 q
        · have := HK5.out.lt; omega
      have HZ : Hid (PyI w wz l g8 k F9 B 32 (.slice va nv vc) (.slice ap9 np9 cp9) (runL 32 B [] (L.take (j + 1))) ∧ Blk wz g5 #[.int .i64 0, .slice none 0 0, .slice none 0 0] ∧ ¬ F9 g5 ∧ (∀ b, Value.ownBlock (.slice ap9 np9 cp9) = some b → b ≠ g5)) := hid ⟨by rw [HP9.out]; exact HIZ.out, (HK5.out.upd hu9 HJ2.out.2.1).upd huz (fun e => by
        have h1 := HG58.out
        omega), hn5, fun b e q => by
        rcases hv9 with z | z
        · rw [z] at e; exact HJ2.out.2.2 b e q
        · have := z b e; have := HK5.out.lt; omega⟩
      clear hwz hkz huz hr9 hbo9 hu9 hF9 hv9 hP9 hnp9 hn5 x0 x1 x2 x3 x4 x5 l0 l1 l2
      simp only [xV]
      go_wp2_with fail
      try rw [← HWZ.out]
      go_roundw
      case rel => exact ⟨j + 1, F9, _, by go_num, by omega, HZ⟩
      case measure => simp [intOf]; omega
    · have j1 : ¬ (j : Int) < (n : Int) := by omega
      have HRL : Hid (runL 32 B [] L = P) := hid (by
        have := HPP.out
        rw [List.take_of_length_le (by have := HLN.out; omega)] at this
        exact this)
      go_upto_region 9 with fail
      obtain ⟨m0, m1, m2⟩ := HI.out.box.c3v
      replace m0 := fun (z : World) (hz : Below wr.heap.size wr z) => cellOf_belowR hz m0
      replace m1 := fun (z : World) (hz : Below wr.heap.size wr z) => cellOf_belowR hz m1
      replace m2 := fun (z : World) (hz : Below wr.heap.size wr z) => cellOf_belowR hz m2
      have hyd := (Below.refl wr.heap.size wr).drew
      refine wp_region_kept [3] (fun z => Below wr.heap.size wr z) (by kernel_rfl) (by assumption) (fun hH => ?_)
      refine wpK.take (i := 0) (v := _) (by simp only [List.getElem?_toArray, List.getElem?_cons_succ, List.getElem?_cons_zero]; rfl) (by kernel_rfl) (by kernel_rfl) (by kernel_rfl) (by kernel_rfl) (by kernel_rfl) (by exact fun _ _ _ h => h) (by first | exact Or.inl ⟨by rfl, by intro w hSw; go_simp; try with_reducible rfl⟩ | exact Or.inr ⟨by rfl, rfl⟩) hH ?_
      try simp only [Act.put, List.setIfInBounds_toArray, List.set_cons_zero, List.set_cons_succ]
      refine wpK.take (i := 1) (v := _) (by simp only [List.getElem?_toArray, List.getElem?_cons_succ, List.getElem?_cons_zero]; rfl) (by kernel_rfl) (by kernel_rfl) (by kernel_rfl) (by kernel_rfl) (by kernel_rfl) (by exact fun _ _ _ h => h) (by first | exact Or.inl ⟨by rfl, by intro w hSw; go_simp; try with_reducible rfl⟩ | exact Or.inr ⟨by rfl, rfl⟩) hH ?_
      try simp only [Act.put, List.setIfInBounds_toArray, List.set_cons_zero, List.set_cons_succ]
      refine wpK.take (i := 2) (v := _) (by simp only [List.getElem?_toArray, List.getElem?_cons_succ, List.getElem?_cons_zero]; rfl) (by kernel_rfl) (by kernel_rfl) (by kernel_rfl) (by kernel_rfl) (by kernel_rfl) (by exact fun _ _ _ h => h) (by first | exact Or.inl ⟨by rfl, by intro w hSw; go_simp; try with_reducible rfl⟩ | exact Or.inr ⟨by rfl, rfl⟩) hH ?_
      try simp only [Act.put, List.setIfInBounds_toArray, List.set_cons_zero, List.set_cons_succ]
      refine wpK.late (i := 3) (by kernel_rfl) (by simp only [List.getElem?_toArray, List.getElem?_cons_succ, List.getElem?_cons_zero]; rfl) (by kernel_rfl) (fun K hK => ?_)
      (have hr := HJ2.out.1); (obtain ⟨p0, p1, p2⟩ := hr.c3v); (have f0 := hr.unfrozen 0); (have f1 := hr.unfrozen 1); (have f2 := hr.unfrozen 2); (obtain ⟨wy, hwy, hky, huy⟩ := set3v hr (.int .i64 32) (.slice va nv vc) (.slice ap np cp)); (obtain ⟨wz, hwz⟩ : ∃ wz, wz = wy.drew := ⟨_, rfl⟩); (have hdr : Below wy.heap.size wy wz := by rw [hwz]; exact (Below.refl _ _).drew); (have HKZ := hid (hky.below hdr)); (have HUZ := hid (huy.trans (Upd.of_below hdr) (fun _ _ q => q))); (rw [hwy] at hwz); (have HWZ := hid hwz); clear hwz hwy hky huy hr hdr; go_simp; (try rw [← HWZ.out])
      refine hK.out _ _ ?_
      clear hK K
      try simp only [Act.put, List.setIfInBounds_toArray, List.set_cons_zero, List.set_cons_succ]
      refine wpK.done (by kernel_rfl) ?_ _
      clear hyd m0 m1 m2
      go_wp2_with fail
      obtain ⟨z0, z1, z2⟩ := HKZ.out.c3v
      refine bodyPost_ret (results_tc19 rfl _ _ _ rfl (by go_simp; rfl)) rfl ?_
      have hI := HI.out
      have hz := HUZ.out
      have hg5 := HG5.out
      refine ⟨l, k, F2, _, _, rfl, HSD.out, ?_, by rw [HRL.out]; exact hI.wfk, hI.low, hI.below.trans (hz.below hI.below.size (fun b _ q => by omega))⟩
      rw [HRL.out]
      exact hI.both.upd hz (fun b e y => by subst e; exact HJ2.out.2.1 y) (fun b e q => by have := (HVL.out b e).1; have := HW01.out.2; omega) (fun b e q => HJ2.out.2.2 b e q)
end Go.Proofs.Ytjbnfppnmljbmaa
end
section
/- A range over a function whose iterator itself ranges over a function: what a round keeps is said of all records but the loop's own. No program in sight. -/
namespace Go.Proofs.Ytjbnfppnmljbmaa
open Go.RowKit
set_option linter.unusedVariables false

/-- an iterator's contract: a round keeps what Kp says, and all that is no cells and was laid since the iterator was called -/
def SeqStopsS {α : Type} (n : Nat) (P : Program) (g : Nat) (lb : Array Value) (encs : α → Array Value) (Kp : World → World → Prop) (S Sp : List α → Prop) (N : Nat) (w : World) : Prop :=
  ∀ (l : Nat) (J Jx : List α → World → Prop) (W : World), Below w.heap.size w W → OwnFrom W.heap.size J → OwnFrom W.heap.size Jx →
    (∀ pre x W1, J pre W1 → pre.length < N → YieldAt Fence.wide (n - 1) P l (encs x) W1 fun e W' =>
      (e = .returned (.bool true) ∧ J (pre ++ [x]) W' ∧ Kp W1 W' ∧ KeepsFrom W.heap.size W1 W') ∨ (e = .returned (.bool false) ∧ Jx (pre ++ [x]) W' ∧ KeepsFrom W.heap.size W1 W')) →
    J [] W →
    CallsIn Fence.wide n P g (#[.func (.yield l) #[] #[]] ++ lb) W fun e W' => (∃ v, e = .returned v) ∧ ((∃ xs, S xs ∧ J xs W') ∨ (∃ pre, Sp pre ∧ Jx pre W'))
/-- the loop's two records, as they lie between two rounds -/
def Recs (b : Nat) (rec : LoopState → Option Code → Loop) (st : LoopState) (j : Option Code) (W : World) : Prop :=
  W.heap[b + 1]? = some (.loop (rec st j)) ∧ W.heap[b]? = some (.deferred (some []))
theorem Recs.grown {b : Nat} {rec : LoopState → Option Code → Loop} {st : LoopState} {j : Option Code} {W W' : World} {row : Option Nat} (h : Recs b rec st j W) (hg : W.grownBy W' row) (hr : ∀ r, row = some r → r ≠ b ∧ r ≠ b + 1) : Recs b rec st j W' :=
  ⟨(hg.block _ (Array.getElem?_eq_some_iff.1 h.1).1 (fun e => (hr _ e.symm).2 rfl)).trans h.1, (hg.block _ (Array.getElem?_eq_some_iff.1 h.2).1 (fun e => (hr _ e.symm).1 rfl)).trans h.2⟩
theorem Recs.keeps {b : Nat} {rec : LoopState → Option Code → Loop} {st : LoopState} {j : Option Code} {W W' : World} (h : Recs b rec st j W) (hk : KeepsFrom b W W') : Recs b rec st j W' :=
  ⟨hk.same _ _ (by omega) h.1 rfl, hk.same _ _ (Nat.le_refl _) h.2 rfl⟩
theorem Recs.put {b : Nat} {rec : LoopState → Option Code → Loop} {st st' : LoopState} {j j' : Option Code} {W : World} (h : Recs b rec st j W) : Recs b rec st' j' (W.putObj (b + 1) (.loop (rec st' j'))) :=
  ⟨World.putObj_heap_same (Array.getElem?_eq_some_iff.1 h.1).1, (World.putObj_heap_other (by omega)).trans h.2⟩
set_option maxHeartbeats 1000000 in
theorem wpIn_rangeFunc_own1 {α : Type} {n : Nat} {P : Program} {g : Operand} {ps : Array Tmp} {assign body : Code} {Q : Exit → Act → World → Prop} {a : Act} {w : World}
    (h1 : 1 ≤ n) {gf : Nat} {lb : Array Value} (hg : a.eval g = .func (.func gf) #[] lb) (eg : ∀ args w, (callFunc gf args).run P w = .ok (.enter gf args) w)
    {encs : α → Array Value} {Kp : World → World → Prop} {S Sp : List α → Prop} {N : Nat} {w0 : World} (hseq : SeqStopsS (n - 1) P gf lb encs Kp S Sp N w0)
    (hKt : ∀ {A B C : World}, Kp A B → Kp B C → Kp A C)
    (hKb : ∀ (W : World) (r r' : Loop), W.heap[w.heap.size + 1]? = some (.loop r) → Kp W (W.putObj (w.heap.size + 1) (.loop r')))
    (hb0 : Below w0.heap.size w0 w) (hps : ∀ x, (encs x).size = ps.size)
    (I : List α → World → Prop) (Ix : Code → List α → World → Prop) (hI : OwnFrom w.heap.size I) (hIx : ∀ c, OwnFrom w.heap.size (Ix c)) (h0 : I [] w) (Ax : α → Act → World → Prop) (hAx : ∀ x a', OwnFrom w.heap.size (fun (_ : Unit) W => Ax x a' W))
    (hassign : ∀ (l : Nat) (pre : List α) (x : α) (W : World) (K : Act → World → Prop), I pre W → (∀ a' W', KeepsFrom w.heap.size W W' → Kp W W' → I pre W' → Ax x a' W' → K a' W') →
      assign.wpIn (Fence.wide.inRound l) (n - 1 - 1) P (Exit.then K (fun _ _ _ => False)) { tmps := (ps.zip (encs x)).foldl (fun t (p, v) => t.setIfInBounds p v) a.tmps, defers := [] } W)
    (hbody : ∀ (l : Nat) (pre : List α) (x : α) (a' : Act) (W : World), w.heap.size ≤ l → I pre W → Ax x a' W → pre.length < N → body.wpIn (Fence.wide.inRound l) (n - 1 - 1) P (ownPostG w.heap.size Kp I Ix (pre ++ [x]) W) a' W)
    (hdone : ∀ (D : Nat) (xs : List α) (W : World), w.heap.size ≤ D → S xs → I xs W → W.heap[D]? = some (.deferred (some [])) → Q .normal { a with defers := { target := .collected D, args := #[] } :: a.defers } W)
    (hstop : ∀ (D : Nat) (c : Code) (pre : List α) (W : World), w.heap.size ≤ D → Sp pre → Ix c pre W → W.heap[D]? = some (.deferred (some [])) → c.wpIn Fence.wide n P Q { a with defers := { target := .collected D, args := #[] } :: a.defers } W) :
    (Code.rangeFunc g ps assign body).wpIn Fence.wide n P Q a w := by
  refine wpIn_rangeFunc fun fn hfn => ?_
  obtain ⟨b, hb⟩ : ∃ b, w.heap.size = b := ⟨_, rfl⟩
  rw [hb] at hKb hI hIx hAx hassign hbody hdone hstop
  obtain ⟨rec, hrec⟩ : ∃ rec : LoopState → Option Code → Loop, rec = fun st pe => { state := st, pending := pe, fn, tmps := a.tmps, params := ps, assign, body, defers := b } := ⟨_, rfl⟩
  obtain ⟨V, hV⟩ : ∃ V, V = (w.alloc (.deferred (some []))).alloc (.loop (rec .ready none)) := ⟨_, rfl⟩
  have hbV : Below w.heap.size w V := by rw [hV]; exact ((Below.refl _ w).alloc (Nat.le_refl _) _).alloc (by simp) _
  have hzV : V.heap.size = b + 2 := by rw [hV]; simp [hb]
  have hR : Recs b rec .ready none V := by
    rw [hV, ← hb]
    refine ⟨?_, (Below.heap_alloc _ _ _ (by simp)).trans (World.alloc_heap_new w _)⟩
    have := World.alloc_heap_new (w.alloc (.deferred (some []))) (.loop (rec .ready none))
    rwa [World.size_alloc] at this
  have hIV : I [] V := by rw [hV]; exact hI.alloc _ (hI.alloc _ h0)
  refine ⟨b + 1, [{ target := .collected b, args := #[] }], V, { target := .fn (.func gf) lb, args := #[.func (.yield (b + 1)) #[] #[]] }, V, gf, #[.func (.yield (b + 1)) #[] #[]] ++ lb, V, ?_, ?_, fun _ _ => trivial, ?_, fun _ => h1, ?_⟩
  · rw [hV, hrec, ← hb]; exact run_enterLoop_outer _ _ _ _ _
  · simp only [resolve, hg]
    simp [go_sem]
  · simp [invoke, go_sem, eg]
  have abides : ∀ {β : Type} {J : β → World → Prop} {st : LoopState} {j : Option Code}, OwnFrom b J → OwnFrom V.heap.size (fun s W => J s W ∧ Recs b rec st j W) := by
    intro β J st j hJ s X Y row hs hg' hr
    exact ⟨hJ s X Y row hs.1 hg' (fun r e => by obtain ⟨h2, h3⟩ := hr r e; exact ⟨by omega, h3⟩), hs.2.grown hg' (fun r e => by have := (hr r e).1; omega)⟩
  refine (hseq (b + 1) (fun pre W => I pre W ∧ Recs b rec .ready none W) (fun pre W => ∃ c, Ix c pre W ∧ Recs b rec .done (some c) W) V (hb0.trans (hbV.mono hb0.size)) (abides hI)
    (fun s X Y row hs hg' hr => by obtain ⟨c, hc⟩ := hs; exact ⟨c, abides (hIx c) s X Y row hc hg' hr⟩) ?_ ⟨hIV, hR⟩).mono ?_
  · rintro pre x W ⟨hi, hrW⟩ hlen
    have hy := run_yield (P := P) (args := encs x) hrW.1 (by rw [hrec]; exact hps x)
    rw [hrec] at hy
    refine ⟨fn, _, assign, body, hy, roundIn_of_wpIn hfn (hassign _ pre x W _ hi fun a' Wa hkf hkp hia hax => ?_)⟩
    have hrA := hrW.keeps hkf
    have hnc : ∀ {W : World} {st : LoopState} {j : Option Code}, Recs b rec st j W → ∃ o : Obj, W.heap[b + 1]? = some o ∧ o.isCells = false := fun h => ⟨_, h.1, rfl⟩
    refine ⟨_, run_beginRound hrA.1 (by rw [hrec]), ?_⟩
    have hbusy : ({ rec .ready none with state := .busy } : Loop) = rec .busy none := by rw [hrec]
    rw [hbusy]
    have hrB : Recs b rec .busy none (Wa.putObj (b + 1) (.loop (rec .busy none))) := hrA.put
    refine wpIn_mono (hbody _ pre x a' _ (by omega) (hI.putObj _ hia (by omega) hrA.1 rfl) ((hAx x a').putObj (s := ()) _ hax (by omega) hrA.1 rfl) hlen) ?_
    have fin : ∀ (jump : Option Code) (W3 : World), KeepsFrom b (Wa.putObj (b + 1) (.loop (rec .busy none))) W3 →
        (Instr.endRound (b + 1) jump).run P W3 = .ok (.bool jump.isNone) (W3.putObj (b + 1) (.loop (rec (if jump.isNone then .ready else .done) jump))) ∧ Recs b rec .busy none W3 := fun jump W3 hk3 => by
      have h3 := hrB.keeps hk3
      have := run_endRound (P := P) jump h3.1
      rw [hrec] at this ⊢
      exact ⟨this, by rw [hrec] at h3; exact h3⟩
    have keeps : ∀ (W3 : World) (o : Obj), KeepsFrom b (Wa.putObj (b + 1) (.loop (rec .busy none))) W3 → KeepsFrom V.heap.size W (W3.putObj (b + 1) o) := fun W3 o hk3 => ⟨by have := hkf.size; have := hk3.size; simp at this ⊢; omega, fun i o2 hi h2 h3 => by
      have e1 := hkf.same i o2 (by omega) h2 h3
      have e2 : (Wa.putObj (b + 1) (.loop (rec .busy none))).heap[i]? = some o2 := (World.putObj_heap_other (by omega)).trans e1
      exact (World.putObj_heap_other (by omega)).trans (hk3.same i o2 (by omega) e2 h3)⟩
    rintro e a3 W3 hp
    cases e with
    | normal =>
      obtain ⟨hk3, hkp3, hi3⟩ := hp
      obtain ⟨hr, h3⟩ := fin none W3 hk3
      exact ⟨_, _, hr, .inl ⟨rfl, ⟨hI.putObj _ hi3 (by omega) h3.1 rfl, h3.put⟩, hKt hkp (hKt (hKt (hKb _ _ _ hrA.1) hkp3) (hKb _ _ _ h3.1)), keeps W3 _ hk3⟩⟩
    | ret =>
      obtain ⟨hk3, hi3⟩ := hp
      obtain ⟨hr, h3⟩ := fin (some .ret) W3 hk3
      exact ⟨_, _, hr, .inr ⟨rfl, ⟨.ret, (hIx _).putObj _ hi3 (by omega) h3.1 rfl, h3.put⟩, keeps W3 _ hk3⟩⟩
    | exit id =>
      obtain ⟨hk3, hi3⟩ := hp
      obtain ⟨hr, h3⟩ := fin (some (.exit id)) W3 hk3
      exact ⟨_, _, hr, .inr ⟨rfl, ⟨.exit id, (hIx _).putObj _ hi3 (by omega) h3.1 rfl, h3.put⟩, keeps W3 _ hk3⟩⟩
    | goto t =>
      obtain ⟨hk3, hi3⟩ := hp
      obtain ⟨hr, h3⟩ := fin (some (.goto t)) W3 hk3
      exact ⟨_, _, hr, .inr ⟨rfl, ⟨.goto t, (hIx _).putObj _ hi3 (by omega) h3.1 rfl, h3.put⟩, keeps W3 _ hk3⟩⟩
    | panic ch => exact hp.elim
    | outgrown => exact hp.elim
  · have ends : ∀ (st : LoopState) (j : Option Code) (W2 : World), st ≠ .busy → Recs b rec st j W2 → (Instr.endLoop (b + 1)).run P W2 = .ok j (W2.putObj (b + 1) (.loop (rec .exhausted j))) := fun st j W2 hst h3 => by
      have := run_endLoop (P := P) h3.1 (by rw [hrec]; exact hst)
      rw [hrec] at this ⊢
      exact this
    rintro e W2 ⟨⟨v, rfl⟩, (⟨xs, hS, hi, h3⟩ | ⟨pre, hSp, c, hi, h3⟩)⟩
    · exact ⟨none, _, ends _ _ _ (by simp) h3, hdone b xs _ (Nat.le_refl _) hS (hI.putObj _ hi (by omega) h3.1 rfl) ((World.putObj_heap_other (by omega)).trans h3.2)⟩
    · exact ⟨some c, _, ends _ _ _ (by simp) h3, hstop b c pre _ (Nat.le_refl _) hSp ((hIx c).putObj _ hi (by omega) h3.1 rfl) ((World.putObj_heap_other (by omega)).trans h3.2)⟩
end Go.Proofs.Ytjbnfppnmljbmaa
end
section
/- Land's stones: quad's Squares, land's Stones. -/
namespace Go.Proofs.Ytjbnfppnmljbmaa
open Go.RowKit Go.Deep
open Go.Lib (hid)
set_option linter.unusedVariables false
attribute [local go_sem] Oper.semAt_some

set_option maxRecDepth 100000 in
theorem quad_Squares (w : World) (q : Nat) (F : Nat → Prop) (k : Nat) (s : Sq) (h : QuadAt w q F k s) (S : Int) (hS : sd k = S) : Calls Try.prog 62 #[.pointer (some ⟨q, 0, none⟩)] w fun e w' => ∃ bT bR, e = .returned (itQ bT bR) ∧ Blk w' bT #[.pointer (some ⟨q, 0, none⟩)] ∧ Blk w' bR #[.int .i64 0, .int .i64 0, .int .i64 S, .int .i64 S] ∧ Below w.heap.size w w' := by
  go_enter Try.func62, Try.ntmps62
  go_wp2_with fail
  refine (quad_all w q F k s h S hS).mono ?_
  rintro e w1 ⟨rfl, hb1⟩
  have HB1 := hid hb1
  clear hb1
  go_wp2_with fail
  refine (quad_meets w1 q 0 0 S S).mono ?_
  rintro e w2 ⟨bT, bR, rfl, h1, h2, hb2⟩
  have HQ := hid (And.intro h1 (And.intro h2 (Below.next HB1.out hb2)))
  clear h1 h2 hb2
  go_wp2_with fail
  go_ret
  exact ⟨bT, bR, rfl, HQ.out.1, HQ.out.2.1, HQ.out.2.2⟩
set_option maxRecDepth 100000 in
theorem land_Stones (w : World) (s : Nat) :
    Calls Try.prog 37 #[.pointer (some ⟨s, 0, none⟩)] w fun e w' => ∃ bT, e = .returned (.func (.func 61) #[] #[.pointer (some ⟨bT, 0, none⟩)]) ∧ Blk w' bT #[.pointer (some ⟨s, 0, none⟩)] ∧ w.heap.size ≤ bT ∧ Below w.heap.size w w' := by
  go_enter Try.func37, Try.ntmps37
  go_wp2_with fail
  go_ret
  exact ⟨w.heap.size, rfl, Blk.new w _ _, Nat.le_refl _, Below.new _ _⟩
theorem KeepQ.grow {n0 B B' : Nat} {W W' : World} (h : KeepQ n0 B W W') (hB : B ≤ B') : KeepQ n0 B' W W' := ⟨h.os, h.tape, h.output, h.size, h.low, fun k o hk => h.cells k o (Nat.le_trans hB hk)⟩
theorem keepsFrom_up {B B' : Nat} {W W' : World} (h : KeepsFrom B W W') (hB : B ≤ B') : KeepsFrom B' W W' := ⟨h.size, fun k o hk => h.same k o (Nat.le_trans hB hk)⟩
def stF (l : List Tg) : List Tg := l.filter fun t => decide (t.2 = 1)
theorem stF_one {l : List Tg} {x : Tg} (h : x.2 = 1) : stF (l ++ [x]) = stF l ++ [x] := by unfold stF; rw [List.filter_append]; simp [h]
theorem stF_none {l : List Tg} {x : Tg} (h : ¬ x.2 = 1) : stF (l ++ [x]) = stF l := by unfold stF; rw [List.filter_append]; simp [h]
def sqL (k : Nat) (s : Sq) : List Tg := metS k s 0 0 (ownR k 0 0)
set_option maxRecDepth 100000 in
set_option maxHeartbeats 8000000 in
theorem stones1 (l bT s n0 B k q : Nat) (F Fq : Nat → Prop) (t : Sq) (J Jx : List Tg → World → Prop) (W : World)
    (hY : ∀ pre x W1, J pre W1 → pre.length < (sqL k t).length → YieldAt Fence.wide 4 Try.prog l #[rV x.1] W1 fun e W' => (e = .returned (.bool true) ∧ J (pre ++ [x]) W' ∧ KeepQ n0 B W1 W' ∧ KeepsFrom W.heap.size W1 W') ∨ (e = .returned (.bool false) ∧ Jx (pre ++ [x]) W' ∧ KeepsFrom W.heap.size W1 W'))
    (hJ : OwnFrom W.heap.size J) (hJx : OwnFrom W.heap.size Jx) (hB : B ≤ W.heap.size) (hn0 : n0 ≤ B)
    (hT : Blk W bT #[.pointer (some ⟨s, 0, none⟩)]) (hs : W.cell? ⟨s, 0, none⟩ = some (.pointer (some ⟨q, 0, none⟩))) (hq : QuadAt W q Fq k t) (hF : ∀ b ∈ q :: blkS k t, b < n0) (h0 : J [] W) :
    CallsIn Fence.wide 5 Try.prog 61 #[.func (.yield l) #[] #[], .pointer (some ⟨bT, 0, none⟩)] W fun e W' => (∃ v, e = .returned v) ∧ ((∃ ys, ys = stF (sqL k t) ∧ J ys W') ∨ (∃ pre, pre <+: stF (sqL k t) ∧ Jx pre W')) := by
  obtain ⟨S, hS⟩ : ∃ S, sd k = S := ⟨_, rfl⟩
  obtain ⟨w1, hw1⟩ : ∃ w1, w1 = W.alloc (.cells #[.func (.yield l) #[] #[]] 55) := ⟨_, rfl⟩
  have hb1 : Below W.heap.size W w1 := by rw [hw1]; exact Below.new _ _
  have hk2 : Blk w1 W.heap.size #[.func (.yield l) #[] #[]] := by rw [hw1]; exact Blk.new _ _ _
  have t0 : w1.cell? ⟨bT, 0, none⟩ = some (.pointer (some ⟨s, 0, none⟩)) := by rw [(hT.below hb1).cell]; rfl
  have s0 : w1.cell? ⟨s, 0, none⟩ = some (.pointer (some ⟨q, 0, none⟩)) := cellOf_belowR hb1 hs
  have HSQ := hid (quad_Squares w1 q Fq k t (hq.below hb1) S hS)
  have HQ := hid hq
  have HS := hid hS
  have HJ := hid (And.intro hJ hJx)
  have HY := hid hY
  have HB1 := hid hb1
  have HK2 := hid hk2
  have HFF := hid hF
  have HN := hid (And.intro hB hn0)
  have H0 := hid h0
  clear hT hs hq hF hS hJ hJx hY hb1 hk2 hB hn0 h0
  refine callsIn_of_wp_marks Try.func61 rfl trivial ?_ rfl
  simp only [Try.ntmps61, List.size_toArray, List.length_cons, List.length_nil, Nat.reduceAdd, Nat.reduceSub, Array.replicate_succ, Array.replicate_zero, List.push_toArray, List.append_toArray, List.nil_append, List.cons_append]
  rw [hw1] at t0 s0
  gi_wp2_with (refine ⟨trivial, ?_⟩; (try rw [← hw1]); refine (callsIn_wide.2 HSQ.out).mono ?_; rintro e w2 ⟨cT, cR, rfl, hT2, hR2, hb2⟩)
  have HTI := hid (And.intro hT2 hR2)
  have HB2 := hid (Below.next HB1.out hb2)
  have HKY := hid (HK2.out.below hb2)
  have HEQ : Hid (metS k t 0 0 (0, 0, S, S) = sqL k t) := hid (by unfold sqL ownR; rw [HS.out])
  obtain ⟨b2, hb2'⟩ : ∃ b, b = W.heap.size := ⟨_, rfl⟩
  rw [← hb2'] at HKY ⊢
  have HW2 : Hid (B ≤ b2 ∧ b2 < w2.heap.size ∧ W.heap.size ≤ w2.heap.size) := hid ⟨by have := HN.out.1; omega, HKY.out.lt, HB2.out.size⟩
  clear hT2 hR2 hb2 hb2' hw1 t0 s0 HSQ
  have hlq := HN.out
  have hw2q := HW2.out
  refine wpIn_rangeFunc_ownH (F := Fence.wide) (n := 5) (α := Tg) rfl (by omega) (gf := 95) (lb := #[.pointer (some ⟨cT, 0, none⟩), .pointer (some ⟨cR, 0, none⟩)]) rfl trivial (enters_of Try.func95 (by kernel_rfl) rfl)
    (stops_meets cT cR q k Fq t n0 0 0 S S w2 (by omega) HTI.out.1 HTI.out.2 (HQ.out.below HB2.out) HFF.out)
    (fun h k => h.trans k) (fun V l o o' hlo ho hc _ => KeepQ.put (by omega) V l o o' hlo ho hc) (Below.refl _ _) (fun _ => rfl)
    (fun pre V => J (stF pre) V ∧ Blk V b2 #[.func (.yield l) #[] #[]] ∧ w2.heap.size ≤ V.heap.size)
    (fun c pre V => c = .ret ∧ Jx (stF pre) V ∧ w2.heap.size ≤ V.heap.size)
    ?hI ?hIx ?h0
    (fun z a' V => ∃ Bx, w2.heap.size ≤ Bx ∧ Blk V Bx #[.int .i64 z.1.1, .int .i64 z.1.2.1, .int .i64 z.1.2.2.1, .int .i64 z.1.2.2.2] ∧ a' = { tmps := #[.func (.yield l) #[] #[], .pointer (some ⟨bT, 0, none⟩), .pointer (some ⟨b2, 0, none⟩), .pointer (some ⟨Bx, 0, none⟩), .int .i64 z.2, .pointer (some ⟨s, 0, none⟩), .pointer (some ⟨s, 0, none⟩), .pointer (some ⟨s, 0, none⟩), .pointer (some ⟨q, 0, none⟩), itQ cT cR, rV z.1, .int .i64 z.2, undef, undef, undef, undef, undef, undef, undef, undef], defers := [] })
    ?hAx ?assign ?body ?done ?stop
  case hI =>
    rintro pre V V' row ⟨h1, h2, h3⟩ hg hr
    exact ⟨HJ.out.1 _ V V' row h1 hg (fun r e => ⟨by have := (hr r e).1; omega, (hr r e).2⟩), own_blkR hg hr h2, Nat.le_trans h3 hg.size⟩
  case hIx =>
    rintro c pre V V' row ⟨h1, h2, h3⟩ hg hr
    exact ⟨h1, HJ.out.2 _ V V' row h2 hg (fun r e => ⟨by have := (hr r e).1; omega, (hr r e).2⟩), Nat.le_trans h3 hg.size⟩
  case h0 => exact ⟨HJ.out.1 _ _ _ none H0.out (grown_belowR HB2.out) (fun r e => by cases e), HKY.out, Nat.le_refl _⟩
  case hAx =>
    rintro x a' u V V' row ⟨Bx, h1, h2, h3⟩ hg hr
    exact ⟨Bx, h1, own_blkR hg hr h2, h3⟩
  case assign =>
    rintro l' pre ⟨⟨zx, zy, za, zb⟩, zv⟩ V K ⟨h1, h2, h3⟩ hK
    simp only [rV] at hK ⊢
    gi_wp2
    have hb := Below.new V (.cells #[.int .i64 zx, .int .i64 zy, .int .i64 za, .int .i64 zb] 33)
    have hz := hb.size
    exact hK _ _ ((KeepsOthers.alloc _ _).from _) (KeepQ.of_below hb (by omega)) ⟨HJ.out.1 _ _ _ none h1 (grown_belowR hb) (fun r e => by cases e), h2.below hb, by omega⟩ ⟨V.heap.size, h3, Blk.new _ _ _, rfl⟩
  case body =>
    rintro l' pre ⟨⟨zx, zy, za, zb⟩, zv⟩ a' V hl' hrec ⟨h1, h2, h3⟩ ⟨Bx, hBx, hkx, rfl⟩ hlen
    simp only [rV]
    simp only at hkx
    rw [HEQ.out] at hlen
    have hlen2 : (stF pre).length < (sqL k t).length := Nat.lt_of_le_of_lt (List.length_filter_le _ _) hlen
    have H1 := hid (And.intro h1 (And.intro h2 h3))
    obtain ⟨x0, x1, x2, x3⟩ := hkx.c4r
    have y2 : V.cell? ⟨b2, 0, none⟩ = some (.func (.yield l) #[] #[]) := by rw [h2.cell]; rfl
    by_cases hv : zv = 1
    · subst hv
      have hy := yieldAt_any (m' := 2) (HY.out (stF pre) ((zx, zy, za, zb), 1) V h1 hlen2)
      simp only [rV] at hy
      obtain ⟨fn, tmps, assign, body, hy, hR⟩ := hy
      clear h1 h2 h3 hlen hlen2 hkx hBx
      gi_wp2
      refine (show RoundIn (Fence.wide.inRound l') 2 Try.prog l fn tmps assign body V _ from hR).mono ?_
      clear hR hy
      rintro e W3 (⟨rfl, hJ3, hk3, hf3⟩ | ⟨rfl, hJx3, hf3⟩)
      · have HK3 := hid hk3
        have HJ3 := hid hJ3
        have HF3 := hid hf3
        clear hk3 hJ3 hf3
        gi_wp2
        exact ⟨keepsFrom_up HF3.out (by omega), HK3.out.grow (by omega), by rw [stF_one rfl]; exact HJ3.out, HK3.out.blk (by omega) H1.out.2.1, Nat.le_trans H1.out.2.2 HK3.out.size⟩
      · have HF3 := hid hf3
        have HJ3 := hid hJx3
        clear hf3 hJx3
        gi_wp2
        exact ⟨keepsFrom_up HF3.out (by omega), rfl, by rw [stF_one rfl]; exact HJ3.out, Nat.le_trans H1.out.2.2 HF3.out.size⟩
    · have hv2 : (zv == 1) = false := by simpa using hv
      have HV := hid hv
      clear h1 h2 h3 hlen hlen2 hkx hBx
      gi_wp2
      refine ⟨fun _ h => (by cases h), ?_⟩
      gi_wp2
      exact ⟨(KeepsOthers.refl _).from _, KeepQ.refl _ _ _, by rw [stF_none HV.out]; exact H1.out.1, H1.out.2⟩
  case done =>
    rintro D ys V hD rfl ⟨h1, h2, h3⟩ hK
    have HX := hid (And.intro h1 hK)
    clear h1 h2 h3 hK
    gi_wp2
    refine ⟨by simp, .inl ⟨_, _, rfl, run_takeDeferred HX.out.2, ?_⟩⟩
    exact ⟨_, results_none rfl _ _ _, ⟨_, rfl⟩, .inl ⟨_, by rw [HEQ.out], HJ.out.1.putObj _ (HX.out.1) (by omega) HX.out.2 rfl⟩⟩
  case stop =>
    rintro D c pre V hD hpre ⟨rfl, h1, h2⟩ hK
    have HX := hid (And.intro h1 hK)
    have HPF : Hid (stF pre <+: stF (sqL k t)) := hid (by rw [← HEQ.out]; exact hpre.filter _)
    clear h1 h2 hK hpre
    gi_wp2
    refine ⟨by simp, .inl ⟨_, _, rfl, run_takeDeferred HX.out.2, ?_⟩⟩
    exact ⟨_, results_none rfl _ _ _, ⟨_, rfl⟩, .inr ⟨_, HPF.out, HJ.out.2.putObj _ (HX.out.1) (by omega) HX.out.2 rfl⟩⟩
theorem stops_stones (bT s n0 B k q : Nat) (F Fq : Nat → Prop) (t : Sq) (w0 : World) (hn0 : n0 ≤ B) (hB : B ≤ w0.heap.size)
    (hT : Blk w0 bT #[.pointer (some ⟨s, 0, none⟩)]) (hs : w0.cell? ⟨s, 0, none⟩ = some (.pointer (some ⟨q, 0, none⟩))) (hq : QuadAt w0 q Fq k t) (hF : ∀ b ∈ q :: blkS k t, b < n0) :
    SeqStopsS 5 Try.prog 61 #[.pointer (some ⟨bT, 0, none⟩)] (fun x : Tg => #[rV x.1]) (KeepQ n0 B) (fun ys => ys = stF (sqL k t)) (fun pre => pre <+: stF (sqL k t)) (sqL k t).length w0 := fun l J Jx W hW hJ hJx hY h0 =>
  stones1 l bT s n0 B k q F Fq t J Jx W hY hJ hJx (Nat.le_trans hB hW.size) hn0 (hT.below hW) (cellOf_belowR hW hs) (hq.below hW) hF h0
end Go.Proofs.Ytjbnfppnmljbmaa
end
