/- Joined texts, in this order: LandPlays, LawLandPlays. Each one's first remark says what it proves; no condition beyond those that its theorems name. -/
import Derived.Test.YtjbnfppnmljbmaaGreatJLawLandPlays28
import Derived.Test.YtjbnfppnmljbmaaGreatJLawLandPlays29
import Derived.Test.YtjbnfppnmljbmaaGreatRows
import Derived.WalkKit
import Derived.ProofKit
import Derived.OpenShut
import Derived.ShutString
import Derived.ChangeOld
import Derived.Below
section
/- Law LandPlays. -/
namespace Go.Proofs.YtjbnfppnmljbmaaGreat
open Go.RowKit Go.Deep
open Go.Lib (hid)
set_option linter.unusedVariables false
attribute [local go_sem] Oper.semAt_some

theorem Blk.c5v {w : World} {g : Nat} {c0 c1 c2 c3 c4 : Value} (h : Blk w g #[c0, c1, c2, c3, c4]) : w.cell? ⟨g, 0, none⟩ = some c0 ∧ w.cell? ⟨g, 1, none⟩ = some c1 ∧ w.cell? ⟨g, 2, none⟩ = some c2 ∧ w.cell? ⟨g, 3, none⟩ = some c3 ∧ w.cell? ⟨g, 4, none⟩ = some c4 :=
  ⟨by rw [h.cell]; rfl, by rw [h.cell]; rfl, by rw [h.cell]; rfl, by rw [h.cell]; rfl, by rw [h.cell]; rfl⟩
theorem KeyWf.step {S : Int} {B : List R4} {P : List Pl} {o : OpL} (h : KeyWf P) (ho : (Lit.int .i64 o.i).wf = true) : KeyWf (stepL S B P o) := by
  unfold stepL
  split
  · unfold claimP
    split
    · intro p hp
      rcases (mem_insK keyP).1 hp with rfl | hp
      · exact ho
      · exact h p hp
    · exact h
  · split
    · intro p hp
      exact h p ((List.mem_filter.1 hp).1)
    · exact h
/-- behind some calls: all lies as it must, the document's in a box -/
structure PyI (w wr : World) (l g8 k : Nat) (F : Nat → Prop) (B : List R4) (S : Int) (vs vp : Value) (P : List Pl) : Prop where
  both : BothL wr l F k B vs vp P
  box : Blk wr g8 #[.int .i64 S, vs, vp]
  wfk : KeyWf P
  low : ∀ b, F b → w.heap.size ≤ b
  nbox : ¬ F g8
  gl : w.heap.size ≤ g8
  ns : ∀ b, vs.ownBlock = some b → b ≠ g8
  np : ∀ b, vp.ownBlock = some b → b ≠ g8
  below : Below w.heap.size w wr
theorem PyI.next {w wr wz : World} {l g8 k : Nat} {F : Nat → Prop} {B : List R4} {S : Int} {vs vp : Value} {P : List Pl} (h : PyI w wr l g8 k F B S vs vp P) (hb : Below wr.heap.size wr wz) : PyI w wz l g8 k F B S vs vp P :=
  ⟨h.both.below hb, h.box.below hb, h.wfk, h.low, h.nbox, h.gl, h.ns, h.np, Below.next h.below hb⟩
theorem PyI.stepped {w wr wx wz : World} {l g8 k : Nat} {F F' : Nat → Prop} {B : List R4} {S : Int} {vs vp vp' : Value} {P P' : List Pl} (h : PyI w wr l g8 k F B S vs vp P) (hb : BothL wx l F' k B vs vp' P') (hu : Upd F wr wx) (hF : ∀ b, F' b → F b ∨ wr.heap.size ≤ b) (hv : vp' = vp ∨ ∀ b, vp'.ownBlock = some b → wr.heap.size ≤ b) (hw : KeyWf P') (hk : Blk wz g8 #[.int .i64 S, vs, vp']) (hz : Upd (fun b => b = g8) wx wz) : PyI w wz l g8 k F' B S vs vp' P' := by
  have hg := h.box.lt
  have z1 := h.below.size
  have n8 : ¬ F' g8 := fun q => by rcases hF g8 q with q | q; exact h.nbox q; omega
  have np' : ∀ b, vp'.ownBlock = some b → b ≠ g8 := fun b e q => by
    rcases hv with rfl | hv
    · exact h.np b e q
    · have := hv b e; omega
  exact ⟨hb.upd hz (fun b e q => by subst e; exact n8 q) (fun b e q => h.ns b e q) (fun b e q => np' b e q), hk, hw, fun b q => by rcases hF b q with q | q; exact h.low b q; omega, n8, h.gl, h.ns, np', (h.below.trans (hu.below z1 (fun b _ q => h.low b q))).trans (hz.below (by have := hu.size; omega) (fun b _ q => by have := h.gl; omega))⟩
theorem meetsR_symmL {a b : R4} (h : MeetsR a b) : MeetsR b a := by unfold MeetsR at h ⊢; obtain ⟨h1, h2, h3⟩ := h; exact ⟨h2, h1, h3.2.1, h3.1, h3.2.2.2, h3.2.2.1⟩
def PyR (w : World) (l g8 k n : Nat) (B : List R4) (S : Int) (vs : Value) (v54 : Value) (wr : World) : Prop := ∃ (j : Nat) (F : Nat → Prop) (vp : Value) (P : List Pl), v54 = .int .i64 (j : Int) ∧ j ≤ n ∧ Hid (PyI w wr l g8 k F B S vs vp P)
set_option maxRecDepth 100000 in
set_option maxHeartbeats 8000000 in
theorem law19_Plays (S : Int) (ab ao : Option Addr) (nb cb co : Nat) (B : List R4) (L : List OpL) (w : World) (hs : SlR w (.slice ab nb cb) B) (hl : SlE OpLE 6 w (.slice ao L.length co) L) :
    Calls Tryz.prog 4 #[.int .i64 S, .slice ab nb cb, .slice ao L.length co] w fun e w' => e = .returned (.bool true) ∧ Below w.heap.size w w' := by
  have hnb : B.length = nb := by obtain ⟨a, c, e, -⟩ := hs; simp only [Value.slice.injEq] at e; exact e.2.1.symm
  have HS := hid hs
  have HL := hid hl
  have HN := hid hnb
  have HAW : Hid (∀ z, Below w.heap.size w z → Calls Tryz.prog 7 #[] z fun e w' => e = .returned (.bool true) ∧ Below w.heap.size w w') := hid (fun z hz => (law19_awake z).mono (fun e w' h => ⟨h.1, Below.next hz h.2⟩))
  obtain ⟨n, hn⟩ : ∃ n, L.length = n := ⟨_, rfl⟩
  rw [hn]
  have HLN := hid hn
  clear hs hl hnb hn
  go_enter Tryz.func4, Tryz.ntmps4
  by_cases h20 : nb ≤ 20
  case neg =>
    have c1 : (20 : Int) < (nb : Int) := by omega
    go_wp2_with fail
    refine (HAW.out w (Below.refl _ _)).mono ?_
    rintro e w1 ⟨rfl, hb⟩
    have HZ := hid hb
    clear hb
    go_wp2_with fail
    go_ret
    exact ⟨rfl, HZ.out⟩
  by_cases h80 : n ≤ 80
  case neg =>
    have c1 : ¬ (20 : Int) < (nb : Int) := by omega
    have c2 : (80 : Int) < (n : Int) := by omega
    go_wp2_with fail
    refine (HAW.out w (Below.refl _ _)).mono ?_
    rintro e w1 ⟨rfl, hb⟩
    have HZ := hid hb
    clear hb
    go_wp2_with fail
    go_ret
    exact ⟨rfl, HZ.out⟩
  have c1 : ¬ (20 : Int) < (nb : Int) := by omega
  have c2 : ¬ (80 : Int) < (n : Int) := by omega
  have H80 := hid h80
  have HB1000 : Hid (B.length ≤ 1000) := hid (by have := HN.out; omega)
  go_wp2_with fail
  refine (law19_made S _ B w HS.out HB1000.out).mono ?_
  rintro e w1 ⟨lv, vs, E, rfl, hvs, hvl, hb1, hcase⟩
  obtain ⟨va, vc, hve, -⟩ := id hvs
  subst hve
  obtain ⟨nv, hnv⟩ : ∃ nv, B.length = nv := ⟨_, rfl⟩
  rw [hnv] at hvs hvl hcase ⊢
  have HVS := hid hvs
  have HVL := hid hvl
  have HB1 := hid hb1
  have HCASE := hid hcase
  clear hvs hvl hb1 hcase hnv
  simp only [xV]
  rcases HCASE.out with ⟨hok, hE, l, k, F, hSk, hlv, hLI, hF⟩ | ⟨hno, hE, hlv⟩
  case inr =>
    subst hE hlv
    have HX : Hid (rtX S B = false) := hid (by
      cases h : rtX S B with
      | false => rfl
      | true => exact absurd ((rtX_iff S B).1 h) hno)
    go_wp2_with (first | (refine (law19_right S _ B _ (HS.out.below (Below.next HB1.out (Below.new _ _))) HB1000.out false HX).mono ?_; rintro e w2 ⟨rfl, hb2⟩; have HB2 := hid (Below.next (Below.next HB1.out (Below.new _ _)) hb2); clear hb2) | (refine (HAW.out _ HB2.out).mono ?_; rintro e w3 ⟨rfl, hb3⟩; have HB3 := hid hb3; clear hb3))
    go_ret
    exact ⟨rfl, HB3.out⟩
  subst hE hlv
  have HX : Hid (rtX S B = true) := hid ((rtX_iff S B).2 hok)
  have HSD : Hid (sd k = S) := hid hSk.symm
  have HLI := hid (And.intro hLI hF)
  clear hok hSk hLI hF HCASE
  go_upto_region 4 with fail
  obtain ⟨w2, hw2⟩ : ∃ w2, w2 = w1.alloc (.cells #[.int .i64 S, .slice va nv vc, .slice none 0 0] 32) := ⟨_, rfl⟩
  rw [← hw2]
  obtain ⟨g8, hg8⟩ : ∃ g8, g8 = w1.heap.size := ⟨_, rfl⟩
  rw [← hg8]
  have HI2 : Hid (PyI w w2 l g8 k (fun b => F b ∧ b < w1.heap.size) B S (.slice va nv vc) (.slice none 0 0) []) := hid (by
    have hb2 : Below w1.heap.size w1 w2 := by rw [hw2]; exact Below.new _ _
    have z1 := HB1.out.size
    have z2 := hb2.size
    refine ⟨⟨(HLI.out.1.weaken (fun b y z => ⟨y, z⟩)).below hb2, HVS.out.below hb2, SlPl.nil _, fun b e y => (HLI.out.2 b y.1).2 e, fun b e => (by simp [Value.ownBlock] at e), fun b e => by have := (HVL.out b e).2; omega, fun b e => (by simp [Value.ownBlock] at e)⟩, by rw [hw2, hg8]; exact Blk.new _ _ _, fun p hp => (by simp at hp), fun b y => (HLI.out.2 b y.1).1, fun y => by have := y.2; omega, by omega, fun b e => by have := (HVL.out b e).2; omega, fun b e => (by simp [Value.ownBlock] at e), Below.next HB1.out hb2⟩)
  clear hw2 hg8
  go_wp2_with fail
  refine (law19_right S _ B w2 (HS.out.below HI2.out.below) HB1000.out true HX).mono ?_
  rintro e w3 ⟨rfl, hb3⟩
  have HP0 : Hid (PyR w l g8 k n B S (.slice va nv vc) (.int .i64 0) w3) := hid ⟨0, _, _, _, rfl, by omega, hid (HI2.out.next hb3)⟩
  clear hb3 c1 c2 h20 h80
  go_wp2_with fail
  go_loopw [54] (fun v54 wr => PyR w l g8 k n B S (.slice va nv vc) v54 wr) (fun v54 _ => n - (intOf v54).toNat)
  case atStart => exact HP0.out
  case round =>
    clear HP0
    obtain ⟨j, F2, vp, P, rfl, hj, HI⟩ := hrel
    obtain ⟨ap, cp, hvp, -⟩ := id HI.out.both.pl
    obtain ⟨np, hnp⟩ : ∃ np, P.length = np := ⟨_, rfl⟩
    rw [hnp] at hvp
    have HNP := hid hnp
    subst hvp
    clear hnp
    by_cases hlt : j < n
    · have j1 : (j : Int) < (n : Int) := by omega
      have j0 : (0 : Int) ≤ (j : Int) := by omega
      have j9 : (j : Int) < 80 := by have := H80.out; omega
      obtain ⟨o, hp⟩ : ∃ o, L[j]? = some o := ⟨_, List.getElem?_eq_getElem (by have := HLN.out; omega)⟩
      obtain ⟨⟨bo, off, rfl, q0, q1, q2, q3, q4, q5⟩, howf⟩ := HL.out.opL HI.out.below hp
      have HOW := hid howf
      obtain ⟨ok, oi, ⟨ox, oy, oa, ob⟩⟩ := o
      simp only at q0 q1 q2 q3 q4 q5
      clear hp howf
      go_upto_region 11 with fail
      obtain ⟨w5, hw5⟩ : ∃ w5, w5 = wr.alloc (.cells #[.int .i64 ok, .int .i64 oi, .int .i64 ox, .int .i64 oy, .int .i64 oa, .int .i64 ob] 55) := ⟨_, rfl⟩
      rw [← hw5]
      obtain ⟨bb, hbb⟩ : ∃ bb, bb = wr.heap.size := ⟨_, rfl⟩
      rw [← hbb]
      have hb5 : Below wr.heap.size wr w5 := by rw [hw5]; exact Below.new _ _
      have HO5 : Hid (Blk w5 bb #[.int .i64 ok, .int .i64 oi, .int .i64 ox, .int .i64 oy, .int .i64 oa, .int .i64 ob]) := hid (by rw [hw5, hbb]; exact Blk.new _ _ _)
      have HI5 := hid (HI.out.next hb5)
      clear hw5 hb5 hbb q0 q1 q2 q3 q4 q5
      obtain ⟨M, hM⟩ : ∃ M, mayX S B P (ox, oy, oa, ob) = M := ⟨_, rfl⟩
      have HM1 : Hid (∀ z, Below w5.heap.size w5 z → Calls Tryz.prog 20 #[.pointer (some ⟨l, 0, none⟩), .agg #[.int .i64 ox, .int .i64 oy, .int .i64 oa, .int .i64 ob]] z fun e w' => e = .returned (.int .i64 M) ∧ Below z.heap.size z w') := hid (fun z hz => by
        have := land_May z l F2 k B P ox oy oa ob (HI5.out.next hz).both.land
        rw [HSD.out, hM] at this
        exact this)
      have HM2 : Hid (∀ z, Below w5.heap.size w5 z → Calls Tryz.prog 21 #[.agg #[.int .i64 S, .slice va nv vc, .slice ap np cp], .agg #[.int .i64 ox, .int .i64 oy, .int .i64 oa, .int .i64 ob]] z fun e w' => e = .returned (.int .i64 M) ∧ Below z.heap.size z w') := hid (fun z hz => by
        have hh := (HI5.out.next hz).both
        have := ref19_May S va ap nv vc np cp B P ox oy oa ob z hh.st hh.pl HB1000.out (by have := hh.land.inv.len; omega)
        rw [hM] at this
        exact this)
      clear hM
      obtain ⟨x0, x1, x2, x3, x4, x5⟩ := HO5.out.c6v
      obtain ⟨l0, l1, l2⟩ := HI5.out.box.c3v
      replace x2 := fun (z : World) (hz : Below w5.heap.size w5 z) => cellOf_belowR hz x2
      replace x3 := fun (z : World) (hz : Below w5.heap.size w5 z) => cellOf_belowR hz x3
      replace x4 := fun (z : World) (hz : Below w5.heap.size w5 z) => cellOf_belowR hz x4
      replace x5 := fun (z : World) (hz : Below w5.heap.size w5 z) => cellOf_belowR hz x5
      replace l0 := fun (z : World) (hz : Below w5.heap.size w5 z) => cellOf_belowR hz l0
      replace l1 := fun (z : World) (hz : Below w5.heap.size w5 z) => cellOf_belowR hz l1
      replace l2 := fun (z : World) (hz : Below w5.heap.size w5 z) => cellOf_belowR hz l2
      have hyd := (Below.refl w5.heap.size w5).drew
      clear x0 x1
      refine wp_region_kept [] (fun z => Below w5.heap.size w5 z) (by kernel_rfl) (by assumption) (fun hH => ?_)
      refine wpK.take (i := 0) (v := _) (by simp only [List.getElem?_toArray, List.getElem?_cons_succ, List.getElem?_cons_zero]; rfl) (by kernel_rfl) (by kernel_rfl) (by kernel_rfl) (by kernel_rfl) (by kernel_rfl) (by exact fun _ _ _ h => h) (by first | exact Or.inl ⟨by rfl, by intro w hSw; go_simp; try with_reducible rfl⟩ | exact Or.inr ⟨by rfl, rfl⟩) hH ?_
      try simp only [Act.put, List.setIfInBounds_toArray, List.set_cons_zero, List.set_cons_succ]
      refine wpK.take (i := 1) (v := _) (by simp only [List.getElem?_toArray, List.getElem?_cons_succ, List.getElem?_cons_zero]; rfl) (by kernel_rfl) (by kernel_rfl) (by kernel_rfl) (by kernel_rfl) (by kernel_rfl) (by exact fun _ _ _ h => h) (by first | exact Or.inl ⟨by rfl, by intro w hSw; go_simp; try with_reducible rfl⟩ | exact Or.inr ⟨by rfl, rfl⟩) hH ?_
      try simp only [Act.put, List.setIfInBounds_toArray, List.set_cons_zero, List.set_cons_succ]
      refine wpK.take (i := 2) (v := _) (by simp only [List.getElem?_toArray, List.getElem?_cons_succ, List.getElem?_cons_zero]; rfl) (by kernel_rfl) (by kernel_rfl) (by kernel_rfl) (by kernel_rfl) (by kernel_rfl) (by exact fun _ _ _ h => h) (by first | exact Or.inl ⟨by rfl, by intro w hSw; go_simp; try with_reducible rfl⟩ | exact Or.inr ⟨by rfl, rfl⟩) hH ?_
      try simp only [Act.put, List.setIfInBounds_toArray, List.set_cons_zero, List.set_cons_succ]
      refine wpK.take (i := 4) (v := _) (by simp only [List.getElem?_toArray, List.getElem?_cons_succ, List.getElem?_cons_zero]; rfl) (by kernel_rfl) (by kernel_rfl) (by kernel_rfl) (by kernel_rfl) (by kernel_rfl) (by exact fun _ _ _ h => h) (by first | exact Or.inl ⟨by rfl, by intro w hSw; go_simp; try with_reducible rfl⟩ | exact Or.inr ⟨by rfl, rfl⟩) hH ?_
      try simp only [Act.put, List.setIfInBounds_toArray, List.set_cons_zero, List.set_cons_succ]
      refine wpK.take (i := 5) (v := _) (by simp only [List.getElem?_toArray, List.getElem?_cons_succ, List.getElem?_cons_zero]; rfl) (by kernel_rfl) (by kernel_rfl) (by kernel_rfl) (by kernel_rfl) (by kernel_rfl) (by exact fun _ _ _ h => h) (by first | exact Or.inl ⟨by rfl, by intro w hSw; go_simp; try with_reducible rfl⟩ | exact Or.inr ⟨by rfl, rfl⟩) hH ?_
      try simp only [Act.put, List.setIfInBounds_toArray, List.set_cons_zero, List.set_cons_succ]
      refine wpK.take (i := 6) (v := _) (by simp only [List.getElem?_toArray, List.getElem?_cons_succ, List.getElem?_cons_zero]; rfl) (by kernel_rfl) (by kernel_rfl) (by kernel_rfl) (by kernel_rfl) (by kernel_rfl) (by exact fun _ _ _ h => h) (by first | exact Or.inl ⟨by rfl, by intro w hSw; go_simp; try with_reducible rfl⟩ | exact Or.inr ⟨by rfl, rfl⟩) hH ?_
      try simp only [Act.put, List.setIfInBounds_toArray, List.set_cons_zero, List.set_cons_succ]
      refine wpK.step (i := 3) (by kernel_rfl) (by simp only [List.getElem?_toArray, List.getElem?_cons_succ, List.getElem?_cons_zero]; rfl) (fun K hK => ?_)
      go_simp
      (refine (HM1.out _ hH).mono ?_); rintro e w6 ⟨rfl, hb6⟩; (have hk6 := Below.next hH hb6); go_simp
      refine hK.out _ _ (by assumption) (fun hH => ?_)
      clear hK K
      try simp only [Act.put, List.setIfInBounds_toArray, List.set_cons_zero, List.set_cons_succ]
      refine wpK.step (i := 7) (by kernel_rfl) (by simp only [List.getElem?_toArray, List.getElem?_cons_succ, List.getElem?_cons_zero]; rfl) (fun K hK => ?_)
      go_simp
      (refine (law19_ref ox oy oa ob _).mono ?_); rintro e w7 ⟨rfl, hb7⟩; (have hk7 := Below.next hH hb7); go_simp
      refine hK.out _ _ (by assumption) (fun hH => ?_)
      clear hK K
      try simp only [Act.put, List.setIfInBounds_toArray, List.set_cons_zero, List.set_cons_succ]
      refine wpK.step (i := 8) (by kernel_rfl) (by simp only [List.getElem?_toArray, List.getElem?_cons_succ, List.getElem?_cons_zero]; rfl) (fun K hK => ?_)
      go_simp
      (refine (HM2.out _ hH).mono ?_); rintro e w8 ⟨rfl, hb8⟩; (have hk8 := Below.next hH hb8); go_simp
      refine hK.out _ _ (by assumption) (fun hH => ?_)
      clear hK K
      try simp only [Act.put, List.setIfInBounds_toArray, List.set_cons_zero, List.set_cons_succ]
      refine wpK.take (i := 9) (v := _) (by simp only [List.getElem?_toArray, List.getElem?_cons_succ, List.getElem?_cons_zero]; rfl) (by kernel_rfl) (by kernel_rfl) (by kernel_rfl) (by kernel_rfl) (by kernel_rfl) (by exact fun _ _ _ h => h) (by first | exact Or.inl ⟨by rfl, by intro w hSw; go_simp; try with_reducible rfl⟩ | exact Or.inr ⟨by rfl, rfl⟩) hH ?_
      try simp only [Act.put, List.setIfInBounds_toArray, List.set_cons_zero, List.set_cons_succ]
      refine wpK.done (by kernel_rfl) ?_ _
      have HI8 := hid (HI5.out.next hk8)
      obtain ⟨y0, y1, y2, y3, y4, y5⟩ := (HO5.out.below hk8).c6v
      obtain ⟨m0, m1, m2⟩ := HI8.out.box.c3v
      clear x2 x3 x4 x5 l0 l1 l2 hyd hk6 hk7 hk8 hb6 hb7 hb8 hH HM1 HM2
      go_wp2_with fail
      refine (law19_step S (.slice va nv vc) (.slice ap np cp) k B P ⟨ok, oi, (ox, oy, oa, ob)⟩ l F2 w8 HI8.out.both HSD.out HB1000.out).mono ?_
      rintro e w9 ⟨F9, vp9, rfl, hbo9, hu9, hF9, hv9⟩
      obtain ⟨P9, hP9⟩ : ∃ P9, stepL S B P ⟨ok, oi, (ox, oy, oa, ob)⟩ = P9 := ⟨_, rfl⟩
      rw [hP9] at hbo9
      have HKW : Hid (KeyWf P9) := hid (by rw [← hP9]; exact HI8.out.wfk.step HOW.out)
      obtain ⟨ap9, cp9, hve9, -⟩ := id hbo9.pl
      obtain ⟨np9, hnp9⟩ : ∃ np, P9.length = np := ⟨_, rfl⟩
      rw [hnp9] at hve9
      subst hve9
      have hr9 := HI8.out.box.upd hu9 HI8.out.nbox
      obtain ⟨p0, p1, p2⟩ := hr9.c3v
      have f0 := hr9.unfrozen 0
      have f1 := hr9.unfrozen 1
      have f2 := hr9.unfrozen 2
      obtain ⟨wz, hwz, hkz, huz⟩ := set3v hr9 (.int .i64 S) (.slice va nv vc) (.slice ap9 np9 cp9)
      have HWZ := hid hwz
      have HIZ := hid (HI8.out.stepped hbo9 hu9 hF9 hv9 HKW.out hkz huz)
      clear hwz hkz huz hr9 hbo9 hu9 hF9 hv9 hP9 hnp9 y0 y1 y2 y3 y4 y5 m0 m1 m2
      simp only [xV]
      go_upto_region 15 with fail
      try rw [← HWZ.out]
      clear p0 p1 p2 f0 f1 f2
      obtain ⟨m0, m1, m2⟩ := HIZ.out.box.c3v
      go_wp2_with fail
      refine (law19_same S (.slice va nv vc) (.slice ap9 np9 cp9) k B P9 l F9 wz HIZ.out.both HSD.out HIZ.out.wfk).mono ?_
      rintro e wy ⟨rfl, hby⟩
      have HIY := hid (HIZ.out.next hby)
      clear hby m0 m1 m2
      go_wp2_with fail
      go_roundw
      case rel => exact ⟨j + 1, F9, _, P9, by go_num, by omega, HIY⟩
      case measure => simp [intOf]; omega
    · have j1 : ¬ (j : Int) < (n : Int) := by omega
      have HINV := hid HI.out.both.land.inv
      obtain ⟨wL, hwL⟩ : ∃ wL, wL = wr := ⟨_, rfl⟩
      subst hwL
      obtain ⟨m0, m1, m2⟩ := HI.out.box.c3v
      have np256 : np ≤ 256 := by have := HINV.out.len; have := HNP.out; omega
      go_wp2_with fail
      go_loopw [87] (fun v87 wr => ∃ i : Nat, v87 = .int .i64 (i : Int) ∧ i ≤ np ∧ Hid (Below wL.heap.size wL wr)) (fun v87 _ => np - (intOf v87).toNat)
      case atStart => exact ⟨0, rfl, by omega, hid (Below.refl _ _)⟩
      case round =>
        obtain ⟨i, rfl, hi, HBI⟩ := hrel
        by_cases hlt2 : i < np
        · have i1 : (i : Int) < (np : Int) := by omega
          have i0 : (0 : Int) ≤ (i : Int) := by omega
          have i9 : (i : Int) < 256 := by omega
          obtain ⟨a', c', e', hrd, hcp, -, -⟩ := (HI.out.both.pl.below HBI.out)
          simp only [Value.slice.injEq] at e'
          obtain ⟨rfl, -, rfl⟩ := e'
          obtain ⟨b0, off, p, rfl, d0, d1, d2, d3, d4, hat, -, htk⟩ := hrd.fiveP i (by rw [HNP.out]; exact hlt2)
          have HPM := hid (List.mem_of_getElem? hat)
          have HAT := hid hat
          have hcp2 : np ≤ cp := by have := HNP.out; omega
          obtain ⟨pi, p1, p2, p3, p4⟩ := p
          simp only at d0 d1 d2 d3 d4
          clear hrd hat htk hcp m0 m1 m2
          go_upto_region 21 with fail
          obtain ⟨w5, hw5⟩ : ∃ w5, w5 = wr.alloc (.cells #[.int .i64 pi, .int .i64 p1, .int .i64 p2, .int .i64 p3, .int .i64 p4] 45) := ⟨_, rfl⟩
          rw [← hw5]
          obtain ⟨gp, hgp⟩ : ∃ gp, gp = wr.heap.size := ⟨_, rfl⟩
          rw [← hgp]
          have hb5 : Below wr.heap.size wr w5 := by rw [hw5]; exact Below.new _ _
          have HK5 : Hid (Blk w5 gp #[.int .i64 pi, .int .i64 p1, .int .i64 p2, .int .i64 p3, .int .i64 p4]) := hid (by rw [hw5, hgp]; exact Blk.new _ _ _)
          have HB5 := hid (Below.next HBI.out hb5)
          clear hw5 hgp hb5 d0 d1 d2 d3 d4
          have HWI : Hid (decide (WithinR (p1, p2, p3, p4) S) = true) := hid (by
            have := (HINV.out.within _ HPM.out).1
            rw [HSD.out] at this
            exact decide_eq_true this)
          have HBK : Hid (blkX B (p1, p2, p3, p4) = false) := hid (HINV.out.free _ HPM.out)
          obtain ⟨t0, t1, t2, t3, t4⟩ := HK5.out.c5v
          go_wp2_with fail
          refine (ref19_Within p1 p2 p3 p4 S w5 true HWI).mono ?_
          rintro e w6 ⟨rfl, hb6⟩
          have HK6 := hid (HK5.out.below hb6)
          have HB6 := hid (Below.next HB5.out hb6)
          clear hb6 t0 t1 t2 t3 t4
          obtain ⟨t0, t1, t2, t3, t4⟩ := HK6.out.c5v
          obtain ⟨m0, m1, m2⟩ := (HI.out.box.below HB6.out).c3v
          have hbk := ref19_Blocked S va (some ⟨b0, off, none⟩) nv vc np cp B p1 p2 p3 p4 w6 (HI.out.both.st.below HB6.out) HB1000.out
          rw [HBK.out] at hbk
          have HBQ := hid hbk
          clear hbk
          go_wp2_with fail
          refine HBQ.out.mono ?_
          rintro e w7 ⟨rfl, hb7⟩
          have HK7 := hid (HK6.out.below hb7)
          have HB7 := hid (Below.next HB6.out hb7)
          clear hb7 t0 t1 t2 t3 t4 m0 m1 m2
          obtain ⟨m0, m1, m2⟩ := (HI.out.box.below HB7.out).c3v
          have icp : (i : Int) ≤ (cp : Int) := by omega
          have icp2 : i ≤ cp := by omega
          go_wp2_with fail
          go_loopw [108] (fun v108 wr => ∃ m : Nat, v108 = .int .i64 (m : Int) ∧ m ≤ i ∧ Hid (Below w7.heap.size w7 wr)) (fun v108 _ => i - (intOf v108).toNat)
          case atStart => exact ⟨0, rfl, by omega, hid (Below.refl _ _)⟩
          case round =>
            clear m0 m1 m2
            obtain ⟨m, rfl, hm, HBM⟩ := hrel
            by_cases hlt3 : m < i
            · have m1 : (m : Int) < (i : Int) := by omega
              have m0 : (0 : Int) ≤ (m : Int) := by omega
              have m9 : (m : Int) < 256 := by omega
              obtain ⟨a', c', e', hrd, -⟩ := (HI.out.both.pl.below (Below.next HB7.out HBM.out))
              simp only [Value.slice.injEq] at e'
              obtain ⟨e2, -, rfl⟩ := e'
              obtain ⟨b2, off2, q, e3, d0, d1, d2, d3, d4, hat, -, htk⟩ := hrd.fiveP m (by rw [HNP.out]; omega)
              rw [← e2] at e3
              simp only [Option.some.injEq, Addr.mk.injEq, and_true] at e3
              obtain ⟨rfl, rfl⟩ := e3
              have HMT : Hid (¬ MeetsR (p1, p2, p3, p4) q.2) := hid (fun h => by
                have hh := List.pairwise_iff_getElem.1 HINV.out.apart m i (by rw [HNP.out]; omega) (by rw [HNP.out]; omega) hlt3
                obtain ⟨z1, z2⟩ := List.getElem?_eq_some_iff.1 hat
                obtain ⟨z3, z4⟩ := List.getElem?_eq_some_iff.1 HAT.out
                rw [z2, z4] at hh
                exact hh (meetsR_symmL h))
              obtain ⟨qi, q1, q2, q3, q4⟩ := q
              simp only at d0 d1 d2 d3 d4
              clear hrd hat htk e2
              go_upto_region 26 with fail
              obtain ⟨w8, hw8⟩ : ∃ w8, w8 = wr.alloc (.cells #[.int .i64 qi, .int .i64 q1, .int .i64 q2, .int .i64 q3, .int .i64 q4] 45) := ⟨_, rfl⟩
              rw [← hw8]
              obtain ⟨gq, hgq⟩ : ∃ gq, gq = wr.heap.size := ⟨_, rfl⟩
              rw [← hgq]
              have hb8 : Below wr.heap.size wr w8 := by rw [hw8]; exact Below.new _ _
              have HK8 : Hid (Blk w8 gq #[.int .i64 qi, .int .i64 q1, .int .i64 q2, .int .i64 q3, .int .i64 q4]) := hid (by rw [hw8, hgq]; exact Blk.new _ _ _)
              have HB8 := hid (Below.next HBM.out hb8)
              clear hw8 hgq hb8 d0 d1 d2 d3 d4
              obtain ⟨t0, t1, t2, t3, t4⟩ := (HK7.out.below HB8.out).c5v
              obtain ⟨s0, s1, s2, s3, s4⟩ := HK8.out.c5v
              have hmt := ref02_Meets4 p1 p2 p3 p4 q1 q2 q3 q4 w8
              rw [show tMeets (q1, q2, q3, q4) (p1, p2, p3, p4) = false from decide_eq_false (fun h => HMT.out (meetsR_symmL h))] at hmt
              have HMQ := hid hmt
              clear hmt
              go_wp2_with fail
              refine HMQ.out.mono ?_
              rintro e w9 ⟨rfl, hb9⟩
              have HB9 := hid (Below.next HB8.out hb9)
              clear hb9 t0 t1 t2 t3 t4 s0 s1 s2 s3 s4
              go_wp2_with fail
              go_roundw
              case rel => exact ⟨m + 1, by go_num, by omega, HB9⟩
              case measure => simp [intOf]; omega
            · have m1 : ¬ (m : Int) < (i : Int) := by omega
              have HBZ := hid (Below.next HB7.out HBM.out)
              go_wp2_with fail
              go_roundw
              case rel => exact ⟨i + 1, by go_num, by omega, HBZ⟩
              case measure => simp [intOf]; omega
        · have i1 : ¬ (i : Int) < (np : Int) := by omega
          have HBZ := hid (Below.next HI.out.below HBI.out)
          clear m0 m1 m2
          go_wp2_with fail
          refine (HAW.out wr HBZ.out).mono ?_
          rintro e w9 ⟨rfl, hb9⟩
          have HZ := hid hb9
          clear hb9
          go_wp2_with fail
          go_ret
          exact ⟨rfl, HZ.out⟩
set_option maxRecDepth 100000 in
theorem LandPlays_walk {H : Type} {enc : TypeId × Value → H} {b1 b2 : Nat} {d1 d2 : DataW H} {p1 p2 : List MemPlace} (x0 : Int) (v1 v2 : Value) (w : World) (w0 : (Lit.int .i64 x0).wf = true) (ok1 : Value.okWide Tryz.prog w .any b1 22 v1) (k1 : DataW.Trod enc Tryz.prog w 0 (fun _ => true) true 22 v1 d1 p1)
    (ok2 : Value.okWide Tryz.prog w .any b2 23 v2) (k2 : DataW.Trod enc Tryz.prog w 0 (fun _ => true) true 23 v2 d2 p2) :
    Calls Tryz.prog 4 #[.int .i64 x0, v1, v2] w fun e w' => e = .returned (.bool true) ∧ Below w.heap.size w w' := by
  obtain ⟨B, hB⟩ := open_rcs ok1 k1
  obtain ⟨L, hl⟩ := open_opsL ok2 k2
  obtain ⟨a, c, rfl, -⟩ := id hB
  obtain ⟨a2, c2, rfl, -⟩ := id hl
  exact law19_Plays x0 a a2 _ c c2 B L w hB hl
end Go.Proofs.YtjbnfppnmljbmaaGreat
end
section
/- The law LandPlays returns true for every input, and what it is handed reads behind the call as it read before: no condition. (The frame follows the kit's proof-skeleton.) -/
namespace Go.Proofs.YtjbnfppnmljbmaaGreat.landPlays
open Go.ChangeShapes Go.WideShapes Go.ChangeAt Go.RowKit
open Go.ChangeMaps (open_string shut_string)
set_option linter.unusedVariables false

theorem own : ownKnob Tryz.prog.godebug = none := by kernel_rfl
theorem laidOut : laidOutB Tryz.prog = true := by kernel_rfl

/-! ### the row's step -/
set_option maxRecDepth 100000 in
theorem lifted (os : Os) (started : os.Started) (H : Type) (enc : TypeId × Value → H) :
    ReturnsInHanded {} Tryz.checked os 4 .any (Rows.landPlaysSpec.pre6 enc Tryz.prog Tryz.f4 Rows.landPlaysRow.domain false) (Rows.landPlaysSpec.post enc Tryz.prog Tryz.f4 false true false false) := by
  refine returnsInHanded_of_change (C := Tryz.checked) own started (by kernel_rfl) Tryz.func4
    (ChangeSpec.witness6 (enc := enc) (C := Tryz.checked) false ⟨#[], #[.int .i64 0, .slice none 0 0, .slice none 0 0], []⟩ 8 (by kernel_rfl) (by kernel_rfl) (by kernel_rfl) (by kernel_rfl)) ?_
  intro W base args ds gs before hval0 hW hcnd _
  have hval : ∀ (j : Nat) t v, Tryz.f4.params[j]? = some t → args[j]? = some v → Value.okWide Tryz.prog W .any base t v := hval0
  have hW' := hW
  obtain ⟨p, q, hA0, hV, rfl, hfz, hnd⟩ := hW
  have hA : DataW.TrodAll enc Tryz.prog W 0 (fun _ => true) true Tryz.f4.params.toList args.toList ds p := hA0
  rw [Tryz.params4] at hA hval
  obtain ⟨v0, vs0, d0, ds0, p0, q0, hargs, rfl, rfl, h0, r0⟩ := trodAll_cons hA
  obtain ⟨v1, vs1, d1, ds1, p1, q1, rfl, rfl, rfl, h1, r1⟩ := trodAll_cons r0
  obtain ⟨v2, vs2, d2, ds2, p2, q2, rfl, rfl, rfl, h2, r2⟩ := trodAll_cons r1
  obtain ⟨rfl, rfl, rfl⟩ := trodAll_nil r2
  obtain rfl : args = #[v0, v1, v2] := by cases args; simp_all
  obtain ⟨rfl, rfl⟩ := trodVars_none hV
  obtain ⟨a0, rfl, rfl, rfl, w0⟩ := open_int Tryz.underlying3 (hval 0 3 v0 rfl rfl) h0
  have k1 := h1
  have lt1 : ∀ x ∈ p1, x.block < W.heap.size := by obtain ⟨m, hm⟩ := k1; exact DataW.trod_lt m _ _ _ hm
  have ok1 := hval 1 22 v1 rfl rfl
  have k2 := h2
  have lt2 : ∀ x ∈ p2, x.block < W.heap.size := by obtain ⟨m, hm⟩ := k2; exact DataW.trod_lt m _ _ _ hm
  have ok2 := hval 2 23 v2 rfl rfl
  clear hA0 hval0
  refine (LandPlays_walk a0 v1 v2 W w0 ok1 k1 ok2 k2).mono fun e W' ⟨he, bel⟩ => ?_
  subst he
  exact ⟨_, rfl, _, _, _, [], _, [], hW', trodAll_mk1 (shut_bool Tryz.underlying4 _), (trodAll_cons_mk (shut_int Tryz.underlying3 w0) (trodAll_cons_mk (Below.trod laidOut (by kernel_rfl) (of_decide_eq_true (by kernel_rfl)) k1 bel lt1) (trodAll_cons_mk (Below.trod laidOut (by kernel_rfl) (of_decide_eq_true (by kernel_rfl)) k2 bel lt2) trodAll_mk0))), rfl, bel.frame _, fun h => by cases h⟩

theorem over : Rows.landPlaysRow.holds Tryz.pinned (OpenSpec.ofChange Rows.landPlaysSpec) :=
  OpenClaim.holds_of_wide 4 Tryz.f4 rfl rfl rfl rfl rfl rfl rfl ⟨rfl, rfl, rfl, rfl, rfl⟩ rfl rfl rfl rfl rfl (by kernel_rfl) Tryz.func4 (by kernel_rfl)
    (of_decide_eq_true (by kernel_rfl)) (by unfold Func.isWrapper; first | (rw [if_pos (by decide +kernel)]; kernel_rfl) | (rw [if_neg (by decide +kernel)]; exact ⟨rfl, rfl⟩))
    (fun os started H enc _ => lifted os started H enc)

/-- the statement -/
theorem proved : Rows.LandPlaysSaid := over
#print axioms proved
end Go.Proofs.YtjbnfppnmljbmaaGreat.landPlays
end
