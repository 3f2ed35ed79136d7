/- Joined texts, in this order: LandFinds. Each one's first remark says what it proves; no condition beyond those that its theorems name. -/
import Derived.Test.YtjbnfppnmljbmaaGreatJLawLandFinds27
import Derived.Test.YtjbnfppnmljbmaaGreatJLawLandFinds28
import Derived.Test.YtjbnfppnmljbmaaGreatJLawLandFinds23
section
/- Law LandFinds. -/
namespace Go.Proofs.YtjbnfppnmljbmaaGreat
open Go.RowKit Go.ChangeShapes Go.WideShapes Go.Deep Go.Joins
open Go.Lib (hid)
set_option linter.unusedVariables false
attribute [local go_sem] Oper.semAt_some

/-- what stays: the land and the document's, the box of r -/
structure FnI (w wr : World) (l b5 b8 k : Nat) (F : Nat → Prop) (B : List R4) (vs vp : Value) (P : List Pl) (r : R4) : Prop where
  both : BothL wr l F k B vs vp P
  box5 : Blk wr b5 #[.int .i64 r.1, .int .i64 r.2.1, .int .i64 r.2.2.1, .int .i64 r.2.2.2]
  box8 : Blk wr b8 #[.int .i64 32, vs, vp]
  below : Below w.heap.size w wr
theorem FnI.next {w wr wz : World} {l b5 b8 k : Nat} {F : Nat → Prop} {B : List R4} {vs vp : Value} {P : List Pl} {r : R4} (h : FnI w wr l b5 b8 k F B vs vp P r) (hb : Below wr.heap.size wr wz) : FnI w wz l b5 b8 k F B vs vp P r :=
  ⟨h.both.below hb, h.box5.below hb, h.box8.below hb, Below.next h.below hb⟩
set_option maxRecDepth 100000 in
set_option maxHeartbeats 8000000 in
theorem law19_Finds (ab ao : Option Addr) (nb cb co : Nat) (B : List R4) (L : List OpL) (rx ry ra rb : Int) (hx : rx ≤ 9223372036854775807) (hy : ry ≤ 9223372036854775807) (w : World) (hs : SlR w (.slice ab nb cb) B) (hl : SlE OpLE 6 w (.slice ao L.length co) L) :
    Calls Tryz.prog 3 #[.slice ab nb cb, .slice ao L.length co, .agg #[.int .i64 rx, .int .i64 ry, .int .i64 ra, .int .i64 rb]] w fun e w' => e = .returned (.bool true) ∧ Below w.heap.size w w' := by
  have hnb : B.length = nb := by obtain ⟨a, c, e, -⟩ := hs; simp only [Value.slice.injEq] at e; exact e.2.1.symm
  have HS := hid hs
  have HL := hid hl
  have HN := hid hnb
  have HXY := hid (And.intro hx hy)
  have HAW : Hid (∀ z, Below w.heap.size w z → Calls Tryz.prog 7 #[] z fun e w' => e = .returned (.bool true) ∧ Below w.heap.size w w') := hid (fun z hz => (law19_awake z).mono (fun e w' h => ⟨h.1, Below.next hz h.2⟩))
  obtain ⟨n, hn⟩ : ∃ n, L.length = n := ⟨_, rfl⟩
  rw [hn]
  have HLN := hid hn
  clear hs hl hnb hn hx hy
  obtain ⟨x, hxx⟩ : ∃ x, rtX 32 B = x := ⟨_, rfl⟩
  have HX := hid hxx
  clear hxx
  go_enter Tryz.func3, Tryz.ntmps3
  go_upto_region 1 with fail
  obtain ⟨w1, hw1⟩ : ∃ w1, w1 = w.alloc (.cells #[.int .i64 rx, .int .i64 ry, .int .i64 ra, .int .i64 rb] 25) := ⟨_, rfl⟩
  try rw [← hw1]
  obtain ⟨b5, hb5⟩ : ∃ z, z = w.heap.size := ⟨_, rfl⟩
  try rw [← hb5]
  have hb1 : Below w.heap.size w w1 := by rw [hw1]; exact Below.new _ _
  have HK5 : Hid (Blk w1 b5 #[.int .i64 rx, .int .i64 ry, .int .i64 ra, .int .i64 rb]) := hid (by rw [hw1, hb5]; exact Blk.new _ _ _)
  have HB1 := hid hb1
  have HRT := hid (law19_rightA 32 _ B w1 (HS.out.below hb1) x HX)
  clear hw1 hb1 hb5
  cases x with
  | false =>
    go_wp2_with (first | (refine HRT.out.mono ?_; clear HRT; rintro e w2 ⟨rfl, hb2⟩; have HB2 := hid (Below.next HB1.out hb2); clear hb2) | (refine (HAW.out _ HB2.out).mono ?_; rintro e w3 ⟨rfl, hb3⟩; have HB3 := hid hb3; clear hb3))
    go_ret
    exact ⟨rfl, HB3.out⟩
  | true =>
  by_cases h20 : nb ≤ 20
  case neg =>
    have c20 : (20 : Int) < (nb : Int) := by omega
    go_wp2_with (first | (refine HRT.out.mono ?_; clear HRT; rintro e w2 ⟨rfl, hb2⟩; have HB2 := hid (Below.next HB1.out hb2); clear hb2) | (refine (HAW.out _ HB2.out).mono ?_; rintro e w3 ⟨rfl, hb3⟩; have HB3 := hid hb3; clear hb3))
    go_ret
    exact ⟨rfl, HB3.out⟩
  have c20 : ¬ (20 : Int) < (nb : Int) := by omega
  by_cases h80 : n ≤ 80
  case neg =>
    have c80 : (80 : Int) < (n : Int) := by omega
    go_wp2_with (first | (refine HRT.out.mono ?_; clear HRT; rintro e w2 ⟨rfl, hb2⟩; have HB2 := hid (Below.next HB1.out hb2); clear hb2) | (refine (HAW.out _ HB2.out).mono ?_; rintro e w3 ⟨rfl, hb3⟩; have HB3 := hid hb3; clear hb3))
    go_ret
    exact ⟨rfl, HB3.out⟩
  have c80 : ¬ (80 : Int) < (n : Int) := by omega
  have HOK := hid ((rtX_iff 32 B).1 HX.out)
  have HL20 := hid (And.intro h20 h80)
  have HWD : Hid (∀ z, Below w.heap.size w z → Calls Tryz.prog 8 #[.slice ab nb cb, .slice ao n co] z (WorldPost z B L)) := hid (fun z hz => by
    have := law19_world ab ao nb cb co B L z (HS.out.below hz) (HL.out.below opLKept hz) HOK.out (by have := HN.out; have := HL20.out; omega) (by have := HLN.out; have := HL20.out; omega)
    rw [HLN.out] at this
    exact this)
  go_wp2_with fail
  refine HRT.out.mono ?_
  rintro e w2 ⟨rfl, hb2⟩
  have HB2 := hid (Below.next HB1.out hb2)
  have HK2 := hid (HK5.out.below hb2)
  clear hb2 HRT
  go_wp2_with fail
  refine (HWD.out _ HB2.out).mono ?_
  rintro e w3 ⟨l, k, F, vs, vp, rfl, hsd, hbo, hkw, hlow, hb3⟩
  obtain ⟨P, hP⟩ : ∃ P, runL 32 B [] L = P := ⟨_, rfl⟩
  rw [hP] at hbo hkw
  obtain ⟨va, vc, hve, -⟩ := id hbo.st
  obtain ⟨pa, pc, hpe, -⟩ := id hbo.pl
  obtain ⟨np, hnp⟩ : ∃ np, P.length = np := ⟨_, rfl⟩
  obtain ⟨nv, hnv⟩ : ∃ nv, B.length = nv := ⟨_, rfl⟩
  rw [hnp] at hpe
  rw [hnv] at hve
  subst hve hpe
  have HBO := hid hbo
  have HNP := hid hnp
  have HNV := hid hnv
  have HSD := hid hsd
  have HB3 := hid (Below.next HB2.out hb3)
  have HK3 := hid (HK2.out.below hb3)
  clear hbo hkw hlow hb3 hP hnp hnv hsd
  simp only [xV]
  go_upto_region 4 with fail
  obtain ⟨w4, hw4⟩ : ∃ w4, w4 = w3.alloc (.cells #[.int .i64 32, .slice va nv vc, .slice pa np pc] 32) := ⟨_, rfl⟩
  try rw [← hw4]
  obtain ⟨b8, hb8⟩ : ∃ z, z = w3.heap.size := ⟨_, rfl⟩
  try rw [← hb8]
  have hb4 : Below w3.heap.size w3 w4 := by rw [hw4]; exact Below.new _ _
  have HI4 : Hid (FnI w w4 l b5 b8 k F B (.slice va nv vc) (.slice pa np pc) P (rx, ry, ra, rb)) := hid ⟨HBO.out.below hb4, HK3.out.below hb4, by rw [hw4, hb8]; exact Blk.new _ _ _, Below.next HB3.out hb4⟩
  clear hw4 hb8 hb4 c20 c80 h20 h80
  go_upto_region 6 with fail
  have HN1 : Hid (∀ z, Below w4.heap.size w4 z → Calls Tryz.prog 9 #[.pointer (some ⟨l, 0, none⟩), .agg #[.int .i64 rx, .int .i64 ry, .int .i64 ra, .int .i64 rb]] z (NearPost z (nearX P (rx, ry, ra, rb)))) := hid (fun z hz => land_Near z l F k B P rx ry ra rb (HI4.out.next hz).both.land)
  have HN2 : Hid (∀ z, Below w4.heap.size w4 z → Calls Tryz.prog 10 #[.agg #[.int .i64 32, .slice va nv vc, .slice pa np pc], .agg #[.int .i64 rx, .int .i64 ry, .int .i64 ra, .int .i64 rb]] z (NearPost z (nearX P (rx, ry, ra, rb)))) := hid (fun z hz => ref19_Near 32 va pa nv vc np pc P rx ry ra rb z (HI4.out.next hz).both.pl (by have := HI4.out.both.land.inv.len; omega))
  obtain ⟨X, hX⟩ : ∃ X, nearX P (rx, ry, ra, rb) = X := ⟨_, rfl⟩
  rw [hX] at HN1 HN2
  have HXX := hid hX
  obtain ⟨N, hNN⟩ : ∃ N, X.length = N := ⟨_, rfl⟩
  have HXN := hid hNN
  have HN256 : Hid (N ≤ 256) := hid (by
    have h1 := nearX_len P (rx, ry, ra, rb)
    have h2 := HI4.out.both.land.inv.len
    rw [hX] at h1
    omega)
  clear hX hNN
  obtain ⟨r0, r1, r2, r3⟩ := HI4.out.box5.c4r
  obtain ⟨m0, m1, m2⟩ := HI4.out.box8.c3v
  replace r0 := fun (z : World) (hz : Below w4.heap.size w4 z) => cellOf_belowR hz r0
  replace r1 := fun (z : World) (hz : Below w4.heap.size w4 z) => cellOf_belowR hz r1
  replace r2 := fun (z : World) (hz : Below w4.heap.size w4 z) => cellOf_belowR hz r2
  replace r3 := fun (z : World) (hz : Below w4.heap.size w4 z) => cellOf_belowR hz r3
  replace m0 := fun (z : World) (hz : Below w4.heap.size w4 z) => cellOf_belowR hz m0
  replace m1 := fun (z : World) (hz : Below w4.heap.size w4 z) => cellOf_belowR hz m1
  replace m2 := fun (z : World) (hz : Below w4.heap.size w4 z) => cellOf_belowR hz m2
  have hyd := (Below.refl w4.heap.size w4).drew
  refine wp_region_kept [] (fun z => Below w4.heap.size w4 z) (by kernel_rfl) (by assumption) (fun hH => ?_)
  refine wpK.take (i := 0) (v := _) (by simp only [List.getElem?_toArray, List.getElem?_cons_succ, List.getElem?_cons_zero]; rfl) (by kernel_rfl) (by kernel_rfl) (by kernel_rfl) (by kernel_rfl) (by kernel_rfl) (by exact fun _ _ _ h => h) (by first | exact Or.inl ⟨by rfl, by intro w hSw; go_simp; try with_reducible rfl⟩ | exact Or.inr ⟨by rfl, rfl⟩) hH ?_
  try simp only [Act.put, List.setIfInBounds_toArray, List.set_cons_zero, List.set_cons_succ]
  refine wpK.take (i := 1) (v := _) (by simp only [List.getElem?_toArray, List.getElem?_cons_succ, List.getElem?_cons_zero]; rfl) (by kernel_rfl) (by kernel_rfl) (by kernel_rfl) (by kernel_rfl) (by kernel_rfl) (by exact fun _ _ _ h => h) (by first | exact Or.inl ⟨by rfl, by intro w hSw; go_simp; try with_reducible rfl⟩ | exact Or.inr ⟨by rfl, rfl⟩) hH ?_
  try simp only [Act.put, List.setIfInBounds_toArray, List.set_cons_zero, List.set_cons_succ]
  refine wpK.take (i := 3) (v := _) (by simp only [List.getElem?_toArray, List.getElem?_cons_succ, List.getElem?_cons_zero]; rfl) (by kernel_rfl) (by kernel_rfl) (by kernel_rfl) (by kernel_rfl) (by kernel_rfl) (by exact fun _ _ _ h => h) (by first | exact Or.inl ⟨by rfl, by intro w hSw; go_simp; try with_reducible rfl⟩ | exact Or.inr ⟨by rfl, rfl⟩) hH ?_
  try simp only [Act.put, List.setIfInBounds_toArray, List.set_cons_zero, List.set_cons_succ]
  refine wpK.take (i := 4) (v := _) (by simp only [List.getElem?_toArray, List.getElem?_cons_succ, List.getElem?_cons_zero]; rfl) (by kernel_rfl) (by kernel_rfl) (by kernel_rfl) (by kernel_rfl) (by kernel_rfl) (by exact fun _ _ _ h => h) (by first | exact Or.inl ⟨by rfl, by intro w hSw; go_simp; try with_reducible rfl⟩ | exact Or.inr ⟨by rfl, rfl⟩) hH ?_
  try simp only [Act.put, List.setIfInBounds_toArray, List.set_cons_zero, List.set_cons_succ]
  refine wpK.step (i := 2) (by kernel_rfl) (by simp only [List.getElem?_toArray, List.getElem?_cons_succ, List.getElem?_cons_zero]; rfl) (fun K hK => ?_)
  go_simp
  (refine (HN1.out _ hH).mono ?_); rintro e w5 ⟨v1, rfl, ho1, hb5⟩; (have hk5 := Below.next hH hb5); (obtain ⟨a1, c1, e1, -⟩ := ownsRow.rd ho1); (rw [HXN.out] at e1); (have HS1 := hid (SlI.of_own ho1)); subst e1; clear ho1; go_simp
  refine hK.out _ _ (by assumption) (fun hH => ?_)
  clear hK K
  try simp only [Act.put, List.setIfInBounds_toArray, List.set_cons_zero, List.set_cons_succ]
  refine wpK.step (i := 5) (by kernel_rfl) (by simp only [List.getElem?_toArray, List.getElem?_cons_succ, List.getElem?_cons_zero]; rfl) (fun K hK => ?_)
  go_simp
  (refine (law19_ref rx ry ra rb _).mono ?_); rintro e w6 ⟨rfl, hb6⟩; (have hk6 := Below.next hH hb6); (have HS1 := hid (HS1.out.below hb6)); go_simp
  refine hK.out _ _ (by assumption) (fun hH => ?_)
  clear hK K
  try simp only [Act.put, List.setIfInBounds_toArray, List.set_cons_zero, List.set_cons_succ]
  refine wpK.step (i := 6) (by kernel_rfl) (by simp only [List.getElem?_toArray, List.getElem?_cons_succ, List.getElem?_cons_zero]; rfl) (fun K hK => ?_)
  go_simp
  (refine (HN2.out _ hH).mono ?_); rintro e w7 ⟨v2, rfl, ho2, hb7⟩; (have hk7 := Below.next hH hb7); (obtain ⟨a2, c2, e2, -⟩ := ownsRow.rd ho2); (rw [HXN.out] at e2); (have HS2 := hid (SlI.of_own ho2)); (have HS1 := hid (HS1.out.below hb7)); subst e2; clear ho2; go_simp
  refine hK.out _ _ (by assumption) (fun hH => ?_)
  clear hK K
  try simp only [Act.put, List.setIfInBounds_toArray, List.set_cons_zero, List.set_cons_succ]
  refine wpK.take (i := 7) (v := _) (by simp only [List.getElem?_toArray, List.getElem?_cons_succ, List.getElem?_cons_zero]; rfl) (by kernel_rfl) (by kernel_rfl) (by kernel_rfl) (by kernel_rfl) (by kernel_rfl) (by exact fun _ _ _ h => h) (by first | exact Or.inl ⟨by rfl, by intro w hSw; go_simp; try with_reducible rfl⟩ | exact Or.inr ⟨by rfl, rfl⟩) hH ?_
  try simp only [Act.put, List.setIfInBounds_toArray, List.set_cons_zero, List.set_cons_succ]
  refine wpK.take (i := 8) (v := _) (by simp only [List.getElem?_toArray, List.getElem?_cons_succ, List.getElem?_cons_zero]; rfl) (by kernel_rfl) (by kernel_rfl) (by kernel_rfl) (by kernel_rfl) (by kernel_rfl) (by exact fun _ _ _ h => h) (by first | exact Or.inl ⟨by rfl, by intro w hSw; go_simp; try with_reducible rfl⟩ | exact Or.inr ⟨by rfl, rfl⟩) hH ?_
  try simp only [Act.put, List.setIfInBounds_toArray, List.set_cons_zero, List.set_cons_succ]
  refine wpK.done (by kernel_rfl) ?_ _
  have HI7 := hid (HI4.out.next hk7)
  clear r0 r1 r2 r3 m0 m1 m2 hyd hk5 hk6 hk7 hb5 hb6 hb7 hH HN1 HN2
  have HIN : Hid (rightR (rx, ry, ra, rb) = true ∨ blkX B (rx, ry, ra, rb) = false) := hid (by
    cases hq : blkX B (rx, ry, ra, rb) with
    | false => exact .inr rfl
    | true => exact .inl (blk_right hq))
  go_upto_region 7 with fail
  go_cut [67] (fun v67 wx => v67 = .bool false ∧ Hid (Below w7.heap.size w7 wx))
  case first =>
    obtain ⟨qb, hqb⟩ : ∃ qb, blkX B (rx, ry, ra, rb) = qb := ⟨_, rfl⟩
    have HQ1 : Hid (∀ z, Below w7.heap.size w7 z → Calls Tryz.prog 12 #[.pointer (some ⟨l, 0, none⟩), .agg #[.int .i64 rx, .int .i64 ry, .int .i64 ra, .int .i64 rb]] z fun e w' => e = .returned (.bool qb) ∧ Below z.heap.size z w') := hid (fun z hz => by
      have := land_Blocked z l F k B P rx ry ra rb (HI7.out.next hz).both.land
      rw [hqb] at this
      exact this)
    have HQ2 : Hid (∀ z, Below w7.heap.size w7 z → Calls Tryz.prog 13 #[.agg #[.int .i64 32, .slice va nv vc, .slice pa np pc], .agg #[.int .i64 rx, .int .i64 ry, .int .i64 ra, .int .i64 rb]] z fun e w' => e = .returned (.bool qb) ∧ Below z.heap.size z w') := hid (fun z hz => by
      have := ref19_Blocked 32 va pa nv vc np pc B rx ry ra rb z (HI7.out.next hz).both.st (by have := HN.out; have := HL20.out; omega)
      rw [hqb] at this
      exact this)
    rw [hqb] at HIN
    clear hqb
    obtain ⟨r0, r1, r2, r3⟩ := HI7.out.box5.c4r
    obtain ⟨m0, m1, m2⟩ := HI7.out.box8.c3v
    replace r0 := fun (z : World) (hz : Below w7.heap.size w7 z) => cellOf_belowR hz r0
    replace r1 := fun (z : World) (hz : Below w7.heap.size w7 z) => cellOf_belowR hz r1
    replace r2 := fun (z : World) (hz : Below w7.heap.size w7 z) => cellOf_belowR hz r2
    replace r3 := fun (z : World) (hz : Below w7.heap.size w7 z) => cellOf_belowR hz r3
    replace m0 := fun (z : World) (hz : Below w7.heap.size w7 z) => cellOf_belowR hz m0
    replace m1 := fun (z : World) (hz : Below w7.heap.size w7 z) => cellOf_belowR hz m1
    replace m2 := fun (z : World) (hz : Below w7.heap.size w7 z) => cellOf_belowR hz m2
    have hyd := (Below.refl w7.heap.size w7).drew
    cases qb with
    | false =>
      refine wp_region_kept [] (fun z => Below w7.heap.size w7 z) (by kernel_rfl) (by assumption) (fun hH => ?_)
      refine wpK.take (i := 0) (v := _) (by simp only [List.getElem?_toArray, List.getElem?_cons_succ, List.getElem?_cons_zero]; rfl) (by kernel_rfl) (by kernel_rfl) (by kernel_rfl) (by kernel_rfl) (by kernel_rfl) (by exact fun _ _ _ h => h) (by first | exact Or.inl ⟨by rfl, by intro w hSw; go_simp; try with_reducible rfl⟩ | exact Or.inr ⟨by rfl, rfl⟩) hH ?_
      try simp only [Act.put, List.setIfInBounds_toArray, List.set_cons_zero, List.set_cons_succ]
      refine wpK.take (i := 1) (v := _) (by simp only [List.getElem?_toArray, List.getElem?_cons_succ, List.getElem?_cons_zero]; rfl) (by kernel_rfl) (by kernel_rfl) (by kernel_rfl) (by kernel_rfl) (by kernel_rfl) (by exact fun _ _ _ h => h) (by first | exact Or.inl ⟨by rfl, by intro w hSw; go_simp; try with_reducible rfl⟩ | exact Or.inr ⟨by rfl, rfl⟩) hH ?_
      try simp only [Act.put, List.setIfInBounds_toArray, List.set_cons_zero, List.set_cons_succ]
      refine wpK.take (i := 2) (v := _) (by simp only [List.getElem?_toArray, List.getElem?_cons_succ, List.getElem?_cons_zero]; rfl) (by kernel_rfl) (by kernel_rfl) (by kernel_rfl) (by kernel_rfl) (by kernel_rfl) (by exact fun _ _ _ h => h) (by first | exact Or.inl ⟨by rfl, by intro w hSw; go_simp; try with_reducible rfl⟩ | exact Or.inr ⟨by rfl, rfl⟩) hH ?_
      try simp only [Act.put, List.setIfInBounds_toArray, List.set_cons_zero, List.set_cons_succ]
      refine wpK.take (i := 3) (v := _) (by simp only [List.getElem?_toArray, List.getElem?_cons_succ, List.getElem?_cons_zero]; rfl) (by kernel_rfl) (by kernel_rfl) (by kernel_rfl) (by kernel_rfl) (by kernel_rfl) (by exact fun _ _ _ h => h) (by first | exact Or.inl ⟨by rfl, by intro w hSw; go_simp; try with_reducible rfl⟩ | exact Or.inr ⟨by rfl, rfl⟩) hH ?_
      try simp only [Act.put, List.setIfInBounds_toArray, List.set_cons_zero, List.set_cons_succ]
      refine wpK.take (i := 4) (v := _) (by simp only [List.getElem?_toArray, List.getElem?_cons_succ, List.getElem?_cons_zero]; rfl) (by kernel_rfl) (by kernel_rfl) (by kernel_rfl) (by kernel_rfl) (by kernel_rfl) (by exact fun _ _ _ h => h) (by first | exact Or.inl ⟨by rfl, by intro w hSw; go_simp; try with_reducible rfl⟩ | exact Or.inr ⟨by rfl, rfl⟩) hH ?_
      try simp only [Act.put, List.setIfInBounds_toArray, List.set_cons_zero, List.set_cons_succ]
      refine wpK.take (i := 5) (v := _) (by simp only [List.getElem?_toArray, List.getElem?_cons_succ, List.getElem?_cons_zero]; rfl) (by kernel_rfl) (by kernel_rfl) (by kernel_rfl) (by kernel_rfl) (by kernel_rfl) (by exact fun _ _ _ h => h) (by first | exact Or.inl ⟨by rfl, by intro w hSw; go_simp; try with_reducible rfl⟩ | exact Or.inr ⟨by rfl, rfl⟩) hH ?_
      try simp only [Act.put, List.setIfInBounds_toArray, List.set_cons_zero, List.set_cons_succ]
      refine wpK.take (i := 6) (v := _) (by simp only [List.getElem?_toArray, List.getElem?_cons_succ, List.getElem?_cons_zero]; rfl) (by kernel_rfl) (by kernel_rfl) (by kernel_rfl) (by kernel_rfl) (by kernel_rfl) (by exact fun _ _ _ h => h) (by first | exact Or.inl ⟨by rfl, by intro w hSw; go_simp; try with_reducible rfl⟩ | exact Or.inr ⟨by rfl, rfl⟩) hH ?_
      try simp only [Act.put, List.setIfInBounds_toArray, List.set_cons_zero, List.set_cons_succ]
      refine wpK.take (i := 7) (v := _) (by simp only [List.getElem?_toArray, List.getElem?_cons_succ, List.getElem?_cons_zero]; rfl) (by kernel_rfl) (by kernel_rfl) (by kernel_rfl) (by kernel_rfl) (by kernel_rfl) (by exact fun _ _ _ h => h) (by first | exact Or.inl ⟨by rfl, by intro w hSw; go_simp; try with_reducible rfl⟩ | exact Or.inr ⟨by rfl, rfl⟩) hH ?_
      try simp only [Act.put, List.setIfInBounds_toArray, List.set_cons_zero, List.set_cons_succ]
      refine wpK.take (i := 9) (v := _) (by simp only [List.getElem?_toArray, List.getElem?_cons_succ, List.getElem?_cons_zero]; rfl) (by kernel_rfl) (by kernel_rfl) (by kernel_rfl) (by kernel_rfl) (by kernel_rfl) (by exact fun _ _ _ h => h) (by first | exact Or.inl ⟨by rfl, by intro w hSw; go_simp; try with_reducible rfl⟩ | exact Or.inr ⟨by rfl, rfl⟩) hH ?_
      try simp only [Act.put, List.setIfInBounds_toArray, List.set_cons_zero, List.set_cons_succ]
      refine wpK.take (i := 10) (v := _) (by simp only [List.getElem?_toArray, List.getElem?_cons_succ, List.getElem?_cons_zero]; rfl) (by kernel_rfl) (by kernel_rfl) (by kernel_rfl) (by kernel_rfl) (by kernel_rfl) (by exact fun _ _ _ h => h) (by first | exact Or.inl ⟨by rfl, by intro w hSw; go_simp; try with_reducible rfl⟩ | exact Or.inr ⟨by rfl, rfl⟩) hH ?_
      try simp only [Act.put, List.setIfInBounds_toArray, List.set_cons_zero, List.set_cons_succ]
      refine wpK.step (i := 8) (by kernel_rfl) (by simp only [List.getElem?_toArray, List.getElem?_cons_succ, List.getElem?_cons_zero]; rfl) (fun K hK => ?_)
      go_simp
      (refine (HQ1.out _ hH).mono ?_); rintro e w8 ⟨rfl, hb8⟩; (have hk8 := Below.next hH hb8); go_simp
      refine hK.out _ _ (by assumption) (fun hH => ?_)
      clear hK K
      try simp only [Act.put, List.setIfInBounds_toArray, List.set_cons_zero, List.set_cons_succ]
      refine wpK.step (i := 11) (by kernel_rfl) (by simp only [List.getElem?_toArray, List.getElem?_cons_succ, List.getElem?_cons_zero]; rfl) (fun K hK => ?_)
      go_simp
      (refine (law19_ref rx ry ra rb _).mono ?_); rintro e w9 ⟨rfl, hb9⟩; (have hk9 := Below.next hH hb9); go_simp
      refine hK.out _ _ (by assumption) (fun hH => ?_)
      clear hK K
      try simp only [Act.put, List.setIfInBounds_toArray, List.set_cons_zero, List.set_cons_succ]
      refine wpK.step (i := 12) (by kernel_rfl) (by simp only [List.getElem?_toArray, List.getElem?_cons_succ, List.getElem?_cons_zero]; rfl) (fun K hK => ?_)
      go_simp
      (refine (HQ2.out _ hH).mono ?_); rintro e wA ⟨rfl, hbA⟩; (have hkA := Below.next hH hbA); go_simp
      refine hK.out _ _ (by assumption) (fun hH => ?_)
      clear hK K
      try simp only [Act.put, List.setIfInBounds_toArray, List.set_cons_zero, List.set_cons_succ]
      refine wpK.take (i := 13) (v := _) (by simp only [List.getElem?_toArray, List.getElem?_cons_succ, List.getElem?_cons_zero]; rfl) (by kernel_rfl) (by kernel_rfl) (by kernel_rfl) (by kernel_rfl) (by kernel_rfl) (by exact fun _ _ _ h => h) (by first | exact Or.inl ⟨by rfl, by intro w hSw; go_simp; try with_reducible rfl⟩ | exact Or.inr ⟨by rfl, rfl⟩) hH ?_
      try simp only [Act.put, List.setIfInBounds_toArray, List.set_cons_zero, List.set_cons_succ]
      refine wpK.take (i := 14) (v := _) (by simp only [List.getElem?_toArray, List.getElem?_cons_succ, List.getElem?_cons_zero]; rfl) (by kernel_rfl) (by kernel_rfl) (by kernel_rfl) (by kernel_rfl) (by kernel_rfl) (by exact fun _ _ _ h => h) (by first | exact Or.inl ⟨by rfl, by intro w hSw; go_simp; try with_reducible rfl⟩ | exact Or.inr ⟨by rfl, rfl⟩) hH ?_
      try simp only [Act.put, List.setIfInBounds_toArray, List.set_cons_zero, List.set_cons_succ]
      refine wpK.take (i := 15) (v := _) (by simp only [List.getElem?_toArray, List.getElem?_cons_succ, List.getElem?_cons_zero]; rfl) (by kernel_rfl) (by kernel_rfl) (by kernel_rfl) (by kernel_rfl) (by kernel_rfl) (by exact fun _ _ _ h => h) (by first | exact Or.inl ⟨by rfl, by intro w hSw; go_simp; try with_reducible rfl⟩ | exact Or.inr ⟨by rfl, rfl⟩) hH ?_
      try simp only [Act.put, List.setIfInBounds_toArray, List.set_cons_zero, List.set_cons_succ]
      refine wpK.take (i := 16) (v := _) (by simp only [List.getElem?_toArray, List.getElem?_cons_succ, List.getElem?_cons_zero]; rfl) (by kernel_rfl) (by kernel_rfl) (by kernel_rfl) (by kernel_rfl) (by kernel_rfl) (by exact fun _ _ _ h => h) (by first | exact Or.inl ⟨by rfl, by intro w hSw; go_simp; try with_reducible rfl⟩ | exact Or.inr ⟨by rfl, rfl⟩) hH ?_
      try simp only [Act.put, List.setIfInBounds_toArray, List.set_cons_zero, List.set_cons_succ]
      refine wpK.take (i := 17) (v := _) (by simp only [List.getElem?_toArray, List.getElem?_cons_succ, List.getElem?_cons_zero]; rfl) (by kernel_rfl) (by kernel_rfl) (by kernel_rfl) (by kernel_rfl) (by kernel_rfl) (by exact fun _ _ _ h => h) (by first | exact Or.inl ⟨by rfl, by intro w hSw; go_simp; try with_reducible rfl⟩ | exact Or.inr ⟨by rfl, rfl⟩) hH ?_
      try simp only [Act.put, List.setIfInBounds_toArray, List.set_cons_zero, List.set_cons_succ]
      refine wpK.take (i := 18) (v := _) (by simp only [List.getElem?_toArray, List.getElem?_cons_succ, List.getElem?_cons_zero]; rfl) (by kernel_rfl) (by kernel_rfl) (by kernel_rfl) (by kernel_rfl) (by kernel_rfl) (by exact fun _ _ _ h => h) (by first | exact Or.inl ⟨by rfl, by intro w hSw; go_simp; try with_reducible rfl⟩ | exact Or.inr ⟨by rfl, rfl⟩) hH ?_
      try simp only [Act.put, List.setIfInBounds_toArray, List.set_cons_zero, List.set_cons_succ]
      refine wpK.done (by kernel_rfl) ?_ _
      have HZ := hid hkA
      go_wp2_with fail
      go_meet
      exact ⟨rfl, HZ⟩
    | true =>
      have HINS := hid (HIN.out.resolve_right (by simp))
      refine wp_region_kept [] (fun z => Below w7.heap.size w7 z) (by kernel_rfl) (by assumption) (fun hH => ?_)
      refine wpK.take (i := 0) (v := _) (by simp only [List.getElem?_toArray, List.getElem?_cons_succ, List.getElem?_cons_zero]; rfl) (by kernel_rfl) (by kernel_rfl) (by kernel_rfl) (by kernel_rfl) (by kernel_rfl) (by exact fun _ _ _ h => h) (by first | exact Or.inl ⟨by rfl, by intro w hSw; go_simp; try with_reducible rfl⟩ | exact Or.inr ⟨by rfl, rfl⟩) hH ?_
      try simp only [Act.put, List.setIfInBounds_toArray, List.set_cons_zero, List.set_cons_succ]
      refine wpK.take (i := 1) (v := _) (by simp only [List.getElem?_toArray, List.getElem?_cons_succ, List.getElem?_cons_zero]; rfl) (by kernel_rfl) (by kernel_rfl) (by kernel_rfl) (by kernel_rfl) (by kernel_rfl) (by exact fun _ _ _ h => h) (by first | exact Or.inl ⟨by rfl, by intro w hSw; go_simp; try with_reducible rfl⟩ | exact Or.inr ⟨by rfl, rfl⟩) hH ?_
      try simp only [Act.put, List.setIfInBounds_toArray, List.set_cons_zero, List.set_cons_succ]
      refine wpK.take (i := 2) (v := _) (by simp only [List.getElem?_toArray, List.getElem?_cons_succ, List.getElem?_cons_zero]; rfl) (by kernel_rfl) (by kernel_rfl) (by kernel_rfl) (by kernel_rfl) (by kernel_rfl) (by exact fun _ _ _ h => h) (by first | exact Or.inl ⟨by rfl, by intro w hSw; go_simp; try with_reducible rfl⟩ | exact Or.inr ⟨by rfl, rfl⟩) hH ?_
      try simp only [Act.put, List.setIfInBounds_toArray, List.set_cons_zero, List.set_cons_succ]
      refine wpK.take (i := 3) (v := _) (by simp only [List.getElem?_toArray, List.getElem?_cons_succ, List.getElem?_cons_zero]; rfl) (by kernel_rfl) (by kernel_rfl) (by kernel_rfl) (by kernel_rfl) (by kernel_rfl) (by exact fun _ _ _ h => h) (by first | exact Or.inl ⟨by rfl, by intro w hSw; go_simp; try with_reducible rfl⟩ | exact Or.inr ⟨by rfl, rfl⟩) hH ?_
      try simp only [Act.put, List.setIfInBounds_toArray, List.set_cons_zero, List.set_cons_succ]
      refine wpK.take (i := 4) (v := _) (by simp only [List.getElem?_toArray, List.getElem?_cons_succ, List.getElem?_cons_zero]; rfl) (by kernel_rfl) (by kernel_rfl) (by kernel_rfl) (by kernel_rfl) (by kernel_rfl) (by exact fun _ _ _ h => h) (by first | exact Or.inl ⟨by rfl, by intro w hSw; go_simp; try with_reducible rfl⟩ | exact Or.inr ⟨by rfl, rfl⟩) hH ?_
      try simp only [Act.put, List.setIfInBounds_toArray, List.set_cons_zero, List.set_cons_succ]
      refine wpK.take (i := 5) (v := _) (by simp only [List.getElem?_toArray, List.getElem?_cons_succ, List.getElem?_cons_zero]; rfl) (by kernel_rfl) (by kernel_rfl) (by kernel_rfl) (by kernel_rfl) (by kernel_rfl) (by exact fun _ _ _ h => h) (by first | exact Or.inl ⟨by rfl, by intro w hSw; go_simp; try with_reducible rfl⟩ | exact Or.inr ⟨by rfl, rfl⟩) hH ?_
      try simp only [Act.put, List.setIfInBounds_toArray, List.set_cons_zero, List.set_cons_succ]
      refine wpK.take (i := 6) (v := _) (by simp only [List.getElem?_toArray, List.getElem?_cons_succ, List.getElem?_cons_zero]; rfl) (by kernel_rfl) (by kernel_rfl) (by kernel_rfl) (by kernel_rfl) (by kernel_rfl) (by exact fun _ _ _ h => h) (by first | exact Or.inl ⟨by rfl, by intro w hSw; go_simp; try with_reducible rfl⟩ | exact Or.inr ⟨by rfl, rfl⟩) hH ?_
      try simp only [Act.put, List.setIfInBounds_toArray, List.set_cons_zero, List.set_cons_succ]
      refine wpK.take (i := 7) (v := _) (by simp only [List.getElem?_toArray, List.getElem?_cons_succ, List.getElem?_cons_zero]; rfl) (by kernel_rfl) (by kernel_rfl) (by kernel_rfl) (by kernel_rfl) (by kernel_rfl) (by exact fun _ _ _ h => h) (by first | exact Or.inl ⟨by rfl, by intro w hSw; go_simp; try with_reducible rfl⟩ | exact Or.inr ⟨by rfl, rfl⟩) hH ?_
      try simp only [Act.put, List.setIfInBounds_toArray, List.set_cons_zero, List.set_cons_succ]
      refine wpK.take (i := 9) (v := _) (by simp only [List.getElem?_toArray, List.getElem?_cons_succ, List.getElem?_cons_zero]; rfl) (by kernel_rfl) (by kernel_rfl) (by kernel_rfl) (by kernel_rfl) (by kernel_rfl) (by exact fun _ _ _ h => h) (by first | exact Or.inl ⟨by rfl, by intro w hSw; go_simp; try with_reducible rfl⟩ | exact Or.inr ⟨by rfl, rfl⟩) hH ?_
      try simp only [Act.put, List.setIfInBounds_toArray, List.set_cons_zero, List.set_cons_succ]
      refine wpK.take (i := 10) (v := _) (by simp only [List.getElem?_toArray, List.getElem?_cons_succ, List.getElem?_cons_zero]; rfl) (by kernel_rfl) (by kernel_rfl) (by kernel_rfl) (by kernel_rfl) (by kernel_rfl) (by exact fun _ _ _ h => h) (by first | exact Or.inl ⟨by rfl, by intro w hSw; go_simp; try with_reducible rfl⟩ | exact Or.inr ⟨by rfl, rfl⟩) hH ?_
      try simp only [Act.put, List.setIfInBounds_toArray, List.set_cons_zero, List.set_cons_succ]
      refine wpK.step (i := 8) (by kernel_rfl) (by simp only [List.getElem?_toArray, List.getElem?_cons_succ, List.getElem?_cons_zero]; rfl) (fun K hK => ?_)
      go_simp
      (refine (HQ1.out _ hH).mono ?_); rintro e w8 ⟨rfl, hb8⟩; (have hk8 := Below.next hH hb8); go_simp
      refine hK.out _ _ (by assumption) (fun hH => ?_)
      clear hK K
      try simp only [Act.put, List.setIfInBounds_toArray, List.set_cons_zero, List.set_cons_succ]
      refine wpK.step (i := 11) (by kernel_rfl) (by simp only [List.getElem?_toArray, List.getElem?_cons_succ, List.getElem?_cons_zero]; rfl) (fun K hK => ?_)
      go_simp
      (refine (law19_ref rx ry ra rb _).mono ?_); rintro e w9 ⟨rfl, hb9⟩; (have hk9 := Below.next hH hb9); go_simp
      refine hK.out _ _ (by assumption) (fun hH => ?_)
      clear hK K
      try simp only [Act.put, List.setIfInBounds_toArray, List.set_cons_zero, List.set_cons_succ]
      refine wpK.step (i := 12) (by kernel_rfl) (by simp only [List.getElem?_toArray, List.getElem?_cons_succ, List.getElem?_cons_zero]; rfl) (fun K hK => ?_)
      go_simp
      (refine (HQ2.out _ hH).mono ?_); rintro e wA ⟨rfl, hbA⟩; (have hkA := Below.next hH hbA); go_simp
      refine hK.out _ _ (by assumption) (fun hH => ?_)
      clear hK K
      try simp only [Act.put, List.setIfInBounds_toArray, List.set_cons_zero, List.set_cons_succ]
      refine wpK.take (i := 13) (v := _) (by simp only [List.getElem?_toArray, List.getElem?_cons_succ, List.getElem?_cons_zero]; rfl) (by kernel_rfl) (by kernel_rfl) (by kernel_rfl) (by kernel_rfl) (by kernel_rfl) (by exact fun _ _ _ h => h) (by first | exact Or.inl ⟨by rfl, by intro w hSw; go_simp; try with_reducible rfl⟩ | exact Or.inr ⟨by rfl, rfl⟩) hH ?_
      try simp only [Act.put, List.setIfInBounds_toArray, List.set_cons_zero, List.set_cons_succ]
      refine wpK.take (i := 14) (v := _) (by simp only [List.getElem?_toArray, List.getElem?_cons_succ, List.getElem?_cons_zero]; rfl) (by kernel_rfl) (by kernel_rfl) (by kernel_rfl) (by kernel_rfl) (by kernel_rfl) (by exact fun _ _ _ h => h) (by first | exact Or.inl ⟨by rfl, by intro w hSw; go_simp; try with_reducible rfl⟩ | exact Or.inr ⟨by rfl, rfl⟩) hH ?_
      try simp only [Act.put, List.setIfInBounds_toArray, List.set_cons_zero, List.set_cons_succ]
      refine wpK.step (i := 15) (by kernel_rfl) (by simp only [List.getElem?_toArray, List.getElem?_cons_succ, List.getElem?_cons_zero]; rfl) (fun K hK => ?_)
      go_simp
      (refine (law19_inside rx ry ra rb _ true HINS).mono ?_); rintro e wB ⟨rfl, hbB⟩; (have hkB := Below.next hH hbB); go_simp
      refine hK.out _ _ (by assumption) (fun hH => ?_)
      clear hK K
      try simp only [Act.put, List.setIfInBounds_toArray, List.set_cons_zero, List.set_cons_succ]
      refine wpK.take (i := 16) (v := _) (by simp only [List.getElem?_toArray, List.getElem?_cons_succ, List.getElem?_cons_zero]; rfl) (by kernel_rfl) (by kernel_rfl) (by kernel_rfl) (by kernel_rfl) (by kernel_rfl) (by exact fun _ _ _ h => h) (by first | exact Or.inl ⟨by rfl, by intro w hSw; go_simp; try with_reducible rfl⟩ | exact Or.inr ⟨by rfl, rfl⟩) hH ?_
      try simp only [Act.put, List.setIfInBounds_toArray, List.set_cons_zero, List.set_cons_succ]
      refine wpK.take (i := 17) (v := _) (by simp only [List.getElem?_toArray, List.getElem?_cons_succ, List.getElem?_cons_zero]; rfl) (by kernel_rfl) (by kernel_rfl) (by kernel_rfl) (by kernel_rfl) (by kernel_rfl) (by exact fun _ _ _ h => h) (by first | exact Or.inl ⟨by rfl, by intro w hSw; go_simp; try with_reducible rfl⟩ | exact Or.inr ⟨by rfl, rfl⟩) hH ?_
      try simp only [Act.put, List.setIfInBounds_toArray, List.set_cons_zero, List.set_cons_succ]
      refine wpK.take (i := 18) (v := _) (by simp only [List.getElem?_toArray, List.getElem?_cons_succ, List.getElem?_cons_zero]; rfl) (by kernel_rfl) (by kernel_rfl) (by kernel_rfl) (by kernel_rfl) (by kernel_rfl) (by exact fun _ _ _ h => h) (by first | exact Or.inl ⟨by rfl, by intro w hSw; go_simp; try with_reducible rfl⟩ | exact Or.inr ⟨by rfl, rfl⟩) hH ?_
      try simp only [Act.put, List.setIfInBounds_toArray, List.set_cons_zero, List.set_cons_succ]
      refine wpK.done (by kernel_rfl) ?_ _
      have HZ := hid hkB
      go_wp2_with fail
      go_meet
      exact ⟨rfl, HZ⟩
  case rest =>
  rename World => w8
  obtain ⟨rfl, HB8⟩ := hcut
  have HI8 := hid (HI7.out.next HB8.out)
  have HT1 := hid (HS1.out.below (Below.next (Below.refl _ _) HB8.out))
  have HT2 := hid (HS2.out.below HB8.out)
  clear HS1 HS2
  go_wp2_with fail
  go_loopw [70] (fun v70 wr => ∃ i : Nat, v70 = .int .i64 (i : Int) ∧ i ≤ N ∧ Hid (Below w8.heap.size w8 wr)) (fun v70 _ => N - (intOf v70).toNat)
  case atStart => exact ⟨0, rfl, by omega, hid (Below.refl _ _)⟩
  case round =>
    obtain ⟨i, rfl, hi, HBI⟩ := hrel
    by_cases hlt : i < N
    · obtain ⟨a1', c1', e1, hr1, -⟩ := HT1.out.below HBI.out
      obtain ⟨a2', c2', e2, hr2, -⟩ := HT2.out.below HBI.out
      simp only [Value.slice.injEq] at e1 e2
      obtain ⟨rfl, -, rfl⟩ := e1
      obtain ⟨rfl, -, rfl⟩ := e2
      obtain ⟨b1, o1, y1, rfl, hc1, -, hd1, -, -⟩ := hr1.int i (by rw [HXN.out]; exact hlt)
      obtain ⟨b2, o2, y2, rfl, hc2, -, hd2, -, -⟩ := hr2.int i (by rw [HXN.out]; exact hlt)
      have hy : y2 = y1 := by rw [hd1] at hd2; simp only [List.cons.injEq] at hd2; exact hd2.1.symm
      subst hy
      have hw1 : ∀ x, Below wr.heap.size wr x → x.cell? ⟨b1, o1 + i, none⟩ = some (.int .i64 y2) := fun x hb => cellOf_belowR hb hc1
      have hw2 : ∀ x, Below wr.heap.size wr x → x.cell? ⟨b2, o2 + i, none⟩ = some (.int .i64 y2) := fun x hb => cellOf_belowR hb hc2
      have j0 : (i : Int) < (N : Int) := by omega
      have j9 : (i : Int) < 256 := by have := HN256.out; omega
      have j1 : (0 : Int) ≤ (i : Int) := by omega
      have hk0 := (Below.refl wr.heap.size wr).drew
      have HZ := hid (Below.next HBI.out hk0)
      clear hd1 hd2 hr1 hr2 hc1 hc2
      go_upto_region 12 with fail
      refine wp_region_kept [] (fun x => Below wr.heap.size wr x) (by kernel_rfl) (by assumption) (fun hH => ?_)
      refine wpK.take (i := 0) (v := _) (by simp only [List.getElem?_toArray, List.getElem?_cons_succ, List.getElem?_cons_zero]; rfl) (by kernel_rfl) (by kernel_rfl) (by kernel_rfl) (by kernel_rfl) (by kernel_rfl) (by exact fun _ _ _ h => h) (by first | exact Or.inl ⟨by rfl, by intro w hSw; go_simp; try with_reducible rfl⟩ | exact Or.inr ⟨by rfl, rfl⟩) hH ?_
      try simp only [Act.put, List.setIfInBounds_toArray, List.set_cons_zero, List.set_cons_succ]
      refine wpK.take (i := 1) (v := _) (by simp only [List.getElem?_toArray, List.getElem?_cons_succ, List.getElem?_cons_zero]; rfl) (by kernel_rfl) (by kernel_rfl) (by kernel_rfl) (by kernel_rfl) (by kernel_rfl) (by exact fun _ _ _ h => h) (by first | exact Or.inl ⟨by rfl, by intro w hSw; go_simp; try with_reducible rfl⟩ | exact Or.inr ⟨by rfl, rfl⟩) hH ?_
      try simp only [Act.put, List.setIfInBounds_toArray, List.set_cons_zero, List.set_cons_succ]
      refine wpK.take (i := 2) (v := _) (by simp only [List.getElem?_toArray, List.getElem?_cons_succ, List.getElem?_cons_zero]; rfl) (by kernel_rfl) (by kernel_rfl) (by kernel_rfl) (by kernel_rfl) (by kernel_rfl) (by exact fun _ _ _ h => h) (by first | exact Or.inl ⟨by rfl, by intro w hSw; go_simp; try with_reducible rfl⟩ | exact Or.inr ⟨by rfl, rfl⟩) hH ?_
      try simp only [Act.put, List.setIfInBounds_toArray, List.set_cons_zero, List.set_cons_succ]
      refine wpK.take (i := 3) (v := _) (by simp only [List.getElem?_toArray, List.getElem?_cons_succ, List.getElem?_cons_zero]; rfl) (by kernel_rfl) (by kernel_rfl) (by kernel_rfl) (by kernel_rfl) (by kernel_rfl) (by exact fun _ _ _ h => h) (by first | exact Or.inl ⟨by rfl, by intro w hSw; go_simp; try with_reducible rfl⟩ | exact Or.inr ⟨by rfl, rfl⟩) hH ?_
      try simp only [Act.put, List.setIfInBounds_toArray, List.set_cons_zero, List.set_cons_succ]
      refine wpK.take (i := 4) (v := _) (by simp only [List.getElem?_toArray, List.getElem?_cons_succ, List.getElem?_cons_zero]; rfl) (by kernel_rfl) (by kernel_rfl) (by kernel_rfl) (by kernel_rfl) (by kernel_rfl) (by exact fun _ _ _ h => h) (by first | exact Or.inl ⟨by rfl, by intro w hSw; go_simp; try with_reducible rfl⟩ | exact Or.inr ⟨by rfl, rfl⟩) hH ?_
      try simp only [Act.put, List.setIfInBounds_toArray, List.set_cons_zero, List.set_cons_succ]
      refine wpK.take (i := 5) (v := _) (by simp only [List.getElem?_toArray, List.getElem?_cons_succ, List.getElem?_cons_zero]; rfl) (by kernel_rfl) (by kernel_rfl) (by kernel_rfl) (by kernel_rfl) (by kernel_rfl) (by exact fun _ _ _ h => h) (by first | exact Or.inl ⟨by rfl, by intro w hSw; go_simp; try with_reducible rfl⟩ | exact Or.inr ⟨by rfl, rfl⟩) hH ?_
      try simp only [Act.put, List.setIfInBounds_toArray, List.set_cons_zero, List.set_cons_succ]
      refine wpK.take (i := 6) (v := _) (by simp only [List.getElem?_toArray, List.getElem?_cons_succ, List.getElem?_cons_zero]; rfl) (by kernel_rfl) (by kernel_rfl) (by kernel_rfl) (by kernel_rfl) (by kernel_rfl) (by exact fun _ _ _ h => h) (by first | exact Or.inl ⟨by rfl, by intro w hSw; go_simp; try with_reducible rfl⟩ | exact Or.inr ⟨by rfl, rfl⟩) hH ?_
      try simp only [Act.put, List.setIfInBounds_toArray, List.set_cons_zero, List.set_cons_succ]
      refine wpK.take (i := 7) (v := _) (by simp only [List.getElem?_toArray, List.getElem?_cons_succ, List.getElem?_cons_zero]; rfl) (by kernel_rfl) (by kernel_rfl) (by kernel_rfl) (by kernel_rfl) (by kernel_rfl) (by exact fun _ _ _ h => h) (by first | exact Or.inl ⟨by rfl, by intro w hSw; go_simp; try with_reducible rfl⟩ | exact Or.inr ⟨by rfl, rfl⟩) hH ?_
      try simp only [Act.put, List.setIfInBounds_toArray, List.set_cons_zero, List.set_cons_succ]
      refine wpK.take (i := 8) (v := _) (by simp only [List.getElem?_toArray, List.getElem?_cons_succ, List.getElem?_cons_zero]; rfl) (by kernel_rfl) (by kernel_rfl) (by kernel_rfl) (by kernel_rfl) (by kernel_rfl) (by exact fun _ _ _ h => h) (by first | exact Or.inl ⟨by rfl, by intro w hSw; go_simp; try with_reducible rfl⟩ | exact Or.inr ⟨by rfl, rfl⟩) hH ?_
      try simp only [Act.put, List.setIfInBounds_toArray, List.set_cons_zero, List.set_cons_succ]
      refine wpK.done (by kernel_rfl) ?_ _
      clear hw1 hw2 hH hk0
      go_wp2_with fail
      go_roundw
      case rel => exact ⟨i + 1, by go_num, by omega, HZ⟩
      case measure => simp [intOf]; omega
    · have j0 : ¬ (i : Int) < (N : Int) := by omega
      have HI9 := hid (HI8.out.next HBI.out)
      clear HT1 HT2 HBI
      obtain ⟨r0, r1, r2, r3⟩ := HI9.out.box5.c4r
      obtain ⟨A, hA⟩ : ∃ A, atX P rx ry = A := ⟨_, rfl⟩
      have hat := land_At wr l F k B P rx ry HI9.out.both.land
      rw [hA] at hat
      have HAT := hid hat
      have HAX := hid hA
      clear hat hA
      go_wp2_with fail
      refine HAT.out.mono ?_
      rintro e wA ⟨rfl, hbA⟩
      have HIA := hid (HI9.out.next hbA)
      obtain ⟨G, hG⟩ : ∃ G : Int, A.getD 0 = G := ⟨_, rfl⟩
      obtain ⟨gq, hgq⟩ : ∃ q : Bool, A.isSome = q := ⟨_, rfl⟩
      rw [hG, hgq]
      have HGG := hid (And.intro hG hgq)
      clear hbA r0 r1 r2 r3 hG hgq HAT
      obtain ⟨m0, m1, m2⟩ := HIA.out.box8.c3v
      go_wp2_with fail
      have np256 : np ≤ 256 := by have := HIA.out.both.land.inv.len; have := HNP.out; omega
      go_loopw [14, 95] (fun v14 v95 wr => ∃ (j : Nat) (G : Int), v95 = .int .i64 (j : Int) ∧ v14 = .int .i64 G ∧ j ≤ np ∧ Hid (atF (P.take j) rx ry = G) ∧ Hid (Below wA.heap.size wA wr)) (fun _ v95 _ => np - (intOf v95).toNat)
      case atStart => exact ⟨0, 0, rfl, rfl, by omega, hid rfl, hid (Below.refl _ _)⟩
      case round =>
        clear m0 m1 m2
        obtain ⟨j, G2, rfl, rfl, hj, HGJ, HBJ⟩ := hrel
        by_cases hlt2 : j < np
        · have i1 : (j : Int) < (np : Int) := by omega
          have i0 : (0 : Int) ≤ (j : Int) := by omega
          have i9 : (j : Int) < 256 := by omega
          obtain ⟨a', c', e', hrd, hcp, -, -⟩ := (HIA.out.both.pl.below HBJ.out)
          simp only [Value.slice.injEq] at e'
          obtain ⟨rfl, -, rfl⟩ := e'
          obtain ⟨b0, off, p, rfl, d0, d1, d2, d3, d4, hat, -, htk⟩ := hrd.fiveP j (by rw [HNP.out]; exact hlt2)
          have HTK := hid htk
          obtain ⟨pi, p1, p2, p3, p4⟩ := p
          simp only at d0 d1 d2 d3 d4
          clear hrd hat htk hcp
          go_upto_region 20 with fail
          obtain ⟨w5, hw5⟩ : ∃ w5, w5 = wr.alloc (.cells #[.int .i64 pi, .int .i64 p1, .int .i64 p2, .int .i64 p3, .int .i64 p4] 45) := ⟨_, rfl⟩
          rw [← hw5]
          obtain ⟨gp, hgp⟩ : ∃ gp, gp = wr.heap.size := ⟨_, rfl⟩
          rw [← hgp]
          have hb5 : Below wr.heap.size wr w5 := by rw [hw5]; exact Below.new _ _
          have HK5 : Hid (Blk w5 gp #[.int .i64 pi, .int .i64 p1, .int .i64 p2, .int .i64 p3, .int .i64 p4]) := hid (by rw [hw5, hgp]; exact Blk.new _ _ _)
          have HB5 := hid (Below.next HBJ.out hb5)
          clear hw5 hgp hb5 d0 d1 d2 d3 d4
          obtain ⟨t0, t1, t2, t3, t4⟩ := HK5.out.c5v
          obtain ⟨r0, r1, r2, r3⟩ := (HIA.out.next HB5.out).box5.c4r
          obtain ⟨qh, hqh⟩ : ∃ qh, tHolds rx ry (p1, p2, p3, p4) = qh := ⟨_, rfl⟩
          have hho := ref02_Holds4 p1 p2 p3 p4 rx ry HXY.out.1 HXY.out.2 w5
          rw [hqh] at hho
          have HHO := hid hho
          have HGN : Hid (atF (P.take (j + 1)) rx ry = if qh then pi else G2) := hid (by rw [HTK.out, atF_snoc, HGJ.out, hqh])
          clear hqh hho
          go_wp2_with fail
          refine HHO.out.mono ?_
          rintro e w6 ⟨rfl, hb6⟩
          have HB6 := hid (Below.next HB5.out hb6)
          have HK6 := hid (HK5.out.below hb6)
          clear hb6 t0 t1 t2 t3 t4 r0 r1 r2 r3
          obtain ⟨t0, t1, t2, t3, t4⟩ := HK6.out.c5v
          cases qh with
          | true =>
            go_wp2_with fail
            go_roundw
            case rel => exact ⟨j + 1, pi, by go_num, rfl, by omega, hid (by simpa using HGN.out), HB6⟩
            case measure => simp [intOf]; omega
          | false =>
            go_wp2_with fail
            go_roundw
            case rel => exact ⟨j + 1, G2, by go_num, rfl, by omega, hid (by simpa using HGN.out), HB6⟩
            case measure => simp [intOf]; omega
        · have i1 : ¬ (j : Int) < (np : Int) := by omega
          have HGF : Hid (G2 = G) := hid (by
            have h1 := HGJ.out
            rw [List.take_of_length_le (by have := HNP.out; omega), atF_at HIA.out.both.land.inv.apart, HAX.out, HGG.out.1] at h1
            exact h1.symm)
          have hge := HGF.out
          subst hge
          have HGQ : Hid (gq = decide (0 < G2)) := hid (by
            have h1 := atX_pos HIA.out.both.land.inv rx ry
            rw [HAX.out, HGG.out.1, HGG.out.2] at h1
            exact h1)
          have HIR := hid (HIA.out.next HBJ.out)
          clear HGJ HBJ HGF HGG HAX
          obtain ⟨r0, r1, r2, r3⟩ := HIR.out.box5.c4r
          have hpl := land_Plot wr l F k B P ra HIR.out.both.land
          cases hlk : P.lookup ra with
          | some q =>
            rw [hlk] at hpl
            obtain ⟨q1, q2, q3, q4⟩ := q
            have HLK := hid hlk
            have HPL : Hid (Calls Tryz.prog 17 #[.pointer (some ⟨l, 0, none⟩), .int .i64 ra] wr fun e w' => e = .returned (.tuple #[.agg #[.int .i64 q1, .int .i64 q2, .int .i64 q3, .int .i64 q4], .bool true]) ∧ Below wr.heap.size wr w') := hid hpl
            clear hpl hlk
            go_wp2_with fail
            refine HPL.out.mono ?_
            rintro e wB ⟨rfl, hbB⟩
            have HIB := hid (HIR.out.next hbB)
            clear hbB HPL r0 r1 r2 r3
            obtain ⟨r0, r1, r2, r3⟩ := HIB.out.box5.c4r
            obtain ⟨m0, m1, m2⟩ := HIB.out.box8.c3v
            go_upto_region 24 with fail
            obtain ⟨wC, hwC⟩ : ∃ wC, wC = wB.alloc (.cells #[.int .i64 q1, .int .i64 q2, .int .i64 q3, .int .i64 q4] 25) := ⟨_, rfl⟩
            try rw [← hwC]
            obtain ⟨b17, hb17⟩ : ∃ g, g = wB.heap.size := ⟨_, rfl⟩
            try rw [← hb17]
            have hbC : Below wB.heap.size wB wC := by rw [hwC]; exact Below.new _ _
            have HK17 : Hid (Blk wC b17 #[.int .i64 q1, .int .i64 q2, .int .i64 q3, .int .i64 q4]) := hid (by rw [hwC, hb17]; exact Blk.new _ _ _)
            have HIC := hid (HIB.out.next hbC)
            have HFD := hid (ref19_Find 32 va pa nv vc np pc P ra wC HIC.out.both.pl (by have := HIC.out.both.land.inv.len; omega))
            clear hwC hb17 hbC r0 r1 r2 r3 m0 m1 m2
            obtain ⟨r0, r1, r2, r3⟩ := HIC.out.box5.c4r
            obtain ⟨m0, m1, m2⟩ := HIC.out.box8.c3v
            go_wp2_with fail
            refine HFD.out.mono ?_
            rintro e wD ⟨fr, rfl, hfr, hbD⟩
            have HID := hid (HIC.out.next hbD)
            have HK17D := hid (HK17.out.below hbD)
            have hlook := findP_look HID.out.both.land.inv hfr
            clear hbD HFD r0 r1 r2 r3 m0 m1 m2 hfr
            rcases hlook with ⟨i, rfl, q, hq, hlk⟩ | ⟨-, hlk⟩
            case inr => rw [HLK.out] at hlk; cases hlk
            obtain rfl : q = (q1, q2, q3, q4) := by rw [HLK.out] at hlk; cases hlk; rfl
            have hin : i < np := by have := (List.getElem?_eq_some_iff.1 hq).1; have := HNP.out; omega
            obtain ⟨a', c', e', hrd, hcp, -, -⟩ := HID.out.both.pl
            simp only [Value.slice.injEq] at e'
            obtain ⟨rfl, -, rfl⟩ := e'
            obtain ⟨b0, off, p, rfl, d0, d1, d2, d3, d4, hat, -, htk⟩ := hrd.fiveP i (by rw [HNP.out]; exact hin)
            obtain rfl : p = (ra, (q1, q2, q3, q4)) := by rw [hq] at hat; cases hat; rfl
            simp only at d0 d1 d2 d3 d4
            have i1 : (i : Int) < (np : Int) := by omega
            have i0 : (0 : Int) ≤ (i : Int) := by omega
            have i9 : (i : Int) < 256 := by omega
            clear hrd hat htk hcp hq hlk
            obtain ⟨m0, m1, m2⟩ := HID.out.box8.c3v
            obtain ⟨e0, e1, e2, e3⟩ := HK17D.out.c4r
            replace m2 := fun (z : World) (hz : Below wD.heap.size wD z) => cellOf_belowR hz m2
            replace e0 := fun (z : World) (hz : Below wD.heap.size wD z) => cellOf_belowR hz e0
            replace e1 := fun (z : World) (hz : Below wD.heap.size wD z) => cellOf_belowR hz e1
            replace e2 := fun (z : World) (hz : Below wD.heap.size wD z) => cellOf_belowR hz e2
            replace e3 := fun (z : World) (hz : Below wD.heap.size wD z) => cellOf_belowR hz e3
            replace d1 := fun (z : World) (hz : Below wD.heap.size wD z) => cellOf_belowR hz d1
            replace d2 := fun (z : World) (hz : Below wD.heap.size wD z) => cellOf_belowR hz d2
            replace d3 := fun (z : World) (hz : Below wD.heap.size wD z) => cellOf_belowR hz d3
            replace d4 := fun (z : World) (hz : Below wD.heap.size wD z) => cellOf_belowR hz d4
            have hyd := (Below.refl wD.heap.size wD).drew
            clear m0 m1 d0
            go_upto_region 25 with fail
            refine wp_region_kept [] (fun z => Below wD.heap.size wD z) (by kernel_rfl) (by assumption) (fun hH => ?_)
            refine wpK.take (i := 0) (v := _) (by simp only [List.getElem?_toArray, List.getElem?_cons_succ, List.getElem?_cons_zero]; rfl) (by kernel_rfl) (by kernel_rfl) (by kernel_rfl) (by kernel_rfl) (by kernel_rfl) (by exact fun _ _ _ h => h) (by first | exact Or.inl ⟨by rfl, by intro w hSw; go_simp; try with_reducible rfl⟩ | exact Or.inr ⟨by rfl, rfl⟩) hH ?_
            try simp only [Act.put, List.setIfInBounds_toArray, List.set_cons_zero, List.set_cons_succ]
            refine wpK.take (i := 1) (v := _) (by simp only [List.getElem?_toArray, List.getElem?_cons_succ, List.getElem?_cons_zero]; rfl) (by kernel_rfl) (by kernel_rfl) (by kernel_rfl) (by kernel_rfl) (by kernel_rfl) (by exact fun _ _ _ h => h) (by first | exact Or.inl ⟨by rfl, by intro w hSw; go_simp; try with_reducible rfl⟩ | exact Or.inr ⟨by rfl, rfl⟩) hH ?_
            try simp only [Act.put, List.setIfInBounds_toArray, List.set_cons_zero, List.set_cons_succ]
            refine wpK.take (i := 2) (v := _) (by simp only [List.getElem?_toArray, List.getElem?_cons_succ, List.getElem?_cons_zero]; rfl) (by kernel_rfl) (by kernel_rfl) (by kernel_rfl) (by kernel_rfl) (by kernel_rfl) (by exact fun _ _ _ h => h) (by first | exact Or.inl ⟨by rfl, by intro w hSw; go_simp; try with_reducible rfl⟩ | exact Or.inr ⟨by rfl, rfl⟩) hH ?_
            try simp only [Act.put, List.setIfInBounds_toArray, List.set_cons_zero, List.set_cons_succ]
            refine wpK.take (i := 3) (v := _) (by simp only [List.getElem?_toArray, List.getElem?_cons_succ, List.getElem?_cons_zero]; rfl) (by kernel_rfl) (by kernel_rfl) (by kernel_rfl) (by kernel_rfl) (by kernel_rfl) (by exact fun _ _ _ h => h) (by first | exact Or.inl ⟨by rfl, by intro w hSw; go_simp; try with_reducible rfl⟩ | exact Or.inr ⟨by rfl, rfl⟩) hH ?_
            try simp only [Act.put, List.setIfInBounds_toArray, List.set_cons_zero, List.set_cons_succ]
            refine wpK.take (i := 4) (v := _) (by simp only [List.getElem?_toArray, List.getElem?_cons_succ, List.getElem?_cons_zero]; rfl) (by kernel_rfl) (by kernel_rfl) (by kernel_rfl) (by kernel_rfl) (by kernel_rfl) (by exact fun _ _ _ h => h) (by first | exact Or.inl ⟨by rfl, by intro w hSw; go_simp; try with_reducible rfl⟩ | exact Or.inr ⟨by rfl, rfl⟩) hH ?_
            try simp only [Act.put, List.setIfInBounds_toArray, List.set_cons_zero, List.set_cons_succ]
            refine wpK.take (i := 5) (v := _) (by simp only [List.getElem?_toArray, List.getElem?_cons_succ, List.getElem?_cons_zero]; rfl) (by kernel_rfl) (by kernel_rfl) (by kernel_rfl) (by kernel_rfl) (by kernel_rfl) (by exact fun _ _ _ h => h) (by first | exact Or.inl ⟨by rfl, by intro w hSw; go_simp; try with_reducible rfl⟩ | exact Or.inr ⟨by rfl, rfl⟩) hH ?_
            try simp only [Act.put, List.setIfInBounds_toArray, List.set_cons_zero, List.set_cons_succ]
            refine wpK.take (i := 6) (v := _) (by simp only [List.getElem?_toArray, List.getElem?_cons_succ, List.getElem?_cons_zero]; rfl) (by kernel_rfl) (by kernel_rfl) (by kernel_rfl) (by kernel_rfl) (by kernel_rfl) (by exact fun _ _ _ h => h) (by first | exact Or.inl ⟨by rfl, by intro w hSw; go_simp; try with_reducible rfl⟩ | exact Or.inr ⟨by rfl, rfl⟩) hH ?_
            try simp only [Act.put, List.setIfInBounds_toArray, List.set_cons_zero, List.set_cons_succ]
            refine wpK.take (i := 7) (v := _) (by simp only [List.getElem?_toArray, List.getElem?_cons_succ, List.getElem?_cons_zero]; rfl) (by kernel_rfl) (by kernel_rfl) (by kernel_rfl) (by kernel_rfl) (by kernel_rfl) (by exact fun _ _ _ h => h) (by first | exact Or.inl ⟨by rfl, by intro w hSw; go_simp; try with_reducible rfl⟩ | exact Or.inr ⟨by rfl, rfl⟩) hH ?_
            try simp only [Act.put, List.setIfInBounds_toArray, List.set_cons_zero, List.set_cons_succ]
            refine wpK.take (i := 9) (v := _) (by simp only [List.getElem?_toArray, List.getElem?_cons_succ, List.getElem?_cons_zero]; rfl) (by kernel_rfl) (by kernel_rfl) (by kernel_rfl) (by kernel_rfl) (by kernel_rfl) (by exact fun _ _ _ h => h) (by first | exact Or.inl ⟨by rfl, by intro w hSw; go_simp; try with_reducible rfl⟩ | exact Or.inr ⟨by rfl, rfl⟩) hH ?_
            try simp only [Act.put, List.setIfInBounds_toArray, List.set_cons_zero, List.set_cons_succ]
            refine wpK.take (i := 10) (v := _) (by simp only [List.getElem?_toArray, List.getElem?_cons_succ, List.getElem?_cons_zero]; rfl) (by kernel_rfl) (by kernel_rfl) (by kernel_rfl) (by kernel_rfl) (by kernel_rfl) (by exact fun _ _ _ h => h) (by first | exact Or.inl ⟨by rfl, by intro w hSw; go_simp; try with_reducible rfl⟩ | exact Or.inr ⟨by rfl, rfl⟩) hH ?_
            try simp only [Act.put, List.setIfInBounds_toArray, List.set_cons_zero, List.set_cons_succ]
            refine wpK.take (i := 11) (v := _) (by simp only [List.getElem?_toArray, List.getElem?_cons_succ, List.getElem?_cons_zero]; rfl) (by kernel_rfl) (by kernel_rfl) (by kernel_rfl) (by kernel_rfl) (by kernel_rfl) (by exact fun _ _ _ h => h) (by first | exact Or.inl ⟨by rfl, by intro w hSw; go_simp; try with_reducible rfl⟩ | exact Or.inr ⟨by rfl, rfl⟩) hH ?_
            try simp only [Act.put, List.setIfInBounds_toArray, List.set_cons_zero, List.set_cons_succ]
            refine wpK.take (i := 12) (v := _) (by simp only [List.getElem?_toArray, List.getElem?_cons_succ, List.getElem?_cons_zero]; rfl) (by kernel_rfl) (by kernel_rfl) (by kernel_rfl) (by kernel_rfl) (by kernel_rfl) (by exact fun _ _ _ h => h) (by first | exact Or.inl ⟨by rfl, by intro w hSw; go_simp; try with_reducible rfl⟩ | exact Or.inr ⟨by rfl, rfl⟩) hH ?_
            try simp only [Act.put, List.setIfInBounds_toArray, List.set_cons_zero, List.set_cons_succ]
            refine wpK.take (i := 13) (v := _) (by simp only [List.getElem?_toArray, List.getElem?_cons_succ, List.getElem?_cons_zero]; rfl) (by kernel_rfl) (by kernel_rfl) (by kernel_rfl) (by kernel_rfl) (by kernel_rfl) (by exact fun _ _ _ h => h) (by first | exact Or.inl ⟨by rfl, by intro w hSw; go_simp; try with_reducible rfl⟩ | exact Or.inr ⟨by rfl, rfl⟩) hH ?_
            try simp only [Act.put, List.setIfInBounds_toArray, List.set_cons_zero, List.set_cons_succ]
            refine wpK.take (i := 14) (v := _) (by simp only [List.getElem?_toArray, List.getElem?_cons_succ, List.getElem?_cons_zero]; rfl) (by kernel_rfl) (by kernel_rfl) (by kernel_rfl) (by kernel_rfl) (by kernel_rfl) (by exact fun _ _ _ h => h) (by first | exact Or.inl ⟨by rfl, by intro w hSw; go_simp; try with_reducible rfl⟩ | exact Or.inr ⟨by rfl, rfl⟩) hH ?_
            try simp only [Act.put, List.setIfInBounds_toArray, List.set_cons_zero, List.set_cons_succ]
            refine wpK.step (i := 8) (by kernel_rfl) (by simp only [List.getElem?_toArray, List.getElem?_cons_succ, List.getElem?_cons_zero]; rfl) (fun K hK => ?_)
            go_simp
            (refine (law19_ref q1 q2 q3 q4 _).mono ?_); rintro e wE ⟨rfl, hbE⟩; (have hkE := Below.next hH hbE); go_simp
            refine hK.out _ _ (by assumption) (fun hH => ?_)
            clear hK K
            try simp only [Act.put, List.setIfInBounds_toArray, List.set_cons_zero, List.set_cons_succ]
            refine wpK.take (i := 15) (v := _) (by simp only [List.getElem?_toArray, List.getElem?_cons_succ, List.getElem?_cons_zero]; rfl) (by kernel_rfl) (by kernel_rfl) (by kernel_rfl) (by kernel_rfl) (by kernel_rfl) (by exact fun _ _ _ h => h) (by first | exact Or.inl ⟨by rfl, by intro w hSw; go_simp; try with_reducible rfl⟩ | exact Or.inr ⟨by rfl, rfl⟩) hH ?_
            try simp only [Act.put, List.setIfInBounds_toArray, List.set_cons_zero, List.set_cons_succ]
            refine wpK.take (i := 16) (v := _) (by simp only [List.getElem?_toArray, List.getElem?_cons_succ, List.getElem?_cons_zero]; rfl) (by kernel_rfl) (by kernel_rfl) (by kernel_rfl) (by kernel_rfl) (by kernel_rfl) (by exact fun _ _ _ h => h) (by first | exact Or.inl ⟨by rfl, by intro w hSw; go_simp; try with_reducible rfl⟩ | exact Or.inr ⟨by rfl, rfl⟩) hH ?_
            try simp only [Act.put, List.setIfInBounds_toArray, List.set_cons_zero, List.set_cons_succ]
            refine wpK.take (i := 17) (v := _) (by simp only [List.getElem?_toArray, List.getElem?_cons_succ, List.getElem?_cons_zero]; rfl) (by kernel_rfl) (by kernel_rfl) (by kernel_rfl) (by kernel_rfl) (by kernel_rfl) (by exact fun _ _ _ h => h) (by first | exact Or.inl ⟨by rfl, by intro w hSw; go_simp; try with_reducible rfl⟩ | exact Or.inr ⟨by rfl, rfl⟩) hH ?_
            try simp only [Act.put, List.setIfInBounds_toArray, List.set_cons_zero, List.set_cons_succ]
            refine wpK.take (i := 18) (v := _) (by simp only [List.getElem?_toArray, List.getElem?_cons_succ, List.getElem?_cons_zero]; rfl) (by kernel_rfl) (by kernel_rfl) (by kernel_rfl) (by kernel_rfl) (by kernel_rfl) (by exact fun _ _ _ h => h) (by first | exact Or.inl ⟨by rfl, by intro w hSw; go_simp; try with_reducible rfl⟩ | exact Or.inr ⟨by rfl, rfl⟩) hH ?_
            try simp only [Act.put, List.setIfInBounds_toArray, List.set_cons_zero, List.set_cons_succ]
            refine wpK.take (i := 19) (v := _) (by simp only [List.getElem?_toArray, List.getElem?_cons_succ, List.getElem?_cons_zero]; rfl) (by kernel_rfl) (by kernel_rfl) (by kernel_rfl) (by kernel_rfl) (by kernel_rfl) (by exact fun _ _ _ h => h) (by first | exact Or.inl ⟨by rfl, by intro w hSw; go_simp; try with_reducible rfl⟩ | exact Or.inr ⟨by rfl, rfl⟩) hH ?_
            try simp only [Act.put, List.setIfInBounds_toArray, List.set_cons_zero, List.set_cons_succ]
            refine wpK.take (i := 20) (v := _) (by simp only [List.getElem?_toArray, List.getElem?_cons_succ, List.getElem?_cons_zero]; rfl) (by kernel_rfl) (by kernel_rfl) (by kernel_rfl) (by kernel_rfl) (by kernel_rfl) (by exact fun _ _ _ h => h) (by first | exact Or.inl ⟨by rfl, by intro w hSw; go_simp; try with_reducible rfl⟩ | exact Or.inr ⟨by rfl, rfl⟩) hH ?_
            try simp only [Act.put, List.setIfInBounds_toArray, List.set_cons_zero, List.set_cons_succ]
            refine wpK.take (i := 21) (v := _) (by simp only [List.getElem?_toArray, List.getElem?_cons_succ, List.getElem?_cons_zero]; rfl) (by kernel_rfl) (by kernel_rfl) (by kernel_rfl) (by kernel_rfl) (by kernel_rfl) (by exact fun _ _ _ h => h) (by first | exact Or.inl ⟨by rfl, by intro w hSw; go_simp; try with_reducible rfl⟩ | exact Or.inr ⟨by rfl, rfl⟩) hH ?_
            try simp only [Act.put, List.setIfInBounds_toArray, List.set_cons_zero, List.set_cons_succ]
            refine wpK.take (i := 22) (v := _) (by simp only [List.getElem?_toArray, List.getElem?_cons_succ, List.getElem?_cons_zero]; rfl) (by kernel_rfl) (by kernel_rfl) (by kernel_rfl) (by kernel_rfl) (by kernel_rfl) (by exact fun _ _ _ h => h) (by first | exact Or.inl ⟨by rfl, by intro w hSw; go_simp; try with_reducible rfl⟩ | exact Or.inr ⟨by rfl, rfl⟩) hH ?_
            try simp only [Act.put, List.setIfInBounds_toArray, List.set_cons_zero, List.set_cons_succ]
            refine wpK.take (i := 23) (v := _) (by simp only [List.getElem?_toArray, List.getElem?_cons_succ, List.getElem?_cons_zero]; rfl) (by kernel_rfl) (by kernel_rfl) (by kernel_rfl) (by kernel_rfl) (by kernel_rfl) (by exact fun _ _ _ h => h) (by first | exact Or.inl ⟨by rfl, by intro w hSw; go_simp; try with_reducible rfl⟩ | exact Or.inr ⟨by rfl, rfl⟩) hH ?_
            try simp only [Act.put, List.setIfInBounds_toArray, List.set_cons_zero, List.set_cons_succ]
            refine wpK.take (i := 24) (v := _) (by simp only [List.getElem?_toArray, List.getElem?_cons_succ, List.getElem?_cons_zero]; rfl) (by kernel_rfl) (by kernel_rfl) (by kernel_rfl) (by kernel_rfl) (by kernel_rfl) (by exact fun _ _ _ h => h) (by first | exact Or.inl ⟨by rfl, by intro w hSw; go_simp; try with_reducible rfl⟩ | exact Or.inr ⟨by rfl, rfl⟩) hH ?_
            try simp only [Act.put, List.setIfInBounds_toArray, List.set_cons_zero, List.set_cons_succ]
            refine wpK.take (i := 25) (v := _) (by simp only [List.getElem?_toArray, List.getElem?_cons_succ, List.getElem?_cons_zero]; rfl) (by kernel_rfl) (by kernel_rfl) (by kernel_rfl) (by kernel_rfl) (by kernel_rfl) (by exact fun _ _ _ h => h) (by first | exact Or.inl ⟨by rfl, by intro w hSw; go_simp; try with_reducible rfl⟩ | exact Or.inr ⟨by rfl, rfl⟩) hH ?_
            try simp only [Act.put, List.setIfInBounds_toArray, List.set_cons_zero, List.set_cons_succ]
            refine wpK.take (i := 26) (v := _) (by simp only [List.getElem?_toArray, List.getElem?_cons_succ, List.getElem?_cons_zero]; rfl) (by kernel_rfl) (by kernel_rfl) (by kernel_rfl) (by kernel_rfl) (by kernel_rfl) (by exact fun _ _ _ h => h) (by first | exact Or.inl ⟨by rfl, by intro w hSw; go_simp; try with_reducible rfl⟩ | exact Or.inr ⟨by rfl, rfl⟩) hH ?_
            try simp only [Act.put, List.setIfInBounds_toArray, List.set_cons_zero, List.set_cons_succ]
            refine wpK.done (by kernel_rfl) ?_ _
            have HBE := hid (Below.next HID.out.below hkE)
            clear m2 e0 e1 e2 e3 d1 d2 d3 d4 hyd hkE hH hbE
            by_cases hpos : 0 < G2
            · have hgq : gq = true := by rw [HGQ.out]; exact decide_eq_true hpos
              subst hgq
              have hd1 : decide (0 < G2) = true := decide_eq_true hpos
              go_wp2_with fail
              refine (HAW.out _ HBE.out).mono ?_
              rintro e wZ ⟨rfl, hbZ⟩
              have HZ := hid hbZ
              clear hbZ
              go_wp2_with fail
              go_ret
              exact ⟨rfl, HZ.out⟩
            · have hgq : gq = false := by rw [HGQ.out]; exact decide_eq_false hpos
              subst hgq
              have hd1 : decide (0 < G2) = false := decide_eq_false hpos
              go_wp2_with fail
              refine (HAW.out _ HBE.out).mono ?_
              rintro e wZ ⟨rfl, hbZ⟩
              have HZ := hid hbZ
              clear hbZ
              go_wp2_with fail
              go_ret
              exact ⟨rfl, HZ.out⟩
          | none =>
            rw [hlk] at hpl
            have HLK := hid hlk
            have HPL : Hid (Calls Tryz.prog 17 #[.pointer (some ⟨l, 0, none⟩), .int .i64 ra] wr fun e w' => e = .returned (.tuple #[.agg #[.int .i64 0, .int .i64 0, .int .i64 0, .int .i64 0], .bool false]) ∧ Below wr.heap.size wr w') := hid hpl
            clear hpl hlk
            go_wp2_with fail
            refine HPL.out.mono ?_
            rintro e wB ⟨rfl, hbB⟩
            have HIB := hid (HIR.out.next hbB)
            clear hbB HPL r0 r1 r2 r3
            obtain ⟨r0, r1, r2, r3⟩ := HIB.out.box5.c4r
            obtain ⟨m0, m1, m2⟩ := HIB.out.box8.c3v
            go_upto_region 24 with fail
            obtain ⟨wC, hwC⟩ : ∃ wC, wC = wB.alloc (.cells #[.int .i64 0, .int .i64 0, .int .i64 0, .int .i64 0] 25) := ⟨_, rfl⟩
            try rw [← hwC]
            obtain ⟨b17, hb17⟩ : ∃ g, g = wB.heap.size := ⟨_, rfl⟩
            try rw [← hb17]
            have hbC : Below wB.heap.size wB wC := by rw [hwC]; exact Below.new _ _
            have HK17 : Hid (Blk wC b17 #[.int .i64 0, .int .i64 0, .int .i64 0, .int .i64 0]) := hid (by rw [hwC, hb17]; exact Blk.new _ _ _)
            have HIC := hid (HIB.out.next hbC)
            have HFD := hid (ref19_Find 32 va pa nv vc np pc P ra wC HIC.out.both.pl (by have := HIC.out.both.land.inv.len; omega))
            clear hwC hb17 hbC r0 r1 r2 r3 m0 m1 m2
            obtain ⟨r0, r1, r2, r3⟩ := HIC.out.box5.c4r
            obtain ⟨m0, m1, m2⟩ := HIC.out.box8.c3v
            go_wp2_with fail
            refine HFD.out.mono ?_
            rintro e wD ⟨fr, rfl, hfr, hbD⟩
            have HID := hid (HIC.out.next hbD)
            have HK17D := hid (HK17.out.below hbD)
            have hlook := findP_look HID.out.both.land.inv hfr
            clear hbD HFD r0 r1 r2 r3 m0 m1 m2 hfr
            rcases hlook with ⟨i, rfl, q, hq, hlk⟩ | ⟨hfr, -⟩
            case inl => rw [HLK.out] at hlk; cases hlk
            have j1 : ¬ (0 : Int) ≤ fr := by omega
            have j2 : decide ((0 : Int) ≤ fr) = false := decide_eq_false j1
            clear hfr
            obtain ⟨e0, e1, e2, e3⟩ := HK17D.out.c4r
            replace e0 := fun (z : World) (hz : Below wD.heap.size wD z) => cellOf_belowR hz e0
            replace e1 := fun (z : World) (hz : Below wD.heap.size wD z) => cellOf_belowR hz e1
            replace e2 := fun (z : World) (hz : Below wD.heap.size wD z) => cellOf_belowR hz e2
            replace e3 := fun (z : World) (hz : Below wD.heap.size wD z) => cellOf_belowR hz e3
            have hyd := (Below.refl wD.heap.size wD).drew
            go_upto_region 25 with fail
            refine wp_region_kept [] (fun z => Below wD.heap.size wD z) (by kernel_rfl) (by assumption) (fun hH => ?_)
            refine wpK.take (i := 0) (v := _) (by simp only [List.getElem?_toArray, List.getElem?_cons_succ, List.getElem?_cons_zero]; rfl) (by kernel_rfl) (by kernel_rfl) (by kernel_rfl) (by kernel_rfl) (by kernel_rfl) (by exact fun _ _ _ h => h) (by first | exact Or.inl ⟨by rfl, by intro w hSw; go_simp; try with_reducible rfl⟩ | exact Or.inr ⟨by rfl, rfl⟩) hH ?_
            try simp only [Act.put, List.setIfInBounds_toArray, List.set_cons_zero, List.set_cons_succ]
            refine wpK.take (i := 1) (v := _) (by simp only [List.getElem?_toArray, List.getElem?_cons_succ, List.getElem?_cons_zero]; rfl) (by kernel_rfl) (by kernel_rfl) (by kernel_rfl) (by kernel_rfl) (by kernel_rfl) (by exact fun _ _ _ h => h) (by first | exact Or.inl ⟨by rfl, by intro w hSw; go_simp; try with_reducible rfl⟩ | exact Or.inr ⟨by rfl, rfl⟩) hH ?_
            try simp only [Act.put, List.setIfInBounds_toArray, List.set_cons_zero, List.set_cons_succ]
            refine wpK.take (i := 2) (v := _) (by simp only [List.getElem?_toArray, List.getElem?_cons_succ, List.getElem?_cons_zero]; rfl) (by kernel_rfl) (by kernel_rfl) (by kernel_rfl) (by kernel_rfl) (by kernel_rfl) (by exact fun _ _ _ h => h) (by first | exact Or.inl ⟨by rfl, by intro w hSw; go_simp; try with_reducible rfl⟩ | exact Or.inr ⟨by rfl, rfl⟩) hH ?_
            try simp only [Act.put, List.setIfInBounds_toArray, List.set_cons_zero, List.set_cons_succ]
            refine wpK.take (i := 3) (v := _) (by simp only [List.getElem?_toArray, List.getElem?_cons_succ, List.getElem?_cons_zero]; rfl) (by kernel_rfl) (by kernel_rfl) (by kernel_rfl) (by kernel_rfl) (by kernel_rfl) (by exact fun _ _ _ h => h) (by first | exact Or.inl ⟨by rfl, by intro w hSw; go_simp; try with_reducible rfl⟩ | exact Or.inr ⟨by rfl, rfl⟩) hH ?_
            try simp only [Act.put, List.setIfInBounds_toArray, List.set_cons_zero, List.set_cons_succ]
            refine wpK.take (i := 4) (v := _) (by simp only [List.getElem?_toArray, List.getElem?_cons_succ, List.getElem?_cons_zero]; rfl) (by kernel_rfl) (by kernel_rfl) (by kernel_rfl) (by kernel_rfl) (by kernel_rfl) (by exact fun _ _ _ h => h) (by first | exact Or.inl ⟨by rfl, by intro w hSw; go_simp; try with_reducible rfl⟩ | exact Or.inr ⟨by rfl, rfl⟩) hH ?_
            try simp only [Act.put, List.setIfInBounds_toArray, List.set_cons_zero, List.set_cons_succ]
            refine wpK.take (i := 5) (v := _) (by simp only [List.getElem?_toArray, List.getElem?_cons_succ, List.getElem?_cons_zero]; rfl) (by kernel_rfl) (by kernel_rfl) (by kernel_rfl) (by kernel_rfl) (by kernel_rfl) (by exact fun _ _ _ h => h) (by first | exact Or.inl ⟨by rfl, by intro w hSw; go_simp; try with_reducible rfl⟩ | exact Or.inr ⟨by rfl, rfl⟩) hH ?_
            try simp only [Act.put, List.setIfInBounds_toArray, List.set_cons_zero, List.set_cons_succ]
            refine wpK.take (i := 6) (v := _) (by simp only [List.getElem?_toArray, List.getElem?_cons_succ, List.getElem?_cons_zero]; rfl) (by kernel_rfl) (by kernel_rfl) (by kernel_rfl) (by kernel_rfl) (by kernel_rfl) (by exact fun _ _ _ h => h) (by first | exact Or.inl ⟨by rfl, by intro w hSw; go_simp; try with_reducible rfl⟩ | exact Or.inr ⟨by rfl, rfl⟩) hH ?_
            try simp only [Act.put, List.setIfInBounds_toArray, List.set_cons_zero, List.set_cons_succ]
            refine wpK.take (i := 7) (v := _) (by simp only [List.getElem?_toArray, List.getElem?_cons_succ, List.getElem?_cons_zero]; rfl) (by kernel_rfl) (by kernel_rfl) (by kernel_rfl) (by kernel_rfl) (by kernel_rfl) (by exact fun _ _ _ h => h) (by first | exact Or.inl ⟨by rfl, by intro w hSw; go_simp; try with_reducible rfl⟩ | exact Or.inr ⟨by rfl, rfl⟩) hH ?_
            try simp only [Act.put, List.setIfInBounds_toArray, List.set_cons_zero, List.set_cons_succ]
            refine wpK.take (i := 8) (v := _) (by simp only [List.getElem?_toArray, List.getElem?_cons_succ, List.getElem?_cons_zero]; rfl) (by kernel_rfl) (by kernel_rfl) (by kernel_rfl) (by kernel_rfl) (by kernel_rfl) (by exact fun _ _ _ h => h) (by first | exact Or.inl ⟨by rfl, by intro w hSw; go_simp; try with_reducible rfl⟩ | exact Or.inr ⟨by rfl, rfl⟩) hH ?_
            try simp only [Act.put, List.setIfInBounds_toArray, List.set_cons_zero, List.set_cons_succ]
            refine wpK.take (i := 9) (v := _) (by simp only [List.getElem?_toArray, List.getElem?_cons_succ, List.getElem?_cons_zero]; rfl) (by kernel_rfl) (by kernel_rfl) (by kernel_rfl) (by kernel_rfl) (by kernel_rfl) (by exact fun _ _ _ h => h) (by first | exact Or.inl ⟨by rfl, by intro w hSw; go_simp; try with_reducible rfl⟩ | exact Or.inr ⟨by rfl, rfl⟩) hH ?_
            try simp only [Act.put, List.setIfInBounds_toArray, List.set_cons_zero, List.set_cons_succ]
            refine wpK.take (i := 10) (v := _) (by simp only [List.getElem?_toArray, List.getElem?_cons_succ, List.getElem?_cons_zero]; rfl) (by kernel_rfl) (by kernel_rfl) (by kernel_rfl) (by kernel_rfl) (by kernel_rfl) (by exact fun _ _ _ h => h) (by first | exact Or.inl ⟨by rfl, by intro w hSw; go_simp; try with_reducible rfl⟩ | exact Or.inr ⟨by rfl, rfl⟩) hH ?_
            try simp only [Act.put, List.setIfInBounds_toArray, List.set_cons_zero, List.set_cons_succ]
            refine wpK.take (i := 11) (v := _) (by simp only [List.getElem?_toArray, List.getElem?_cons_succ, List.getElem?_cons_zero]; rfl) (by kernel_rfl) (by kernel_rfl) (by kernel_rfl) (by kernel_rfl) (by kernel_rfl) (by exact fun _ _ _ h => h) (by first | exact Or.inl ⟨by rfl, by intro w hSw; go_simp; try with_reducible rfl⟩ | exact Or.inr ⟨by rfl, rfl⟩) hH ?_
            try simp only [Act.put, List.setIfInBounds_toArray, List.set_cons_zero, List.set_cons_succ]
            refine wpK.take (i := 12) (v := _) (by simp only [List.getElem?_toArray, List.getElem?_cons_succ, List.getElem?_cons_zero]; rfl) (by kernel_rfl) (by kernel_rfl) (by kernel_rfl) (by kernel_rfl) (by kernel_rfl) (by exact fun _ _ _ h => h) (by first | exact Or.inl ⟨by rfl, by intro w hSw; go_simp; try with_reducible rfl⟩ | exact Or.inr ⟨by rfl, rfl⟩) hH ?_
            try simp only [Act.put, List.setIfInBounds_toArray, List.set_cons_zero, List.set_cons_succ]
            refine wpK.take (i := 13) (v := _) (by simp only [List.getElem?_toArray, List.getElem?_cons_succ, List.getElem?_cons_zero]; rfl) (by kernel_rfl) (by kernel_rfl) (by kernel_rfl) (by kernel_rfl) (by kernel_rfl) (by exact fun _ _ _ h => h) (by first | exact Or.inl ⟨by rfl, by intro w hSw; go_simp; try with_reducible rfl⟩ | exact Or.inr ⟨by rfl, rfl⟩) hH ?_
            try simp only [Act.put, List.setIfInBounds_toArray, List.set_cons_zero, List.set_cons_succ]
            refine wpK.take (i := 14) (v := _) (by simp only [List.getElem?_toArray, List.getElem?_cons_succ, List.getElem?_cons_zero]; rfl) (by kernel_rfl) (by kernel_rfl) (by kernel_rfl) (by kernel_rfl) (by kernel_rfl) (by exact fun _ _ _ h => h) (by first | exact Or.inl ⟨by rfl, by intro w hSw; go_simp; try with_reducible rfl⟩ | exact Or.inr ⟨by rfl, rfl⟩) hH ?_
            try simp only [Act.put, List.setIfInBounds_toArray, List.set_cons_zero, List.set_cons_succ]
            refine wpK.take (i := 15) (v := _) (by simp only [List.getElem?_toArray, List.getElem?_cons_succ, List.getElem?_cons_zero]; rfl) (by kernel_rfl) (by kernel_rfl) (by kernel_rfl) (by kernel_rfl) (by kernel_rfl) (by exact fun _ _ _ h => h) (by first | exact Or.inl ⟨by rfl, by intro w hSw; go_simp; try with_reducible rfl⟩ | exact Or.inr ⟨by rfl, rfl⟩) hH ?_
            try simp only [Act.put, List.setIfInBounds_toArray, List.set_cons_zero, List.set_cons_succ]
            refine wpK.take (i := 16) (v := _) (by simp only [List.getElem?_toArray, List.getElem?_cons_succ, List.getElem?_cons_zero]; rfl) (by kernel_rfl) (by kernel_rfl) (by kernel_rfl) (by kernel_rfl) (by kernel_rfl) (by exact fun _ _ _ h => h) (by first | exact Or.inl ⟨by rfl, by intro w hSw; go_simp; try with_reducible rfl⟩ | exact Or.inr ⟨by rfl, rfl⟩) hH ?_
            try simp only [Act.put, List.setIfInBounds_toArray, List.set_cons_zero, List.set_cons_succ]
            refine wpK.take (i := 17) (v := _) (by simp only [List.getElem?_toArray, List.getElem?_cons_succ, List.getElem?_cons_zero]; rfl) (by kernel_rfl) (by kernel_rfl) (by kernel_rfl) (by kernel_rfl) (by kernel_rfl) (by exact fun _ _ _ h => h) (by first | exact Or.inl ⟨by rfl, by intro w hSw; go_simp; try with_reducible rfl⟩ | exact Or.inr ⟨by rfl, rfl⟩) hH ?_
            try simp only [Act.put, List.setIfInBounds_toArray, List.set_cons_zero, List.set_cons_succ]
            refine wpK.take (i := 18) (v := _) (by simp only [List.getElem?_toArray, List.getElem?_cons_succ, List.getElem?_cons_zero]; rfl) (by kernel_rfl) (by kernel_rfl) (by kernel_rfl) (by kernel_rfl) (by kernel_rfl) (by exact fun _ _ _ h => h) (by first | exact Or.inl ⟨by rfl, by intro w hSw; go_simp; try with_reducible rfl⟩ | exact Or.inr ⟨by rfl, rfl⟩) hH ?_
            try simp only [Act.put, List.setIfInBounds_toArray, List.set_cons_zero, List.set_cons_succ]
            refine wpK.take (i := 19) (v := _) (by simp only [List.getElem?_toArray, List.getElem?_cons_succ, List.getElem?_cons_zero]; rfl) (by kernel_rfl) (by kernel_rfl) (by kernel_rfl) (by kernel_rfl) (by kernel_rfl) (by exact fun _ _ _ h => h) (by first | exact Or.inl ⟨by rfl, by intro w hSw; go_simp; try with_reducible rfl⟩ | exact Or.inr ⟨by rfl, rfl⟩) hH ?_
            try simp only [Act.put, List.setIfInBounds_toArray, List.set_cons_zero, List.set_cons_succ]
            refine wpK.take (i := 20) (v := _) (by simp only [List.getElem?_toArray, List.getElem?_cons_succ, List.getElem?_cons_zero]; rfl) (by kernel_rfl) (by kernel_rfl) (by kernel_rfl) (by kernel_rfl) (by kernel_rfl) (by exact fun _ _ _ h => h) (by first | exact Or.inl ⟨by rfl, by intro w hSw; go_simp; try with_reducible rfl⟩ | exact Or.inr ⟨by rfl, rfl⟩) hH ?_
            try simp only [Act.put, List.setIfInBounds_toArray, List.set_cons_zero, List.set_cons_succ]
            refine wpK.take (i := 21) (v := _) (by simp only [List.getElem?_toArray, List.getElem?_cons_succ, List.getElem?_cons_zero]; rfl) (by kernel_rfl) (by kernel_rfl) (by kernel_rfl) (by kernel_rfl) (by kernel_rfl) (by exact fun _ _ _ h => h) (by first | exact Or.inl ⟨by rfl, by intro w hSw; go_simp; try with_reducible rfl⟩ | exact Or.inr ⟨by rfl, rfl⟩) hH ?_
            try simp only [Act.put, List.setIfInBounds_toArray, List.set_cons_zero, List.set_cons_succ]
            refine wpK.take (i := 22) (v := _) (by simp only [List.getElem?_toArray, List.getElem?_cons_succ, List.getElem?_cons_zero]; rfl) (by kernel_rfl) (by kernel_rfl) (by kernel_rfl) (by kernel_rfl) (by kernel_rfl) (by exact fun _ _ _ h => h) (by first | exact Or.inl ⟨by rfl, by intro w hSw; go_simp; try with_reducible rfl⟩ | exact Or.inr ⟨by rfl, rfl⟩) hH ?_
            try simp only [Act.put, List.setIfInBounds_toArray, List.set_cons_zero, List.set_cons_succ]
            refine wpK.take (i := 23) (v := _) (by simp only [List.getElem?_toArray, List.getElem?_cons_succ, List.getElem?_cons_zero]; rfl) (by kernel_rfl) (by kernel_rfl) (by kernel_rfl) (by kernel_rfl) (by kernel_rfl) (by exact fun _ _ _ h => h) (by first | exact Or.inl ⟨by rfl, by intro w hSw; go_simp; try with_reducible rfl⟩ | exact Or.inr ⟨by rfl, rfl⟩) hH ?_
            try simp only [Act.put, List.setIfInBounds_toArray, List.set_cons_zero, List.set_cons_succ]
            refine wpK.take (i := 24) (v := _) (by simp only [List.getElem?_toArray, List.getElem?_cons_succ, List.getElem?_cons_zero]; rfl) (by kernel_rfl) (by kernel_rfl) (by kernel_rfl) (by kernel_rfl) (by kernel_rfl) (by exact fun _ _ _ h => h) (by first | exact Or.inl ⟨by rfl, by intro w hSw; go_simp; try with_reducible rfl⟩ | exact Or.inr ⟨by rfl, rfl⟩) hH ?_
            try simp only [Act.put, List.setIfInBounds_toArray, List.set_cons_zero, List.set_cons_succ]
            refine wpK.take (i := 25) (v := _) (by simp only [List.getElem?_toArray, List.getElem?_cons_succ, List.getElem?_cons_zero]; rfl) (by kernel_rfl) (by kernel_rfl) (by kernel_rfl) (by kernel_rfl) (by kernel_rfl) (by exact fun _ _ _ h => h) (by first | exact Or.inl ⟨by rfl, by intro w hSw; go_simp; try with_reducible rfl⟩ | exact Or.inr ⟨by rfl, rfl⟩) hH ?_
            try simp only [Act.put, List.setIfInBounds_toArray, List.set_cons_zero, List.set_cons_succ]
            refine wpK.take (i := 26) (v := _) (by simp only [List.getElem?_toArray, List.getElem?_cons_succ, List.getElem?_cons_zero]; rfl) (by kernel_rfl) (by kernel_rfl) (by kernel_rfl) (by kernel_rfl) (by kernel_rfl) (by exact fun _ _ _ h => h) (by first | exact Or.inl ⟨by rfl, by intro w hSw; go_simp; try with_reducible rfl⟩ | exact Or.inr ⟨by rfl, rfl⟩) hH ?_
            try simp only [Act.put, List.setIfInBounds_toArray, List.set_cons_zero, List.set_cons_succ]
            refine wpK.done (by kernel_rfl) ?_ _
            have HBE := hid (Below.next HID.out.below hyd)
            clear e0 e1 e2 e3 hyd
            by_cases hpos : 0 < G2
            · have hgq : gq = true := by rw [HGQ.out]; exact decide_eq_true hpos
              subst hgq
              have hd1 : decide (0 < G2) = true := decide_eq_true hpos
              go_wp2_with fail
              refine (HAW.out _ HBE.out).mono ?_
              rintro e wZ ⟨rfl, hbZ⟩
              have HZ := hid hbZ
              clear hbZ
              go_wp2_with fail
              go_ret
              exact ⟨rfl, HZ.out⟩
            · have hgq : gq = false := by rw [HGQ.out]; exact decide_eq_false hpos
              subst hgq
              have hd1 : decide (0 < G2) = false := decide_eq_false hpos
              go_wp2_with fail
              refine (HAW.out _ HBE.out).mono ?_
              rintro e wZ ⟨rfl, hbZ⟩
              have HZ := hid hbZ
              clear hbZ
              go_wp2_with fail
              go_ret
              exact ⟨rfl, HZ.out⟩
set_option maxRecDepth 100000 in
theorem open_rectLw {H : Type} {enc : TypeId × Value → H} {w : World} {b0 : Nat} {d0 : DataW H} {p0 : List MemPlace} {v0 : Value} (ok0 : Value.okWide Tryz.prog w .any b0 25 v0) (k0 : DataW.Trod enc Tryz.prog w 0 (fun _ => true) true 25 v0 d0 p0) :
    ∃ r : R4, v0 = rV r ∧ r.1 ≤ 9223372036854775807 ∧ r.2.1 ≤ 9223372036854775807 := by
  obtain ⟨cs, rfl, hsz⟩ := okWide_struct Tryz.underlying25 ok0
  obtain ⟨fuel, h⟩ := k0
  obtain ⟨l⟩ := cs
  have h' : DataW.trod enc Tryz.prog w 0 (fun _ => true) true fuel 25 l = some (d0, p0) := h
  obtain ⟨ys, n', -, -, hlen0, hyl, hf⟩ := DataW.trod_struct Tryz.underlying25 h'
  have h4 : Tryz.prog.cellsOf 25 = 4 := by kernel_rfl
  have hlen : l.length = 4 := by rw [← h4]; exact hlen0
  obtain ⟨c0, c1, c2, c3, rfl⟩ := listOf4 hlen
  obtain ⟨z0, z1, z2, z3, rfl⟩ := listOf4 (show ys.length = 4 from hyl)
  have g0 : DataW.trod enc Tryz.prog w 0 (fun _ => true) true n' 3 [c0] = some z0 := hf 0 _ rfl
  have g1 : DataW.trod enc Tryz.prog w 0 (fun _ => true) true n' 3 [c1] = some z1 := hf 1 _ rfl
  have g2 : DataW.trod enc Tryz.prog w 0 (fun _ => true) true n' 3 [c2] = some z2 := hf 2 _ rfl
  have g3 : DataW.trod enc Tryz.prog w 0 (fun _ => true) true n' 3 [c3] = some z3 := hf 3 _ rfl
  obtain ⟨i0, e0, -, w0⟩ := DataW.trod_int Tryz.underlying3 g0
  obtain ⟨i1, e1, -, w1⟩ := DataW.trod_int Tryz.underlying3 g1
  obtain ⟨i2, e2, -, w2⟩ := DataW.trod_int Tryz.underlying3 g2
  obtain ⟨i3, e3, -, w3⟩ := DataW.trod_int Tryz.underlying3 g3
  simp only [List.cons.injEq, and_true] at e0 e1 e2 e3
  subst e0 e1 e2 e3
  exact ⟨(i0, i1, i2, i3), rfl, (wf64 w0).2, (wf64 w1).2⟩
set_option maxRecDepth 100000 in
theorem LandFinds_walk {H : Type} {enc : TypeId × Value → H} {b0 b1 b2 : Nat} {d0 d1 d2 : DataW H} {p0 p1 p2 : List MemPlace} (v0 v1 v2 : Value) (w : World) (ok0 : Value.okWide Tryz.prog w .any b0 22 v0) (k0 : DataW.Trod enc Tryz.prog w 0 (fun _ => true) true 22 v0 d0 p0)
    (ok1 : Value.okWide Tryz.prog w .any b1 23 v1) (k1 : DataW.Trod enc Tryz.prog w 0 (fun _ => true) true 23 v1 d1 p1) (ok2 : Value.okWide Tryz.prog w .any b2 25 v2) (k2 : DataW.Trod enc Tryz.prog w 0 (fun _ => true) true 25 v2 d2 p2) :
    Calls Tryz.prog 3 #[v0, v1, v2] w fun e w' => e = .returned (.bool true) ∧ Below w.heap.size w w' := by
  obtain ⟨B, hB⟩ := open_rcs ok0 k0
  obtain ⟨L, hl⟩ := open_opsL ok1 k1
  obtain ⟨⟨r1, r2, r3, r4⟩, rfl, hx, hy⟩ := open_rectLw ok2 k2
  obtain ⟨a, c, rfl, -⟩ := id hB
  obtain ⟨a2, c2, rfl, -⟩ := id hl
  exact law19_Finds a a2 _ c c2 B L r1 r2 r3 r4 hx hy w hB hl
end Go.Proofs.YtjbnfppnmljbmaaGreat
end
