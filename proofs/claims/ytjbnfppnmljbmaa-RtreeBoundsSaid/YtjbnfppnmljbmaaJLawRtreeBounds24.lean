/- Joined texts, in this order: Ref14, Ref14S, Law14. Each one's first remark says what it proves; no condition beyond those that its theorems name. -/
import Derived.Test.YtjbnfppnmljbmaaJLawRtreeBounds21
import Derived.Test.YtjbnfppnmljbmaaJLawRtreeBounds23
section
/- Contracts of the document's Meets and At of a list of things. -/
namespace Go.Proofs.Ytjbnfppnmljbmaa
open Go.RowKit
open Go.Lib (hid)
set_option linter.unusedVariables false
attribute [local go_sem] Oper.semAt_some

theorem flR_take {p : R4 → Bool} {L : List Tg} {j : Nat} {x : Tg} (h : L.take (j + 1) = L.take j ++ [x]) : flR p (L.take (j + 1)) = flR p (L.take j) ++ (if p x.1 = true then [x] else []) := by
  rw [h]; unfold flR; rw [List.filter_append]
  congr 1
  by_cases q : p x.1 = true
  · simp [q]
  · simp [q]
def OwnGPost (w : World) (L' : List Tg) (e : Ending) (w' : World) : Prop := ∃ v, e = .returned v ∧ w'.ownsRow w.heap.size 58 5 v L'.length (svG L') ∧ Below w.heap.size w w'
def FltR (w : World) (L : List Tg) (p : R4 → Bool) (vo vi : Value) (wr : World) : Prop := ∃ j : Nat, vi = .int .i64 (j : Int) ∧ j ≤ L.length ∧ Hid (wr.ownsRow w.heap.size 58 5 vo (flR p (L.take j)).length (svG (flR p (L.take j)))) ∧ Hid (Below w.heap.size w wr)
set_option maxRecDepth 100000 in
set_option maxHeartbeats 4000000 in
theorem ref14_At {v : Value} {L : List Tg} (w : World) (h : SlG w v L) (hl : L.length ≤ 1000) (px py : Int) (hx : px ≤ 9223372036854775807) (hy : py ≤ 9223372036854775807) :
    Calls Try.prog 34 #[v, .int .i64 px, .int .i64 py] w (OwnGPost w (flR (tHolds px py) L)) := by
  have H := hid h
  obtain ⟨a, c, rfl, -⟩ := h
  obtain ⟨p, hp⟩ : ∃ p, (tHolds px py) = p := ⟨_, rfl⟩
  rw [hp]
  have HPP := hid hp
  clear hp
  go_enter Try.func34, Try.ntmps34
  have HB0 := hid (Below.refl w.heap.size w)
  go_wp2_with fail
  go_loopw [7, 8] (fun vo vi wr => FltR w L p vo vi wr) (fun _ vi _ => L.length - (intOf vi).toNat)
  case atStart => exact ⟨0, rfl, by omega, hid (by simpa [svG, flR] using World.ownsRow_nil _ _ _ _), HB0⟩
  case round =>
    rename Value => vo
    obtain ⟨j, rfl, hj, hown, hb⟩ := hrel
    by_cases hlt : j < L.length
    · have j1 : (j : Int) < (L.length : Int) := by omega
      have j0 : (0 : Int) ≤ (j : Int) := by omega
      have j3 : (j : Int).toNat = j := by omega
      have hsl := H.out.below hb.out
      obtain ⟨a', c', e', hrd, -⟩ := hsl
      simp only [Value.slice.injEq, true_and] at e'
      obtain ⟨rfl, rfl⟩ := e'
      obtain ⟨b0, off, x, rfl, d0, d1, d2, d3, d4, hatj, -, htk⟩ := hrd.five j hlt
      have hfl : (flR p (L.take j)).length ≤ 1000 := Nat.le_trans (List.length_filter_le _ _) (by rw [List.length_take]; omega)
      have HDT := hid (flR_take (p := p) htk)
      obtain ⟨⟨x1, x2, x3, x4⟩, x5⟩ := x
      simp only at d0 d1 d2 d3 d4
      clear hrd htk hatj
      have e0 := fun (y : World) (hy : Below wr.heap.size wr y) => cellOf_belowR hy d0
      have e1 := fun (y : World) (hy : Below wr.heap.size wr y) => cellOf_belowR hy d1
      have e2 := fun (y : World) (hy : Below wr.heap.size wr y) => cellOf_belowR hy d2
      have e3 := fun (y : World) (hy : Below wr.heap.size wr y) => cellOf_belowR hy d3
      have e4 := fun (y : World) (hy : Below wr.heap.size wr y) => cellOf_belowR hy d4
      go_wp2_with fail
      refine (ref02_Holds4 x1 x2 x3 x4 px py hx hy wr).mono ?_
      rintro e w3 ⟨rfl, hk2⟩
      clear d0 d1 d2 d3 d4
      obtain ⟨q, hq⟩ : ∃ q, p (x1, x2, x3, x4) = q := ⟨_, rfl⟩
      rw [HPP.out, hq]
      have HW := HDT.out
      simp only [hq] at HW
      have HW2 := hid HW
      have hbw := Below.next hb.out hk2
      have HBW := hid hbw
      have hown2 := hid (owns_below hown.out hk2)
      have hsz := hbw.size
      have d0 := e0 _ hk2
      have d1 := e1 _ hk2
      have d2 := e2 _ hk2
      have d3 := e3 _ hk2
      have d4 := e4 _ hk2
      clear hq HW hbw hk2 e0 e1 e2 e3 e4
      cases q with
      | false =>
        have HW3 : Hid (flR p (L.take (j + 1)) = flR p (L.take j)) := hid (by rw [HW2.out]; simp)
        clear d0 d1 d2 d3 d4
        go_wp2_with fail
        go_roundw
        case rel => exact ⟨j + 1, by go_num, by omega, by rw [HW3.out]; exact hown2, HBW⟩
        case measure => simp [intOf]; omega
      | true =>
        have HW3 : Hid (flR p (L.take (j + 1)) = flR p (L.take j) ++ [((x1, x2, x3, x4), x5)]) := hid (by rw [HW2.out]; simp)
        go_wp2_with (at_builtin; refine wpList_append1w T_g14 _ rfl _ _ #[.int .i64 x1, .int .i64 x2, .int .i64 x3, .int .i64 x4, .int .i64 x5] rfl w.heap.size _ _ _ rfl hown2.out rfl rfl ?c1 ?c2 ?c3 ?_)
        case c1 => exact ⟨rfl, rfl, rfl, rfl, rfl⟩
        case c2 => omega
        try (case c3 => omega)
        intro v' w4 hown' hgrow hne hwh
        have HO : Hid (w4.ownsRow w.heap.size 58 5 v' (flR p (L.take (j + 1))).length (svG (flR p (L.take (j + 1))))) := hid (by
          rw [HW3.out, svG_append, List.length_append]; exact hown')
        have HB : Hid (Below w.heap.size w w4) := hid (HBW.out.grown hgrow hsz (fun k hk => (hown2.out.lt k hk).1))
        clear hown' hgrow hwh hne d0 d1 d2 d3 d4
        go_wp2
        go_roundw
        case rel => exact ⟨j + 1, by go_num, by omega, HO, HB⟩
        case measure => simp [intOf]; omega
    · have e1 : L.take j = L := List.take_of_length_le (by omega)
      rw [e1] at hown
      have j1 : ¬ (j : Int) < (L.length : Int) := by omega
      go_wp2_with fail
      go_ret
      exact ⟨_, rfl, hown.out, hb.out⟩
set_option maxRecDepth 100000 in
set_option maxHeartbeats 4000000 in
theorem ref14_Meets {v : Value} {L : List Tg} (w : World) (h : SlG w v L) (hl : L.length ≤ 1000) (ox oy oa ob : Int) :
    Calls Try.prog 23 #[v, .agg #[.int .i64 ox, .int .i64 oy, .int .i64 oa, .int .i64 ob]] w (OwnGPost w (flR (tMeets (ox, oy, oa, ob)) L)) := by
  have H := hid h
  obtain ⟨a, c, rfl, -⟩ := h
  obtain ⟨p, hp⟩ : ∃ p, (tMeets (ox, oy, oa, ob)) = p := ⟨_, rfl⟩
  rw [hp]
  have HPP := hid hp
  clear hp
  go_enter Try.func23, Try.ntmps23
  go_upto_region 1 with fail
  obtain ⟨w2, hw2⟩ : ∃ w2, w2 = w.alloc (.cells #[.int .i64 ox, .int .i64 oy, .int .i64 oa, .int .i64 ob] 53) := ⟨_, rfl⟩
  obtain ⟨bs, hbs⟩ : ∃ b, b = w.heap.size := ⟨_, rfl⟩
  rw [← hw2]
  rw [← hbs]
  have hb2 : Below w.heap.size w w2 := by rw [hw2]; exact Below.new _ _
  have HK : Hid (Blk w2 bs #[.int .i64 ox, .int .i64 oy, .int .i64 oa, .int .i64 ob]) := hid (by rw [hw2, hbs]; exact Blk.new w _ _)
  have HB2 := hid hb2
  have H2 := hid (H.out.below hb2)
  have HB0 := hid (Below.refl w2.heap.size w2)
  clear hw2 hbs hb2
  go_wp2_with fail
  go_loopw [5, 6] (fun vo vi wr => FltR w2 L p vo vi wr) (fun _ vi _ => L.length - (intOf vi).toNat)
  case atStart => exact ⟨0, rfl, by omega, hid (by simpa [svG, flR] using World.ownsRow_nil _ _ _ _), HB0⟩
  case round =>
    rename Value => vo
    obtain ⟨j, rfl, hj, hown, hb⟩ := hrel
    by_cases hlt : j < L.length
    · have j1 : (j : Int) < (L.length : Int) := by omega
      have j0 : (0 : Int) ≤ (j : Int) := by omega
      have j3 : (j : Int).toNat = j := by omega
      have hsl := H2.out.below hb.out
      obtain ⟨a', c', e', hrd, -⟩ := hsl
      simp only [Value.slice.injEq, true_and] at e'
      obtain ⟨rfl, rfl⟩ := e'
      obtain ⟨b0, off, x, rfl, d0, d1, d2, d3, d4, hatj, -, htk⟩ := hrd.five j hlt
      have hfl : (flR p (L.take j)).length ≤ 1000 := Nat.le_trans (List.length_filter_le _ _) (by rw [List.length_take]; omega)
      have HDT := hid (flR_take (p := p) htk)
      obtain ⟨⟨x1, x2, x3, x4⟩, x5⟩ := x
      simp only at d0 d1 d2 d3 d4
      clear hrd htk hatj
      have e0 := fun (y : World) (hy : Below wr.heap.size wr y) => cellOf_belowR hy d0
      have e1 := fun (y : World) (hy : Below wr.heap.size wr y) => cellOf_belowR hy d1
      have e2 := fun (y : World) (hy : Below wr.heap.size wr y) => cellOf_belowR hy d2
      have e3 := fun (y : World) (hy : Below wr.heap.size wr y) => cellOf_belowR hy d3
      have e4 := fun (y : World) (hy : Below wr.heap.size wr y) => cellOf_belowR hy d4
      have k0 := fun (y : World) (hy : Below wr.heap.size wr y) => cellOf_belowR hy (show wr.cell? ⟨bs, 0, none⟩ = some (.int .i64 ox) by rw [(HK.out.below hb.out).cell]; rfl)
      have k1 := fun (y : World) (hy : Below wr.heap.size wr y) => cellOf_belowR hy (show wr.cell? ⟨bs, 1, none⟩ = some (.int .i64 oy) by rw [(HK.out.below hb.out).cell]; rfl)
      have k2 := fun (y : World) (hy : Below wr.heap.size wr y) => cellOf_belowR hy (show wr.cell? ⟨bs, 2, none⟩ = some (.int .i64 oa) by rw [(HK.out.below hb.out).cell]; rfl)
      have k3 := fun (y : World) (hy : Below wr.heap.size wr y) => cellOf_belowR hy (show wr.cell? ⟨bs, 3, none⟩ = some (.int .i64 ob) by rw [(HK.out.below hb.out).cell]; rfl)
      have hyd := (Below.refl wr.heap.size wr).drew
      clear d0 d1 d2 d3 d4
      go_upto_region 5 with fail
      refine wp_region_kept [] (fun z => Below wr.heap.size wr z) (by kernel_rfl) (by assumption) (fun hH => ?_)
      refine wpK.take (i := 0) (v := _) (by simp only [List.getElem?_toArray, List.getElem?_cons_succ, List.getElem?_cons_zero]; rfl) (by kernel_rfl) (by kernel_rfl) (by kernel_rfl) (by kernel_rfl) (by kernel_rfl) (by exact fun _ _ _ h => h) (by first | exact Or.inl ⟨by rfl, by intro w hSw; go_simp; try with_reducible rfl⟩ | exact Or.inr ⟨by rfl, rfl⟩) hH ?_
      try simp only [Act.put, List.setIfInBounds_toArray, List.set_cons_zero, List.set_cons_succ]
      refine wpK.take (i := 1) (v := _) (by simp only [List.getElem?_toArray, List.getElem?_cons_succ, List.getElem?_cons_zero]; rfl) (by kernel_rfl) (by kernel_rfl) (by kernel_rfl) (by kernel_rfl) (by kernel_rfl) (by exact fun _ _ _ h => h) (by first | exact Or.inl ⟨by rfl, by intro w hSw; go_simp; try with_reducible rfl⟩ | exact Or.inr ⟨by rfl, rfl⟩) hH ?_
      try simp only [Act.put, List.setIfInBounds_toArray, List.set_cons_zero, List.set_cons_succ]
      refine wpK.take (i := 2) (v := _) (by simp only [List.getElem?_toArray, List.getElem?_cons_succ, List.getElem?_cons_zero]; rfl) (by kernel_rfl) (by kernel_rfl) (by kernel_rfl) (by kernel_rfl) (by kernel_rfl) (by exact fun _ _ _ h => h) (by first | exact Or.inl ⟨by rfl, by intro w hSw; go_simp; try with_reducible rfl⟩ | exact Or.inr ⟨by rfl, rfl⟩) hH ?_
      try simp only [Act.put, List.setIfInBounds_toArray, List.set_cons_zero, List.set_cons_succ]
      refine wpK.take (i := 3) (v := _) (by simp only [List.getElem?_toArray, List.getElem?_cons_succ, List.getElem?_cons_zero]; rfl) (by kernel_rfl) (by kernel_rfl) (by kernel_rfl) (by kernel_rfl) (by kernel_rfl) (by exact fun _ _ _ h => h) (by first | exact Or.inl ⟨by rfl, by intro w hSw; go_simp; try with_reducible rfl⟩ | exact Or.inr ⟨by rfl, rfl⟩) hH ?_
      try simp only [Act.put, List.setIfInBounds_toArray, List.set_cons_zero, List.set_cons_succ]
      refine wpK.take (i := 4) (v := _) (by simp only [List.getElem?_toArray, List.getElem?_cons_succ, List.getElem?_cons_zero]; rfl) (by kernel_rfl) (by kernel_rfl) (by kernel_rfl) (by kernel_rfl) (by kernel_rfl) (by exact fun _ _ _ h => h) (by first | exact Or.inl ⟨by rfl, by intro w hSw; go_simp; try with_reducible rfl⟩ | exact Or.inr ⟨by rfl, rfl⟩) hH ?_
      try simp only [Act.put, List.setIfInBounds_toArray, List.set_cons_zero, List.set_cons_succ]
      refine wpK.take (i := 5) (v := _) (by simp only [List.getElem?_toArray, List.getElem?_cons_succ, List.getElem?_cons_zero]; rfl) (by kernel_rfl) (by kernel_rfl) (by kernel_rfl) (by kernel_rfl) (by kernel_rfl) (by exact fun _ _ _ h => h) (by first | exact Or.inl ⟨by rfl, by intro w hSw; go_simp; try with_reducible rfl⟩ | exact Or.inr ⟨by rfl, rfl⟩) hH ?_
      try simp only [Act.put, List.setIfInBounds_toArray, List.set_cons_zero, List.set_cons_succ]
      refine wpK.step (i := 6) (by kernel_rfl) (by simp only [List.getElem?_toArray, List.getElem?_cons_succ, List.getElem?_cons_zero]; rfl) (fun K hK => ?_)
      go_simp
      (refine (ref02_Meets4 x1 x2 x3 x4 ox oy oa ob _).mono ?_); rintro e w3 ⟨rfl, hb2⟩; (have hk2 := Below.next hyd hb2); go_simp
      refine hK.out _ _ (by assumption) (fun hH => ?_)
      clear hK K
      try simp only [Act.put, List.setIfInBounds_toArray, List.set_cons_zero, List.set_cons_succ]
      refine wpK.done (by kernel_rfl) ?_ _
      clear k0 k1 k2 k3 hyd hb2 hH
      obtain ⟨q, hq⟩ : ∃ q, p (x1, x2, x3, x4) = q := ⟨_, rfl⟩
      rw [HPP.out, hq]
      have HW := HDT.out
      simp only [hq] at HW
      have HW2 := hid HW
      have hbw := Below.next hb.out hk2
      have HBW := hid hbw
      have hown2 := hid (owns_below hown.out hk2)
      have hsz := hbw.size
      have d0 := e0 _ hk2
      have d1 := e1 _ hk2
      have d2 := e2 _ hk2
      have d3 := e3 _ hk2
      have d4 := e4 _ hk2
      clear hq HW hbw hk2 e0 e1 e2 e3 e4
      cases q with
      | false =>
        have HW3 : Hid (flR p (L.take (j + 1)) = flR p (L.take j)) := hid (by rw [HW2.out]; simp)
        clear d0 d1 d2 d3 d4
        go_wp2_with fail
        go_roundw
        case rel => exact ⟨j + 1, by go_num, by omega, by rw [HW3.out]; exact hown2, HBW⟩
        case measure => simp [intOf]; omega
      | true =>
        have HW3 : Hid (flR p (L.take (j + 1)) = flR p (L.take j) ++ [((x1, x2, x3, x4), x5)]) := hid (by rw [HW2.out]; simp)
        go_wp2_with (at_builtin; refine wpList_append1w T_g14 _ rfl _ _ #[.int .i64 x1, .int .i64 x2, .int .i64 x3, .int .i64 x4, .int .i64 x5] rfl w2.heap.size _ _ _ rfl hown2.out rfl rfl ?c1 ?c2 ?c3 ?_)
        case c1 => exact ⟨rfl, rfl, rfl, rfl, rfl⟩
        case c2 => omega
        try (case c3 => omega)
        intro v' w4 hown' hgrow hne hwh
        have HO : Hid (w4.ownsRow w2.heap.size 58 5 v' (flR p (L.take (j + 1))).length (svG (flR p (L.take (j + 1))))) := hid (by
          rw [HW3.out, svG_append, List.length_append]; exact hown')
        have HB : Hid (Below w2.heap.size w2 w4) := hid (HBW.out.grown hgrow hsz (fun k hk => (hown2.out.lt k hk).1))
        clear hown' hgrow hwh hne d0 d1 d2 d3 d4
        go_wp2
        go_roundw
        case rel => exact ⟨j + 1, by go_num, by omega, HO, HB⟩
        case measure => simp [intOf]; omega
    · have e1 : L.take j = L := List.take_of_length_le (by omega)
      rw [e1] at hown
      have j1 : ¬ (j : Int) < (L.length : Int) := by omega
      go_wp2_with fail
      go_ret
      exact ⟨_, rfl, ownsRow_base hown.out HB2.out.size, Below.next HB2.out hb.out⟩
end Go.Proofs.Ytjbnfppnmljbmaa
end
section
/- Contract of the document's Same: two lists of the same things, without doubles. -/
namespace Go.Proofs.Ytjbnfppnmljbmaa
open Go.RowKit
open Go.Lib (hid)
set_option linter.unusedVariables false
attribute [local go_sem] Oper.semAt_some

theorem SlG.take {w : World} {a : Option Addr} {c : Nat} {L : List Tg} (h : SlG w (.slice a L.length c) L) {i : Nat} (hi : i ≤ L.length) : SlG w (.slice a i c) (L.take i) := by
  obtain ⟨a', c', e, hrd, h1, h2, h3⟩ := h
  simp only [Value.slice.injEq, true_and] at e
  obtain ⟨rfl, rfl⟩ := e
  have hl : (L.take i).length = i := by rw [List.length_take]; omega
  refine ⟨a, c, by rw [hl], fun k hk => ?_, by omega, h2, h3⟩
  rw [svG_length, hl] at hk
  obtain ⟨b, off, e, hc⟩ := hrd k (by rw [svG_length]; omega)
  refine ⟨b, off, e, ?_⟩
  rw [hc]
  have : svG L = svG (L.take i) ++ svG (L.drop i) := by rw [← svG_append, List.take_append_drop]
  rw [this, List.getElem?_append_left (by rw [svG_length, hl]; exact hk)]
set_option maxRecDepth 100000 in
set_option maxHeartbeats 4000000 in
theorem ref14_Same {v u : Value} {A B : List Tg} (w : World) (hA : SlG w v A) (hB : SlG w u B) (hl : A.length ≤ 1000) (hp : A.Perm B) (hn : A.Nodup) :
    Calls Try.prog 19 #[v, u] w fun e w' => e = .returned (.bool true) ∧ Below w.heap.size w w' := by
  have HA := hid hA
  have HB := hid hB
  obtain ⟨a, c, rfl, -, ha1, -⟩ := hA
  obtain ⟨a2, c2, rfl, -, -⟩ := hB
  obtain ⟨n, hnn⟩ : ∃ n, A.length = n := ⟨_, rfl⟩
  have hn2 : B.length = n := by rw [← hnn]; exact hp.length_eq.symm
  rw [hnn] at HA hl ha1
  rw [hn2] at HB
  rw [hnn, hn2]
  have HN := hid (And.intro hnn hn2)
  have HP := hid (And.intro hp hn)
  clear hnn hn2 hp hn
  go_enter Try.func19, Try.ntmps19
  go_wp2_with fail
  go_loopw [5] (fun v5 wr => ∃ i : Nat, v5 = .int .i64 (i : Int) ∧ i ≤ n ∧ Hid (Below w.heap.size w wr)) (fun v5 _ => n - (intOf v5).toNat)
  case atStart => exact ⟨0, rfl, by omega, hid (Below.refl _ _)⟩
  case round =>
    obtain ⟨i, rfl, hi, hb⟩ := hrel
    by_cases hlt : i < n
    · have j1 : (i : Int) < (n : Int) := by omega
      have j0 : (0 : Int) ≤ (i : Int) := by omega
      have j2 : (i : Int) ≤ (c : Int) := by omega
      have j3 : (i : Int).toNat = i := by omega
      have j4 : (i : Int) + 1 ≤ (n : Int) := by omega
      have j5 : ¬ c = i := by omega
      have j6 : i < c := by omega
      have j7 : (i : Int) < (c : Int) := by omega
      have hsA := HA.out.below hb.out
      obtain ⟨a', c', e', hrd, -⟩ := hsA
      simp only [Value.slice.injEq, HN.out.1, true_and] at e'
      obtain ⟨rfl, rfl⟩ := e'
      obtain ⟨b0, off, x, rfl, d0, d1, d2, d3, d4, hatj, -, htk⟩ := hrd.five i (by rw [HN.out.1]; exact hlt)
      have hxB : x ∈ B := HP.out.1.mem_iff.1 (List.mem_of_getElem? hatj)
      have hxA : x ∉ A.take i := by
        intro q
        have h1 : (A.take (i + 1)).Nodup := HP.out.2.sublist (List.take_sublist _ _)
        rw [htk, List.nodup_append] at h1
        exact h1.2.2 x q x (by simp) rfl
      have hf1 : ∀ y, Below wr.heap.size wr y → Calls Try.prog 27 #[.slice a2 n c2, .agg #[.int .i64 x.1.1, .int .i64 x.1.2.1, .int .i64 x.1.2.2.1, .int .i64 x.1.2.2.2, .int .i64 x.2]] y fun e w' => ∃ r : Int, e = .returned (.int .i64 r) ∧ 0 ≤ r ∧ Below y.heap.size y w' := fun y hy => (ref14_Find y ((HB.out.below hb.out).below hy) (by rw [HN.out.2]; exact hl) _ _ _ _ _).mono (by
        rintro e w' ⟨r, he, hr, hb2⟩
        rcases hr with ⟨k, hk, -⟩ | ⟨-, hk⟩
        · exact ⟨r, he, by omega, hb2⟩
        · exact absurd hxB hk)
      have hf2 : ∀ y, Below wr.heap.size wr y → Calls Try.prog 27 #[.slice (some ⟨b0, off, none⟩) i c, .agg #[.int .i64 x.1.1, .int .i64 x.1.2.1, .int .i64 x.1.2.2.1, .int .i64 x.1.2.2.2, .int .i64 x.2]] y fun e w' => e = .returned (.int .i64 (-1)) ∧ Below y.heap.size y w' := fun y hy => (ref14_Find y (SlG.take (by rw [HN.out.1]; exact (HA.out.below hb.out).below hy) (by rw [HN.out.1]; omega)) (by rw [List.length_take]; omega) _ _ _ _ _).mono (by
        rintro e w' ⟨r, he, hr, hb2⟩
        rcases hr with ⟨k, -, hk1, hk⟩ | ⟨hk, -⟩
        · exact absurd (List.mem_of_getElem? hk) hxA
        · rw [hk] at he; exact ⟨he, hb2⟩)
      obtain ⟨⟨x1, x2, x3, x4⟩, x5⟩ := x
      simp only at d0 d1 d2 d3 d4 hf1 hf2
      have HF1 := hid hf1
      have HF2 := hid hf2
      clear hf1 hf2 hrd htk hatj hxA hxB
      replace d0 := fun (y : World) (hy : Below wr.heap.size wr y) => cellOf_belowR hy d0
      replace d1 := fun (y : World) (hy : Below wr.heap.size wr y) => cellOf_belowR hy d1
      replace d2 := fun (y : World) (hy : Below wr.heap.size wr y) => cellOf_belowR hy d2
      replace d3 := fun (y : World) (hy : Below wr.heap.size wr y) => cellOf_belowR hy d3
      replace d4 := fun (y : World) (hy : Below wr.heap.size wr y) => cellOf_belowR hy d4
      have hyd := (Below.refl wr.heap.size wr).drew
      go_upto_region 6 with fail
      refine wp_region_kept [] (fun z => Below wr.heap.size wr z) (by kernel_rfl) (by assumption) (fun hH => ?_)
      refine wpK.take (i := 0) (v := _) (by simp only [List.getElem?_toArray, List.getElem?_cons_succ, List.getElem?_cons_zero]; rfl) (by kernel_rfl) (by kernel_rfl) (by kernel_rfl) (by kernel_rfl) (by kernel_rfl) (by exact fun _ _ _ h => h) (by first | exact Or.inl ⟨by rfl, by intro w hSw; go_simp; try with_reducible rfl⟩ | exact Or.inr ⟨by rfl, rfl⟩) hH ?_
      try simp only [Act.put, List.setIfInBounds_toArray, List.set_cons_zero, List.set_cons_succ]
      refine wpK.take (i := 1) (v := _) (by simp only [List.getElem?_toArray, List.getElem?_cons_succ, List.getElem?_cons_zero]; rfl) (by kernel_rfl) (by kernel_rfl) (by kernel_rfl) (by kernel_rfl) (by kernel_rfl) (by exact fun _ _ _ h => h) (by first | exact Or.inl ⟨by rfl, by intro w hSw; go_simp; try with_reducible rfl⟩ | exact Or.inr ⟨by rfl, rfl⟩) hH ?_
      try simp only [Act.put, List.setIfInBounds_toArray, List.set_cons_zero, List.set_cons_succ]
      refine wpK.take (i := 2) (v := _) (by simp only [List.getElem?_toArray, List.getElem?_cons_succ, List.getElem?_cons_zero]; rfl) (by kernel_rfl) (by kernel_rfl) (by kernel_rfl) (by kernel_rfl) (by kernel_rfl) (by exact fun _ _ _ h => h) (by first | exact Or.inl ⟨by rfl, by intro w hSw; go_simp; try with_reducible rfl⟩ | exact Or.inr ⟨by rfl, rfl⟩) hH ?_
      try simp only [Act.put, List.setIfInBounds_toArray, List.set_cons_zero, List.set_cons_succ]
      refine wpK.take (i := 3) (v := _) (by simp only [List.getElem?_toArray, List.getElem?_cons_succ, List.getElem?_cons_zero]; rfl) (by kernel_rfl) (by kernel_rfl) (by kernel_rfl) (by kernel_rfl) (by kernel_rfl) (by exact fun _ _ _ h => h) (by first | exact Or.inl ⟨by rfl, by intro w hSw; go_simp; try with_reducible rfl⟩ | exact Or.inr ⟨by rfl, rfl⟩) hH ?_
      try simp only [Act.put, List.setIfInBounds_toArray, List.set_cons_zero, List.set_cons_succ]
      refine wpK.take (i := 4) (v := _) (by simp only [List.getElem?_toArray, List.getElem?_cons_succ, List.getElem?_cons_zero]; rfl) (by kernel_rfl) (by kernel_rfl) (by kernel_rfl) (by kernel_rfl) (by kernel_rfl) (by exact fun _ _ _ h => h) (by first | exact Or.inl ⟨by rfl, by intro w hSw; go_simp; try with_reducible rfl⟩ | exact Or.inr ⟨by rfl, rfl⟩) hH ?_
      try simp only [Act.put, List.setIfInBounds_toArray, List.set_cons_zero, List.set_cons_succ]
      refine wpK.step (i := 5) (by kernel_rfl) (by simp only [List.getElem?_toArray, List.getElem?_cons_succ, List.getElem?_cons_zero]; rfl) (fun K hK => ?_)
      go_simp
      (refine (HF1.out _ hyd).mono ?_); rintro e w3 ⟨r, rfl, hr, hb3⟩; (have hk3 := Below.next hyd hb3); (have hr2 : ¬ r < 0 := by omega); (have hr3 : decide (r < 0) = false := by simp; omega); go_simp
      refine hK.out _ _ (by assumption) (fun hH => ?_)
      clear hK K
      try simp only [Act.put, List.setIfInBounds_toArray, List.set_cons_zero, List.set_cons_succ]
      refine wpK.take (i := 6) (v := _) (by simp only [List.getElem?_toArray, List.getElem?_cons_succ, List.getElem?_cons_zero]; rfl) (by kernel_rfl) (by kernel_rfl) (by kernel_rfl) (by kernel_rfl) (by kernel_rfl) (by exact fun _ _ _ h => h) (by first | exact Or.inl ⟨by rfl, by intro w hSw; go_simp; try with_reducible rfl⟩ | exact Or.inr ⟨by rfl, rfl⟩) hH ?_
      try simp only [Act.put, List.setIfInBounds_toArray, List.set_cons_zero, List.set_cons_succ]
      refine wpK.take (i := 7) (v := _) (by simp only [List.getElem?_toArray, List.getElem?_cons_succ, List.getElem?_cons_zero]; rfl) (by kernel_rfl) (by kernel_rfl) (by kernel_rfl) (by kernel_rfl) (by kernel_rfl) (by exact fun _ _ _ h => h) (by first | exact Or.inl ⟨by rfl, by intro w hSw; go_simp; try with_reducible rfl⟩ | exact Or.inr ⟨by rfl, rfl⟩) hH ?_
      try simp only [Act.put, List.setIfInBounds_toArray, List.set_cons_zero, List.set_cons_succ]
      refine wpK.take (i := 8) (v := _) (by simp only [List.getElem?_toArray, List.getElem?_cons_succ, List.getElem?_cons_zero]; rfl) (by kernel_rfl) (by kernel_rfl) (by kernel_rfl) (by kernel_rfl) (by kernel_rfl) (by exact fun _ _ _ h => h) (by first | exact Or.inl ⟨by rfl, by intro w hSw; go_simp; try with_reducible rfl⟩ | exact Or.inr ⟨by rfl, rfl⟩) hH ?_
      try simp only [Act.put, List.setIfInBounds_toArray, List.set_cons_zero, List.set_cons_succ]
      refine wpK.take (i := 9) (v := _) (by simp only [List.getElem?_toArray, List.getElem?_cons_succ, List.getElem?_cons_zero]; rfl) (by kernel_rfl) (by kernel_rfl) (by kernel_rfl) (by kernel_rfl) (by kernel_rfl) (by exact fun _ _ _ h => h) (by first | exact Or.inl ⟨by rfl, by intro w hSw; go_simp; try with_reducible rfl⟩ | exact Or.inr ⟨by rfl, rfl⟩) hH ?_
      try simp only [Act.put, List.setIfInBounds_toArray, List.set_cons_zero, List.set_cons_succ]
      refine wpK.take (i := 10) (v := _) (by simp only [List.getElem?_toArray, List.getElem?_cons_succ, List.getElem?_cons_zero]; rfl) (by kernel_rfl) (by kernel_rfl) (by kernel_rfl) (by kernel_rfl) (by kernel_rfl) (by exact fun _ _ _ h => h) (by first | exact Or.inl ⟨by rfl, by intro w hSw; go_simp; try with_reducible rfl⟩ | exact Or.inr ⟨by rfl, rfl⟩) hH ?_
      try simp only [Act.put, List.setIfInBounds_toArray, List.set_cons_zero, List.set_cons_succ]
      refine wpK.take (i := 11) (v := _) (by simp only [List.getElem?_toArray, List.getElem?_cons_succ, List.getElem?_cons_zero]; rfl) (by kernel_rfl) (by kernel_rfl) (by kernel_rfl) (by kernel_rfl) (by kernel_rfl) (by exact fun _ _ _ h => h) (by first | exact Or.inl ⟨by rfl, by intro w hSw; go_simp; try with_reducible rfl⟩ | exact Or.inr ⟨by rfl, rfl⟩) hH ?_
      try simp only [Act.put, List.setIfInBounds_toArray, List.set_cons_zero, List.set_cons_succ]
      refine wpK.take (i := 12) (v := _) (by simp only [List.getElem?_toArray, List.getElem?_cons_succ, List.getElem?_cons_zero]; rfl) (by kernel_rfl) (by kernel_rfl) (by kernel_rfl) (by kernel_rfl) (by kernel_rfl) (by exact fun _ _ _ h => h) (by first | exact Or.inl ⟨by rfl, by intro w hSw; go_simp; try with_reducible rfl⟩ | exact Or.inr ⟨by rfl, rfl⟩) hH ?_
      try simp only [Act.put, List.setIfInBounds_toArray, List.set_cons_zero, List.set_cons_succ]
      refine wpK.take (i := 13) (v := _) (by simp only [List.getElem?_toArray, List.getElem?_cons_succ, List.getElem?_cons_zero]; rfl) (by kernel_rfl) (by kernel_rfl) (by kernel_rfl) (by kernel_rfl) (by kernel_rfl) (by exact fun _ _ _ h => h) (by first | exact Or.inl ⟨by rfl, by intro w hSw; go_simp; try with_reducible rfl⟩ | exact Or.inr ⟨by rfl, rfl⟩) hH ?_
      try simp only [Act.put, List.setIfInBounds_toArray, List.set_cons_zero, List.set_cons_succ]
      refine wpK.take (i := 14) (v := _) (by simp only [List.getElem?_toArray, List.getElem?_cons_succ, List.getElem?_cons_zero]; rfl) (by kernel_rfl) (by kernel_rfl) (by kernel_rfl) (by kernel_rfl) (by kernel_rfl) (by exact fun _ _ _ h => h) (by first | exact Or.inl ⟨by rfl, by intro w hSw; go_simp; try with_reducible rfl⟩ | exact Or.inr ⟨by rfl, rfl⟩) hH ?_
      try simp only [Act.put, List.setIfInBounds_toArray, List.set_cons_zero, List.set_cons_succ]
      refine wpK.step (i := 15) (by kernel_rfl) (by simp only [List.getElem?_toArray, List.getElem?_cons_succ, List.getElem?_cons_zero]; rfl) (fun K hK => ?_)
      go_simp
      (refine (HF2.out _ hk3).mono ?_); rintro e w4 ⟨rfl, hb4⟩; (have hk4 := Below.next hk3 hb4); go_simp
      refine hK.out _ _ (by assumption) (fun hH => ?_)
      clear hK K
      try simp only [Act.put, List.setIfInBounds_toArray, List.set_cons_zero, List.set_cons_succ]
      refine wpK.take (i := 16) (v := _) (by simp only [List.getElem?_toArray, List.getElem?_cons_succ, List.getElem?_cons_zero]; rfl) (by kernel_rfl) (by kernel_rfl) (by kernel_rfl) (by kernel_rfl) (by kernel_rfl) (by exact fun _ _ _ h => h) (by first | exact Or.inl ⟨by rfl, by intro w hSw; go_simp; try with_reducible rfl⟩ | exact Or.inr ⟨by rfl, rfl⟩) hH ?_
      try simp only [Act.put, List.setIfInBounds_toArray, List.set_cons_zero, List.set_cons_succ]
      refine wpK.take (i := 17) (v := _) (by simp only [List.getElem?_toArray, List.getElem?_cons_succ, List.getElem?_cons_zero]; rfl) (by kernel_rfl) (by kernel_rfl) (by kernel_rfl) (by kernel_rfl) (by kernel_rfl) (by exact fun _ _ _ h => h) (by first | exact Or.inl ⟨by rfl, by intro w hSw; go_simp; try with_reducible rfl⟩ | exact Or.inr ⟨by rfl, rfl⟩) hH ?_
      try simp only [Act.put, List.setIfInBounds_toArray, List.set_cons_zero, List.set_cons_succ]
      refine wpK.done (by kernel_rfl) ?_ _
      have HB4 := hid (Below.next hb.out hk4)
      clear d0 d1 d2 d3 d4 hyd hH hk3 hk4 hb3 hb4
      go_wp2_with fail
      go_roundw
      case rel => exact ⟨i + 1, by go_num, by omega, HB4⟩
      case measure => simp [intOf]; omega
    · have j1 : ¬ (i : Int) < (n : Int) := by omega
      go_wp2_with fail
      go_ret
      exact ⟨rfl, hb.out⟩
end Go.Proofs.Ytjbnfppnmljbmaa
end
section
/- Contracts of the law's ref and back. -/
namespace Go.Proofs.Ytjbnfppnmljbmaa
open Go.RowKit
open Go.Lib (hid)
set_option linter.unusedVariables false
attribute [local go_sem] Oper.semAt_some

set_option maxRecDepth 100000 in
theorem law14_ref (x y a b : Int) (w : World) : Calls Try.prog 24 #[.agg #[.int .i64 x, .int .i64 y, .int .i64 a, .int .i64 b]] w fun e w' => e = .returned (.agg #[.int .i64 x, .int .i64 y, .int .i64 a, .int .i64 b]) ∧ Below w.heap.size w w' := by
  go_enter Try.func24, Try.ntmps24
  go_upto_region 1 with fail
  generalize hW : World.alloc (World.alloc w _) _ = w1
  obtain ⟨g, hg⟩ : ∃ g, g = w.heap.size := ⟨_, rfl⟩
  obtain ⟨gr, hgr⟩ : ∃ go, go = w.heap.size + 1 := ⟨_, rfl⟩
  have hz : (World.alloc w (.cells #[.int .i64 x, .int .i64 y, .int .i64 a, .int .i64 b] 33)).heap.size = w.heap.size + 1 := by simp
  try rw [hz]
  try rw [← hgr]
  try rw [← hg]
  have hb : Below w.heap.size w w1 := by rw [← hW]; exact Below.next (Below.new _ _) (Below.new _ _)
  have HX : Hid (Blk w1 g #[.int .i64 x, .int .i64 y, .int .i64 a, .int .i64 b]) := hid (by rw [← hW, hg]; exact (Blk.new w _ _).below (Below.new _ _))
  have HR : Hid (Blk w1 gr #[.int .i64 0, .int .i64 0, .int .i64 0, .int .i64 0]) := hid (by rw [← hW, hgr, ← hz]; exact Blk.new _ _ _)
  have HB := hid hb
  have HG := hid hgr
  clear hW hg hgr hz hb
  obtain ⟨c0, c1, c2, c3⟩ := HX.out.c4r
  obtain ⟨y0, y1, y2, y3⟩ := HR.out.c4r
  obtain ⟨f0, f1, f2, f3⟩ := HR.out.f4r
  obtain ⟨w3, hw3, hk3, hu3⟩ := set4r HR.out (.int .i64 x) (.int .i64 y) (.int .i64 a) (.int .i64 b)
  have HW3 := hid hw3
  have HK3 := hid hk3
  have HB3 := hid (HB.out.trans (hu3.below HB.out.size (fun k _ q => by rw [q]; have := HG.out; omega)))
  clear hw3 hk3 hu3
  go_wp2_with fail
  try rw [← HW3.out]
  obtain ⟨z0, z1, z2, z3⟩ := HK3.out.c4r
  refine bodyPost_ret (results_cell1 rfl _ _ _ rfl (by go_simp; rfl)) rfl ?_
  exact ⟨rfl, HB3.out⟩
set_option maxRecDepth 100000 in
theorem law14_back (x y a b : Int) (w : World) : Calls Try.prog 29 #[.agg #[.int .i64 x, .int .i64 y, .int .i64 a, .int .i64 b]] w fun e w' => e = .returned (.agg #[.int .i64 x, .int .i64 y, .int .i64 a, .int .i64 b]) ∧ Below w.heap.size w w' := by
  go_enter Try.func29, Try.ntmps29
  go_upto_region 1 with fail
  generalize hW : World.alloc (World.alloc w _) _ = w1
  obtain ⟨g, hg⟩ : ∃ g, g = w.heap.size := ⟨_, rfl⟩
  obtain ⟨gr, hgr⟩ : ∃ go, go = w.heap.size + 1 := ⟨_, rfl⟩
  have hz : (World.alloc w (.cells #[.int .i64 x, .int .i64 y, .int .i64 a, .int .i64 b] 53)).heap.size = w.heap.size + 1 := by simp
  try rw [hz]
  try rw [← hgr]
  try rw [← hg]
  have hb : Below w.heap.size w w1 := by rw [← hW]; exact Below.next (Below.new _ _) (Below.new _ _)
  have HX : Hid (Blk w1 g #[.int .i64 x, .int .i64 y, .int .i64 a, .int .i64 b]) := hid (by rw [← hW, hg]; exact (Blk.new w _ _).below (Below.new _ _))
  have HR : Hid (Blk w1 gr #[.int .i64 0, .int .i64 0, .int .i64 0, .int .i64 0]) := hid (by rw [← hW, hgr, ← hz]; exact Blk.new _ _ _)
  have HB := hid hb
  have HG := hid hgr
  clear hW hg hgr hz hb
  obtain ⟨c0, c1, c2, c3⟩ := HX.out.c4r
  obtain ⟨y0, y1, y2, y3⟩ := HR.out.c4r
  obtain ⟨f0, f1, f2, f3⟩ := HR.out.f4r
  obtain ⟨w3, hw3, hk3, hu3⟩ := set4r HR.out (.int .i64 x) (.int .i64 y) (.int .i64 a) (.int .i64 b)
  have HW3 := hid hw3
  have HK3 := hid hk3
  have HB3 := hid (HB.out.trans (hu3.below HB.out.size (fun k _ q => by rw [q]; have := HG.out; omega)))
  clear hw3 hk3 hu3
  go_wp2_with fail
  try rw [← HW3.out]
  obtain ⟨z0, z1, z2, z3⟩ := HK3.out.c4r
  refine bodyPost_ret (results_cell1 rfl _ _ _ rfl (by go_simp; rfl)) rfl ?_
  exact ⟨rfl, HB3.out⟩
end Go.Proofs.Ytjbnfppnmljbmaa
end
