/- Joined texts, in this order: Ref21e. Each one's first remark says what it proves; no condition beyond those that its theorems name. -/
import Derived.Test.YtdoflhiogoefjaaDoorJLawThingCopies18
section
/- Contract of the document's things: Make. -/
namespace Go.Proofs.YtdoflhiogoefjaaDoor
open Go.RowKit
open Go.Lib (hid)
set_option linter.unusedVariables false

theorem ref17_NameS (nm : List UInt8) (hnm : nm.length ≤ 1000000) (b : Bool) (hb : Hid (nameB nm = b)) (w : World) : Calls Tryd.prog 42 #[.string ⟨nm.toArray⟩] w fun e w' => e = .returned (.bool b) ∧ w = w' := by
  have h := ref17_Name ⟨nm.toArray⟩ w (by show nm.toArray.size ≤ _; simp; omega)
  have e : nameB ((⟨nm.toArray⟩ : ByteArray).data.toList) = b := hb.out
  rw [e] at h
  exact h
set_option maxRecDepth 100000 in
set_option maxHeartbeats 8000000 in
theorem ref21_Make {a : Option Addr} {c : Nat} {L : List Th} (nx : Int) (w : World) (h : RefT w a c L) (hlow : ∀ k, aB a k → k < w.heap.size) (hl9 : L.length < 1000) (hnx : 0 ≤ nx ∧ nx ≤ 4611686018427387904) (nm : List UInt8) (hnm : nm.length ≤ 1000000) (o : Int) :
    Calls Tryd.prog 30 #[.agg #[.slice a L.length c, .int .i64 nx], .string ⟨nm.toArray⟩, .int .i64 o] w (R21Post w a (makeX ⟨L, nx⟩ nm o) [.int .i64 (makeI ⟨L, nx⟩ nm o), .int .i64 (makeE L nm o)]) := by
  have H := hid h
  have hl := h.lt
  have HLOW := hid hlow
  clear h hlow
  by_cases hbad : makeE L nm o = 0
  · have hn : nameB nm = true := by
      cases q : nameB nm with
      | true => rfl
      | false => unfold makeE at hbad; rw [if_pos q] at hbad; cases hbad
    have ho : ¬ o < 1 := fun q => by unfold makeE at hbad; rw [if_neg (by rw [hn]; simp), if_pos q] at hbad; cases hbad
    have e2 : makeX ⟨L, nx⟩ nm o = ⟨L ++ [⟨nx, nm, o, (1, o, 0)⟩], nx + 1⟩ := by unfold makeX; rw [if_pos (by show makeE L nm o = 0; exact hbad)]
    have e3 : makeI ⟨L, nx⟩ nm o = nx := by unfold makeI; rw [if_pos (by show makeE L nm o = 0; exact hbad)]
    rw [e2, e3, hbad]
    have HN := hid hn
    have hob : decide (o < 1) = false := by simpa using ho
    have h4 : ¬ (4096 : Int) ≤ (L.length : Int) := by omega
    clear hbad hn ho e2 e3
    go_enter Tryd.func30, Tryd.ntmps30
    go_upto_region 1 with fail
    generalize hw2 : World.alloc (World.alloc w _) _ = w2
    obtain ⟨bs, hbs⟩ : ∃ b, b = w.heap.size := ⟨_, rfl⟩
    obtain ⟨b4, hb4⟩ : ∃ b, b = w.heap.size + 1 := ⟨_, rfl⟩
    have hz1 : (World.alloc w (.cells #[.slice a L.length c, .int .i64 nx] 34)).heap.size = w.heap.size + 1 := by simp
    try rw [hz1]
    try rw [← hb4]
    try rw [← hbs]
    have hb2 : Below w.heap.size w w2 := by rw [← hw2]; exact Below.next (Below.new _ _) (Below.new _ _)
    have HK : Hid (Blk w2 bs #[.slice a L.length c, .int .i64 nx]) := hid (by rw [← hw2, hbs]; exact (Blk.new w _ _).below (Below.new _ _))
    have HK4 : Hid (Blk w2 b4 #[.slice none 0 0, .int .i64 0]) := hid (by rw [← hw2, hb4, ← hz1]; exact Blk.new _ _ _)
    have H2 := hid (H.out.below hb2)
    have HB2 := hid hb2
    have HB4 : Hid (w.heap.size ≤ b4 ∧ b4 < w2.heap.size ∧ b4 ≠ bs) := hid (by have := HK4.out.lt; omega)
    clear hw2 hbs hb4 hz1 hb2
    have c0 : w2.cell? ⟨bs, 0, none⟩ = some (.slice a L.length c) := by rw [HK.out.cell]; rfl
    have c1 : w2.cell? ⟨bs, 1, none⟩ = some (.int .i64 nx) := by rw [HK.out.cell]; rfl
    go_wp2_with fail
    refine (ref17_NameS nm hnm true HN w2).mono ?_
    rintro e w3 ⟨rfl, rfl⟩
    have HBN : Hid (b4 < w2.heap.size) := hid HK4.out.lt
    go_wp2_with fail
    clear c0 c1
    go_loopw [9, 10] (fun vo vi wr => ∃ (j : Nat) (vo' : Value), vo' = vo ∧ vi = .int .i64 (j : Int) ∧ j ≤ L.length ∧ Hid (wr.ownsRow w2.heap.size 45 6 vo j (svT (L.take j))) ∧ Hid (Below w2.heap.size w2 wr)) (fun _ vi _ => L.length - (intOf vi).toNat)
    case atStart => exact ⟨0, _, rfl, rfl, by omega, hid (by simpa [svT] using World.ownsRow_nil _ _ _ _), hid (Below.refl _ _)⟩
    case round =>
      obtain ⟨j, vo, hvo, rfl, hj, hown, hb⟩ := hrel
      subst hvo
      have HKR := hid (HK.out.below hb.out)
      have HK4R := hid (HK4.out.below hb.out)
      have c0 : wr.cell? ⟨bs, 0, none⟩ = some (.slice a L.length c) := by rw [HKR.out.cell]; rfl
      have c1 : wr.cell? ⟨bs, 1, none⟩ = some (.int .i64 nx) := by rw [HKR.out.cell]; rfl
      by_cases hlt : j < L.length
      · have j1 : (j : Int) < (L.length : Int) := by omega
        have j0 : (0 : Int) ≤ (j : Int) := by omega
        obtain ⟨a', c', e', hrd, -⟩ := H2.out.t.below hb.out
        simp only [Value.slice.injEq, true_and] at e'
        obtain ⟨rfl, rfl⟩ := e'
        obtain ⟨b0, off, x, rfl, d0, d1, d2, d3, d4, d5, hatj, -, htk⟩ := hrd.six j hlt
        have hsz := hb.out.size
        have HW := hid htk
        obtain ⟨xi, xn, xo, xk, xh, xs⟩ := x
        simp only at d0 d1 d2 d3 d4 d5
        clear hrd htk hatj
        go_wp2_with (at_builtin; refine wpList_append1w T_th21 _ rfl _ _ #[.int .i64 xi, .string ⟨xn.toArray⟩, .int .i64 xo, .int .i64 xk, .int .i64 xh, .int .i64 xs] rfl w2.heap.size _ _ _ rfl hown.out rfl rfl ?c1 ?c2 ?c3 ?_)
        case c1 => exact ⟨rfl, rfl, rfl, rfl, rfl, rfl⟩
        case c2 => omega
        try (case c3 => omega)
        intro v' w4 hown' hgrow hne hwh
        have HO : Hid (w4.ownsRow w2.heap.size 45 6 v' (j + 1) (svT (L.take (j + 1)))) := hid (by
          rw [HW.out, svT_append]; exact hown')
        have HB : Hid (Below w2.heap.size w2 w4) := hid (hb.out.grown hgrow hsz (fun k hk => (hown.out.lt k hk).1))
        clear hown' hgrow hwh hne c0 c1 d0 d1 d2 d3 d4 d5
        go_wp2
        go_roundw
        case rel => exact ⟨j + 1, _, rfl, by go_num, by omega, HO, HB⟩
        case measure => simp [intOf]; omega
      · have e1 : L.take j = L := List.take_of_length_le (by omega)
        rw [e1] at hown
        have hjl : j = L.length := by omega
        have hown2 := hown.out
        rw [hjl] at hown2
        have HOWN := hid hown2
        have HX9 : Hid (([⟨nx, nm, o, (1, o, 0)⟩] : List Th) = [(⟨nx, nm, o, (1, o, 0)⟩ : Th)]) := hid rfl
        have j1 : ¬ (j : Int) < (L.length : Int) := by omega
        have hsz := hb.out.size
        clear hown2 hjl
        go_upto_region 13 with (at_builtin; refine wpList_append1w T_th21 _ rfl _ _ #[.int .i64 nx, .string ⟨nm.toArray⟩, .int .i64 o, .int .i64 1, .int .i64 o, .int .i64 0] rfl w2.heap.size _ _ _ rfl HOWN.out rfl rfl ?e1 ?e2 ?e3 ?_)
        case e1 => exact ⟨rfl, rfl, rfl, rfl, rfl, rfl⟩
        case e2 => omega
        try (case e3 => omega)
        intro v' w4 hown' hgrow hne hwh
        obtain ⟨L9, hL9⟩ : ∃ L9 : List Th, L9 = L ++ [⟨nx, nm, o, (1, o, 0)⟩] := ⟨_, rfl⟩
        have HO : Hid (w4.ownsRow w2.heap.size 45 6 v' L9.length (svT L9)) := hid (by
          rw [hL9, svT_append, List.length_append]; exact hown')
        have HB : Hid (Below w2.heap.size w2 w4) := hid (hb.out.grown hgrow hsz (fun k hk => (HOWN.out.lt k hk).1))
        have hl9' : L9.length ≤ 1000 := by rw [hL9, List.length_append]; simp; omega
        have HL9 := hid hL9
        clear hL9 hown' hgrow hwh hne c0 c1
        have HKR4 := hid (HK.out.below HB.out)
        have HK4R4 := hid (HK4.out.below HB.out)
        obtain ⟨av, cv, rfl, -⟩ := ownsRow.rd HO.out
        obtain ⟨wz, hwz, z0, z1, hpo⟩ := R21.fin (w := w) (a := a) (a' := av) (c' := cv) (L' := L9) (nx + 1) (HK4R4.out.below (Below.refl _ _).drew) HB4.out.1 ⟨(SlTh.of_own HO.out).below (Below.refl _ _).drew, hl9'⟩ (Below.next HB2.out (HB.out.trans ((Below.refl _ _).drew.mono HB.out.size))) (fun k hk => by have h1 := HO.out.lt k (own_aB hk); exact ⟨h1.2, .inr (by have := HB2.out.size; omega)⟩) (fun k hk q => by have h1 := HO.out.lt k (own_aB hk); have := HBN.out; omega)
        have HW := hid hwz
        have HPO := hid hpo
        have hwr : IntKind.i64.wrap (nx + 1) = nx + 1 := by rw [IntKind.wrap_i64]; omega
        have q1 : ∀ y, Upd (fun k => k = b4) w4 y → y.cell? ⟨bs, 1, none⟩ = some (.int .i64 nx) := fun y hy => by rw [(HKR4.out.upd hy (fun q => HB4.out.2.2 q.symm)).cell]; rfl
        have y0 : w4.cell? ⟨b4, 0, none⟩ = some (.slice none 0 0) := by rw [HK4R4.out.cell]; rfl
        have y1 : w4.cell? ⟨b4, 1, none⟩ = some (.int .i64 0) := by rw [HK4R4.out.cell]; rfl
        have f0 : w4.frozen? ⟨b4, 0, none⟩ = false := HK4R4.out.unfrozen 0
        have f1 : w4.frozen? ⟨b4, 1, none⟩ = false := HK4R4.out.unfrozen 1
        have hyd : Upd (fun k => k = b4) w4 w4.drew := Upd.of_below (Below.refl w4.heap.size w4).drew
        have hyz : Upd (fun k => k = b4) w4 ((w4.setCell ⟨b4, 0, none⟩ (.slice av L9.length cv)).setCell ⟨b4, 1, none⟩ (.int .i64 (nx + 1))).drew := ((Upd.setCell w4 b4 0 _).trans (Upd.setCell _ b4 1 _) (fun _ _ q => q)).drew
        clear hwz hpo
        go_upto_region 13 with fail
        refine wp_region_kept [9] (fun y => Upd (fun k => k = b4) w4 y) (by kernel_rfl) (by assumption) (fun hH => ?_)
        refine wpK.take (i := 0) (v := _) (by simp only [List.getElem?_toArray, List.getElem?_cons_succ, List.getElem?_cons_zero]; rfl) (by kernel_rfl) (by kernel_rfl) (by kernel_rfl) (by kernel_rfl) (by kernel_rfl) (by exact fun _ _ _ h => h) (by first | exact Or.inl ⟨by rfl, by intro w hSw; go_simp; try with_reducible rfl⟩ | exact Or.inr ⟨by rfl, rfl⟩) hH ?_
        try simp only [Act.put, List.setIfInBounds_toArray, List.set_cons_zero, List.set_cons_succ]
        refine wpK.take (i := 1) (v := _) (by simp only [List.getElem?_toArray, List.getElem?_cons_succ, List.getElem?_cons_zero]; rfl) (by kernel_rfl) (by kernel_rfl) (by kernel_rfl) (by kernel_rfl) (by kernel_rfl) (by exact fun _ _ _ h => h) (by first | exact Or.inl ⟨by rfl, by intro w hSw; go_simp; try with_reducible rfl⟩ | exact Or.inr ⟨by rfl, rfl⟩) hH ?_
        try simp only [Act.put, List.setIfInBounds_toArray, List.set_cons_zero, List.set_cons_succ]
        refine wpK.take (i := 2) (v := _) (by simp only [List.getElem?_toArray, List.getElem?_cons_succ, List.getElem?_cons_zero]; rfl) (by kernel_rfl) (by kernel_rfl) (by kernel_rfl) (by kernel_rfl) (by kernel_rfl) (by exact fun _ _ _ h => h) (by first | exact Or.inl ⟨by rfl, by intro w hSw; go_simp; try with_reducible rfl⟩ | exact Or.inr ⟨by rfl, rfl⟩) hH ?_
        try simp only [Act.put, List.setIfInBounds_toArray, List.set_cons_zero, List.set_cons_succ]
        refine wpK.take (i := 3) (v := _) (by simp only [List.getElem?_toArray, List.getElem?_cons_succ, List.getElem?_cons_zero]; rfl) (by kernel_rfl) (by kernel_rfl) (by kernel_rfl) (by kernel_rfl) (by kernel_rfl) (by exact fun _ _ _ h => h) (by first | exact Or.inl ⟨by rfl, by intro w hSw; go_simp; try with_reducible rfl⟩ | exact Or.inr ⟨by rfl, rfl⟩) hH ?_
        try simp only [Act.put, List.setIfInBounds_toArray, List.set_cons_zero, List.set_cons_succ]
        refine wpK.take (i := 4) (v := _) (by simp only [List.getElem?_toArray, List.getElem?_cons_succ, List.getElem?_cons_zero]; rfl) (by kernel_rfl) (by kernel_rfl) (by kernel_rfl) (by kernel_rfl) (by kernel_rfl) (by exact fun _ _ _ h => h) (by first | exact Or.inl ⟨by rfl, by intro w hSw; go_simp; try with_reducible rfl⟩ | exact Or.inr ⟨by rfl, rfl⟩) hH ?_
        try simp only [Act.put, List.setIfInBounds_toArray, List.set_cons_zero, List.set_cons_succ]
        refine wpK.take (i := 5) (v := _) (by simp only [List.getElem?_toArray, List.getElem?_cons_succ, List.getElem?_cons_zero]; rfl) (by kernel_rfl) (by kernel_rfl) (by kernel_rfl) (by kernel_rfl) (by kernel_rfl) (by exact fun _ _ _ h => h) (by first | exact Or.inl ⟨by rfl, by intro w hSw; go_simp; try with_reducible rfl⟩ | exact Or.inr ⟨by rfl, rfl⟩) hH ?_
        try simp only [Act.put, List.setIfInBounds_toArray, List.set_cons_zero, List.set_cons_succ]
        refine wpK.take (i := 6) (v := _) (by simp only [List.getElem?_toArray, List.getElem?_cons_succ, List.getElem?_cons_zero]; rfl) (by kernel_rfl) (by kernel_rfl) (by kernel_rfl) (by kernel_rfl) (by kernel_rfl) (by exact fun _ _ _ h => h) (by first | exact Or.inl ⟨by rfl, by intro w hSw; go_simp; try with_reducible rfl⟩ | exact Or.inr ⟨by rfl, rfl⟩) hH ?_
        try simp only [Act.put, List.setIfInBounds_toArray, List.set_cons_zero, List.set_cons_succ]
        refine wpK.step (i := 7) (by kernel_rfl) (by simp only [List.getElem?_toArray, List.getElem?_cons_succ, List.getElem?_cons_zero]; rfl) (fun K hK => ?_)
        go_simp
        refine hK.out _ _ (by assumption) (fun hH => ?_)
        clear hK K
        try simp only [Act.put, List.setIfInBounds_toArray, List.set_cons_zero, List.set_cons_succ]
        refine wpK.take (i := 8) (v := _) (by simp only [List.getElem?_toArray, List.getElem?_cons_succ, List.getElem?_cons_zero]; rfl) (by kernel_rfl) (by kernel_rfl) (by kernel_rfl) (by kernel_rfl) (by kernel_rfl) (by exact fun _ _ _ h => h) (by first | exact Or.inl ⟨by rfl, by intro w hSw; go_simp; try with_reducible rfl⟩ | exact Or.inr ⟨by rfl, rfl⟩) hH ?_
        try simp only [Act.put, List.setIfInBounds_toArray, List.set_cons_zero, List.set_cons_succ]
        refine wpK.late (i := 9) (by kernel_rfl) (by simp only [List.getElem?_toArray, List.getElem?_cons_succ, List.getElem?_cons_zero]; rfl) (by kernel_rfl) (fun K hK => ?_)
        go_simp
        refine hK.out _ _ ?_
        clear hK K
        try simp only [Act.put, List.setIfInBounds_toArray, List.set_cons_zero, List.set_cons_succ]
        refine wpK.done (by kernel_rfl) ?_ _
        have HW2 : Hid (((w4.setCell ⟨b4, 0, none⟩ (.slice av L9.length cv)).setCell ⟨b4, 1, none⟩ (.int .i64 (nx + 1))).drew = wz) := hid HW.out.symm
        go_wp2_with fail
        rw [HW2.out]
        refine bodyPost_ret (res_cell_tmp2 rfl _ _ _ rfl (by go_simp; rfl)) rfl ?_
        have hq := HPO.out [.int .i64 nx, .int .i64 0]
        rw [HL9.out] at hq
        rw [HL9.out]
        exact hq
  · have e2 : makeX ⟨L, nx⟩ nm o = ⟨L, nx⟩ := by unfold makeX; rw [if_neg (by show ¬ makeE L nm o = 0; exact hbad)]
    have e3 : makeI ⟨L, nx⟩ nm o = 0 := by unfold makeI; rw [if_neg (by show ¬ makeE L nm o = 0; exact hbad)]
    rw [e2, e3]
    clear e2 e3
    cases hn : nameB nm with
    | false =>
      have e : makeE L nm o = 16 := by unfold makeE; rw [if_pos hn]
      rw [e]
      have HN := hid hn
      clear hn e hbad
      go_enter Tryd.func30, Tryd.ntmps30
      go_upto_region 1 with fail
      generalize hw2 : World.alloc (World.alloc w _) _ = w2
      obtain ⟨bs, hbs⟩ : ∃ b, b = w.heap.size := ⟨_, rfl⟩
      obtain ⟨b4, hb4⟩ : ∃ b, b = w.heap.size + 1 := ⟨_, rfl⟩
      have hz1 : (World.alloc w (.cells #[.slice a L.length c, .int .i64 nx] 34)).heap.size = w.heap.size + 1 := by simp
      try rw [hz1]
      try rw [← hb4]
      try rw [← hbs]
      have hb2 : Below w.heap.size w w2 := by rw [← hw2]; exact Below.next (Below.new _ _) (Below.new _ _)
      have HK : Hid (Blk w2 bs #[.slice a L.length c, .int .i64 nx]) := hid (by rw [← hw2, hbs]; exact (Blk.new w _ _).below (Below.new _ _))
      have HK4 : Hid (Blk w2 b4 #[.slice none 0 0, .int .i64 0]) := hid (by rw [← hw2, hb4, ← hz1]; exact Blk.new _ _ _)
      have H2 := hid (H.out.below hb2)
      have HB2 := hid hb2
      have HB4 : Hid (w.heap.size ≤ b4 ∧ b4 < w2.heap.size ∧ b4 ≠ bs) := hid (by have := HK4.out.lt; omega)
      clear hw2 hbs hb4 hz1 hb2
      have HBR := hid (Below.refl w2.heap.size w2)
      have HKR := hid (HK.out.below HBR.out)
      have HKR4 := hid (HK4.out.below HBR.out)
      obtain ⟨wz, hwz, z0, z1, hpo⟩ := R21.fin (w := w) (a := a) (a' := a) (c' := c) (L' := L) nx HKR4.out HB4.out.1 (H2.out.below HBR.out) (Below.next HB2.out HBR.out) (fun k hk => ⟨by have := HLOW.out k hk; have := HB2.out.size; have := (HBR.out).size; omega, .inl hk⟩) (fun k hk q => by have := HLOW.out k hk; have := HB4.out.1; omega)
      have HW := hid hwz
      have HPO := hid hpo
      have c0 : w2.cell? ⟨bs, 0, none⟩ = some (.slice a L.length c) := by rw [HKR.out.cell]; rfl
      have c1 : w2.cell? ⟨bs, 1, none⟩ = some (.int .i64 nx) := by rw [HKR.out.cell]; rfl
      have y0 : w2.cell? ⟨b4, 0, none⟩ = some (.slice none 0 0) := by rw [HKR4.out.cell]; rfl
      have y1 : w2.cell? ⟨b4, 1, none⟩ = some (.int .i64 0) := by rw [HKR4.out.cell]; rfl
      have f0 : w2.frozen? ⟨b4, 0, none⟩ = false := HKR4.out.unfrozen 0
      have f1 : w2.frozen? ⟨b4, 1, none⟩ = false := HKR4.out.unfrozen 1
      clear hwz hpo
      go_wp2_with fail
      refine (ref17_NameS nm hnm false HN w2).mono ?_
      rintro e w3 ⟨rfl, rfl⟩
      go_wp2_with fail
      rw [← HW.out]
      refine bodyPost_ret (res_cell_tmp2 rfl _ _ _ rfl (by go_simp; rfl)) rfl ?_
      exact HPO.out _
    | true =>
      have ho : o < 1 := by
        by_cases q : o < 1
        · exact q
        · exfalso; apply hbad; unfold makeE; rw [if_neg (by rw [hn]; simp), if_neg q, if_neg (by omega)]
      have e : makeE L nm o = 10 := by unfold makeE; rw [if_neg (by rw [hn]; simp), if_pos ho]
      rw [e]
      have HN := hid hn
      have hob : decide (o < 1) = true := by simpa using ho
      clear hn e hbad ho
      go_enter Tryd.func30, Tryd.ntmps30
      go_upto_region 1 with fail
      generalize hw2 : World.alloc (World.alloc w _) _ = w2
      obtain ⟨bs, hbs⟩ : ∃ b, b = w.heap.size := ⟨_, rfl⟩
      obtain ⟨b4, hb4⟩ : ∃ b, b = w.heap.size + 1 := ⟨_, rfl⟩
      have hz1 : (World.alloc w (.cells #[.slice a L.length c, .int .i64 nx] 34)).heap.size = w.heap.size + 1 := by simp
      try rw [hz1]
      try rw [← hb4]
      try rw [← hbs]
      have hb2 : Below w.heap.size w w2 := by rw [← hw2]; exact Below.next (Below.new _ _) (Below.new _ _)
      have HK : Hid (Blk w2 bs #[.slice a L.length c, .int .i64 nx]) := hid (by rw [← hw2, hbs]; exact (Blk.new w _ _).below (Below.new _ _))
      have HK4 : Hid (Blk w2 b4 #[.slice none 0 0, .int .i64 0]) := hid (by rw [← hw2, hb4, ← hz1]; exact Blk.new _ _ _)
      have H2 := hid (H.out.below hb2)
      have HB2 := hid hb2
      have HB4 : Hid (w.heap.size ≤ b4 ∧ b4 < w2.heap.size ∧ b4 ≠ bs) := hid (by have := HK4.out.lt; omega)
      clear hw2 hbs hb4 hz1 hb2
      have HBR := hid (Below.refl w2.heap.size w2)
      have HKR := hid (HK.out.below HBR.out)
      have HKR4 := hid (HK4.out.below HBR.out)
      obtain ⟨wz, hwz, z0, z1, hpo⟩ := R21.fin (w := w) (a := a) (a' := a) (c' := c) (L' := L) nx HKR4.out HB4.out.1 (H2.out.below HBR.out) (Below.next HB2.out HBR.out) (fun k hk => ⟨by have := HLOW.out k hk; have := HB2.out.size; have := (HBR.out).size; omega, .inl hk⟩) (fun k hk q => by have := HLOW.out k hk; have := HB4.out.1; omega)
      have HW := hid hwz
      have HPO := hid hpo
      have c0 : w2.cell? ⟨bs, 0, none⟩ = some (.slice a L.length c) := by rw [HKR.out.cell]; rfl
      have c1 : w2.cell? ⟨bs, 1, none⟩ = some (.int .i64 nx) := by rw [HKR.out.cell]; rfl
      have y0 : w2.cell? ⟨b4, 0, none⟩ = some (.slice none 0 0) := by rw [HKR4.out.cell]; rfl
      have y1 : w2.cell? ⟨b4, 1, none⟩ = some (.int .i64 0) := by rw [HKR4.out.cell]; rfl
      have f0 : w2.frozen? ⟨b4, 0, none⟩ = false := HKR4.out.unfrozen 0
      have f1 : w2.frozen? ⟨b4, 1, none⟩ = false := HKR4.out.unfrozen 1
      clear hwz hpo
      go_wp2_with fail
      refine (ref17_NameS nm hnm true HN w2).mono ?_
      rintro e w3 ⟨rfl, rfl⟩
      go_wp2_with fail
      rw [← HW.out]
      refine bodyPost_ret (res_cell_tmp2 rfl _ _ _ rfl (by go_simp; rfl)) rfl ?_
      exact HPO.out _
end Go.Proofs.YtdoflhiogoefjaaDoor
end
