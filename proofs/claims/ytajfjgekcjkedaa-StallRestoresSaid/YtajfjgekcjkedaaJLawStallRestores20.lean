/- Joined texts, in this order: StallSame. Each one's first remark says what it proves; no condition beyond those that its theorems name. -/
import Derived.Test.YtajfjgekcjkedaaJLawStallRestores17
import Derived.Test.YtajfjgekcjkedaaJLawStallRestores19
section
/- The law's own same: do both tell the same? -/
namespace Go.Proofs.Ytajfjgekcjkedaa
open Go.RowKit
open Go.Lib (hid)
set_option linter.unusedVariables false

theorem RowsG.at {w : World} {B : Nat} {v : Value} {L : List R4} (h : RowsG w B v L) {j : Nat} {q : R4} (hj : L[j]? = some q) :
    ∃ b off c, v = .slice (some ⟨b, off, none⟩) L.length c ∧ w.cell? ⟨b, off + j * 3, none⟩ = some (.int .i64 q.1) ∧ w.cell? ⟨b, off + j * 3 + 1, none⟩ = some (.int .i64 q.2.1) ∧ w.cell? ⟨b, off + j * 3 + 2, none⟩ = some q.2.2.1 := by
  obtain ⟨a, c, e, -, -, hrd, -⟩ := ownsRow.rd h.own
  have hlt := (List.getElem?_eq_some_iff.1 hj).1
  obtain ⟨h1, h2, h3⟩ := rowC3_at L j q hj
  obtain ⟨b, off, ha, hc⟩ := hrd (j * 3) (by rw [rowC3_length]; omega)
  obtain ⟨b', off', ha', hc'⟩ := hrd (j * 3 + 1) (by rw [rowC3_length]; omega)
  obtain ⟨b'', off'', ha'', hc''⟩ := hrd (j * 3 + 2) (by rw [rowC3_length]; omega)
  rw [ha] at ha' ha''
  simp at ha' ha''
  obtain ⟨rfl, rfl⟩ := ha'
  obtain ⟨rfl, rfl⟩ := ha''
  exact ⟨b, off, c, by rw [e, ha], by rw [hc, h1], by rw [Nat.add_assoc, hc', h2], by rw [Nat.add_assoc, hc'', h3]⟩
theorem ref23_OfX {at_ ag : Option Addr} {ct cg : Nat} {X : StX} (w : World) (h : RefX w at_ ct ag cg X) (k : Int) {x : List G3} (hx : X.goods.filter (fun g => g.1 == k) = x) :
    Calls Try.prog 37 #[.agg #[.slice at_ X.tills.length ct, .slice ag X.goods.length cg], .int .i64 k] w fun e w' => ∃ v, e = .returned v ∧ w'.ownsRow w.heap.size 81 3 v x.length (tv x) ∧ Below w.heap.size w w' := by
  have := ref23_Of w h k
  rw [hx] at this
  exact this
theorem sumT_nn23 {T : List (Int × Int)} (h : ∀ p ∈ T, 0 ≤ p.2) : 0 ≤ sumT T := by
  unfold sumT
  induction T with
  | nil => simp
  | cons p T ih =>
    have h1 := ih (fun q hq => h q (List.mem_cons_of_mem _ hq))
    have h2 := h p (by simp)
    rw [List.map_cons, List.sum_cons]; omega
theorem sumT_app (A B : List (Int × Int)) : sumT (A ++ B) = sumT A + sumT B := by unfold sumT; rw [List.map_append, List.sum_append]
theorem sumT_step {T : List (Int × Int)} {j : Nat} {p : Int × Int} (hj : T[j]? = some p) : sumT (T.take (j + 1)) = sumT (T.take j) + p.2 := by
  rw [List.take_succ_eq_append_getElem (List.getElem?_eq_some_iff.1 hj).1, (List.getElem?_eq_some_iff.1 hj).2, sumT_app]
  simp [sumT]
theorem sumT_take_le {T : List (Int × Int)} (h : ∀ p ∈ T, 0 ≤ p.2) (j : Nat) : 0 ≤ sumT (T.take j) ∧ sumT (T.take j) ≤ sumT T := by
  refine ⟨sumT_nn23 (fun p hp => h p (List.mem_of_mem_take hp)), ?_⟩
  have h1 := sumT_app (T.take j) (T.drop j)
  rw [List.take_append_drop] at h1
  have := sumT_nn23 (T := T.drop j) (fun p hp => h p (List.mem_of_mem_drop hp))
  omega
def SameT (w3 : World) (T : List (Int × Int)) (v6 v26 : Value) (wr : World) : Prop := ∃ (j : Nat), v26 = .int .i64 (j : Int) ∧ v6 = .int .i64 (sumT (T.take j)) ∧ j ≤ T.length ∧ Below w3.heap.size w3 wr
def SameG (w3 : World) (n : Nat) (v : Value) (wr : World) : Prop := ∃ (j : Nat), v = .int .i64 (j : Int) ∧ j ≤ n ∧ Below w3.heap.size w3 wr
set_option maxRecDepth 100000 in
set_option maxHeartbeats 4000000 in
theorem law23_same {s : Nat} {F : Nat → Prop} {at_ ag : Option Addr} {ct cg : Nat} {X : StX} (w : World) (h : StallIs w s F X) (hx : RefX w at_ ct ag cg X) (hb : sumT X.tills ≤ 4611686018427387904) :
    Calls Try.prog 20 #[.pointer (some ⟨s, 0, none⟩), .agg #[.slice at_ X.tills.length ct, .slice ag X.goods.length cg]] w (fun e w' => e = .returned (.bool true) ∧ Below w.heap.size w w') := by
  have H := hid h
  have HX := hid hx
  have HI := hid h.inv
  have HB := hid hb
  have hlt_ := hx.lt
  have hlg_ := hx.lg
  clear h hx hb
  go_enter Try.func20, Try.ntmps20
  go_upto_region 1 with fail
  generalize hw2 : World.alloc w _ = w2
  obtain ⟨bs, hbs⟩ : ∃ b, b = w.heap.size := ⟨_, rfl⟩
  rw [← hbs]
  have hb2 : Below w.heap.size w w2 := by rw [← hw2]; exact Below.new _ _
  have HK : Hid (Blk w2 bs #[.slice at_ X.tills.length ct, .slice ag X.goods.length cg]) := hid (by rw [← hw2, hbs]; exact Blk.new w _ _)
  have H2 := hid (H.out.below hb2)
  have HX2 := hid (HX.out.below hb2)
  have HB2 := hid hb2
  clear hw2 hbs hb2
  go_wp2_with fail
  refine (stall_Rows w2 H2.out hlt_).mono ?_
  rintro e w3 ⟨v, L, rfl, hrw, hL, hb3⟩
  have hLn : L.length = X.tills.length := by
    have := congrArg List.length hL
    rw [List.length_map, rowsX_len] at this
    exact this
  have HRW := hid hrw
  obtain ⟨av, cv, hv, -⟩ := owns_sl hrw.own
  rw [hLn] at hv
  subst hv
  have HL := hid hL
  have HLN := hid hLn
  have HK3 := hid (HK.out.below hb3)
  have H3 := hid (H2.out.below hb3)
  have HX3 := hid (HX2.out.below hb3)
  have HB3 := hid (Below.next HB2.out hb3)
  clear hrw hL hLn hb3
  have c0 : w3.cell? ⟨bs, 0, none⟩ = some (.slice at_ X.tills.length ct) := by rw [HK3.out.cell]; rfl
  go_wp2_with fail
  clear c0
  go_loopw [6, 26] (fun v6 v26 wr => SameT w3 X.tills v6 v26 wr) (fun _ v26 _ => X.tills.length - (intOf v26).toNat)
  case atStart => exact ⟨0, rfl, rfl, by omega, Below.refl _ _⟩
  case round =>
    obtain ⟨j, rfl, rfl, hj, hbr⟩ := hrel
    have HBR := hid hbr
    by_cases hlt : j < X.tills.length
    · have j1 : (j : Int) < (X.tills.length : Int) := by omega
      have j0 : (0 : Int) ≤ (j : Int) := by omega
      obtain ⟨⟨h0, t0⟩, hp0⟩ : ∃ p, X.tills[j]? = some p := ⟨_, List.getElem?_eq_getElem hlt⟩
      have hl1 : (L.map fun p => (p.1, p.2.1, p.2.2.2))[j]? = some (h0, t0, ofX X.goods h0) := by rw [HL.out]; unfold rowsX; rw [List.getElem?_map, hp0]; rfl
      rw [List.getElem?_map] at hl1
      obtain ⟨⟨hh, till, gv, gs⟩, hLj, e⟩ := Option.map_eq_some_iff.1 hl1
      simp only [Prod.mk.injEq] at e
      obtain ⟨rfl, rfl, hgs⟩ := e
      have hlk : X.tills.lookup hh = some till := (lookup_mem_iff HI.out.nodup).2 (List.mem_of_getElem? hp0)
      have hmem := List.mem_of_getElem? hp0
      obtain ⟨n1, n2, n3, n4⟩ := HI.out.t2 _ hmem
      simp only at n1 n2 n3 n4
      have hst := sumT_step hp0
      simp only at hst
      obtain ⟨s0, s1⟩ := sumT_take_le (T := X.tills) (fun p hp => (HI.out.t2 p hp).2.2.1) j
      obtain ⟨s2, s3⟩ := sumT_take_le (T := X.tills) (fun p hp => (HI.out.t2 p hp).2.2.1) (j + 1)
      have hbT := HB.out
      have hwr : IntKind.i64.wrap (sumT (X.tills.take j) + till) = sumT (X.tills.take (j + 1)) := by rw [IntKind.wrap_i64, hst]; omega
      have hone := (HRW.out.below hbr).one _ (List.mem_of_getElem? hLj)
      obtain ⟨ag3, cg3, hgv, -⟩ := owns_sl hone.1
      simp only at hgv
      subst hgv
      obtain ⟨bl, ol, cl, e, d0, d1, d2⟩ := (HRW.out.below hbr).at hLj
      rw [HLN.out] at e
      simp only [Value.slice.injEq, true_and] at e
      obtain ⟨rfl, rfl⟩ := e
      simp only at d0 d1 d2
      have HGS := hid (SlP.of_own hone.1)
      obtain ⟨x, hxx⟩ : ∃ x, X.goods.filter (fun g => g.1 == hh) = x := ⟨_, rfl⟩
      have HOX := hid hxx
      have hxg : x.map (·.2) = gs := by rw [← hxx, hgs]; rfl
      have HXG := hid hxg
      have h16 : gs.length ≤ 16 := by rw [hgs]; exact HI.out.g3 _
      have HG16 := hid (show gs.length ≤ 100000 by omega)
      have HGV : Hid (goodsV X hh = gs) := hid (by unfold goodsV; rw [hlk, hgs]; rfl)
      have HTX : Hid (tillX X hh = till) := hid (by unfold tillX; rw [hlk]; rfl)
      have HTE : Hid (tillE X hh = 0) := hid (by unfold tillE; rw [hlk]; rfl)
      have HHAS : Hid ((X.tills.lookup hh).isSome = true) := hid (by rw [hlk]; rfl)
      have HP0 := hid hp0
      obtain ⟨G, hG⟩ : ∃ G, G = gs.length := ⟨_, rfl⟩
      have HG := hid hG
      rw [← hG] at d2
      clear hst s0 s1 s2 s3 hbT n1 n2 n3 n4 hone hlk hmem hgs hxx hxg h16 hl1 hLj hbr hG hp0
      go_upto_region 8 with fail
      obtain ⟨w5, hw5⟩ : ∃ w5, w5 = wr.alloc (.cells #[.int .i64 hh, .int .i64 till, .slice ag3 G cg3] 37) := ⟨_, rfl⟩
      rw [← hw5]
      obtain ⟨bx, hbx⟩ : ∃ b, b = wr.heap.size := ⟨_, rfl⟩
      rw [← hbx]
      have hb5 : Below wr.heap.size wr w5 := by rw [hw5]; exact Below.new _ _
      have HX5 := hid (show Blk w5 bx #[.int .i64 hh, .int .i64 till, .slice ag3 G cg3] by rw [hw5, hbx]; exact Blk.new wr _ _)
      have HK5 := hid ((HK3.out.below HBR.out).below hb5)
      have H5 := hid ((H3.out.below HBR.out).below hb5)
      have HR5 := hid ((HX3.out.below HBR.out).below hb5)
      have HG5 := hid (HGS.out.below hb5)
      have HB5 := hid (Below.next HBR.out hb5)
      clear hw5 hbx hb5 d0 d1 d2
      have k0 : w5.cell? ⟨bx, 0, none⟩ = some (.int .i64 hh) := by rw [HX5.out.cell]; rfl
      go_wp2_with fail
      refine (stall_Till w5 H5.out hh till 0 HTX HTE).mono ?_
      rintro e w6 ⟨rfl, rfl⟩
      go_upto_region 9 with fail
      clear k0
      have e0 : ∀ y, Below w5.heap.size w5 y → y.cell? ⟨bs, 0, none⟩ = some (.slice at_ X.tills.length ct) := fun y hy => by rw [(HK5.out.below hy).cell]; rfl
      have e1 : ∀ y, Below w5.heap.size w5 y → y.cell? ⟨bs, 1, none⟩ = some (.slice ag X.goods.length cg) := fun y hy => by rw [(HK5.out.below hy).cell]; rfl
      have e2 : ∀ y, Below w5.heap.size w5 y → y.cell? ⟨bx, 0, none⟩ = some (.int .i64 hh) := fun y hy => by rw [(HX5.out.below hy).cell]; rfl
      have e3 : ∀ y, Below w5.heap.size w5 y → y.cell? ⟨bx, 1, none⟩ = some (.int .i64 till) := fun y hy => by rw [(HX5.out.below hy).cell]; rfl
      have e4 : ∀ y, Below w5.heap.size w5 y → y.cell? ⟨bx, 2, none⟩ = some (.slice ag3 G cg3) := fun y hy => by rw [(HX5.out.below hy).cell]; rfl
      obtain ⟨a', c', e', hrd, -⟩ := id HR5.out.t
      simp only [Value.slice.injEq, true_and] at e'
      obtain ⟨rfl, rfl⟩ := e'
      obtain ⟨bt, ot, -, -, rfl, -⟩ := hrd.pair 0 (by omega)
      clear hrd
      have e5 : ∀ y, Below w5.heap.size w5 y → y.cell? ⟨bt, ot + j * 2, none⟩ = some (.int .i64 hh) := fun y hy => by
        obtain ⟨a', c', e', hrd, -⟩ := HR5.out.t.below hy
        simp only [Value.slice.injEq, true_and] at e'
        obtain ⟨rfl, rfl⟩ := e'
        exact (hrd.pair_at HP0.out).1
      have e6 : ∀ y, Below w5.heap.size w5 y → y.cell? ⟨bt, ot + j * 2 + 1, none⟩ = some (.int .i64 till) := fun y hy => by
        obtain ⟨a', c', e', hrd, -⟩ := HR5.out.t.below hy
        simp only [Value.slice.injEq, true_and] at e'
        obtain ⟨rfl, rfl⟩ := e'
        exact (hrd.pair_at HP0.out).2
      have hyd := (Below.refl w5.heap.size w5).drew
      refine wp_region_kept [] (fun y => Below w5.heap.size w5 y) (by kernel_rfl) (by assumption) (fun hH => ?_)
      refine wpK.take (i := 0) (v := _) (by simp only [List.getElem?_toArray, List.getElem?_cons_succ, List.getElem?_cons_zero]; rfl) (by kernel_rfl) (by kernel_rfl) (by kernel_rfl) (by kernel_rfl) (by kernel_rfl) (by exact fun _ _ _ h => h) (by first | exact Or.inl ⟨by rfl, by intro w hSw; go_simp; try with_reducible rfl⟩ | exact Or.inr ⟨by rfl, rfl⟩) hH ?_
      try simp only [Act.put, List.setIfInBounds_toArray, List.set_cons_zero, List.set_cons_succ]
      refine wpK.take (i := 1) (v := _) (by simp only [List.getElem?_toArray, List.getElem?_cons_succ, List.getElem?_cons_zero]; rfl) (by kernel_rfl) (by kernel_rfl) (by kernel_rfl) (by kernel_rfl) (by kernel_rfl) (by exact fun _ _ _ h => h) (by first | exact Or.inl ⟨by rfl, by intro w hSw; go_simp; try with_reducible rfl⟩ | exact Or.inr ⟨by rfl, rfl⟩) hH ?_
      try simp only [Act.put, List.setIfInBounds_toArray, List.set_cons_zero, List.set_cons_succ]
      refine wpK.take (i := 2) (v := _) (by simp only [List.getElem?_toArray, List.getElem?_cons_succ, List.getElem?_cons_zero]; rfl) (by kernel_rfl) (by kernel_rfl) (by kernel_rfl) (by kernel_rfl) (by kernel_rfl) (by exact fun _ _ _ h => h) (by first | exact Or.inl ⟨by rfl, by intro w hSw; go_simp; try with_reducible rfl⟩ | exact Or.inr ⟨by rfl, rfl⟩) hH ?_
      try simp only [Act.put, List.setIfInBounds_toArray, List.set_cons_zero, List.set_cons_succ]
      refine wpK.take (i := 3) (v := _) (by simp only [List.getElem?_toArray, List.getElem?_cons_succ, List.getElem?_cons_zero]; rfl) (by kernel_rfl) (by kernel_rfl) (by kernel_rfl) (by kernel_rfl) (by kernel_rfl) (by exact fun _ _ _ h => h) (by first | exact Or.inl ⟨by rfl, by intro w hSw; go_simp; try with_reducible rfl⟩ | exact Or.inr ⟨by rfl, rfl⟩) hH ?_
      try simp only [Act.put, List.setIfInBounds_toArray, List.set_cons_zero, List.set_cons_succ]
      refine wpK.take (i := 4) (v := _) (by simp only [List.getElem?_toArray, List.getElem?_cons_succ, List.getElem?_cons_zero]; rfl) (by kernel_rfl) (by kernel_rfl) (by kernel_rfl) (by kernel_rfl) (by kernel_rfl) (by exact fun _ _ _ h => h) (by first | exact Or.inl ⟨by rfl, by intro w hSw; go_simp; try with_reducible rfl⟩ | exact Or.inr ⟨by rfl, rfl⟩) hH ?_
      try simp only [Act.put, List.setIfInBounds_toArray, List.set_cons_zero, List.set_cons_succ]
      refine wpK.take (i := 5) (v := _) (by simp only [List.getElem?_toArray, List.getElem?_cons_succ, List.getElem?_cons_zero]; rfl) (by kernel_rfl) (by kernel_rfl) (by kernel_rfl) (by kernel_rfl) (by kernel_rfl) (by exact fun _ _ _ h => h) (by first | exact Or.inl ⟨by rfl, by intro w hSw; go_simp; try with_reducible rfl⟩ | exact Or.inr ⟨by rfl, rfl⟩) hH ?_
      try simp only [Act.put, List.setIfInBounds_toArray, List.set_cons_zero, List.set_cons_succ]
      refine wpK.take (i := 6) (v := _) (by simp only [List.getElem?_toArray, List.getElem?_cons_succ, List.getElem?_cons_zero]; rfl) (by kernel_rfl) (by kernel_rfl) (by kernel_rfl) (by kernel_rfl) (by kernel_rfl) (by exact fun _ _ _ h => h) (by first | exact Or.inl ⟨by rfl, by intro w hSw; go_simp; try with_reducible rfl⟩ | exact Or.inr ⟨by rfl, rfl⟩) hH ?_
      try simp only [Act.put, List.setIfInBounds_toArray, List.set_cons_zero, List.set_cons_succ]
      refine wpK.take (i := 7) (v := _) (by simp only [List.getElem?_toArray, List.getElem?_cons_succ, List.getElem?_cons_zero]; rfl) (by kernel_rfl) (by kernel_rfl) (by kernel_rfl) (by kernel_rfl) (by kernel_rfl) (by exact fun _ _ _ h => h) (by first | exact Or.inl ⟨by rfl, by intro w hSw; go_simp; try with_reducible rfl⟩ | exact Or.inr ⟨by rfl, rfl⟩) hH ?_
      try simp only [Act.put, List.setIfInBounds_toArray, List.set_cons_zero, List.set_cons_succ]
      refine wpK.take (i := 8) (v := _) (by simp only [List.getElem?_toArray, List.getElem?_cons_succ, List.getElem?_cons_zero]; rfl) (by kernel_rfl) (by kernel_rfl) (by kernel_rfl) (by kernel_rfl) (by kernel_rfl) (by exact fun _ _ _ h => h) (by first | exact Or.inl ⟨by rfl, by intro w hSw; go_simp; try with_reducible rfl⟩ | exact Or.inr ⟨by rfl, rfl⟩) hH ?_
      try simp only [Act.put, List.setIfInBounds_toArray, List.set_cons_zero, List.set_cons_succ]
      refine wpK.take (i := 9) (v := _) (by simp only [List.getElem?_toArray, List.getElem?_cons_succ, List.getElem?_cons_zero]; rfl) (by kernel_rfl) (by kernel_rfl) (by kernel_rfl) (by kernel_rfl) (by kernel_rfl) (by exact fun _ _ _ h => h) (by first | exact Or.inl ⟨by rfl, by intro w hSw; go_simp; try with_reducible rfl⟩ | exact Or.inr ⟨by rfl, rfl⟩) hH ?_
      try simp only [Act.put, List.setIfInBounds_toArray, List.set_cons_zero, List.set_cons_succ]
      refine wpK.take (i := 10) (v := _) (by simp only [List.getElem?_toArray, List.getElem?_cons_succ, List.getElem?_cons_zero]; rfl) (by kernel_rfl) (by kernel_rfl) (by kernel_rfl) (by kernel_rfl) (by kernel_rfl) (by exact fun _ _ _ h => h) (by first | exact Or.inl ⟨by rfl, by intro w hSw; go_simp; try with_reducible rfl⟩ | exact Or.inr ⟨by rfl, rfl⟩) hH ?_
      try simp only [Act.put, List.setIfInBounds_toArray, List.set_cons_zero, List.set_cons_succ]
      refine wpK.take (i := 11) (v := _) (by simp only [List.getElem?_toArray, List.getElem?_cons_succ, List.getElem?_cons_zero]; rfl) (by kernel_rfl) (by kernel_rfl) (by kernel_rfl) (by kernel_rfl) (by kernel_rfl) (by exact fun _ _ _ h => h) (by first | exact Or.inl ⟨by rfl, by intro w hSw; go_simp; try with_reducible rfl⟩ | exact Or.inr ⟨by rfl, rfl⟩) hH ?_
      try simp only [Act.put, List.setIfInBounds_toArray, List.set_cons_zero, List.set_cons_succ]
      refine wpK.take (i := 12) (v := _) (by simp only [List.getElem?_toArray, List.getElem?_cons_succ, List.getElem?_cons_zero]; rfl) (by kernel_rfl) (by kernel_rfl) (by kernel_rfl) (by kernel_rfl) (by kernel_rfl) (by exact fun _ _ _ h => h) (by first | exact Or.inl ⟨by rfl, by intro w hSw; go_simp; try with_reducible rfl⟩ | exact Or.inr ⟨by rfl, rfl⟩) hH ?_
      try simp only [Act.put, List.setIfInBounds_toArray, List.set_cons_zero, List.set_cons_succ]
      refine wpK.take (i := 13) (v := _) (by simp only [List.getElem?_toArray, List.getElem?_cons_succ, List.getElem?_cons_zero]; rfl) (by kernel_rfl) (by kernel_rfl) (by kernel_rfl) (by kernel_rfl) (by kernel_rfl) (by exact fun _ _ _ h => h) (by first | exact Or.inl ⟨by rfl, by intro w hSw; go_simp; try with_reducible rfl⟩ | exact Or.inr ⟨by rfl, rfl⟩) hH ?_
      try simp only [Act.put, List.setIfInBounds_toArray, List.set_cons_zero, List.set_cons_succ]
      refine wpK.take (i := 14) (v := _) (by simp only [List.getElem?_toArray, List.getElem?_cons_succ, List.getElem?_cons_zero]; rfl) (by kernel_rfl) (by kernel_rfl) (by kernel_rfl) (by kernel_rfl) (by kernel_rfl) (by exact fun _ _ _ h => h) (by first | exact Or.inl ⟨by rfl, by intro w hSw; go_simp; try with_reducible rfl⟩ | exact Or.inr ⟨by rfl, rfl⟩) hH ?_
      try simp only [Act.put, List.setIfInBounds_toArray, List.set_cons_zero, List.set_cons_succ]
      refine wpK.take (i := 15) (v := _) (by simp only [List.getElem?_toArray, List.getElem?_cons_succ, List.getElem?_cons_zero]; rfl) (by kernel_rfl) (by kernel_rfl) (by kernel_rfl) (by kernel_rfl) (by kernel_rfl) (by exact fun _ _ _ h => h) (by first | exact Or.inl ⟨by rfl, by intro w hSw; go_simp; try with_reducible rfl⟩ | exact Or.inr ⟨by rfl, rfl⟩) hH ?_
      try simp only [Act.put, List.setIfInBounds_toArray, List.set_cons_zero, List.set_cons_succ]
      refine wpK.take (i := 16) (v := _) (by simp only [List.getElem?_toArray, List.getElem?_cons_succ, List.getElem?_cons_zero]; rfl) (by kernel_rfl) (by kernel_rfl) (by kernel_rfl) (by kernel_rfl) (by kernel_rfl) (by exact fun _ _ _ h => h) (by first | exact Or.inl ⟨by rfl, by intro w hSw; go_simp; try with_reducible rfl⟩ | exact Or.inr ⟨by rfl, rfl⟩) hH ?_
      try simp only [Act.put, List.setIfInBounds_toArray, List.set_cons_zero, List.set_cons_succ]
      refine wpK.take (i := 17) (v := _) (by simp only [List.getElem?_toArray, List.getElem?_cons_succ, List.getElem?_cons_zero]; rfl) (by kernel_rfl) (by kernel_rfl) (by kernel_rfl) (by kernel_rfl) (by kernel_rfl) (by exact fun _ _ _ h => h) (by first | exact Or.inl ⟨by rfl, by intro w hSw; go_simp; try with_reducible rfl⟩ | exact Or.inr ⟨by rfl, rfl⟩) hH ?_
      try simp only [Act.put, List.setIfInBounds_toArray, List.set_cons_zero, List.set_cons_succ]
      refine wpK.take (i := 18) (v := _) (by simp only [List.getElem?_toArray, List.getElem?_cons_succ, List.getElem?_cons_zero]; rfl) (by kernel_rfl) (by kernel_rfl) (by kernel_rfl) (by kernel_rfl) (by kernel_rfl) (by exact fun _ _ _ h => h) (by first | exact Or.inl ⟨by rfl, by intro w hSw; go_simp; try with_reducible rfl⟩ | exact Or.inr ⟨by rfl, rfl⟩) hH ?_
      try simp only [Act.put, List.setIfInBounds_toArray, List.set_cons_zero, List.set_cons_succ]
      refine wpK.take (i := 19) (v := _) (by simp only [List.getElem?_toArray, List.getElem?_cons_succ, List.getElem?_cons_zero]; rfl) (by kernel_rfl) (by kernel_rfl) (by kernel_rfl) (by kernel_rfl) (by kernel_rfl) (by exact fun _ _ _ h => h) (by first | exact Or.inl ⟨by rfl, by intro w hSw; go_simp; try with_reducible rfl⟩ | exact Or.inr ⟨by rfl, rfl⟩) hH ?_
      try simp only [Act.put, List.setIfInBounds_toArray, List.set_cons_zero, List.set_cons_succ]
      refine wpK.take (i := 20) (v := _) (by simp only [List.getElem?_toArray, List.getElem?_cons_succ, List.getElem?_cons_zero]; rfl) (by kernel_rfl) (by kernel_rfl) (by kernel_rfl) (by kernel_rfl) (by kernel_rfl) (by exact fun _ _ _ h => h) (by first | exact Or.inl ⟨by rfl, by intro w hSw; go_simp; try with_reducible rfl⟩ | exact Or.inr ⟨by rfl, rfl⟩) hH ?_
      try simp only [Act.put, List.setIfInBounds_toArray, List.set_cons_zero, List.set_cons_succ]
      refine wpK.take (i := 21) (v := _) (by simp only [List.getElem?_toArray, List.getElem?_cons_succ, List.getElem?_cons_zero]; rfl) (by kernel_rfl) (by kernel_rfl) (by kernel_rfl) (by kernel_rfl) (by kernel_rfl) (by exact fun _ _ _ h => h) (by first | exact Or.inl ⟨by rfl, by intro w hSw; go_simp; try with_reducible rfl⟩ | exact Or.inr ⟨by rfl, rfl⟩) hH ?_
      try simp only [Act.put, List.setIfInBounds_toArray, List.set_cons_zero, List.set_cons_succ]
      refine wpK.take (i := 22) (v := _) (by simp only [List.getElem?_toArray, List.getElem?_cons_succ, List.getElem?_cons_zero]; rfl) (by kernel_rfl) (by kernel_rfl) (by kernel_rfl) (by kernel_rfl) (by kernel_rfl) (by exact fun _ _ _ h => h) (by first | exact Or.inl ⟨by rfl, by intro w hSw; go_simp; try with_reducible rfl⟩ | exact Or.inr ⟨by rfl, rfl⟩) hH ?_
      try simp only [Act.put, List.setIfInBounds_toArray, List.set_cons_zero, List.set_cons_succ]
      refine wpK.take (i := 23) (v := _) (by simp only [List.getElem?_toArray, List.getElem?_cons_succ, List.getElem?_cons_zero]; rfl) (by kernel_rfl) (by kernel_rfl) (by kernel_rfl) (by kernel_rfl) (by kernel_rfl) (by exact fun _ _ _ h => h) (by first | exact Or.inl ⟨by rfl, by intro w hSw; go_simp; try with_reducible rfl⟩ | exact Or.inr ⟨by rfl, rfl⟩) hH ?_
      try simp only [Act.put, List.setIfInBounds_toArray, List.set_cons_zero, List.set_cons_succ]
      refine wpK.take (i := 24) (v := _) (by simp only [List.getElem?_toArray, List.getElem?_cons_succ, List.getElem?_cons_zero]; rfl) (by kernel_rfl) (by kernel_rfl) (by kernel_rfl) (by kernel_rfl) (by kernel_rfl) (by exact fun _ _ _ h => h) (by first | exact Or.inl ⟨by rfl, by intro w hSw; go_simp; try with_reducible rfl⟩ | exact Or.inr ⟨by rfl, rfl⟩) hH ?_
      try simp only [Act.put, List.setIfInBounds_toArray, List.set_cons_zero, List.set_cons_succ]
      refine wpK.take (i := 25) (v := _) (by simp only [List.getElem?_toArray, List.getElem?_cons_succ, List.getElem?_cons_zero]; rfl) (by kernel_rfl) (by kernel_rfl) (by kernel_rfl) (by kernel_rfl) (by kernel_rfl) (by exact fun _ _ _ h => h) (by first | exact Or.inl ⟨by rfl, by intro w hSw; go_simp; try with_reducible rfl⟩ | exact Or.inr ⟨by rfl, rfl⟩) hH ?_
      try simp only [Act.put, List.setIfInBounds_toArray, List.set_cons_zero, List.set_cons_succ]
      refine wpK.take (i := 26) (v := _) (by simp only [List.getElem?_toArray, List.getElem?_cons_succ, List.getElem?_cons_zero]; rfl) (by kernel_rfl) (by kernel_rfl) (by kernel_rfl) (by kernel_rfl) (by kernel_rfl) (by exact fun _ _ _ h => h) (by first | exact Or.inl ⟨by rfl, by intro w hSw; go_simp; try with_reducible rfl⟩ | exact Or.inr ⟨by rfl, rfl⟩) hH ?_
      try simp only [Act.put, List.setIfInBounds_toArray, List.set_cons_zero, List.set_cons_succ]
      refine wpK.take (i := 27) (v := _) (by simp only [List.getElem?_toArray, List.getElem?_cons_succ, List.getElem?_cons_zero]; rfl) (by kernel_rfl) (by kernel_rfl) (by kernel_rfl) (by kernel_rfl) (by kernel_rfl) (by exact fun _ _ _ h => h) (by first | exact Or.inl ⟨by rfl, by intro w hSw; go_simp; try with_reducible rfl⟩ | exact Or.inr ⟨by rfl, rfl⟩) hH ?_
      try simp only [Act.put, List.setIfInBounds_toArray, List.set_cons_zero, List.set_cons_succ]
      refine wpK.take (i := 28) (v := _) (by simp only [List.getElem?_toArray, List.getElem?_cons_succ, List.getElem?_cons_zero]; rfl) (by kernel_rfl) (by kernel_rfl) (by kernel_rfl) (by kernel_rfl) (by kernel_rfl) (by exact fun _ _ _ h => h) (by first | exact Or.inl ⟨by rfl, by intro w hSw; go_simp; try with_reducible rfl⟩ | exact Or.inr ⟨by rfl, rfl⟩) hH ?_
      try simp only [Act.put, List.setIfInBounds_toArray, List.set_cons_zero, List.set_cons_succ]
      refine wpK.take (i := 29) (v := _) (by simp only [List.getElem?_toArray, List.getElem?_cons_succ, List.getElem?_cons_zero]; rfl) (by kernel_rfl) (by kernel_rfl) (by kernel_rfl) (by kernel_rfl) (by kernel_rfl) (by exact fun _ _ _ h => h) (by first | exact Or.inl ⟨by rfl, by intro w hSw; go_simp; try with_reducible rfl⟩ | exact Or.inr ⟨by rfl, rfl⟩) hH ?_
      try simp only [Act.put, List.setIfInBounds_toArray, List.set_cons_zero, List.set_cons_succ]
      refine wpK.take (i := 30) (v := _) (by simp only [List.getElem?_toArray, List.getElem?_cons_succ, List.getElem?_cons_zero]; rfl) (by kernel_rfl) (by kernel_rfl) (by kernel_rfl) (by kernel_rfl) (by kernel_rfl) (by exact fun _ _ _ h => h) (by first | exact Or.inl ⟨by rfl, by intro w hSw; go_simp; try with_reducible rfl⟩ | exact Or.inr ⟨by rfl, rfl⟩) hH ?_
      try simp only [Act.put, List.setIfInBounds_toArray, List.set_cons_zero, List.set_cons_succ]
      refine wpK.take (i := 31) (v := _) (by simp only [List.getElem?_toArray, List.getElem?_cons_succ, List.getElem?_cons_zero]; rfl) (by kernel_rfl) (by kernel_rfl) (by kernel_rfl) (by kernel_rfl) (by kernel_rfl) (by exact fun _ _ _ h => h) (by first | exact Or.inl ⟨by rfl, by intro w hSw; go_simp; try with_reducible rfl⟩ | exact Or.inr ⟨by rfl, rfl⟩) hH ?_
      try simp only [Act.put, List.setIfInBounds_toArray, List.set_cons_zero, List.set_cons_succ]
      refine wpK.take (i := 32) (v := _) (by simp only [List.getElem?_toArray, List.getElem?_cons_succ, List.getElem?_cons_zero]; rfl) (by kernel_rfl) (by kernel_rfl) (by kernel_rfl) (by kernel_rfl) (by kernel_rfl) (by exact fun _ _ _ h => h) (by first | exact Or.inl ⟨by rfl, by intro w hSw; go_simp; try with_reducible rfl⟩ | exact Or.inr ⟨by rfl, rfl⟩) hH ?_
      try simp only [Act.put, List.setIfInBounds_toArray, List.set_cons_zero, List.set_cons_succ]
      refine wpK.take (i := 33) (v := _) (by simp only [List.getElem?_toArray, List.getElem?_cons_succ, List.getElem?_cons_zero]; rfl) (by kernel_rfl) (by kernel_rfl) (by kernel_rfl) (by kernel_rfl) (by kernel_rfl) (by exact fun _ _ _ h => h) (by first | exact Or.inl ⟨by rfl, by intro w hSw; go_simp; try with_reducible rfl⟩ | exact Or.inr ⟨by rfl, rfl⟩) hH ?_
      try simp only [Act.put, List.setIfInBounds_toArray, List.set_cons_zero, List.set_cons_succ]
      refine wpK.step (i := 34) (by kernel_rfl) (by simp only [List.getElem?_toArray, List.getElem?_cons_succ, List.getElem?_cons_zero]; rfl) (fun K hK => ?_)
      go_simp
      (refine (stall_Has _ (H5.out.below hyd) hh true HHAS).mono ?_); rintro e wA ⟨rfl, rfl⟩; go_simp
      refine hK.out _ _ (by assumption) (fun hH => ?_)
      clear hK K
      try simp only [Act.put, List.setIfInBounds_toArray, List.set_cons_zero, List.set_cons_succ]
      refine wpK.take (i := 35) (v := _) (by simp only [List.getElem?_toArray, List.getElem?_cons_succ, List.getElem?_cons_zero]; rfl) (by kernel_rfl) (by kernel_rfl) (by kernel_rfl) (by kernel_rfl) (by kernel_rfl) (by exact fun _ _ _ h => h) (by first | exact Or.inl ⟨by rfl, by intro w hSw; go_simp; try with_reducible rfl⟩ | exact Or.inr ⟨by rfl, rfl⟩) hH ?_
      try simp only [Act.put, List.setIfInBounds_toArray, List.set_cons_zero, List.set_cons_succ]
      refine wpK.take (i := 36) (v := _) (by simp only [List.getElem?_toArray, List.getElem?_cons_succ, List.getElem?_cons_zero]; rfl) (by kernel_rfl) (by kernel_rfl) (by kernel_rfl) (by kernel_rfl) (by kernel_rfl) (by exact fun _ _ _ h => h) (by first | exact Or.inl ⟨by rfl, by intro w hSw; go_simp; try with_reducible rfl⟩ | exact Or.inr ⟨by rfl, rfl⟩) hH ?_
      try simp only [Act.put, List.setIfInBounds_toArray, List.set_cons_zero, List.set_cons_succ]
      refine wpK.take (i := 37) (v := _) (by simp only [List.getElem?_toArray, List.getElem?_cons_succ, List.getElem?_cons_zero]; rfl) (by kernel_rfl) (by kernel_rfl) (by kernel_rfl) (by kernel_rfl) (by kernel_rfl) (by exact fun _ _ _ h => h) (by first | exact Or.inl ⟨by rfl, by intro w hSw; go_simp; try with_reducible rfl⟩ | exact Or.inr ⟨by rfl, rfl⟩) hH ?_
      try simp only [Act.put, List.setIfInBounds_toArray, List.set_cons_zero, List.set_cons_succ]
      refine wpK.take (i := 38) (v := _) (by simp only [List.getElem?_toArray, List.getElem?_cons_succ, List.getElem?_cons_zero]; rfl) (by kernel_rfl) (by kernel_rfl) (by kernel_rfl) (by kernel_rfl) (by kernel_rfl) (by exact fun _ _ _ h => h) (by first | exact Or.inl ⟨by rfl, by intro w hSw; go_simp; try with_reducible rfl⟩ | exact Or.inr ⟨by rfl, rfl⟩) hH ?_
      try simp only [Act.put, List.setIfInBounds_toArray, List.set_cons_zero, List.set_cons_succ]
      refine wpK.take (i := 39) (v := _) (by simp only [List.getElem?_toArray, List.getElem?_cons_succ, List.getElem?_cons_zero]; rfl) (by kernel_rfl) (by kernel_rfl) (by kernel_rfl) (by kernel_rfl) (by kernel_rfl) (by exact fun _ _ _ h => h) (by first | exact Or.inl ⟨by rfl, by intro w hSw; go_simp; try with_reducible rfl⟩ | exact Or.inr ⟨by rfl, rfl⟩) hH ?_
      try simp only [Act.put, List.setIfInBounds_toArray, List.set_cons_zero, List.set_cons_succ]
      refine wpK.take (i := 40) (v := _) (by simp only [List.getElem?_toArray, List.getElem?_cons_succ, List.getElem?_cons_zero]; rfl) (by kernel_rfl) (by kernel_rfl) (by kernel_rfl) (by kernel_rfl) (by kernel_rfl) (by exact fun _ _ _ h => h) (by first | exact Or.inl ⟨by rfl, by intro w hSw; go_simp; try with_reducible rfl⟩ | exact Or.inr ⟨by rfl, rfl⟩) hH ?_
      try simp only [Act.put, List.setIfInBounds_toArray, List.set_cons_zero, List.set_cons_succ]
      refine wpK.take (i := 41) (v := _) (by simp only [List.getElem?_toArray, List.getElem?_cons_succ, List.getElem?_cons_zero]; rfl) (by kernel_rfl) (by kernel_rfl) (by kernel_rfl) (by kernel_rfl) (by kernel_rfl) (by exact fun _ _ _ h => h) (by first | exact Or.inl ⟨by rfl, by intro w hSw; go_simp; try with_reducible rfl⟩ | exact Or.inr ⟨by rfl, rfl⟩) hH ?_
      try simp only [Act.put, List.setIfInBounds_toArray, List.set_cons_zero, List.set_cons_succ]
      refine wpK.take (i := 42) (v := _) (by simp only [List.getElem?_toArray, List.getElem?_cons_succ, List.getElem?_cons_zero]; rfl) (by kernel_rfl) (by kernel_rfl) (by kernel_rfl) (by kernel_rfl) (by kernel_rfl) (by exact fun _ _ _ h => h) (by first | exact Or.inl ⟨by rfl, by intro w hSw; go_simp; try with_reducible rfl⟩ | exact Or.inr ⟨by rfl, rfl⟩) hH ?_
      try simp only [Act.put, List.setIfInBounds_toArray, List.set_cons_zero, List.set_cons_succ]
      refine wpK.step (i := 43) (by kernel_rfl) (by simp only [List.getElem?_toArray, List.getElem?_cons_succ, List.getElem?_cons_zero]; rfl) (fun K hK => ?_)
      go_simp
      (refine (ref23_OfX _ (HR5.out.below hyd) hh HOX.out).mono ?_); rintro e wB ⟨v1, rfl, hoB, hbB0⟩; (have hbB := Below.next hyd hbB0); go_simp
      refine hK.out _ _ (by assumption) (fun hH => ?_)
      clear hK K
      try simp only [Act.put, List.setIfInBounds_toArray, List.set_cons_zero, List.set_cons_succ]
      refine wpK.step (i := 44) (by kernel_rfl) (by simp only [List.getElem?_toArray, List.getElem?_cons_succ, List.getElem?_cons_zero]; rfl) (fun K hK => ?_)
      go_simp
      (refine (law23_goods wB (v1 := .slice ag3 G cg3) (by rw [HG.out]; exact HG5.out.below hbB) (Sl3.of_own hoB) HXG.out HG16.out).mono ?_); rintro e wC ⟨rfl, hbC0⟩; (have hbC := Below.next hbB hbC0); go_simp
      refine hK.out _ _ (by assumption) (fun hH => ?_)
      clear hK K
      try simp only [Act.put, List.setIfInBounds_toArray, List.set_cons_zero, List.set_cons_succ]
      refine wpK.take (i := 45) (v := _) (by simp only [List.getElem?_toArray, List.getElem?_cons_succ, List.getElem?_cons_zero]; rfl) (by kernel_rfl) (by kernel_rfl) (by kernel_rfl) (by kernel_rfl) (by kernel_rfl) (by exact fun _ _ _ h => h) (by first | exact Or.inl ⟨by rfl, by intro w hSw; go_simp; try with_reducible rfl⟩ | exact Or.inr ⟨by rfl, rfl⟩) hH ?_
      try simp only [Act.put, List.setIfInBounds_toArray, List.set_cons_zero, List.set_cons_succ]
      refine wpK.take (i := 46) (v := _) (by simp only [List.getElem?_toArray, List.getElem?_cons_succ, List.getElem?_cons_zero]; rfl) (by kernel_rfl) (by kernel_rfl) (by kernel_rfl) (by kernel_rfl) (by kernel_rfl) (by exact fun _ _ _ h => h) (by first | exact Or.inl ⟨by rfl, by intro w hSw; go_simp; try with_reducible rfl⟩ | exact Or.inr ⟨by rfl, rfl⟩) hH ?_
      try simp only [Act.put, List.setIfInBounds_toArray, List.set_cons_zero, List.set_cons_succ]
      refine wpK.take (i := 47) (v := _) (by simp only [List.getElem?_toArray, List.getElem?_cons_succ, List.getElem?_cons_zero]; rfl) (by kernel_rfl) (by kernel_rfl) (by kernel_rfl) (by kernel_rfl) (by kernel_rfl) (by exact fun _ _ _ h => h) (by first | exact Or.inl ⟨by rfl, by intro w hSw; go_simp; try with_reducible rfl⟩ | exact Or.inr ⟨by rfl, rfl⟩) hH ?_
      try simp only [Act.put, List.setIfInBounds_toArray, List.set_cons_zero, List.set_cons_succ]
      refine wpK.take (i := 48) (v := _) (by simp only [List.getElem?_toArray, List.getElem?_cons_succ, List.getElem?_cons_zero]; rfl) (by kernel_rfl) (by kernel_rfl) (by kernel_rfl) (by kernel_rfl) (by kernel_rfl) (by exact fun _ _ _ h => h) (by first | exact Or.inl ⟨by rfl, by intro w hSw; go_simp; try with_reducible rfl⟩ | exact Or.inr ⟨by rfl, rfl⟩) hH ?_
      try simp only [Act.put, List.setIfInBounds_toArray, List.set_cons_zero, List.set_cons_succ]
      refine wpK.take (i := 49) (v := _) (by simp only [List.getElem?_toArray, List.getElem?_cons_succ, List.getElem?_cons_zero]; rfl) (by kernel_rfl) (by kernel_rfl) (by kernel_rfl) (by kernel_rfl) (by kernel_rfl) (by exact fun _ _ _ h => h) (by first | exact Or.inl ⟨by rfl, by intro w hSw; go_simp; try with_reducible rfl⟩ | exact Or.inr ⟨by rfl, rfl⟩) hH ?_
      try simp only [Act.put, List.setIfInBounds_toArray, List.set_cons_zero, List.set_cons_succ]
      refine wpK.take (i := 50) (v := _) (by simp only [List.getElem?_toArray, List.getElem?_cons_succ, List.getElem?_cons_zero]; rfl) (by kernel_rfl) (by kernel_rfl) (by kernel_rfl) (by kernel_rfl) (by kernel_rfl) (by exact fun _ _ _ h => h) (by first | exact Or.inl ⟨by rfl, by intro w hSw; go_simp; try with_reducible rfl⟩ | exact Or.inr ⟨by rfl, rfl⟩) hH ?_
      try simp only [Act.put, List.setIfInBounds_toArray, List.set_cons_zero, List.set_cons_succ]
      refine wpK.take (i := 52) (v := _) (by simp only [List.getElem?_toArray, List.getElem?_cons_succ, List.getElem?_cons_zero]; rfl) (by kernel_rfl) (by kernel_rfl) (by kernel_rfl) (by kernel_rfl) (by kernel_rfl) (by exact fun _ _ _ h => h) (by first | exact Or.inl ⟨by rfl, by intro w hSw; go_simp; try with_reducible rfl⟩ | exact Or.inr ⟨by rfl, rfl⟩) hH ?_
      try simp only [Act.put, List.setIfInBounds_toArray, List.set_cons_zero, List.set_cons_succ]
      refine wpK.take (i := 53) (v := _) (by simp only [List.getElem?_toArray, List.getElem?_cons_succ, List.getElem?_cons_zero]; rfl) (by kernel_rfl) (by kernel_rfl) (by kernel_rfl) (by kernel_rfl) (by kernel_rfl) (by exact fun _ _ _ h => h) (by first | exact Or.inl ⟨by rfl, by intro w hSw; go_simp; try with_reducible rfl⟩ | exact Or.inr ⟨by rfl, rfl⟩) hH ?_
      try simp only [Act.put, List.setIfInBounds_toArray, List.set_cons_zero, List.set_cons_succ]
      refine wpK.take (i := 54) (v := _) (by simp only [List.getElem?_toArray, List.getElem?_cons_succ, List.getElem?_cons_zero]; rfl) (by kernel_rfl) (by kernel_rfl) (by kernel_rfl) (by kernel_rfl) (by kernel_rfl) (by exact fun _ _ _ h => h) (by first | exact Or.inl ⟨by rfl, by intro w hSw; go_simp; try with_reducible rfl⟩ | exact Or.inr ⟨by rfl, rfl⟩) hH ?_
      try simp only [Act.put, List.setIfInBounds_toArray, List.set_cons_zero, List.set_cons_succ]
      refine wpK.step (i := 51) (by kernel_rfl) (by simp only [List.getElem?_toArray, List.getElem?_cons_succ, List.getElem?_cons_zero]; rfl) (fun K hK => ?_)
      go_simp
      (refine (stall_Goods wC (H5.out.below hbC) hh).mono ?_); rintro e wD ⟨v2, rfl, hoD, hbD0⟩; (rw [HGV.out] at hoD); (have hbD := Below.next hbC hbD0); go_simp
      refine hK.out _ _ (by assumption) (fun hH => ?_)
      clear hK K
      try simp only [Act.put, List.setIfInBounds_toArray, List.set_cons_zero, List.set_cons_succ]
      refine wpK.step (i := 55) (by kernel_rfl) (by simp only [List.getElem?_toArray, List.getElem?_cons_succ, List.getElem?_cons_zero]; rfl) (fun K hK => ?_)
      go_simp
      (refine (ref23_OfX wD (HR5.out.below hbD) hh HOX.out).mono ?_); rintro e wE ⟨v3, rfl, hoE, hbE0⟩; (have hbE := Below.next hbD hbE0); go_simp
      refine hK.out _ _ (by assumption) (fun hH => ?_)
      clear hK K
      try simp only [Act.put, List.setIfInBounds_toArray, List.set_cons_zero, List.set_cons_succ]
      refine wpK.step (i := 56) (by kernel_rfl) (by simp only [List.getElem?_toArray, List.getElem?_cons_succ, List.getElem?_cons_zero]; rfl) (fun K hK => ?_)
      go_simp
      (refine (law23_goods wE (SlP.of_own (owns_below hoD hbE0)) (Sl3.of_own hoE) HXG.out HG16.out).mono ?_); rintro e wF ⟨rfl, hbF0⟩; (have hbF := Below.next hbE hbF0); go_simp
      refine hK.out _ _ (by assumption) (fun hH => ?_)
      clear hK K
      try simp only [Act.put, List.setIfInBounds_toArray, List.set_cons_zero, List.set_cons_succ]
      refine wpK.take (i := 57) (v := _) (by simp only [List.getElem?_toArray, List.getElem?_cons_succ, List.getElem?_cons_zero]; rfl) (by kernel_rfl) (by kernel_rfl) (by kernel_rfl) (by kernel_rfl) (by kernel_rfl) (by exact fun _ _ _ h => h) (by first | exact Or.inl ⟨by rfl, by intro w hSw; go_simp; try with_reducible rfl⟩ | exact Or.inr ⟨by rfl, rfl⟩) hH ?_
      try simp only [Act.put, List.setIfInBounds_toArray, List.set_cons_zero, List.set_cons_succ]
      refine wpK.take (i := 58) (v := _) (by simp only [List.getElem?_toArray, List.getElem?_cons_succ, List.getElem?_cons_zero]; rfl) (by kernel_rfl) (by kernel_rfl) (by kernel_rfl) (by kernel_rfl) (by kernel_rfl) (by exact fun _ _ _ h => h) (by first | exact Or.inl ⟨by rfl, by intro w hSw; go_simp; try with_reducible rfl⟩ | exact Or.inr ⟨by rfl, rfl⟩) hH ?_
      try simp only [Act.put, List.setIfInBounds_toArray, List.set_cons_zero, List.set_cons_succ]
      refine wpK.done (by kernel_rfl) ?_ _
      have HBF := hid (Below.next HB5.out hbF)
      have HXF := hid (HX5.out.below hbF)
      clear e0 e1 e2 e3 e4 e5 e6 hyd hbB0 hbB hbC0 hbC hbD0 hbD hbE0 hbE hbF0 hbF hoB hoD hoE
      have k1 : wF.cell? ⟨bx, 1, none⟩ = some (.int .i64 till) := by rw [HXF.out.cell]; rfl
      go_wp2_with fail
      go_roundw
      case rel => exact ⟨j + 1, by go_num, rfl, by omega, HBF.out⟩
      case measure => simp [intOf]; omega
    · have j1 : ¬ (j : Int) < (X.tills.length : Int) := by omega
      have hjn : j = X.tills.length := by omega
      obtain ⟨T, hT⟩ : ∃ T, sumT (X.tills.take j) = T := ⟨_, rfl⟩
      have HT : Hid (sumT X.tills = T) := hid (by rw [← hT, hjn, List.take_length])
      rw [hT]
      have HKR := hid (HK3.out.below HBR.out)
      have HR := hid (H3.out.below HBR.out)
      have HXR := hid (HX3.out.below HBR.out)
      have HBA := hid (Below.next HB3.out HBR.out)
      have hTT : (T == T) = true := by simp
      clear hjn hT hbr
      have c1 : wr.cell? ⟨bs, 1, none⟩ = some (.slice ag X.goods.length cg) := by rw [HKR.out.cell]; rfl
      go_wp2_with fail
      clear c1
      obtain ⟨wq, hwq⟩ : ∃ wq, wq = wr := ⟨_, rfl⟩
      subst hwq
      go_loopw [105] (fun v105 wr => SameG wq X.goods.length v105 wr) (fun v105 _ => X.goods.length - (intOf v105).toNat)
      case atStart => exact ⟨0, rfl, by omega, Below.refl _ _⟩
      case round =>
        obtain ⟨i, rfl, hi, hbi⟩ := hrel
        have HBI := hid hbi
        by_cases hlt2 : i < X.goods.length
        · have i1 : (i : Int) < (X.goods.length : Int) := by omega
          have i0 : (0 : Int) ≤ (i : Int) := by omega
          obtain ⟨a', c', e', hrd, -⟩ := HXR.out.g.below hbi
          simp only [Value.slice.injEq, true_and] at e'
          obtain ⟨rfl, rfl⟩ := e'
          obtain ⟨b0, off, gh, gt, gp, rfl, d0, d1, d2, hat, -, -⟩ := hrd.triple i hlt2
          have HPE : Hid (priceE X gt = (gh, gp, 0)) := hid (by
            have : fdX X.goods gt = some (gh, gt, gp) := (fdX_some HI.out.g1).2 ⟨List.mem_of_getElem? hat, rfl⟩
            unfold priceE; rw [this])
          clear hrd hat hbi
          go_upto_region 16 with fail
          obtain ⟨w5, hw5⟩ : ∃ w5, w5 = wr.alloc (.cells #[.int .i64 gh, .int .i64 gt, .int .i64 gp] 81) := ⟨_, rfl⟩
          rw [← hw5]
          obtain ⟨bx, hbx⟩ : ∃ b, b = wr.heap.size := ⟨_, rfl⟩
          rw [← hbx]
          have hb5 : Below wr.heap.size wr w5 := by rw [hw5]; exact Below.new _ _
          have HX5 := hid (show Blk w5 bx #[.int .i64 gh, .int .i64 gt, .int .i64 gp] by rw [hw5, hbx]; exact Blk.new wr _ _)
          have H5 := hid ((HR.out.below HBI.out).below hb5)
          have HB5 := hid (Below.next HBI.out hb5)
          clear hw5 hbx hb5 d0 d1 d2
          have k1 : w5.cell? ⟨bx, 1, none⟩ = some (.int .i64 gt) := by rw [HX5.out.cell]; rfl
          go_wp2_with fail
          have hpp := stall_Price w5 H5.out gt
          rw [HPE.out] at hpp
          refine hpp.mono ?_
          rintro e w6 ⟨rfl, hb6⟩
          clear hpp k1
          have HX6 := hid (HX5.out.below hb6)
          have HB6 := hid (Below.next HB5.out hb6)
          clear hb6
          have k0 : w6.cell? ⟨bx, 0, none⟩ = some (.int .i64 gh) := by rw [HX6.out.cell]; rfl
          have k2 : w6.cell? ⟨bx, 2, none⟩ = some (.int .i64 gp) := by rw [HX6.out.cell]; rfl
          go_wp2_with fail
          go_roundw
          case rel => exact ⟨i + 1, by go_num, by omega, HB6.out⟩
          case measure => simp [intOf]; omega
        · have i1 : ¬ (i : Int) < (X.goods.length : Int) := by omega
          have HRI := hid (HR.out.below hbi)
          clear hbi
          go_wp2_with fail
          refine (stall_Total wr HRI.out T HT (by rw [← HT.out]; exact HB.out)).mono ?_
          rintro e w7 ⟨rfl, hb7⟩
          go_wp2_with fail
          go_ret
          exact ⟨rfl, Below.next (Below.next HBA.out HBI.out) hb7⟩
end Go.Proofs.Ytajfjgekcjkedaa
end
