/- Joined texts, in this order: OrdApartLaw. Each one's first remark says what it proves; no condition beyond those that its theorems name. -/
import Derived.Test.YtcjdlckfbkdibaaDoorJLawOrderApart28
section
/- The law OrderApart. -/
namespace Go.Proofs.YtcjdlckfbkdibaaDoor
open Go.RowKit
open Go.Lib (hid)
set_option linter.unusedVariables false

theorem ba_inj {p q : ByteArray} (h : p.data.toList = q.data.toList) : p = q := by
  apply ByteArray.ext
  apply Array.ext'
  exact h
theorem cm_eq_iff (ses1 who1 kind1 a1 b1 c1 d1 ses2 who2 kind2 a2 b2 c2 d2 : Int) (text1 login1 text2 login2 : ByteArray) :
    cmOf ses1 who1 kind1 a1 b1 c1 d1 text1 login1 = cmOf ses2 who2 kind2 a2 b2 c2 d2 text2 login2 ↔ (ses1 = ses2 ∧ who1 = who2 ∧ kind1 = kind2 ∧ a1 = a2 ∧ b1 = b2 ∧ c1 = c2 ∧ d1 = d2 ∧ text1.toList = text2.toList ∧ login1.toList = login2.toList) := by
  unfold cmOf
  rw [← Lib.toList_data, ← Lib.toList_data, ← Lib.toList_data, ← Lib.toList_data]
  simp only [Cm.mk.injEq, List.cons.injEq, and_true]
  constructor
  · rintro ⟨h1, h2, h3, ⟨h4, h5, h6, h7⟩, h8, h9⟩; exact ⟨h1, h2, h3, h4, h5, h6, h7, h8, h9⟩
  · rintro ⟨h1, h2, h3, h4, h5, h6, h7, h8, h9⟩; exact ⟨h1, h2, h3, ⟨h4, h5, h6, h7⟩, h8, h9⟩
theorem bytes_apart (x y : Cm) (okx : x.Ok) (oky : y.Ok) (hx : x.right = true) (hy : y.right = true) : x.bytes = y.bytes ↔ x = y := by
  constructor
  · intro h
    have h1 := parse_bytes x okx hx
    rw [h, parse_bytes y oky hy] at h1
    exact (Option.some.inj h1).symm
  · rintro rfl; rfl
theorem right_sizes (c : Cm) (h : c.right = true) : c.login.length ≤ 16 ∧ c.text.length ≤ 16 := by
  unfold Cm.right at h
  simp only [Bool.and_eq_true, decide_eq_true_eq] at h
  obtain ⟨-, h5⟩ := h
  cases hl : c.login.isEmpty with
  | true =>
    rw [hl] at h5
    simp only [if_true, Bool.and_eq_true, decide_eq_true_eq] at h5
    have : c.login = [] := by simpa using hl
    rw [this]
    exact ⟨by simp, h5.1.2⟩
  | false =>
    rw [hl] at h5
    simp only [Bool.false_eq_true, if_false, Bool.and_eq_true, decide_eq_true_eq] at h5
    obtain ⟨⟨⟨h6, h7⟩, h8⟩, h9⟩ := h5
    have : c.text = [] := by simpa using h7
    rw [this]
    unfold nameB at h9
    simp only [Bool.and_eq_true, decide_eq_true_eq] at h9
    exact ⟨h9.1.1.2, by simp⟩
theorem order_BytesNoX (ses who kind a b c d : Int) (text login : ByteArray) (w : World) (hl : login.size ≤ 9223372036854775807) (ht : text.size ≤ 9223372036854775807) (hR : Hid ((cmOf ses who kind a b c d text login).right = false)) :
    Calls Tryd.prog 30 #[.agg #[.int .i64 ses, .int .i64 who, .int .i64 kind, .int .i64 a, .int .i64 b, .int .i64 c, .int .i64 d, .string text, .string login]] w fun e w' => e = .returned (.tuple #[.slice none 0 0, .int .i64 10]) ∧ Below w.heap.size w w' := by
  go_enter Tryd.func30, Tryd.ntmps30
  go_wp2_with fail
  generalize hw1 : World.alloc w _ = w1
  have HB1 : Hid (Below w.heap.size w w1) := hid (by rw [← hw1]; exact Below.new _ _)
  clear hw1
  refine (order_Right ses who kind a b c d text login w1 hl ht false hR).mono ?_
  rintro e w2 ⟨rfl, hb2⟩
  have HB2 := hid (Below.next HB1.out hb2)
  clear hb2
  go_wp2_with fail
  go_ret2
  exact ⟨rfl, HB2.out⟩
set_option maxRecDepth 100000 in
set_option maxHeartbeats 8000000 in
theorem law27_Apart (ses1 who1 kind1 a1 b1 c1 d1 ses2 who2 kind2 a2 b2 c2 d2 : Int) (text1 login1 text2 login2 : ByteArray) (w : World) (S1 S2 : Int) (hw1 : wrap64 ((login1.size : Int) + (text1.size : Int)) = S1) (hw2 : wrap64 ((login2.size : Int) + (text2.size : Int)) = S2) (i1 : ¬ (100 : Int) < S1) (i2 : ¬ (100 : Int) < S2) (HZ : Hid ((login1.size ≤ 9223372036854775807 ∧ text1.size ≤ 9223372036854775807) ∧ login2.size ≤ 9223372036854775807 ∧ text2.size ≤ 9223372036854775807)) (hok1 : Hid ((cmOf ses1 who1 kind1 a1 b1 c1 d1 text1 login1).Ok)) (hok2 : Hid ((cmOf ses2 who2 kind2 a2 b2 c2 d2 text2 login2).Ok)) :
    Calls Tryd.prog 8 #[.agg #[.int .i64 ses1, .int .i64 who1, .int .i64 kind1, .int .i64 a1, .int .i64 b1, .int .i64 c1, .int .i64 d1, .string text1, .string login1], .agg #[.int .i64 ses2, .int .i64 who2, .int .i64 kind2, .int .i64 a2, .int .i64 b2, .int .i64 c2, .int .i64 d2, .string text2, .string login2]] w fun e w' => e = .returned (.bool true) ∧ Below w.heap.size w w' := by
  obtain ⟨R1, hR1⟩ : ∃ R, (cmOf ses1 who1 kind1 a1 b1 c1 d1 text1 login1).right = R := ⟨_, rfl⟩
  obtain ⟨R2, hR2⟩ : ∃ R, (cmOf ses2 who2 kind2 a2 b2 c2 d2 text2 login2).right = R := ⟨_, rfl⟩
  obtain ⟨l1, hb1⟩ : ∃ l, (cmOf ses1 who1 kind1 a1 b1 c1 d1 text1 login1).bytes = l := ⟨_, rfl⟩
  obtain ⟨l2, hb2⟩ : ∃ l, (cmOf ses2 who2 kind2 a2 b2 c2 d2 text2 login2).bytes = l := ⟨_, rfl⟩
  have hle1 : R1 = true → l1.length ≤ 300 := fun h => by
    have hz := right_sizes _ (hR1.trans h)
    rw [← hb1]; exact bytes_le _ hok1.out (by omega) (by omega)
  have hle2 : R2 = true → l2.length ≤ 300 := fun h => by
    have hz := right_sizes _ (hR2.trans h)
    rw [← hb2]; exact bytes_le _ hok2.out (by omega) (by omega)
  have HR1 := hid hR1
  have HR2 := hid hR2
  have HA1 := hid hb1
  have HA2 := hid hb2
  have HLE1 := hid hle1
  have HLE2 := hid hle2
  have HS1 : Hid (R1 = true → login1.size ≤ 100 ∧ text1.size ≤ 100) := hid (fun h => by
    have hz := right_sizes _ (hR1.trans h)
    have e1 : login1.data.toList.length ≤ 16 := hz.1
    have e2 : text1.data.toList.length ≤ 16 := hz.2
    rw [ba_len] at e1 e2
    omega)
  have HS2 : Hid (R2 = true → login2.size ≤ 100 ∧ text2.size ≤ 100) := hid (fun h => by
    have hz := right_sizes _ (hR2.trans h)
    have e1 : login2.data.toList.length ≤ 16 := hz.1
    have e2 : text2.data.toList.length ≤ 16 := hz.2
    rw [ba_len] at e1 e2
    omega)
  clear hR1 hR2 hb1 hb2 hle1 hle2
  obtain ⟨bb, hbb⟩ : ∃ bb, bb = w.heap.size := ⟨_, rfl⟩
  go_enter Tryd.func8, Tryd.ntmps8
  go_upto_region 3 with fail
  generalize hw1 : World.alloc (World.alloc w _) _ = w1
  rw [← hbb]
  have hx1 : Below w.heap.size w w1 := by rw [← hw1]; exact Below.next (Below.new _ _) (Below.new _ _)
  have hk1 : Blk w1 bb (cmA ses1 who1 kind1 a1 b1 c1 d1 text1 login1) := by rw [← hw1, hbb]; exact Blk.below (Below.new _ _) (Blk.new w _ _)
  have hk2 : Blk w1 (bb + 1) (cmA ses2 who2 kind2 a2 b2 c2 d2 text2 login2) := by
    have := Blk.new (w.alloc (.cells (cmA ses1 who1 kind1 a1 b1 c1 d1 text1 login1) 60)) (cmA ses2 who2 kind2 a2 b2 c2 d2 text2 login2) 60
    rw [← hw1, hbb]
    have e : (w.alloc (.cells (cmA ses1 who1 kind1 a1 b1 c1 d1 text1 login1) 60)).heap.size = w.heap.size + 1 := by simp
    rw [e] at this
    exact this
  have HB1 := hid hx1
  have HK1 := hid hk1
  have HM1 := hid hk2
  clear hw1 hbb hx1 hk1 hk2
  unfold cmA at HK1 HM1
  obtain ⟨k0, k1, k2, k3, k4, k5, k6, k7, k8⟩ := HK1.out.cells9
  cases R1 with
  | false =>
    go_wp2_with fail
    refine (order_BytesNoX ses1 who1 kind1 a1 b1 c1 d1 text1 login1 w1 HZ.out.1.1 HZ.out.1.2 HR1).mono ?_
    rintro e w2 ⟨rfl, hbx⟩
    have HB2 := hid (Below.next HB1.out hbx)
    have HK2 := hid (HK1.out.below hbx)
    have HM2 := hid (HM1.out.below hbx)
    clear hbx k0 k1 k2 k3 k4 k5 k6 k7 k8
    obtain ⟨k0, k1, k2, k3, k4, k5, k6, k7, k8⟩ := HM2.out.cells9
    cases R2 with
    | false =>
      go_wp2_with fail
      refine (order_BytesNoX ses2 who2 kind2 a2 b2 c2 d2 text2 login2 w2 HZ.out.2.1 HZ.out.2.2 HR2).mono ?_
      rintro e w4 ⟨rfl, hbx⟩
      have HB3 := hid (Below.next HB2.out hbx)
      have HK3 := hid (HK2.out.below hbx)
      have HM3 := hid (HM2.out.below hbx)
      clear hbx k0 k1 k2 k3 k4 k5 k6 k7 k8
      go_wp2_with fail
      refine (law27_awake _).mono ?_
      rintro e w5 ⟨rfl, hb5⟩
      have HB5 := hid (Below.next HB3.out hb5)
      clear hb5
      go_wp2_with fail
      go_ret
      exact ⟨rfl, HB5.out⟩
    | true =>
      go_wp2_with fail
      refine (order_BytesYes ses2 who2 kind2 a2 b2 c2 d2 text2 login2 w2 (HS2.out (by trivial)).1 (HS2.out (by trivial)).2 hok2 HR2 l2 HA2).mono ?_
      rintro e w4 ⟨v2, rfl, ho2, hbx⟩
      have HB3 := hid (Below.next HB2.out hbx)
      have HK3 := hid (HK2.out.below hbx)
      have HM3 := hid (HM2.out.below hbx)
      obtain ⟨x2, y2, rfl, -⟩ := ownsRow.slb ho2 (by have := HLE2.out (by trivial); omega)
      clear ho2
      clear hbx k0 k1 k2 k3 k4 k5 k6 k7 k8
      go_wp2_with fail
      refine (law27_awake _).mono ?_
      rintro e w5 ⟨rfl, hb5⟩
      have HB5 := hid (Below.next HB3.out hb5)
      clear hb5
      go_wp2_with fail
      go_ret
      exact ⟨rfl, HB5.out⟩
  | true =>
    go_wp2_with fail
    refine (order_BytesYes ses1 who1 kind1 a1 b1 c1 d1 text1 login1 w1 (HS1.out (by trivial)).1 (HS1.out (by trivial)).2 hok1 HR1 l1 HA1).mono ?_
    rintro e w2 ⟨v1, rfl, ho1, hbx⟩
    have HSa := hid (ownsRow.slb ho1 (by have := HLE1.out (by trivial); omega))
    obtain ⟨x1, y1, rfl, -⟩ := HSa.out
    clear ho1
    have HB2 := hid (Below.next HB1.out hbx)
    have HK2 := hid (HK1.out.below hbx)
    have HM2 := hid (HM1.out.below hbx)
    clear k0 k1 k2 k3 k4 k5 k6 k7 k8
    obtain ⟨k0, k1, k2, k3, k4, k5, k6, k7, k8⟩ := HM2.out.cells9
    cases R2 with
    | false =>
      clear hbx
      go_wp2_with fail
      refine (order_BytesNoX ses2 who2 kind2 a2 b2 c2 d2 text2 login2 w2 HZ.out.2.1 HZ.out.2.2 HR2).mono ?_
      rintro e w4 ⟨rfl, hbx⟩
      have HB3 := hid (Below.next HB2.out hbx)
      have HK3 := hid (HK2.out.below hbx)
      have HM3 := hid (HM2.out.below hbx)
      clear hbx k0 k1 k2 k3 k4 k5 k6 k7 k8
      go_wp2_with fail
      refine (law27_awake _).mono ?_
      rintro e w5 ⟨rfl, hb5⟩
      have HB5 := hid (Below.next HB3.out hb5)
      clear hb5
      go_wp2_with fail
      go_ret
      exact ⟨rfl, HB5.out⟩
    | true =>
      clear hbx
      go_wp2_with fail
      refine (order_BytesYes ses2 who2 kind2 a2 b2 c2 d2 text2 login2 w2 (HS2.out (by trivial)).1 (HS2.out (by trivial)).2 hok2 HR2 l2 HA2).mono ?_
      rintro e w4 ⟨v2, rfl, ho2, hbx⟩
      have HB3 := hid (Below.next HB2.out hbx)
      have HK3 := hid (HK2.out.below hbx)
      have HM3 := hid (HM2.out.below hbx)
      have HSb := hid (ownsRow.slb ho2 (by have := HLE2.out (by trivial); omega))
      obtain ⟨x2, y2, rfl, -⟩ := HSb.out
      have HSc := hid (HSa.out.below hbx)
      have HSa3 := HSc
      clear hbx ho2 k0 k1 k2 k3 k4 k5 k6 k7 k8
      go_upto_region 7 with fail
      have hst1 := HSa3.out.str
      have hst2 := HSb.out.str
      have p0 := fun y hy => (HK3.out.below (w' := y) hy).cells9.1
      have p1 := fun y hy => (HK3.out.below (w' := y) hy).cells9.2.1
      have p2 := fun y hy => (HK3.out.below (w' := y) hy).cells9.2.2.1
      have p3 := fun y hy => (HK3.out.below (w' := y) hy).cells9.2.2.2.1
      have p4 := fun y hy => (HK3.out.below (w' := y) hy).cells9.2.2.2.2.1
      have p5 := fun y hy => (HK3.out.below (w' := y) hy).cells9.2.2.2.2.2.1
      have p6 := fun y hy => (HK3.out.below (w' := y) hy).cells9.2.2.2.2.2.2.1
      have p7 := fun y hy => (HK3.out.below (w' := y) hy).cells9.2.2.2.2.2.2.2.1
      have p8 := fun y hy => (HK3.out.below (w' := y) hy).cells9.2.2.2.2.2.2.2.2
      have r0 := fun y hy => (HM3.out.below (w' := y) hy).cells9.1
      have r1 := fun y hy => (HM3.out.below (w' := y) hy).cells9.2.1
      have r2 := fun y hy => (HM3.out.below (w' := y) hy).cells9.2.2.1
      have r3 := fun y hy => (HM3.out.below (w' := y) hy).cells9.2.2.2.1
      have r4 := fun y hy => (HM3.out.below (w' := y) hy).cells9.2.2.2.2.1
      have r5 := fun y hy => (HM3.out.below (w' := y) hy).cells9.2.2.2.2.2.1
      have r6 := fun y hy => (HM3.out.below (w' := y) hy).cells9.2.2.2.2.2.2.1
      have r7 := fun y hy => (HM3.out.below (w' := y) hy).cells9.2.2.2.2.2.2.2.1
      have r8 := fun y hy => (HM3.out.below (w' := y) hy).cells9.2.2.2.2.2.2.2.2
      obtain ⟨E, hE⟩ : ∃ E, E = decide (ses1 = ses2 ∧ who1 = who2 ∧ kind1 = kind2 ∧ a1 = a2 ∧ b1 = b2 ∧ c1 = c2 ∧ d1 = d2 ∧ text1.toList = text2.toList ∧ login1.toList = login2.toList) := ⟨_, rfl⟩
      have hEl : (l1 == l2) = E := by
        have := bytes_apart _ _ hok1.out hok2.out HR1.out HR2.out
        rw [HA1.out, HA2.out, cm_eq_iff] at this
        rw [hE, Bool.eq_iff_iff, decide_eq_true_eq, beq_iff_eq]
        exact this
      have hite : ∀ y : World, (if ses1 = ses2 then (if who1 = who2 then (if kind1 = kind2 then (if a1 = a2 then (if b1 = b2 then (if c1 = c2 then (if d1 = d2 then (if text1.toList = text2.toList then (if login1.toList = login2.toList then Result.ok (Next.value (Value.bool true)) y else Result.ok (Next.value (Value.bool false)) y) else Result.ok (Next.value (Value.bool false)) y) else Result.ok (Next.value (Value.bool false)) y) else Result.ok (Next.value (Value.bool false)) y) else Result.ok (Next.value (Value.bool false)) y) else Result.ok (Next.value (Value.bool false)) y) else Result.ok (Next.value (Value.bool false)) y) else Result.ok (Next.value (Value.bool false)) y) else Result.ok (Next.value (Value.bool false)) y) = Result.ok (Next.value (Value.bool E)) y := by
        intro y
        by_cases hall : ses1 = ses2 ∧ who1 = who2 ∧ kind1 = kind2 ∧ a1 = a2 ∧ b1 = b2 ∧ c1 = c2 ∧ d1 = d2 ∧ text1.toList = text2.toList ∧ login1.toList = login2.toList
        · obtain ⟨g1, g2, g3, g4, g5, g6, g7, g8, g9⟩ := hall
          rw [if_pos g1, if_pos g2, if_pos g3, if_pos g4, if_pos g5, if_pos g6, if_pos g7, if_pos g8, if_pos g9, hE, decide_eq_true ⟨g1, g2, g3, g4, g5, g6, g7, g8, g9⟩]
        · rw [hE, decide_eq_false hall]
          repeat' split
          all_goals first | rfl | exact absurd ⟨by assumption, by assumption, by assumption, by assumption, by assumption, by assumption, by assumption, by assumption, by assumption⟩ hall
      have hy7 := (Below.refl w4.heap.size w4).drew
      clear hE
      refine wp_region_kept [12] (fun y => Below w4.heap.size w4 y) (by kernel_rfl) (by assumption) (fun hH => ?_)
      refine wpK.take (i := 0) (v := _) (by simp only [List.getElem?_toArray, List.getElem?_cons_succ, List.getElem?_cons_zero]; rfl) (by kernel_rfl) (by kernel_rfl) (by kernel_rfl) (by kernel_rfl) (by kernel_rfl) (by exact fun _ _ _ h => h) (by first | exact Or.inl ⟨by rfl, by intro w hSw; go_simp; try with_reducible rfl⟩ | exact Or.inr ⟨by rfl, rfl⟩) hH ?_
      try simp only [Act.put, List.setIfInBounds_toArray, List.set_cons_zero, List.set_cons_succ]
      refine wpK.take (i := 1) (v := _) (by simp only [List.getElem?_toArray, List.getElem?_cons_succ, List.getElem?_cons_zero]; rfl) (by kernel_rfl) (by kernel_rfl) (by kernel_rfl) (by kernel_rfl) (by kernel_rfl) (by exact fun _ _ _ h => h) (by first | exact Or.inl ⟨by rfl, by intro w hSw; go_simp; try with_reducible rfl⟩ | exact Or.inr ⟨by rfl, rfl⟩) hH ?_
      try simp only [Act.put, List.setIfInBounds_toArray, List.set_cons_zero, List.set_cons_succ]
      refine wpK.take (i := 2) (v := _) (by simp only [List.getElem?_toArray, List.getElem?_cons_succ, List.getElem?_cons_zero]; rfl) (by kernel_rfl) (by kernel_rfl) (by kernel_rfl) (by kernel_rfl) (by kernel_rfl) (by exact fun _ _ _ h => h) (by first | exact Or.inl ⟨by rfl, by intro w hSw; go_simp; try with_reducible rfl⟩ | exact Or.inr ⟨by rfl, rfl⟩) hH ?_
      try simp only [Act.put, List.setIfInBounds_toArray, List.set_cons_zero, List.set_cons_succ]
      refine wpK.take (i := 3) (v := _) (by simp only [List.getElem?_toArray, List.getElem?_cons_succ, List.getElem?_cons_zero]; rfl) (by kernel_rfl) (by kernel_rfl) (by kernel_rfl) (by kernel_rfl) (by kernel_rfl) (by exact fun _ _ _ h => h) (by first | exact Or.inl ⟨by rfl, by intro w hSw; go_simp; try with_reducible rfl⟩ | exact Or.inr ⟨by rfl, rfl⟩) hH ?_
      try simp only [Act.put, List.setIfInBounds_toArray, List.set_cons_zero, List.set_cons_succ]
      refine wpK.take (i := 4) (v := _) (by simp only [List.getElem?_toArray, List.getElem?_cons_succ, List.getElem?_cons_zero]; rfl) (by kernel_rfl) (by kernel_rfl) (by kernel_rfl) (by kernel_rfl) (by kernel_rfl) (by exact fun _ _ _ h => h) (by first | exact Or.inl ⟨by rfl, by intro w hSw; go_simp; try with_reducible rfl⟩ | exact Or.inr ⟨by rfl, rfl⟩) hH ?_
      try simp only [Act.put, List.setIfInBounds_toArray, List.set_cons_zero, List.set_cons_succ]
      refine wpK.take (i := 5) (v := _) (by simp only [List.getElem?_toArray, List.getElem?_cons_succ, List.getElem?_cons_zero]; rfl) (by kernel_rfl) (by kernel_rfl) (by kernel_rfl) (by kernel_rfl) (by kernel_rfl) (by exact fun _ _ _ h => h) (by first | exact Or.inl ⟨by rfl, by intro w hSw; go_simp; try with_reducible rfl⟩ | exact Or.inr ⟨by rfl, rfl⟩) hH ?_
      try simp only [Act.put, List.setIfInBounds_toArray, List.set_cons_zero, List.set_cons_succ]
      refine wpK.take (i := 6) (v := _) (by simp only [List.getElem?_toArray, List.getElem?_cons_succ, List.getElem?_cons_zero]; rfl) (by kernel_rfl) (by kernel_rfl) (by kernel_rfl) (by kernel_rfl) (by kernel_rfl) (by exact fun _ _ _ h => h) (by first | exact Or.inl ⟨by rfl, by intro w hSw; go_simp; try with_reducible rfl⟩ | exact Or.inr ⟨by rfl, rfl⟩) hH ?_
      try simp only [Act.put, List.setIfInBounds_toArray, List.set_cons_zero, List.set_cons_succ]
      refine wpK.take (i := 7) (v := _) (by simp only [List.getElem?_toArray, List.getElem?_cons_succ, List.getElem?_cons_zero]; rfl) (by kernel_rfl) (by kernel_rfl) (by kernel_rfl) (by kernel_rfl) (by kernel_rfl) (by exact fun _ _ _ h => h) (by first | exact Or.inl ⟨by rfl, by intro w hSw; go_simp; try with_reducible rfl⟩ | exact Or.inr ⟨by rfl, rfl⟩) hH ?_
      try simp only [Act.put, List.setIfInBounds_toArray, List.set_cons_zero, List.set_cons_succ]
      refine wpK.take (i := 8) (v := _) (by simp only [List.getElem?_toArray, List.getElem?_cons_succ, List.getElem?_cons_zero]; rfl) (by kernel_rfl) (by kernel_rfl) (by kernel_rfl) (by kernel_rfl) (by kernel_rfl) (by exact fun _ _ _ h => h) (by first | exact Or.inl ⟨by rfl, by intro w hSw; go_simp; try with_reducible rfl⟩ | exact Or.inr ⟨by rfl, rfl⟩) hH ?_
      try simp only [Act.put, List.setIfInBounds_toArray, List.set_cons_zero, List.set_cons_succ]
      refine wpK.take (i := 9) (v := _) (by simp only [List.getElem?_toArray, List.getElem?_cons_succ, List.getElem?_cons_zero]; rfl) (by kernel_rfl) (by kernel_rfl) (by kernel_rfl) (by kernel_rfl) (by kernel_rfl) (by exact fun _ _ _ h => h) (by first | exact Or.inl ⟨by rfl, by intro w hSw; go_simp; try with_reducible rfl⟩ | exact Or.inr ⟨by rfl, rfl⟩) hH ?_
      try simp only [Act.put, List.setIfInBounds_toArray, List.set_cons_zero, List.set_cons_succ]
      refine wpK.step (i := 10) (by kernel_rfl) (by simp only [List.getElem?_toArray, List.getElem?_cons_succ, List.getElem?_cons_zero]; rfl) (fun K hK => ?_)
      go_simp
      (refine (law27_awake _).mono ?_); rintro e wn ⟨rfl, hbn⟩; (have hyn := Below.next (by assumption) hbn); clear hbn; go_simp
      refine hK.out _ _ (by assumption) (fun hH => ?_)
      clear hK K
      try simp only [Act.put, List.setIfInBounds_toArray, List.set_cons_zero, List.set_cons_succ]
      refine wpK.take (i := 11) (v := _) (by simp only [List.getElem?_toArray, List.getElem?_cons_succ, List.getElem?_cons_zero]; rfl) (by kernel_rfl) (by kernel_rfl) (by kernel_rfl) (by kernel_rfl) (by kernel_rfl) (by exact fun _ _ _ h => h) (by first | exact Or.inl ⟨by rfl, by intro w hSw; go_simp; try with_reducible rfl⟩ | exact Or.inr ⟨by rfl, rfl⟩) hH ?_
      try simp only [Act.put, List.setIfInBounds_toArray, List.set_cons_zero, List.set_cons_succ]
      refine wpK.late (i := 12) (by kernel_rfl) (by simp only [List.getElem?_toArray, List.getElem?_cons_succ, List.getElem?_cons_zero]; rfl) (by kernel_rfl) (fun K hK => ?_)
      go_simp
      refine hK.out _ _ ?_
      clear hK K
      try simp only [Act.put, List.setIfInBounds_toArray, List.set_cons_zero, List.set_cons_succ]
      refine wpK.done (by kernel_rfl) ?_ _
      have HYN := hid hyn
      clear p0 p1 p2 p3 p4 p5 p6 p7 p8 r0 r1 r2 r3 r4 r5 r6 r7 r8 hst1 hst2 hy7 hite hEl hyn
      go_wp2_with fail
      go_ret
      exact ⟨rfl, Below.next HB3.out HYN.out⟩
set_option maxRecDepth 100000 in
set_option maxHeartbeats 2000000 in
theorem OrderApart_walk {H : Type} {enc : TypeId × Value → H} {b0 b1 : Nat} {d0 d1 : DataW H} {p0 p1 : List MemPlace} (v0 v1 : Value) (w : World) (ok0 : Value.okWide Tryd.prog w .any b0 60 v0) (k0 : DataW.Trod enc Tryd.prog w 0 (fun _ => true) true 60 v0 d0 p0) (ok1 : Value.okWide Tryd.prog w .any b1 60 v1) (k1 : DataW.Trod enc Tryd.prog w 0 (fun _ => true) true 60 v1 d1 p1) :
    Calls Tryd.prog 8 #[v0, v1] w fun e w' => e = .returned (.bool true) ∧ Below w.heap.size w w' := by
  obtain ⟨ses1, who1, kind1, a1, b1', c1, d1', text1, login1, rfl, hwf1, h1, h2⟩ := open_cm ok0 k0
  obtain ⟨ses2, who2, kind2, a2, b2, c2, d2, text2, login2, rfl, hwf2, h3, h4⟩ := open_cm ok1 k1
  clear ok0 k0 ok1 k1
  unfold maxLen at h1 h2 h3 h4
  have HK : Hid (∀ x y, Below w.heap.size w ((w.alloc x).alloc y)) := hid fun x y => Below.next (Below.new w x) (Below.new _ _)
  have HZ := hid (show (login1.size ≤ 9223372036854775807 ∧ text1.size ≤ 9223372036854775807) ∧ login2.size ≤ 9223372036854775807 ∧ text2.size ≤ 9223372036854775807 from ⟨⟨h2, h1⟩, h4, h3⟩)
  have HO1 := hid (wf7 hwf1 text1 login1)
  have HO2 := hid (wf7 hwf2 text2 login2)
  obtain ⟨S1, hw1⟩ : ∃ S, wrap64 ((login1.size : Int) + (text1.size : Int)) = S := ⟨_, rfl⟩
  obtain ⟨S2, hw2⟩ : ∃ S, wrap64 ((login2.size : Int) + (text2.size : Int)) = S := ⟨_, rfl⟩
  clear hwf1 hwf2 h1 h2 h3 h4
  by_cases i1 : (100 : Int) < S1
  · go_enter Tryd.func8, Tryd.ntmps8
    go_wp2_with fail
    refine (law27_awake _).mono ?_
    rintro e w4 ⟨rfl, hb4⟩
    have HB4 := hid (Below.next (HK.out _ _) hb4)
    clear hb4
    go_wp2_with fail
    go_ret
    exact ⟨rfl, HB4.out⟩
  by_cases i2 : (100 : Int) < S2
  · go_enter Tryd.func8, Tryd.ntmps8
    go_wp2_with fail
    refine (law27_awake _).mono ?_
    rintro e w4 ⟨rfl, hb4⟩
    have HB4 := hid (Below.next (HK.out _ _) hb4)
    clear hb4
    go_wp2_with fail
    go_ret
    exact ⟨rfl, HB4.out⟩
  exact law27_Apart _ _ _ _ _ _ _ _ _ _ _ _ _ _ _ _ _ _ w S1 S2 hw1 hw2 i1 i2 HZ HO1 HO2
end Go.Proofs.YtcjdlckfbkdibaaDoor
end
