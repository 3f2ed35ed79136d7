/- Joined texts, in this order: Slots4. Each one's first remark says what it proves; no condition beyond those that its theorems name. -/
import Derived.Test.YtohknblokejldaaJLawDiskCopies16
import Derived.Test.YtohknblokejldaaJLawDiskCopies07
import Derived.Test.YtohknblokejldaaJLawDiskCopies08
import Derived.Test.YtohknblokejldaaJLawDiskCopies17
section
/- Contracts of the package slots: slot, Save. -/
namespace Go.Proofs.Ytohknblokejldaa
open Go.RowKit
open Go.Lib (hid)
set_option linter.unusedVariables false

theorem slots_slot (e : Int) (l : List Int) (v : Value) (w : World) (hs : SlI w v l) (h0 : 0 ≤ e) : Calls Try.prog 65 #[.agg #[.int .i64 e, v]] w fun en w' => en = .returned (.int .i64 (e % 2)) ∧ Below w.heap.size w w' := by
  have HK : Hid (∀ x, Below w.heap.size w (w.alloc x)) := hid fun x => Below.new w x
  obtain ⟨a, c, rfl, -⟩ := hs
  go_enter Try.func65, Try.ntmps65
  go_wp2
  go_ret
  exact ⟨rfl, HK.out _⟩
/-- what Save does -/
def dkSave (s : Dk) (e : Int) (l : List Int) : Int × Dk :=
  if (outB e l (s.size : Int)).2 ≠ 0 then ((outB e l (s.size : Int)).2, s) else if s.D.length < 2 then (11, s) else
    if (dkWrite s (e % 2) (outB e l (s.size : Int)).1).1 ≠ 0 then dkWrite s (e % 2) (outB e l (s.size : Int)).1 else dkFlush (dkWrite s (e % 2) (outB e l (s.size : Int)).1).2
theorem outB_len {e : Int} {l : List Int} {size : Nat} (h : (outB e l (size : Int)).2 = 0) : (outB e l (size : Int)).1.length = size ∧ rightR e l = true := by
  unfold outB at h ⊢
  by_cases hr : rightR e l = true
  · rw [if_pos hr] at h ⊢
    unfold bytesR at h ⊢
    by_cases hc : (size : Int) < 14 ∨ 65544 < (size : Int) ∨ (size : Int) < ((plainR e l).length : Int) + 14
    · rw [if_pos hc] at h; simp at h
    · rw [if_neg hc]
      refine ⟨?_, hr⟩
      simp only [List.length_append, be8_len]
      unfold fitted
      rw [List.length_append, lowB_length, fitL_length _ _ (by omega)]
      omega
  · rw [if_neg hr] at h; simp at h
set_option maxRecDepth 100000 in
set_option maxHeartbeats 2000000 in
theorem slots_Save (s : Dk) (hok : s.Ok) (e : Int) (l : List Int) (v : Value) (g : Nat) (W R : Nat → Prop) (w : World) (h : DiskIs w g W R s) (hs : SlI w v l) (er : Int) (s' : Dk) (hr : Hid (dkSave s e l = (er, s'))) :
    Calls Try.prog 23 #[.pointer (some ⟨g, 0, none⟩), .agg #[.int .i64 e, v]] w fun en w' => ∃ R', en = .returned (.int .i64 er) ∧ DiskIs w' g W R' s' ∧ (∀ k, R' k → R k ∨ w.heap.size ≤ k) ∧ Upd W w w' := by
  have HI0 := hid h
  have HS0 := hid hs
  have HOK := hid hok
  obtain ⟨a, c, rfl, -⟩ := hs
  obtain ⟨wb, hwb⟩ : ∃ wb, wb = w.alloc (.cells #[.int .i64 e, .slice a l.length c] 24) := ⟨_, rfl⟩
  have HWB := hid hwb
  have HKB : Hid (Below w.heap.size w wb) := hid (by rw [hwb]; exact Below.new _ _)
  have HBX : Hid (Blk wb w.heap.size #[.int .i64 e, .slice a l.length c]) := hid (by rw [hwb]; exact Blk.new _ _ _)
  have HI := hid (HI0.out.below HKB.out)
  have HS := hid (HS0.out.below HKB.out)
  have hsz := hok.sz
  have hsz0 := hok.sz0
  obtain ⟨b, eb, hb⟩ : ∃ b eb, outB e l (s.size : Int) = (b, eb) := ⟨_, _, rfl⟩
  have h1 := hr.out
  unfold dkSave at h1
  rw [hb] at h1
  simp only at h1
  have HB := hid hb
  have H1 := hid h1
  clear hwb h hok hb h1 hr
  have hq0 : ∀ x, Below wb.heap.size wb x → x.cell? ⟨w.heap.size, 0, none⟩ = some (.int .i64 e) := fun x hx => by rw [(HBX.out.below hx).cell]; rfl
  have hq1 : ∀ x, Below wb.heap.size wb x → x.cell? ⟨w.heap.size, 1, none⟩ = some (.slice a l.length c) := fun x hx => by rw [(HBX.out.below hx).cell]; rfl
  go_enter Try.func23, Try.ntmps23
  go_wp2_with fail
  rw [← HWB.out]
  go_upto_region 1 with fail
  go_cut [5, 6] (fun c5 c6 wx => c6 = .int .i64 eb ∧ Below wb.heap.size wb wx ∧ wx.ownsRow wb.heap.size 5 1 c5 b.length (bv b))
  case first =>
    have hka := (Below.refl wb.heap.size wb).drew
    refine wp_region_kept [] (fun x => Below wb.heap.size wb x) (by kernel_rfl) (by assumption) (fun hH => ?_)
    refine wpK.take (i := 0) (v := _) (by simp only [List.getElem?_toArray, List.getElem?_cons_succ, List.getElem?_cons_zero]; rfl) (by kernel_rfl) (by kernel_rfl) (by kernel_rfl) (by kernel_rfl) (by kernel_rfl) (by exact fun _ _ _ h => h) (by first | exact Or.inl ⟨by rfl, by intro w hSw; go_simp; try with_reducible rfl⟩ | exact Or.inr ⟨by rfl, rfl⟩) hH ?_
    try simp only [Act.put, List.setIfInBounds_toArray, List.set_cons_zero, List.set_cons_succ]
    refine wpK.take (i := 1) (v := _) (by simp only [List.getElem?_toArray, List.getElem?_cons_succ, List.getElem?_cons_zero]; rfl) (by kernel_rfl) (by kernel_rfl) (by kernel_rfl) (by kernel_rfl) (by kernel_rfl) (by exact fun _ _ _ h => h) (by first | exact Or.inl ⟨by rfl, by intro w hSw; go_simp; try with_reducible rfl⟩ | exact Or.inr ⟨by rfl, rfl⟩) hH ?_
    try simp only [Act.put, List.setIfInBounds_toArray, List.set_cons_zero, List.set_cons_succ]
    refine wpK.inv (le := fun w w' => Below w.heap.size w w') (fun w => Below.refl _ w) (fun _ _ _ h k => Below.next h k) (m := 0) [2, 3, 4, 5, 6, 7, 8] (fun i => match i with | 3 => [2] | 4 => [3] | 5 => [4, 3] | 6 => [4, 3] | 7 => [5] | 8 => [6] | _ => []) (fun i => match i with | 2 => fun u w => u 2 = .int .i64 (s.size : Int) | 3 => fun u w => ∃ v3, u 3 = .tuple #[v3, .int .i64 eb] ∧ w.ownsRow wb.heap.size 5 1 v3 b.length (bv b) | 4 => fun u w => u 4 = u 3 | 5 => fun u w => ∃ v3, u 5 = v3 ∧ w.ownsRow wb.heap.size 5 1 v3 b.length (bv b) | 6 => fun u w => u 6 = .int .i64 eb | 7 => fun u w => u 7 = u 5 | 8 => fun u w => u 8 = u 6 | _ => fun _ _ => True) (by kernel_rfl) ⟨(fun _ _ _ _ h => h), (fun u w w' hb h => by obtain ⟨v3, h1, h2⟩ := h; exact ⟨v3, h1, owns_below h2 hb⟩), (fun _ _ _ _ h => h), (fun u w w' hb h => by obtain ⟨v3, h1, h2⟩ := h; exact ⟨v3, h1, owns_below h2 hb⟩), (fun _ _ _ _ h => h), (fun _ _ _ _ h => h), (fun _ _ _ _ h => h), trivial⟩ ⟨(by dsimp only; intro u j v w h1 h2 h; have e0 := upd_ne u v (Ne.symm h1); simp only [e0]; exact h), (by dsimp only; intro u j v w h1 h2 h; simp only [List.mem_cons, List.not_mem_nil, or_false, not_or] at h2; have e0 := upd_ne u v (Ne.symm h1); have e1 := upd_ne u v (Ne.symm h2); simp only [e0, e1]; exact h), (by dsimp only; intro u j v w h1 h2 h; simp only [List.mem_cons, List.not_mem_nil, or_false, not_or] at h2; have e0 := upd_ne u v (Ne.symm h1); have e1 := upd_ne u v (Ne.symm h2); simp only [e0, e1]; exact h), (by dsimp only; intro u j v w h1 h2 h; simp only [List.mem_cons, List.not_mem_nil, or_false, not_or] at h2; have e0 := upd_ne u v (Ne.symm h1); have e1 := upd_ne u v (Ne.symm h2.1); have e2 := upd_ne u v (Ne.symm h2.2); simp only [e0, e1, e2]; exact h), (by dsimp only; intro u j v w h1 h2 h; simp only [List.mem_cons, List.not_mem_nil, or_false, not_or] at h2; have e0 := upd_ne u v (Ne.symm h1); have e1 := upd_ne u v (Ne.symm h2.1); have e2 := upd_ne u v (Ne.symm h2.2); simp only [e0, e1, e2]; exact h), (by dsimp only; intro u j v w h1 h2 h; simp only [List.mem_cons, List.not_mem_nil, or_false, not_or] at h2; have e0 := upd_ne u v (Ne.symm h1); have e1 := upd_ne u v (Ne.symm h2); simp only [e0, e1]; exact h), (by dsimp only; intro u j v w h1 h2 h; simp only [List.mem_cons, List.not_mem_nil, or_false, not_or] at h2; have e0 := upd_ne u v (Ne.symm h1); have e1 := upd_ne u v (Ne.symm h2); simp only [e0, e1]; exact h), trivial⟩ (fun _ h => Below.next hH h) (fun u => ?_)
    generalize hacts : acts _ _ u _ = A_
    simp only [acts, dstOf, List.getElem?_toArray, List.getElem?_cons_succ, List.getElem?_cons_zero, Option.bind_some, Act.put, List.setIfInBounds_toArray, List.set_cons_succ, List.set_cons_zero] at hacts
    subst hacts
    refine ⟨⟨?_, ?_, ?_, ?_, ?_, ?_, ?_, trivial⟩, ?_⟩
    · intro wx hw h_
      clear h_
      apply wpOp_stepI (i := 2) (le := fun w w' => Below w.heap.size w w') (φ := fun v w' => (fun u w => u 2 = .int .i64 (s.size : Int)) (upd u 2 v) w')
      · simp only [List.getElem?_toArray, List.getElem?_cons_succ, List.getElem?_cons_zero]; rfl
      · rfl
      intro K hK
      go_simp
      refine (disk_Size s g W R _ (HI.out.below (Below.next hka hw))).mono ?_
      rintro en w' ⟨rfl, rfl⟩
      go_simp
      exact hK.out _ _ (Below.refl _ _) rfl
    · intro wx hw h_
      have h_2 : (fun u w => u 2 = .int .i64 (s.size : Int)) u wx := h_.1
      try dsimp only at h_2
      clear h_
      apply wpOp_stepI (i := 3) (le := fun w w' => Below w.heap.size w w') (φ := fun v w' => (fun u w => ∃ v3, u 3 = .tuple #[v3, .int .i64 eb] ∧ w.ownsRow wb.heap.size 5 1 v3 b.length (bv b)) (upd u 3 v) w')
      · simp only [List.getElem?_toArray, List.getElem?_cons_succ, List.getElem?_cons_zero]; rfl
      · rfl
      intro K hK
      simp only [h_2] at hK ⊢
      go_simp
      refine (slots_Bytes e l _ (s.size : Int) _ (HS.out.below (Below.next hka hw)) (by omega) (by omega) b eb HB).mono ?_
      rintro en w8 ⟨v8, rfl, hown8, hb8⟩
      go_simp
      exact hK.out _ _ hb8 ⟨v8, rfl, ownsRow_base hown8 (Below.next hka hw).size⟩
    · intro wx hw h_
      have h_3 : (fun u w => ∃ v3, u 3 = .tuple #[v3, .int .i64 eb] ∧ w.ownsRow wb.heap.size 5 1 v3 b.length (bv b)) u wx := h_.1
      try dsimp only at h_3
      clear h_
      apply wpOp_stepI (i := 4) (le := fun w w' => Below w.heap.size w w') (φ := fun v w' => (fun u w => u 4 = u 3) (upd u 4 v) w')
      · simp only [List.getElem?_toArray, List.getElem?_cons_succ, List.getElem?_cons_zero]; rfl
      · rfl
      intro K hK
      go_simp
      exact hK.out (u 3) _ (Below.refl _ _) rfl
    · intro wx hw h_
      have h_4 : (fun u w => u 4 = u 3) u wx := h_.1
      try dsimp only at h_4
      have h_3 : (fun u w => ∃ v3, u 3 = .tuple #[v3, .int .i64 eb] ∧ w.ownsRow wb.heap.size 5 1 v3 b.length (bv b)) u wx := h_.2.1
      try dsimp only at h_3
      clear h_
      apply wpOp_stepI (i := 5) (le := fun w w' => Below w.heap.size w w') (φ := fun v w' => (fun u w => ∃ v3, u 5 = v3 ∧ w.ownsRow wb.heap.size 5 1 v3 b.length (bv b)) (upd u 5 v) w')
      · simp only [List.getElem?_toArray, List.getElem?_cons_succ, List.getElem?_cons_zero]; rfl
      · rfl
      intro K hK
      obtain ⟨v3, e3, o3⟩ := h_3
      rw [e3] at h_4
      clear e3
      simp only [h_4] at hK ⊢
      go_simp
      exact hK.out v3 _ (Below.refl _ _) ⟨v3, rfl, o3⟩
    · intro wx hw h_
      have h_4 : (fun u w => u 4 = u 3) u wx := h_.1
      try dsimp only at h_4
      have h_3 : (fun u w => ∃ v3, u 3 = .tuple #[v3, .int .i64 eb] ∧ w.ownsRow wb.heap.size 5 1 v3 b.length (bv b)) u wx := h_.2.1
      try dsimp only at h_3
      clear h_
      apply wpOp_stepI (i := 6) (le := fun w w' => Below w.heap.size w w') (φ := fun v w' => (fun u w => u 6 = .int .i64 eb) (upd u 6 v) w')
      · simp only [List.getElem?_toArray, List.getElem?_cons_succ, List.getElem?_cons_zero]; rfl
      · rfl
      intro K hK
      obtain ⟨v3, e3, o3⟩ := h_3
      rw [e3] at h_4
      clear e3
      simp only [h_4] at hK ⊢
      go_simp
      exact hK.out (.int .i64 eb) _ (Below.refl _ _) rfl
    · intro wx hw h_
      have h_5 : (fun u w => ∃ v3, u 5 = v3 ∧ w.ownsRow wb.heap.size 5 1 v3 b.length (bv b)) u wx := h_.1
      try dsimp only at h_5
      clear h_
      apply wpOp_stepI (i := 7) (le := fun w w' => Below w.heap.size w w') (φ := fun v w' => (fun u w => u 7 = u 5) (upd u 7 v) w')
      · simp only [List.getElem?_toArray, List.getElem?_cons_succ, List.getElem?_cons_zero]; rfl
      · rfl
      intro K hK
      go_simp
      exact hK.out (u 5) _ (Below.refl _ _) rfl
    · intro wx hw h_
      have h_6 : (fun u w => u 6 = .int .i64 eb) u wx := h_.1
      try dsimp only at h_6
      clear h_
      apply wpOp_stepI (i := 8) (le := fun w w' => Below w.heap.size w w') (φ := fun v w' => (fun u w => u 8 = u 6) (upd u 8 v) w')
      · simp only [List.getElem?_toArray, List.getElem?_cons_succ, List.getElem?_cons_zero]; rfl
      · rfl
      intro K hK
      clear h_6
      go_simp
      exact hK.out (u 6) _ (Below.refl _ _) rfl
    · intro wx hw h_
      have h_2 : (fun u w => u 2 = .int .i64 (s.size : Int)) u wx := h_.1
      try dsimp only at h_2
      have h_3 : (fun u w => ∃ v3, u 3 = .tuple #[v3, .int .i64 eb] ∧ w.ownsRow wb.heap.size 5 1 v3 b.length (bv b)) u wx := h_.2.1
      try dsimp only at h_3
      have h_4 : (fun u w => u 4 = u 3) u wx := h_.2.2.1
      try dsimp only at h_4
      have h_5 : (fun u w => ∃ v3, u 5 = v3 ∧ w.ownsRow wb.heap.size 5 1 v3 b.length (bv b)) u wx := h_.2.2.2.1
      try dsimp only at h_5
      have h_6 : (fun u w => u 6 = .int .i64 eb) u wx := h_.2.2.2.2.1
      try dsimp only at h_6
      have h_7 : (fun u w => u 7 = u 5) u wx := h_.2.2.2.2.2.1
      try dsimp only at h_7
      have h_8 : (fun u w => u 8 = u 6) u wx := h_.2.2.2.2.2.2.1
      try dsimp only at h_8
      clear h_
      refine wpK.done (by kernel_rfl) ?_ _
      have hr8 : u 8 = .int .i64 eb := by rw [h_8, h_6]
      have hr7 : wx.ownsRow wb.heap.size 5 1 (u 7) b.length (bv b) := by obtain ⟨v3, e3, o3⟩ := h_5; rw [h_7, e3]; exact o3
      have HX := hid (And.intro hr8 (And.intro (Below.next hka hw) hr7))
      clear h_2 h_3 h_4 h_5 h_6 h_7 h_8 hr8 hr7 hka hw hH hq0 hq1
      go_wp2_with fail
      go_meet
      exact HX.out
  case rest =>
  obtain ⟨rfl, hbx, hown⟩ := hcut
  have HBX2 := hid hbx
  have HOWN := hid hown
  have hK2 : Below w.heap.size w wc := Below.next HKB.out hbx
  have HK2 := hid hK2
  have HBZ := hid (fun (x : World) (hx : Upd W wc x) => (show Upd W w x from (Upd.of_below HK2.out).trans hx (fun _ _ h => h)))
  clear hbx hown hK2 hq0 hq1
  by_cases he : eb = 0
  · have h1 := H1.out
    rw [if_neg (by simpa using he)] at h1
    have he2 : (eb != 0) = false := by simpa using he
    by_cases hd : s.D.length < 2
    · rw [if_pos hd] at h1
      simp only [Prod.mk.injEq] at h1
      obtain ⟨rfl, rfl⟩ := h1
      have hd2 : (s.D.length : Int) < 2 := by omega
      clear he hd
      go_wp2_with fail
      refine (disk_Sectors s g W R _ (HI.out.below HBX2.out)).mono ?_
      rintro en w' ⟨rfl, rfl⟩
      go_wp2_with fail
      go_ret
      exact ⟨R, rfl, HI.out.below HBX2.out, fun k hk => .inl hk, Upd.of_below HK2.out⟩
    · rw [if_neg hd] at h1
      have hd2 : ¬ (s.D.length : Int) < 2 := by omega
      have hbl : b.length = s.size ∧ rightR e l = true := by
        have := outB_len (e := e) (l := l) (size := s.size) (by rw [HB.out]; exact he)
        rw [HB.out] at this
        exact this
      obtain ⟨q1, q2, -, -⟩ := right_bd hbl.2
      obtain ⟨e1, s1, hw1⟩ : ∃ e1 s1, dkWrite s (e % 2) b = (e1, s1) := ⟨_, _, rfl⟩
      rw [hw1] at h1
      simp only at h1
      have HW1 := hid hw1
      have H1' := hid h1
      have HBL := hid hbl
      have hok1 : s1.Ok := by
        unfold dkWrite at hw1
        by_cases hc : dkCheck s (e % 2) ≠ 0
        · rw [if_pos hc] at hw1
          simp only [Prod.mk.injEq] at hw1
          rw [← hw1.2]; exact HOK.out
        · rw [if_neg hc, if_neg (by rw [hbl.1]; simp)] at hw1
          have hsame := dkCommand_same { s with C := aput s.C (e % 2) b }
          have := HOK.out.put (e % 2) b (by omega) (by omega) hbl.1
          rw [hw1] at hsame
          exact this.of_same hsame.1 hsame.2.1 hsame.2.2
      have HOK1 := hid hok1
      obtain ⟨hx0, hx1, -⟩ := (HBX.out.below HBX2.out).c2
      have hslb := ownsRow.slb HOWN.out (by omega)
      have HSLB := hid hslb
      clear he hd hw1 h1 hbl hok1 hslb
      go_wp2_with fail
      refine (disk_Sectors s g W R _ (HI.out.below HBX2.out)).mono ?_
      rintro en w' ⟨rfl, rfl⟩
      go_wp2_with fail
      refine (slots_slot e l _ _ (HS.out.below HBX2.out) (by omega)).mono ?_
      rintro en w3 ⟨rfl, hb3⟩
      have HB3 := hid hb3
      clear hb3
      go_wp2_with fail
      refine (disk_Write s (e % 2) b _ g W R w3 ((HI.out.below HBX2.out).below HB3.out) (HSLB.out.below HB3.out) (by have := HBL.out.1; omega) e1 s1 HW1).mono ?_
      rintro en w4 ⟨R4, rfl, hi4, hr4, hu4⟩
      have HI4 := hid hi4
      have HR4 := hid hr4
      have HU4 : Hid (Upd W wc w4) := hid ((Upd.of_below HB3.out).trans hu4 (fun _ _ h => h))
      have HRR : Hid (∀ k, R4 k → R k ∨ w.heap.size ≤ k) := hid (fun k hk => by
        rcases HR4.out k hk with h | h
        · exact .inl h
        · have := HK2.out.size; have := HB3.out.size; exact .inr (by omega))
      clear hi4 hr4 hu4
      by_cases h0 : e1 = 0
      · have h2 := H1'.out
        rw [if_neg (by simpa using h0)] at h2
        have h02 : (e1 != 0) = false := by simpa using h0
        have H2 := hid h2
        clear h0 h2 hx0 hx1
        go_wp2_with fail
        refine (disk_Flush s1 HOK1.out g W R4 w4 HI4.out er s' H2).mono ?_
        rintro en w5 ⟨rfl, hi5, hu5⟩
        have HP := hid (And.intro hi5 (HBZ.out w5 (HU4.out.trans hu5 (fun _ _ h => h))))
        clear hi5 hu5
        go_wp2_with fail
        go_ret
        exact ⟨R4, rfl, HP.out.1, HRR.out, HP.out.2⟩
      · have h2 := H1'.out
        rw [if_pos (by simpa using h0)] at h2
        simp only [Prod.mk.injEq] at h2
        obtain ⟨rfl, rfl⟩ := h2
        have h02 : (e1 != 0) = true := by simpa using h0
        clear h0 hx0 hx1
        go_wp2_with fail
        go_ret
        exact ⟨R4, rfl, HI4.out, HRR.out, HBZ.out w4 HU4.out⟩
  · have h1 := H1.out
    rw [if_pos (by simpa using he)] at h1
    simp only [Prod.mk.injEq] at h1
    obtain ⟨rfl, rfl⟩ := h1
    have he2 : (eb != 0) = true := by simpa using he
    clear he
    go_wp2_with fail
    go_ret
    exact ⟨R, rfl, HI.out.below HBX2.out, fun k hk => .inl hk, Upd.of_below HK2.out⟩
end Go.Proofs.Ytohknblokejldaa
end
