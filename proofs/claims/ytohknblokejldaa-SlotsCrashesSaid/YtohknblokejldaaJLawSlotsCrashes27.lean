/- Joined texts, in this order: SlotsCrashesLaw. Each one's first remark says what it proves; no condition beyond those that its theorems name. -/
import Derived.Test.YtohknblokejldaaJLawSlotsCrashes23
import Derived.Test.YtohknblokejldaaJLawSlotsCrashes24
import Derived.Test.YtohknblokejldaaJLawSlotsCrashes25
import Derived.Test.YtohknblokejldaaJLawSlotsCrashes26
section
/- The law SlotsCrashes, walked. -/
namespace Go.Proofs.Ytohknblokejldaa
open Go.RowKit Go.ChangeShapes Go.WideShapes Go.Deep Go.Joins
open Go.Lib (hid)
set_option linter.unusedVariables false

theorem Blk.c3 {w : World} {g : Nat} {a b c : Value} (h : Blk w g #[a, b, c]) : w.cell? ⟨g, 0, none⟩ = some a ∧ w.cell? ⟨g, 1, none⟩ = some b ∧ w.cell? ⟨g, 2, none⟩ = some c ∧ w.frozen? ⟨g, 0, none⟩ = false ∧ w.frozen? ⟨g, 1, none⟩ = false ∧ w.frozen? ⟨g, 2, none⟩ = false :=
  ⟨by rw [h.cell]; rfl, by rw [h.cell]; rfl, by rw [h.cell]; rfl, h.unfrozen _, h.unfrozen _, h.unfrozen _⟩
theorem set3_of {x : World} {g : Nat} {c0 c1 c2 : Value} (h : Blk x g #[c0, c1, c2]) (u0 u1 u2 : Value) : ∃ wz, wz = ((x.setCell ⟨g, 0, none⟩ u0).setCell ⟨g, 1, none⟩ u1).setCell ⟨g, 2, none⟩ u2 ∧ Blk wz g #[u0, u1, u2] ∧ Upd (fun k => k = g) x wz :=
  ⟨_, rfl, by simpa using ((h.set 0 u0).set 1 u1).set 2 u2, ((Upd.setCell x g 0 u0).trans (Upd.setCell _ g 1 u1) (fun _ _ q => q)).trans (Upd.setCell _ g 2 u2) (fun _ _ q => q)⟩
def CutC (wb : World) (kv : Value) (arm torn cut : Int) (c7 c8 : Value) (wx : World) : Prop :=
  c7 = .int .i64 arm ∧ ∃ g, c8 = .pointer (some ⟨g, 0, none⟩) ∧ wb.heap.size ≤ g ∧ Blk wx g #[kv, .int .i64 torn, .int .i64 cut] ∧ Below wb.heap.size wb wx
set_option maxRecDepth 100000 in
set_option maxHeartbeats 8000000 in
theorem law06_Crash (t nx keep : List Int) (va vb kv : Value) (arm torn cut : Int) (w : World) (ht : SlI w va t) (hn : SlI w vb nx) (hk : SlI w kv keep) :
    Calls Try.prog 6 #[va, vb, .agg #[.int .i64 arm, kv, .int .i64 torn, .int .i64 cut]] w fun en w' => en = .returned (.bool true) ∧ Below w.heap.size w w' := by
  have HT0 := hid ht
  have HN0 := hid hn
  have HK0 := hid hk
  obtain ⟨at1, ct1, rfl, -, t1, t2, -⟩ := ht
  obtain ⟨an1, cn1, rfl, -, n1, n2, -⟩ := hn
  obtain ⟨ak1, ck1, rfl, -, k1, k2, -⟩ := hk
  have lt63 : t.length ≤ 9223372036854775807 := by omega
  have ln63 : nx.length ≤ 9223372036854775807 := by omega
  have lk63 : keep.length ≤ 9223372036854775807 := by omega
  clear t1 t2 n1 n2 k1 k2
  obtain ⟨wb, hwb⟩ : ∃ wb, wb = w.alloc (.cells #[.int .i64 arm, .slice ak1 keep.length ck1, .int .i64 torn, .int .i64 cut] 51) := ⟨_, rfl⟩
  have HWB := hid hwb
  have HKB : Hid (Below w.heap.size w wb) := hid (by rw [hwb]; exact Below.new _ _)
  have HBX : Hid (Blk wb w.heap.size #[.int .i64 arm, .slice ak1 keep.length ck1, .int .i64 torn, .int .i64 cut]) := hid (by rw [hwb]; exact Blk.new _ _ _)
  clear hwb
  have hq0 : ∀ x, Below wb.heap.size wb x → x.cell? ⟨w.heap.size, 0, none⟩ = some (.int .i64 arm) := fun x hb => by rw [(HBX.out.below hb).cell]; rfl
  have hq1 : ∀ x, Below wb.heap.size wb x → x.cell? ⟨w.heap.size, 1, none⟩ = some (.slice ak1 keep.length ck1) := fun x hb => by rw [(HBX.out.below hb).cell]; rfl
  have hq2 : ∀ x, Below wb.heap.size wb x → x.cell? ⟨w.heap.size, 2, none⟩ = some (.int .i64 torn) := fun x hb => by rw [(HBX.out.below hb).cell]; rfl
  have hq3 : ∀ x, Below wb.heap.size wb x → x.cell? ⟨w.heap.size, 3, none⟩ = some (.int .i64 cut) := fun x hb => by rw [(HBX.out.below hb).cell]; rfl
  go_enter Try.func6, Try.ntmps6
  go_upto_region 1 with fail
  rw [← HWB.out]
  go_cut [7, 8] (fun c7 c8 wx => CutC wb (.slice ak1 keep.length ck1) arm torn cut c7 c8 wx)
  case first =>
    go_wp2_with fail
    have hk0 := (Below.refl wb.heap.size wb).drew
    refine wp_region_kept [6] (fun x => Below wb.heap.size wb x) (by kernel_rfl) (by assumption) (fun hH => ?_)
    refine wpK.take (i := 0) (v := _) (by simp only [List.getElem?_toArray, List.getElem?_cons_succ, List.getElem?_cons_zero]; rfl) (by kernel_rfl) (by kernel_rfl) (by kernel_rfl) (by kernel_rfl) (by kernel_rfl) (by exact fun _ _ _ h => h) (by first | exact Or.inl ⟨by rfl, by intro w hSw; go_simp; try with_reducible rfl⟩ | exact Or.inr ⟨by rfl, rfl⟩) hH ?_
    try simp only [Act.put, List.setIfInBounds_toArray, List.set_cons_zero, List.set_cons_succ]
    refine wpK.take (i := 1) (v := _) (by simp only [List.getElem?_toArray, List.getElem?_cons_succ, List.getElem?_cons_zero]; rfl) (by kernel_rfl) (by kernel_rfl) (by kernel_rfl) (by kernel_rfl) (by kernel_rfl) (by exact fun _ _ _ h => h) (by first | exact Or.inl ⟨by rfl, by intro w hSw; go_simp; try with_reducible rfl⟩ | exact Or.inr ⟨by rfl, rfl⟩) hH ?_
    try simp only [Act.put, List.setIfInBounds_toArray, List.set_cons_zero, List.set_cons_succ]
    refine wpK.take (i := 2) (v := _) (by simp only [List.getElem?_toArray, List.getElem?_cons_succ, List.getElem?_cons_zero]; rfl) (by kernel_rfl) (by kernel_rfl) (by kernel_rfl) (by kernel_rfl) (by kernel_rfl) (by exact fun _ _ _ h => h) (by first | exact Or.inl ⟨by rfl, by intro w hSw; go_simp; try with_reducible rfl⟩ | exact Or.inr ⟨by rfl, rfl⟩) hH ?_
    try simp only [Act.put, List.setIfInBounds_toArray, List.set_cons_zero, List.set_cons_succ]
    refine wpK.take (i := 3) (v := _) (by simp only [List.getElem?_toArray, List.getElem?_cons_succ, List.getElem?_cons_zero]; rfl) (by kernel_rfl) (by kernel_rfl) (by kernel_rfl) (by kernel_rfl) (by kernel_rfl) (by exact fun _ _ _ h => h) (by first | exact Or.inl ⟨by rfl, by intro w hSw; go_simp; try with_reducible rfl⟩ | exact Or.inr ⟨by rfl, rfl⟩) hH ?_
    try simp only [Act.put, List.setIfInBounds_toArray, List.set_cons_zero, List.set_cons_succ]
    refine wpK.inv (le := fun w w' => Below w.heap.size w w') (fun w => Below.refl _ w) (fun _ _ _ h k => Below.next h k) (m := 1) [4, 5] (fun i => match i with | 5 => [4] | _ => []) (fun i => match i with | 4 => fun u w => ∃ g, u 4 = .pointer (some ⟨g, 0, none⟩) ∧ wb.heap.size ≤ g ∧ Blk w g #[.slice none 0 0, .int .i64 0, .int .i64 0] | 5 => fun u w => u 5 = .int .i64 arm | _ => fun _ _ => True) (by kernel_rfl) ⟨(fun u w w' hb h => by obtain ⟨g, h1, h2, h3⟩ := h; exact ⟨g, h1, h2, h3.below hb⟩), (fun _ _ _ _ h => h), trivial⟩ ⟨(by dsimp only; intro u j v w h1 h2 h; have e0 := upd_ne u v (Ne.symm h1); simp only [e0]; exact h), (by dsimp only; intro u j v w h1 h2 h; simp only [List.mem_cons, List.not_mem_nil, or_false, not_or] at h2; have e0 := upd_ne u v (Ne.symm h1); have e1 := upd_ne u v (Ne.symm h2); simp only [e0, e1]; exact h), trivial⟩ (fun _ h => Below.next hH h) (fun u => ?_)
    generalize hacts : acts _ _ u _ = A_
    simp only [acts, dstOf, List.getElem?_toArray, List.getElem?_cons_succ, List.getElem?_cons_zero, Option.bind_some, Act.put, List.setIfInBounds_toArray, List.set_cons_succ, List.set_cons_zero] at hacts
    subst hacts
    refine ⟨⟨?_, ?_, trivial⟩, ?_⟩
    · intro wx hw h_
      clear h_
      apply wpOp_stepI (i := 4) (le := fun w w' => Below w.heap.size w w') (φ := fun v w' => (fun u w => ∃ g, u 4 = .pointer (some ⟨g, 0, none⟩) ∧ wb.heap.size ≤ g ∧ Blk w g #[.slice none 0 0, .int .i64 0, .int .i64 0]) (upd u 4 v) w')
      · simp only [List.getElem?_toArray, List.getElem?_cons_succ, List.getElem?_cons_zero]; rfl
      · rfl
      intro K hK
      go_simp
      refine hK.out (.pointer (some ⟨wx.heap.size, 0, none⟩)) _ (Below.new _ _) ⟨wx.heap.size, rfl, hw.size, Blk.new _ _ _⟩
    · intro wx hw h_
      have h_4 : (fun u w => ∃ g, u 4 = .pointer (some ⟨g, 0, none⟩) ∧ wb.heap.size ≤ g ∧ Blk w g #[.slice none 0 0, .int .i64 0, .int .i64 0]) u wx := h_.1
      try dsimp only at h_4
      clear h_
      apply wpOp_stepI (i := 5) (le := fun w w' => Below w.heap.size w w') (φ := fun v w' => (fun u w => u 5 = .int .i64 arm) (upd u 5 v) w')
      · simp only [List.getElem?_toArray, List.getElem?_cons_succ, List.getElem?_cons_zero]; rfl
      · rfl
      intro K hK
      go_simp
      exact hK.out (.int .i64 arm) _ (Below.refl _ _) rfl
    · intro wx hw h_
      have h_4 : (fun u w => ∃ g, u 4 = .pointer (some ⟨g, 0, none⟩) ∧ wb.heap.size ≤ g ∧ Blk w g #[.slice none 0 0, .int .i64 0, .int .i64 0]) u wx := h_.1
      try dsimp only at h_4
      have h_5 : (fun u w => u 5 = .int .i64 arm) u wx := h_.2.1
      try dsimp only at h_5
      clear h_
      obtain ⟨g, e4, hg, hblk⟩ := h_4
      simp only [e4, h_5]
      obtain ⟨hy0, hy1, hy2, hz0, hz1, hz2⟩ := hblk.c3
      refine wpK.late (i := 6) (by kernel_rfl) (by simp only [List.getElem?_toArray, List.getElem?_cons_succ, List.getElem?_cons_zero]; rfl) (by kernel_rfl) (fun K hK => ?_)
      go_simp
      skip
      refine hK.out _ _ ?_
      clear hK K
      try simp only [Act.put, List.setIfInBounds_toArray, List.set_cons_zero, List.set_cons_succ]
      refine wpK.done (by kernel_rfl) ?_ _
      obtain ⟨wz, hwz, hblkZ, huZ⟩ := set3_of hblk (.slice ak1 keep.length ck1) (.int .i64 torn) (.int .i64 cut)
      rw [← hwz]
      have hwx := Below.next hk0 hw
      have HX : Hid (CutC wb (.slice ak1 keep.length ck1) arm torn cut (.int .i64 arm) (.pointer (some ⟨g, 0, none⟩)) wz) := hid ⟨rfl, g, rfl, hg, hblkZ, hwx.trans (huZ.below hwx.size (fun k _ q => q ▸ hg))⟩
      clear hblk hblkZ huZ hwz hy0 hy1 hy2 hz0 hz1 hz2 hw hwx hk0 hH hq0 hq1 hq2 hq3
      go_wp2_with fail
      go_meet
      exact HX.out
  case rest =>
  obtain ⟨h7, g8, h8, hg8, hb8, hbel⟩ := hcut
  subst h7; subst h8
  have HB8 := hid hb8
  have HG8 := hid hg8
  have HBEL := hid (Below.next HKB.out hbel)
  clear hbel hb8 hq0 hq1 hq2 hq3 HBX
  rename_i wc _
  obtain ⟨hx0, hx1, hx2, -⟩ := HB8.out.c3
  have hsm : 20 < t.length ∨ (t.length ≤ 20 ∧ 20 < nx.length) ∨ (t.length ≤ 20 ∧ nx.length ≤ 20 ∧ 20 < keep.length) ∨ (t.length ≤ 20 ∧ nx.length ≤ 20 ∧ keep.length ≤ 20 ∧ 20 < arm) ∨ (t.length ≤ 20 ∧ nx.length ≤ 20 ∧ keep.length ≤ 20 ∧ ¬ 20 < arm) := by omega
  rcases hsm with h1 | ⟨h1, h2⟩ | ⟨h1, h2, h3⟩ | ⟨h1, h2, h3, h4⟩ | ⟨h1, h2, h3, h4⟩
  · have q1 : (20 : Int) < (t.length : Int) := by omega
    go_wp2_with fail
    refine (law06_awake _).mono ?_
    rintro en w4 ⟨rfl, hb4⟩
    have HB4 := hid (Below.next HBEL.out hb4)
    clear hb4
    go_wp2_with fail
    go_ret
    exact ⟨rfl, HB4.out⟩
  · have q1 : ¬ (20 : Int) < (t.length : Int) := by omega
    have q2 : (20 : Int) < (nx.length : Int) := by omega
    go_wp2_with fail
    refine (law06_awake _).mono ?_
    rintro en w4 ⟨rfl, hb4⟩
    have HB4 := hid (Below.next HBEL.out hb4)
    clear hb4
    go_wp2_with fail
    go_ret
    exact ⟨rfl, HB4.out⟩
  · have q1 : ¬ (20 : Int) < (t.length : Int) := by omega
    have q2 : ¬ (20 : Int) < (nx.length : Int) := by omega
    have q3 : (20 : Int) < (keep.length : Int) := by omega
    go_wp2_with fail
    refine (law06_awake _).mono ?_
    rintro en w4 ⟨rfl, hb4⟩
    have HB4 := hid (Below.next HBEL.out hb4)
    clear hb4
    go_wp2_with fail
    go_ret
    exact ⟨rfl, HB4.out⟩
  · have q1 : ¬ (20 : Int) < (t.length : Int) := by omega
    have q2 : ¬ (20 : Int) < (nx.length : Int) := by omega
    have q3 : ¬ (20 : Int) < (keep.length : Int) := by omega
    go_wp2_with fail
    refine (law06_awake _).mono ?_
    rintro en w4 ⟨rfl, hb4⟩
    have HB4 := hid (Below.next HBEL.out hb4)
    clear hb4
    go_wp2_with fail
    go_ret
    exact ⟨rfl, HB4.out⟩
  · have q1 : ¬ (20 : Int) < (t.length : Int) := by omega
    have q2 : ¬ (20 : Int) < (nx.length : Int) := by omega
    have q3 : ¬ (20 : Int) < (keep.length : Int) := by omega
    go_wp2_with fail
    refine (disk_New 3 128 (by omega) (by omega) (by omega) (by omega) _).mono ?_
    rintro en w3 ⟨g, W, R, rfl, hi, hW, -, hb3⟩
    have HI3 := hid hi
    have HW := hid hW
    have HB3 := hid hb3
    clear hi hW hb3 hx0 hx1 hx2 q1 q2 q3
    go_upto_region 8 with fail
    have HWL : Hid (∀ k, W k → k < w3.heap.size) := hid (by obtain ⟨b, dv, V, M, h⟩ := HI3.out; exact h.wlt)
    obtain ⟨w4, hw4⟩ : ∃ w4, w4 = (w3.alloc (.cells #[.int .i64 6, .slice at1 t.length ct1] 24)).alloc (.cells #[.int .i64 7, .slice an1 nx.length cn1] 24) := ⟨_, rfl⟩
    rw [← hw4]
    have hb4 : Below w3.heap.size w3 w4 := by rw [hw4]; exact Below.next (Below.new w3 _) (Below.new _ _)
    have hx10 : Blk w4 w3.heap.size #[.int .i64 6, .slice at1 t.length ct1] := by rw [hw4]; exact (Blk.new w3 _ _).below (Below.new _ _)
    have hx11 : Blk w4 (w3.heap.size + 1) #[.int .i64 7, .slice an1 nx.length cn1] := by
      rw [hw4]
      have h := Blk.new (w3.alloc (.cells #[.int .i64 6, .slice at1 t.length ct1] 24)) #[.int .i64 7, .slice an1 nx.length cn1] 24
      simpa using h
    have hbw4 : Below w.heap.size w w4 := Below.next (Below.next HBEL.out HB3.out) hb4
    have hx8 : Blk w4 g8 #[.slice ak1 keep.length ck1, .int .i64 torn, .int .i64 cut] := (HB8.out.below HB3.out).below hb4
    have HST : Hid (∀ x, Upd W w4 x → Blk x w3.heap.size #[.int .i64 6, .slice at1 t.length ct1] ∧ Blk x (w3.heap.size + 1) #[.int .i64 7, .slice an1 nx.length cn1] ∧ Blk x g8 #[.slice ak1 keep.length ck1, .int .i64 torn, .int .i64 cut] ∧
        SlI x (.slice at1 t.length ct1) t ∧ SlI x (.slice an1 nx.length cn1) nx ∧ SlI x (.slice ak1 keep.length ck1) keep ∧ Below w.heap.size w x) := hid (by
      intro x hu
      have hold : ∀ k, W k → w.heap.size ≤ k := fun k hk => Nat.le_trans HBEL.out.size (HW.out k hk)
      refine ⟨hx10.upd hu (fun q => by have := HWL.out _ q; omega), hx11.upd hu (fun q => by have := HWL.out _ q; omega), hx8.upd hu (fun q => by have := HW.out _ q; have := HB8.out.lt; omega),
        (HT0.out.below hbw4).updE hu (HT0.out.old hold), (HN0.out.below hbw4).updE hu (HN0.out.old hold), (HK0.out.below hbw4).updE hu (HK0.out.old hold), hbw4.trans (hu.below hbw4.size (fun k _ q => hold k q))⟩)
    have HD4 := hid (HI3.out.below hb4)
    have HHK : Hid (∀ j, (Value.slice ak1 keep.length ck1).ownBlock = some j → keep = [] ∨ ¬ W j) := hid (HK0.out.old (fun k hk => Nat.le_trans HBEL.out.size (HW.out k hk)))
    have HOK := hid (dkNew_ok 3 128 (by omega) (by omega) (by omega) (by omega))
    have HNO : Hid (dkSave (dkNew 3 128) (-1) [] = (10, dkNew 3 128)) := hid (by
      unfold dkSave
      have : outB (-1) [] 128 = ([], 10) := by unfold outB; rw [if_neg]; decide
      simp [dkNew, this])
    obtain ⟨hy0, hy1, -⟩ := hx10.c2
    obtain ⟨b6, hb6⟩ : ∃ b, rightR 6 t = b := ⟨_, rfl⟩
    obtain ⟨b7, hb7⟩ : ∃ b, rightR 7 nx = b := ⟨_, rfl⟩
    have HB6 := hid hb6
    have HB7 := hid hb7
    have HS4 := hid (HST.out w4 (Upd.refl W w4))
    clear hw4 hb4 hx10 hx11 hbw4 hx8 hb6 hb7
    go_wp2_with fail
    refine (ref06_Right 6 t _ w4 HS4.out.2.2.2.1 b6 HB6).mono ?_
    rintro en w' ⟨rfl, rfl⟩
    cases b6 with
    | false =>
      go_wp2_with fail
      refine (slots_Save (dkNew 3 128) HOK.out (-1) [] _ g W R w4 HD4.out (SlI.nil _) 10 (dkNew 3 128) HNO).mono ?_
      rintro en w5 ⟨R5, rfl, -, -, hu5⟩
      have HB5 := hid (HST.out w5 hu5).2.2.2.2.2.2
      clear hu5 hy0 hy1
      go_wp2_with fail
      refine (law06_awake _).mono ?_
      rintro en w6 ⟨rfl, hb6⟩
      have HB6 := hid (Below.next HB5.out hb6)
      clear hb6
      go_wp2_with fail
      go_ret
      exact ⟨rfl, HB6.out⟩
    | true =>
      go_wp2_with fail
      refine (ref06_Right 7 nx _ w4 HS4.out.2.2.2.2.1 b7 HB7).mono ?_
      rintro en w' ⟨rfl, rfl⟩
      cases b7 with
      | false =>
        go_wp2_with fail
        refine (slots_Save (dkNew 3 128) HOK.out (-1) [] _ g W R w4 HD4.out (SlI.nil _) 10 (dkNew 3 128) HNO).mono ?_
        rintro en w5 ⟨R5, rfl, -, -, hu5⟩
        have HB5 := hid (HST.out w5 hu5).2.2.2.2.2.2
        clear hu5 hy0 hy1
        go_wp2_with fail
        refine (law06_awake _).mono ?_
        rintro en w6 ⟨rfl, hb6⟩
        have HB6 := hid (Below.next HB5.out hb6)
        clear hb6
        go_wp2_with fail
        go_ret
        exact ⟨rfl, HB6.out⟩
      | true =>
        obtain ⟨s1, s2, e, s4, r, p1, o1, p2, o2, oA, p3, o4, oC, p4, hres⟩ := crash07 HB6.out HB7.out h1 h2 arm h4 keep torn cut
        have P1 := hid p1
        have O1 := hid o1
        have P2 := hid p2
        have OA := hid oA
        have P3 := hid p3
        have O4 := hid o4
        have OC := hid oC
        have P4 := hid p4
        clear p1 o1 p2 o2 oA p3 o4 oC p4
        go_wp2_with fail
        refine (slots_Save (dkNew 3 128) HOK.out 5 [] _ g W R w4 HD4.out (SlI.nil _) 0 s1 P1).mono ?_
        rintro en w5 ⟨R5, rfl, hd5, -, hu5⟩
        have HD5 := hid hd5
        have HU5 := hid hu5
        clear hu5 hd5 hy0 hy1
        obtain ⟨hy0, hy1, -⟩ := (HST.out w5 HU5.out).1.c2
        go_wp2_with fail
        refine (slots_Save s1 O1.out 6 t _ g W R5 w5 HD5.out (HST.out w5 HU5.out).2.2.2.1 0 s2 P2).mono ?_
        rintro en w6 ⟨R6, rfl, hd6, -, hu6⟩
        have HD6 := hid hd6
        have HU6 := hid (HU5.out.trans hu6 (fun _ _ q => q))
        clear hu6 hd6 hy0 hy1
        go_wp2_with fail
        refine (disk_Arm s2 arm g W R6 w6 HD6.out).mono ?_
        rintro en w7 ⟨rfl, hd7, hu7⟩
        have HD7 := hid hd7
        have HU7 := hid (HU6.out.trans hu7 (fun _ _ q => q))
        clear hu7 hd7
        obtain ⟨hy0, hy1, -⟩ := (HST.out w7 HU7.out).2.1.c2
        go_wp2_with fail
        refine (slots_Save (dkArm s2 arm) OA.out 7 nx _ g W R6 w7 HD7.out (HST.out w7 HU7.out).2.2.2.2.1 e s4 P3).mono ?_
        rintro en w8 ⟨R8, rfl, hd8, -, hu8⟩
        have HD8 := hid hd8
        have HU8 := hid (HU7.out.trans hu8 (fun _ _ q => q))
        clear hu8 hd8 hy0 hy1
        obtain ⟨hy0, hy1, hy2, -⟩ := (HST.out w8 HU8.out).2.2.1.c3
        go_wp2_with fail
        refine (disk_Crash s4 O4.out keep torn cut _ g W R8 w8 HD8.out (HST.out w8 HU8.out).2.2.2.2.2.1 HHK.out).mono ?_
        rintro en w9 ⟨R9, rfl, hd9, -, hu9⟩
        have HD9 := hid hd9
        have HU9 := hid (HU8.out.trans hu9 (fun _ _ q => q))
        clear hu9 hd9 hy0 hy1 hy2
        go_wp2_with fail
        refine (slots_Load _ OC.out g W R9 w9 HD9.out r 0 P4).mono ?_
        rintro en wa ⟨va, rfl, hsa, hba⟩
        obtain ⟨qa, da, rfl, -⟩ := id hsa
        have hres2 : (e = 0 ∧ r = (7, nx)) ∨ (e = 20 ∧ r = (7, nx)) ∨ (e = 20 ∧ r = (6, t)) := by
          rcases hres with h | ⟨h, h' | h'⟩
          · exact .inl h
          · exact .inr (.inr ⟨h, h'⟩)
          · exact .inr (.inl ⟨h, h'⟩)
        clear hres
        have HSA := hid hsa
        have HUA := hid (HU9.out.trans (Upd.of_below (S := W) hba) (fun _ _ q => q))
        clear hsa hba
        go_upto_region 16 with fail
        obtain ⟨wd, hwd⟩ : ∃ wd, wd = wa.alloc (.cells #[.int .i64 r.1, .slice qa r.2.length da] 24) := ⟨_, rfl⟩
        rw [← hwd]
        have HBD : Hid (Blk wd wa.heap.size #[.int .i64 r.1, .slice qa r.2.length da]) := hid (by rw [hwd]; exact Blk.new _ _ _)
        have hbd : Below wa.heap.size wa wd := by rw [hwd]; exact Below.new _ _
        have HSD := hid (HSA.out.below hbd)
        have HUD := hid (HUA.out.trans (Upd.of_below (S := W) hbd) (fun _ _ q => q))
        clear hwd hbd
        rcases hres2 with ⟨rfl, rfl⟩ | ⟨rfl, rfl⟩ | ⟨rfl, rfl⟩
        · skip
          simp only at HBD HSD
          have Hwd : Hid (Below wd.heap.size wd wd) := hid (Below.refl _ _)
          have HUwd := HUD
          obtain ⟨hy0, hy1, -⟩ := (HBD.out.below Hwd.out).c2
          obtain ⟨hz0, hz1, -⟩ := (HST.out wd HUwd.out).1.c2
          obtain ⟨bq, hbq⟩ : ∃ bq, decide (nx = t) = bq := ⟨_, rfl⟩
          have HBQ := hid hbq
          clear hbq
          go_wp2_with fail
          refine (slots_Equal 7 6 nx t _ _ wd (HSD.out.below Hwd.out) (HST.out wd HUwd.out).2.2.2.1 false bq rfl HBQ).mono ?_
          rintro en we ⟨rfl, hb⟩
          have Hwe := hid (Below.next Hwd.out hb)
          have HUwe := hid (HUwd.out.trans (Upd.of_below (S := W) hb) (fun _ _ q => q))
          clear hb hy0 hy1 hz0 hz1
          obtain ⟨hy0, hy1, -⟩ := (HBD.out.below Hwe.out).c2
          obtain ⟨hz0, hz1, -⟩ := (HST.out we HUwe.out).2.1.c2
          go_wp2_with fail
          refine (slots_Equal 7 7 nx nx _ _ we (HSD.out.below Hwe.out) (HST.out we HUwe.out).2.2.2.2.1 true true rfl (hid (by simp))).mono ?_
          rintro en wg ⟨rfl, hb⟩
          have Hwg := hid (Below.next Hwe.out hb)
          have HUwg := hid (HUwe.out.trans (Upd.of_below (S := W) hb) (fun _ _ q => q))
          clear hb hy0 hy1 hz0 hz1
          obtain ⟨hy0, hy1, -⟩ := (HBD.out.below Hwg.out).c2
          obtain ⟨hz0, hz1, -⟩ := (HST.out wg HUwg.out).2.1.c2
          go_wp2_with fail
          refine (slots_Equal 7 7 nx nx _ _ wg (HSD.out.below Hwg.out) (HST.out wg HUwg.out).2.2.2.2.1 true true rfl (hid (by simp))).mono ?_
          rintro en wh ⟨rfl, hb⟩
          have Hwh := hid (Below.next Hwg.out hb)
          have HUwh := hid (HUwg.out.trans (Upd.of_below (S := W) hb) (fun _ _ q => q))
          clear hb hy0 hy1 hz0 hz1
          go_wp2_with fail
          refine (law06_awake wh).mono ?_
          rintro en wf ⟨rfl, hbf⟩
          have HBF := hid (Below.next (HST.out wh HUwh.out).2.2.2.2.2.2 hbf)
          clear hbf
          go_wp2_with fail
          go_ret
          exact ⟨rfl, HBF.out⟩
        · skip
          simp only at HBD HSD
          have Hwd : Hid (Below wd.heap.size wd wd) := hid (Below.refl _ _)
          have HUwd := HUD
          obtain ⟨hy0, hy1, -⟩ := (HBD.out.below Hwd.out).c2
          obtain ⟨hz0, hz1, -⟩ := (HST.out wd HUwd.out).1.c2
          obtain ⟨bq, hbq⟩ : ∃ bq, decide (nx = t) = bq := ⟨_, rfl⟩
          have HBQ := hid hbq
          clear hbq
          go_wp2_with fail
          refine (slots_Equal 7 6 nx t _ _ wd (HSD.out.below Hwd.out) (HST.out wd HUwd.out).2.2.2.1 false bq rfl HBQ).mono ?_
          rintro en we ⟨rfl, hb⟩
          have Hwe := hid (Below.next Hwd.out hb)
          have HUwe := hid (HUwd.out.trans (Upd.of_below (S := W) hb) (fun _ _ q => q))
          clear hb hy0 hy1 hz0 hz1
          obtain ⟨hy0, hy1, -⟩ := (HBD.out.below Hwe.out).c2
          obtain ⟨hz0, hz1, -⟩ := (HST.out we HUwe.out).2.1.c2
          go_wp2_with fail
          refine (slots_Equal 7 7 nx nx _ _ we (HSD.out.below Hwe.out) (HST.out we HUwe.out).2.2.2.2.1 true true rfl (hid (by simp))).mono ?_
          rintro en wg ⟨rfl, hb⟩
          have Hwg := hid (Below.next Hwe.out hb)
          have HUwg := hid (HUwe.out.trans (Upd.of_below (S := W) hb) (fun _ _ q => q))
          clear hb hy0 hy1 hz0 hz1
          go_wp2_with fail
          refine (law06_awake wg).mono ?_
          rintro en wf ⟨rfl, hbf⟩
          have HBF := hid (Below.next (HST.out wg HUwg.out).2.2.2.2.2.2 hbf)
          clear hbf
          go_wp2_with fail
          go_ret
          exact ⟨rfl, HBF.out⟩
        · skip
          simp only at HBD HSD
          have Hwd : Hid (Below wd.heap.size wd wd) := hid (Below.refl _ _)
          have HUwd := HUD
          obtain ⟨hy0, hy1, -⟩ := (HBD.out.below Hwd.out).c2
          obtain ⟨hz0, hz1, -⟩ := (HST.out wd HUwd.out).1.c2
          go_wp2_with fail
          refine (slots_Equal 6 6 t t _ _ wd (HSD.out.below Hwd.out) (HST.out wd HUwd.out).2.2.2.1 true true rfl (hid (by simp))).mono ?_
          rintro en we ⟨rfl, hb⟩
          have Hwe := hid (Below.next Hwd.out hb)
          have HUwe := hid (HUwd.out.trans (Upd.of_below (S := W) hb) (fun _ _ q => q))
          clear hb hy0 hy1 hz0 hz1
          go_wp2_with fail
          refine (law06_awake we).mono ?_
          rintro en wf ⟨rfl, hbf⟩
          have HBF := hid (Below.next (HST.out we HUwe.out).2.2.2.2.2.2 hbf)
          clear hbf
          go_wp2_with fail
          go_ret
          exact ⟨rfl, HBF.out⟩
set_option maxRecDepth 100000 in
theorem open_crash {H : Type} {enc : TypeId × Value → H} {w : World} {b0 : Nat} {d0 : DataW H} {p0 : List MemPlace} {v0 : Value} (ok0 : Value.okWide Try.prog w .any b0 51 v0) (k0 : DataW.Trod enc Try.prog w 0 (fun _ => true) true 51 v0 d0 p0) :
    ∃ arm torn cut kv keep, v0 = .agg #[.int .i64 arm, kv, .int .i64 torn, .int .i64 cut] ∧ SlI w kv keep := by
  obtain ⟨cs, rfl, hsz⟩ := okWide_struct Try.underlying51 ok0
  have h4 : Try.prog.cellsOf 51 = 4 := by kernel_rfl
  rw [h4] at hsz
  obtain ⟨c0, c1, c2, c3, rfl⟩ := array4 hsz
  obtain ⟨fuel, hf⟩ := k0
  obtain ⟨y0, y1, n, hx, -, h0, h1⟩ := trod_struct2 Try.underlying51 hf
  have h0' : DataW.trod enc Try.prog w 0 (fun _ => true) true n 3 [c0] = some y0 := h0
  have h1' : DataW.trod enc Try.prog w 0 (fun _ => true) true n 49 [c1, c2, c3] = some y1 := h1
  obtain ⟨hlen, ys, n', hyl, one⟩ := structE_fields Try.underlying49 (by kernel_rfl) h1'
  have hyl3 : ys.length = 3 := hyl
  obtain ⟨z0, z1, z2, rfl⟩ := listOf3 hyl3
  have g0 : DataW.trod enc Try.prog w 0 (fun _ => true) true n' 22 [c1] = some z0 := one 0 _ rfl
  have g1 : DataW.trod enc Try.prog w 0 (fun _ => true) true n' 3 [c2] = some z1 := one 1 _ rfl
  have g2 : DataW.trod enc Try.prog w 0 (fun _ => true) true n' 3 [c3] = some z2 := one 2 _ rfl
  obtain ⟨arm, e0, -, -⟩ := DataW.trod_int Try.underlying3 h0'
  obtain ⟨torn, e1, -, -⟩ := DataW.trod_int Try.underlying3 g1
  obtain ⟨cut, e2, -, -⟩ := DataW.trod_int Try.underlying3 g2
  simp only [List.cons.injEq, and_true] at e0 e1 e2
  subst e0; subst e1; subst e2
  obtain ⟨l, hl, -⟩ := open_sliE g0
  exact ⟨arm, torn, cut, c1, l, rfl, hl⟩
set_option maxRecDepth 100000 in
theorem SlotsCrashes_walk {H : Type} {enc : TypeId × Value → H} {b2 : Nat} {d2 : DataW H} {p2 : List MemPlace} (a0 : Option Addr) (len0 cap0 : Nat) (z0 : List Int) (a1 : Option Addr) (len1 cap1 : Nat) (z1 : List Int) (v2 : Value) (w : World)
    (w0 : (a0 = none ∧ len0 = 0 ∧ cap0 = 0 ∧ z0 = []) ∨
      ∃ x, a0 = some x ∧ len0 ≤ cap0 ∧ cap0 ≤ maxLen ∧ z0.length = cap0 ∧ (∀ i, i < z0.length → w.cell? (x.add i) = some (.int .i64 (z0.getD i 0))) ∧ ∀ n ∈ z0, (Lit.int .i64 n).wf = true)
    (w1 : (a1 = none ∧ len1 = 0 ∧ cap1 = 0 ∧ z1 = []) ∨
      ∃ x, a1 = some x ∧ len1 ≤ cap1 ∧ cap1 ≤ maxLen ∧ z1.length = cap1 ∧ (∀ i, i < z1.length → w.cell? (x.add i) = some (.int .i64 (z1.getD i 0))) ∧ ∀ n ∈ z1, (Lit.int .i64 n).wf = true)
    (ok2 : Value.okWide Try.prog w .any b2 51 v2) (k2 : DataW.Trod enc Try.prog w 0 (fun _ => true) true 51 v2 d2 p2) :
    Calls Try.prog 6 #[.slice a0 len0 cap0, .slice a1 len1 cap1, v2] w fun e w' => e = .returned (.bool true) ∧ Below w.heap.size w w' := by
  obtain ⟨t, rfl, ht, -⟩ := sli_of_row w0
  obtain ⟨nx, rfl, hn, -⟩ := sli_of_row w1
  obtain ⟨arm, torn, cut, kv, keep, rfl, hk⟩ := open_crash ok2 k2
  exact law06_Crash t nx keep _ _ kv arm torn cut w ht hn hk
end Go.Proofs.Ytohknblokejldaa
end
