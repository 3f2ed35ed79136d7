/- Contract: access: Set of a person on the first list of a new house. -/
import Derived.Test.YtdchopckbklncaaAccSet
namespace Go.Proofs.Ytdchopckbklncaa
open Go.RowKit
open Go.Lib (hid)
set_option linter.unusedVariables false

set_option maxRecDepth 100000 in
set_option maxHeartbeats 4000000 in
theorem acc_Set1 (o p : Int) (w : World) (h1 : 1 ≤ p) (h2 : p ≤ 256) (h3 : p ≠ o) :
    Calls Try.prog 58 #[.agg #[.int .i64 o, .slice none 0 0, .slice none 0 0, .slice none 0 0], .int .i64 1, .int .i64 p, .bool true] w fun e w' => ∃ uc, e = .returned (.tuple #[.agg #[.int .i64 o, uc, .slice none 0 0, .slice none 0 0], .int .i64 0]) ∧ SlI w' uc [p] ∧ Below w.heap.size w w' := by
  obtain ⟨wb, hwb⟩ : ∃ wb, wb = w.alloc (.cells #[.int .i64 o, .slice none 0 0, .slice none 0 0, .slice none 0 0] 69) := ⟨_, rfl⟩
  obtain ⟨wq, hwq⟩ : ∃ wq, wq = wb.alloc (.cells #[.int .i64 0, .slice none 0 0, .slice none 0 0, .slice none 0 0] 69) := ⟨_, rfl⟩
  have hbb : Below w.heap.size w wb := by rw [hwb]; exact Below.new _ _
  have hbq : Below wb.heap.size wb wq := by rw [hwq]; exact Below.new _ _
  have hblk0 : Blk wq w.heap.size #[.int .i64 o, .slice none 0 0, .slice none 0 0, .slice none 0 0] := Blk.below hbq (by rw [hwb]; exact Blk.new _ _ _)
  have hsb : wb.heap.size = w.heap.size + 1 := by rw [hwb]; simp
  have hres : Blk wq (w.heap.size + 1) #[.int .i64 0, .slice none 0 0, .slice none 0 0, .slice none 0 0] := by rw [hwq, ← hsb]; exact Blk.new _ _ _
  have hsq : wq.heap.size = w.heap.size + 2 := by rw [hwq]; simp; omega
  have HBQ := hid (Below.next hbb hbq)
  have HBLK0 := hid hblk0
  have HRES := hid hres
  have HSQ := hid hsq
  rw [hwb] at hwq
  have HWQ := hid hwq
  have b3 : (p == o) = false := by simpa using h3
  clear hwb hwq hbb hbq hsb hsq h3
  go_enter Try.func58, Try.ntmps58
  go_wp2_with fail
  rw [← HWQ.out]
  refine (acc_three 1 _ (by omega) (by omega)).mono ?_
  rintro e w' ⟨rfl, rfl⟩
  go_wp2_with fail
  refine (acc_person p _ h1 h2).mono ?_
  rintro e w' ⟨rfl, rfl⟩
  have hq0 : ∀ x, Below wq.heap.size wq x → x.cell? ⟨w.heap.size, 0, none⟩ = some (.int .i64 o) := fun x hb => (HBLK0.out.below hb).c4.1
  have hq1 : ∀ x, Below wq.heap.size wq x → x.cell? ⟨w.heap.size, 1, none⟩ = some (.slice none 0 0) := fun x hb => (HBLK0.out.below hb).c4.2.1
  have hq2 : ∀ x, Below wq.heap.size wq x → x.cell? ⟨w.heap.size, 2, none⟩ = some (.slice none 0 0) := fun x hb => (HBLK0.out.below hb).c4.2.2.1
  have hq3 : ∀ x, Below wq.heap.size wq x → x.cell? ⟨w.heap.size, 3, none⟩ = some (.slice none 0 0) := fun x hb => (HBLK0.out.below hb).c4.2.2.2.1
  clear hblk0 hres
  go_wp2_with fail
  have hk0 := (Below.refl wq.heap.size wq).drew
  refine wp_region_kept [13] (fun x => Below wq.heap.size wq x) (by kernel_rfl) (by assumption) (fun hH => ?_)
  refine wpK.take (i := 0) (v := _) (by simp only [List.getElem?_toArray, List.getElem?_cons_succ, List.getElem?_cons_zero]; rfl) (by kernel_rfl) (by kernel_rfl) (by kernel_rfl) (by kernel_rfl) (by kernel_rfl) (by exact fun _ _ _ h => h) (by first | exact Or.inl ⟨by rfl, by intro w hSw; go_simp; try with_reducible rfl⟩ | exact Or.inr ⟨by rfl, rfl⟩) hH ?_
  try simp only [Act.put, List.setIfInBounds_toArray, List.set_cons_zero, List.set_cons_succ]
  refine wpK.take (i := 1) (v := _) (by simp only [List.getElem?_toArray, List.getElem?_cons_succ, List.getElem?_cons_zero]; rfl) (by kernel_rfl) (by kernel_rfl) (by kernel_rfl) (by kernel_rfl) (by kernel_rfl) (by exact fun _ _ _ h => h) (by first | exact Or.inl ⟨by rfl, by intro w hSw; go_simp; try with_reducible rfl⟩ | exact Or.inr ⟨by rfl, rfl⟩) hH ?_
  try simp only [Act.put, List.setIfInBounds_toArray, List.set_cons_zero, List.set_cons_succ]
  refine wpK.take (i := 2) (v := _) (by simp only [List.getElem?_toArray, List.getElem?_cons_succ, List.getElem?_cons_zero]; rfl) (by kernel_rfl) (by kernel_rfl) (by kernel_rfl) (by kernel_rfl) (by kernel_rfl) (by exact fun _ _ _ h => h) (by first | exact Or.inl ⟨by rfl, by intro w hSw; go_simp; try with_reducible rfl⟩ | exact Or.inr ⟨by rfl, rfl⟩) hH ?_
  try simp only [Act.put, List.setIfInBounds_toArray, List.set_cons_zero, List.set_cons_succ]
  refine wpK.take (i := 3) (v := _) (by simp only [List.getElem?_toArray, List.getElem?_cons_succ, List.getElem?_cons_zero]; rfl) (by kernel_rfl) (by kernel_rfl) (by kernel_rfl) (by kernel_rfl) (by kernel_rfl) (by exact fun _ _ _ h => h) (by first | exact Or.inl ⟨by rfl, by intro w hSw; go_simp; try with_reducible rfl⟩ | exact Or.inr ⟨by rfl, rfl⟩) hH ?_
  try simp only [Act.put, List.setIfInBounds_toArray, List.set_cons_zero, List.set_cons_succ]
  refine wpK.take (i := 5) (v := _) (by simp only [List.getElem?_toArray, List.getElem?_cons_succ, List.getElem?_cons_zero]; rfl) (by kernel_rfl) (by kernel_rfl) (by kernel_rfl) (by kernel_rfl) (by kernel_rfl) (by exact fun _ _ _ h => h) (by first | exact Or.inl ⟨by rfl, by intro w hSw; go_simp; try with_reducible rfl⟩ | exact Or.inr ⟨by rfl, rfl⟩) hH ?_
  try simp only [Act.put, List.setIfInBounds_toArray, List.set_cons_zero, List.set_cons_succ]
  refine wpK.take (i := 6) (v := _) (by simp only [List.getElem?_toArray, List.getElem?_cons_succ, List.getElem?_cons_zero]; rfl) (by kernel_rfl) (by kernel_rfl) (by kernel_rfl) (by kernel_rfl) (by kernel_rfl) (by exact fun _ _ _ h => h) (by first | exact Or.inl ⟨by rfl, by intro w hSw; go_simp; try with_reducible rfl⟩ | exact Or.inr ⟨by rfl, rfl⟩) hH ?_
  try simp only [Act.put, List.setIfInBounds_toArray, List.set_cons_zero, List.set_cons_succ]
  refine wpK.take (i := 8) (v := _) (by simp only [List.getElem?_toArray, List.getElem?_cons_succ, List.getElem?_cons_zero]; rfl) (by kernel_rfl) (by kernel_rfl) (by kernel_rfl) (by kernel_rfl) (by kernel_rfl) (by exact fun _ _ _ h => h) (by first | exact Or.inl ⟨by rfl, by intro w hSw; go_simp; try with_reducible rfl⟩ | exact Or.inr ⟨by rfl, rfl⟩) hH ?_
  try simp only [Act.put, List.setIfInBounds_toArray, List.set_cons_zero, List.set_cons_succ]
  refine wpK.take (i := 9) (v := _) (by simp only [List.getElem?_toArray, List.getElem?_cons_succ, List.getElem?_cons_zero]; rfl) (by kernel_rfl) (by kernel_rfl) (by kernel_rfl) (by kernel_rfl) (by kernel_rfl) (by exact fun _ _ _ h => h) (by first | exact Or.inl ⟨by rfl, by intro w hSw; go_simp; try with_reducible rfl⟩ | exact Or.inr ⟨by rfl, rfl⟩) hH ?_
  try simp only [Act.put, List.setIfInBounds_toArray, List.set_cons_zero, List.set_cons_succ]
  refine wpK.two (i := 4) (j := 12) (by kernel_rfl) (by simp only [List.getElem?_toArray, List.getElem?_cons_succ, List.getElem?_cons_zero]; rfl) (by simp only [List.getElem?_toArray, List.getElem?_cons_succ, List.getElem?_cons_zero]; rfl) (fun K hK => ?_) (fun K hK => ?_)
  · go_simp
    (refine (sl_CloneN _).mono ?_); rintro e w' ⟨rfl, rfl⟩; go_simp
    refine hK.out _ _ (by assumption) (fun hH => ?_)
    clear hK K
    try simp only [Act.put, List.setIfInBounds_toArray, List.set_cons_zero, List.set_cons_succ]
    refine wpK.two (i := 7) (j := 12) (by kernel_rfl) (by simp only [List.getElem?_toArray, List.getElem?_cons_succ, List.getElem?_cons_zero]; rfl) (by simp only [List.getElem?_toArray, List.getElem?_cons_succ, List.getElem?_cons_zero]; rfl) (fun K hK => ?_) (fun K hK => ?_)
    · go_simp
      (refine (sl_CloneN _).mono ?_); rintro e w' ⟨rfl, rfl⟩; go_simp
      refine hK.out _ _ (by assumption) (fun hH => ?_)
      clear hK K
      try simp only [Act.put, List.setIfInBounds_toArray, List.set_cons_zero, List.set_cons_succ]
      refine wpK.two (i := 10) (j := 12) (by kernel_rfl) (by simp only [List.getElem?_toArray, List.getElem?_cons_succ, List.getElem?_cons_zero]; rfl) (by simp only [List.getElem?_toArray, List.getElem?_cons_succ, List.getElem?_cons_zero]; rfl) (fun K hK => ?_) (fun K hK => ?_)
      · go_simp
        (refine (sl_CloneN _).mono ?_); rintro e w' ⟨rfl, rfl⟩; go_simp
        refine hK.out _ _ (by assumption) (fun hH => ?_)
        clear hK K
        try simp only [Act.put, List.setIfInBounds_toArray, List.set_cons_zero, List.set_cons_succ]
        refine wpK.take (i := 11) (v := _) (by simp only [List.getElem?_toArray, List.getElem?_cons_succ, List.getElem?_cons_zero]; rfl) (by kernel_rfl) (by kernel_rfl) (by kernel_rfl) (by kernel_rfl) (by kernel_rfl) (by exact fun _ _ _ h => h) (by first | exact Or.inl ⟨by rfl, by intro w hSw; go_simp; try with_reducible rfl⟩ | exact Or.inr ⟨by rfl, rfl⟩) hH ?_
        try simp only [Act.put, List.setIfInBounds_toArray, List.set_cons_zero, List.set_cons_succ]
        refine wpK.step (i := 12) (by kernel_rfl) (by simp only [List.getElem?_toArray, List.getElem?_cons_succ, List.getElem?_cons_zero]; rfl) (fun K hK => ?_)
        go_simp
        (first | refine K_alloc (K := K) ?_ | refine K_allocD (K := K) ?_); intro g10 wn hg10 hs12 hb12 hblk10; rw [← hg10]; (have hk12 : Below wq.heap.size wq wn := Below.next (by first | exact hH | exact Below.refl _ _) hb12); (have HG10 := hid hg10); (have HS12 := hid hs12); clear hg10 hs12; (obtain ⟨hy0, hy1, hy2, hy3, hz0, hz1, hz2, hz3⟩ := hblk10.c4)
        refine hK.out _ _ (by assumption) (fun hH => ?_)
        clear hK K
        try simp only [Act.put, List.setIfInBounds_toArray, List.set_cons_zero, List.set_cons_succ]
        refine wpK.late (i := 13) (by kernel_rfl) (by simp only [List.getElem?_toArray, List.getElem?_cons_succ, List.getElem?_cons_zero]; rfl) (by kernel_rfl) (fun K hK => ?_)
        go_simp
        refine hK.out _ _ ?_
        clear hK K
        try simp only [Act.put, List.setIfInBounds_toArray, List.set_cons_zero, List.set_cons_succ]
        refine wpK.done (by kernel_rfl) ?_ _
        obtain ⟨wz, hwz, hblkZ, huZ⟩ := set4_of hblk10 (.int .i64 o) (.slice none 0 0) (.slice none 0 0) (.slice none 0 0)
        rw [← hwz]
        have hge : wq.heap.size ≤ g10 := by have := HG10.out; have : wq.drew.heap.size = wq.heap.size := rfl; omega
        have hBZ : Below wq.heap.size wq wz := Below.trans hH (huZ.below hH.size (fun k _ q => q ▸ hge))
        have HBLKZ := hid hblkZ
        have HBZ := hid hBZ
        have HGE := hid hge
        clear hwz hblkZ huZ hge hBZ hblk10 hb12 hk12 hH hk0 hy0 hy1 hy2 hy3 hz0 hz1 hz2 hz3 hq1 hq2 hq3
        go_wp2_with fail
        refine (acc_list1 g10 _).mono ?_
        rintro e w6 ⟨rfl, hb6⟩
        have HK6 := hid (Below.trans HBZ.out (hb6.mono HBZ.out.size))
        have hq0' := hq0 w6 HK6.out
        have hblk6 := HBLKZ.out.below hb6
        obtain ⟨hy0, hy1, hy2, hy3, hz0, hz1, hz2, hz3⟩ := hblk6.c4
        have HBLK6 := hid hblk6
        clear hb6 hblk6 hq0
        go_wp2_with fail
        refine (sl_Search0 _ p _ (SlI.nil _)).mono ?_
        rintro e w' ⟨rfl, rfl⟩
        go_wp2_with fail
        refine (sl_InsertEnd [] p (.slice none 0 0) w6.heap.size w6.heap.size _ (World.ownsRow_nil _ _ _ _) (by simp) (by simp) ((Blk.new w6 _ _).cell 0)).mono ?_
        rintro e w8 ⟨v8, rfl, hown8, hg8⟩
        have hk8 : Below w6.heap.size w6 w8 := Below.trans (Below.new w6 _) ((Upd.of_grown hg8).below (by simp) (fun _ _ q => by cases q))
        obtain ⟨b8, c8, rfl⟩ := Joins.ownsRow_form hown8 (by omega)
        have hblk8 := HBLK6.out.below hk8
        have HK8 := hid (Below.trans HK6.out (hk8.mono HK6.out.size))
        have HOWN8 := hid hown8
        have HBLK8 := hid hblk8
        have hres8 := HRES.out.below HK8.out
        have HRES8 := hid hres8
        clear hy0 hy1 hy2 hy3 hz0 hz1 hz2 hz3 hg8 hown8 hk8 hq0'
        obtain ⟨hy0, hy1, hy2, hy3, hz0, hz1, hz2, hz3⟩ := hblk8.c4
        obtain ⟨hr0, hr1, hr2, hr3, hs0, hs1, hs2, hs3⟩ := hres8.c4
        have hn1 : ¬ g10 = w.heap.size + 1 := by have := HGE.out; have := HSQ.out; omega
        have hn2 : ¬ w.heap.size + 1 = g10 := fun q => hn1 q.symm
        clear hblk8 hres8
        go_wp2_with fail
        obtain ⟨wf, hwf, hblkF, huF⟩ := set4_of (x := w8.setCell ⟨g10, 1, none⟩ (.slice (some ⟨b8, 0, none⟩) 1 c8)) (HRES8.out.upd (Upd.setCell w8 g10 1 _) hn2) (.int .i64 o) (.slice (some ⟨b8, 0, none⟩) 1 c8) (.slice none 0 0) (.slice none 0 0)
        rw [← hwf]
        have hUF : Upd (fun k => k = g10 ∨ k = w.heap.size + 1) w8 wf := ((Upd.setCell w8 g10 1 _).mono (fun k _ q => Or.inl q)).trans (huF.mono (fun k _ q => Or.inr q)) (fun _ _ q => q)
        have hVB : SlI wf (.slice (some ⟨b8, 0, none⟩) 1 c8) [p] := (SlI.of_own (l := [p]) HOWN8.out).upd hUF (fun k hk q => by have h8 := (HOWN8.out.lt k hk).1; have := HBLK6.out.lt; have := HK6.out.size; have := HSQ.out; rcases q with q | q <;> omega)
        have hW8 : Below w.heap.size w w8 := Below.trans HBQ.out (HK8.out.mono HBQ.out.size)
        have hBF : Below w.heap.size w wf := Below.trans hW8 (hUF.below hW8.size (fun k _ q => by have := HGE.out; have := HSQ.out; rcases q with q | q <;> omega))
        obtain ⟨hF0, hF1, hF2, hF3, -⟩ := hblkF.c4
        have HPOST := hid (And.intro hVB hBF)
        clear hVB hBF hW8 hUF huF hwf hblkF
        (try simp only [Exit.inBlock, Exit.then])
        refine bodyPost_ret (results_cell_tmp rfl _ _ _ rfl (by go_simp; rfl)) rfl ?_
        exact ⟨_, rfl, HPOST.out.1, HPOST.out.2⟩
      · go_simp
        (first | refine K_alloc (K := K) ?_ | refine K_allocD (K := K) ?_); intro g10 wn hg10 hs12 hb12 hblk10; rw [← hg10]; (have hk12 : Below wq.heap.size wq wn := Below.next (by first | exact hH | exact Below.refl _ _) hb12); (have HG10 := hid hg10); (have HS12 := hid hs12); clear hg10 hs12; (obtain ⟨hy0, hy1, hy2, hy3, hz0, hz1, hz2, hz3⟩ := hblk10.c4)
        refine hK.out _ _ (by assumption) (fun hH => ?_)
        clear hK K
        try simp only [Act.put, List.setIfInBounds_toArray, List.set_cons_zero, List.set_cons_succ]
        refine wpK.step (i := 10) (by kernel_rfl) (by simp only [List.getElem?_toArray, List.getElem?_cons_succ, List.getElem?_cons_zero]; rfl) (fun K hK => ?_)
        go_simp
        (refine (sl_CloneN _).mono ?_); rintro e w' ⟨rfl, rfl⟩; go_simp
        refine hK.out _ _ (by assumption) (fun hH => ?_)
        clear hK K
        try simp only [Act.put, List.setIfInBounds_toArray, List.set_cons_zero, List.set_cons_succ]
        refine wpK.take (i := 11) (v := _) (by simp only [List.getElem?_toArray, List.getElem?_cons_succ, List.getElem?_cons_zero]; rfl) (by kernel_rfl) (by kernel_rfl) (by kernel_rfl) (by kernel_rfl) (by kernel_rfl) (by exact fun _ _ _ h => h) (by first | exact Or.inl ⟨by rfl, by intro w hSw; go_simp; try with_reducible rfl⟩ | exact Or.inr ⟨by rfl, rfl⟩) hH ?_
        try simp only [Act.put, List.setIfInBounds_toArray, List.set_cons_zero, List.set_cons_succ]
        refine wpK.late (i := 13) (by kernel_rfl) (by simp only [List.getElem?_toArray, List.getElem?_cons_succ, List.getElem?_cons_zero]; rfl) (by kernel_rfl) (fun K hK => ?_)
        go_simp
        refine hK.out _ _ ?_
        clear hK K
        try simp only [Act.put, List.setIfInBounds_toArray, List.set_cons_zero, List.set_cons_succ]
        refine wpK.done (by kernel_rfl) ?_ _
        obtain ⟨wz, hwz, hblkZ, huZ⟩ := set4_of hblk10 (.int .i64 o) (.slice none 0 0) (.slice none 0 0) (.slice none 0 0)
        rw [← hwz]
        have hge : wq.heap.size ≤ g10 := by have := HG10.out; have : wq.drew.heap.size = wq.heap.size := rfl; omega
        have hBZ : Below wq.heap.size wq wz := Below.trans hH (huZ.below hH.size (fun k _ q => q ▸ hge))
        have HBLKZ := hid hblkZ
        have HBZ := hid hBZ
        have HGE := hid hge
        clear hwz hblkZ huZ hge hBZ hblk10 hb12 hk12 hH hk0 hy0 hy1 hy2 hy3 hz0 hz1 hz2 hz3 hq1 hq2 hq3
        go_wp2_with fail
        refine (acc_list1 g10 _).mono ?_
        rintro e w6 ⟨rfl, hb6⟩
        have HK6 := hid (Below.trans HBZ.out (hb6.mono HBZ.out.size))
        have hq0' := hq0 w6 HK6.out
        have hblk6 := HBLKZ.out.below hb6
        obtain ⟨hy0, hy1, hy2, hy3, hz0, hz1, hz2, hz3⟩ := hblk6.c4
        have HBLK6 := hid hblk6
        clear hb6 hblk6 hq0
        go_wp2_with fail
        refine (sl_Search0 _ p _ (SlI.nil _)).mono ?_
        rintro e w' ⟨rfl, rfl⟩
        go_wp2_with fail
        refine (sl_InsertEnd [] p (.slice none 0 0) w6.heap.size w6.heap.size _ (World.ownsRow_nil _ _ _ _) (by simp) (by simp) ((Blk.new w6 _ _).cell 0)).mono ?_
        rintro e w8 ⟨v8, rfl, hown8, hg8⟩
        have hk8 : Below w6.heap.size w6 w8 := Below.trans (Below.new w6 _) ((Upd.of_grown hg8).below (by simp) (fun _ _ q => by cases q))
        obtain ⟨b8, c8, rfl⟩ := Joins.ownsRow_form hown8 (by omega)
        have hblk8 := HBLK6.out.below hk8
        have HK8 := hid (Below.trans HK6.out (hk8.mono HK6.out.size))
        have HOWN8 := hid hown8
        have HBLK8 := hid hblk8
        have hres8 := HRES.out.below HK8.out
        have HRES8 := hid hres8
        clear hy0 hy1 hy2 hy3 hz0 hz1 hz2 hz3 hg8 hown8 hk8 hq0'
        obtain ⟨hy0, hy1, hy2, hy3, hz0, hz1, hz2, hz3⟩ := hblk8.c4
        obtain ⟨hr0, hr1, hr2, hr3, hs0, hs1, hs2, hs3⟩ := hres8.c4
        have hn1 : ¬ g10 = w.heap.size + 1 := by have := HGE.out; have := HSQ.out; omega
        have hn2 : ¬ w.heap.size + 1 = g10 := fun q => hn1 q.symm
        clear hblk8 hres8
        go_wp2_with fail
        obtain ⟨wf, hwf, hblkF, huF⟩ := set4_of (x := w8.setCell ⟨g10, 1, none⟩ (.slice (some ⟨b8, 0, none⟩) 1 c8)) (HRES8.out.upd (Upd.setCell w8 g10 1 _) hn2) (.int .i64 o) (.slice (some ⟨b8, 0, none⟩) 1 c8) (.slice none 0 0) (.slice none 0 0)
        rw [← hwf]
        have hUF : Upd (fun k => k = g10 ∨ k = w.heap.size + 1) w8 wf := ((Upd.setCell w8 g10 1 _).mono (fun k _ q => Or.inl q)).trans (huF.mono (fun k _ q => Or.inr q)) (fun _ _ q => q)
        have hVB : SlI wf (.slice (some ⟨b8, 0, none⟩) 1 c8) [p] := (SlI.of_own (l := [p]) HOWN8.out).upd hUF (fun k hk q => by have h8 := (HOWN8.out.lt k hk).1; have := HBLK6.out.lt; have := HK6.out.size; have := HSQ.out; rcases q with q | q <;> omega)
        have hW8 : Below w.heap.size w w8 := Below.trans HBQ.out (HK8.out.mono HBQ.out.size)
        have hBF : Below w.heap.size w wf := Below.trans hW8 (hUF.below hW8.size (fun k _ q => by have := HGE.out; have := HSQ.out; rcases q with q | q <;> omega))
        obtain ⟨hF0, hF1, hF2, hF3, -⟩ := hblkF.c4
        have HPOST := hid (And.intro hVB hBF)
        clear hVB hBF hW8 hUF huF hwf hblkF
        (try simp only [Exit.inBlock, Exit.then])
        refine bodyPost_ret (results_cell_tmp rfl _ _ _ rfl (by go_simp; rfl)) rfl ?_
        exact ⟨_, rfl, HPOST.out.1, HPOST.out.2⟩
    · go_simp
      (first | refine K_alloc (K := K) ?_ | refine K_allocD (K := K) ?_); intro g10 wn hg10 hs12 hb12 hblk10; rw [← hg10]; (have hk12 : Below wq.heap.size wq wn := Below.next (by first | exact hH | exact Below.refl _ _) hb12); (have HG10 := hid hg10); (have HS12 := hid hs12); clear hg10 hs12; (obtain ⟨hy0, hy1, hy2, hy3, hz0, hz1, hz2, hz3⟩ := hblk10.c4)
      refine hK.out _ _ (by assumption) (fun hH => ?_)
      clear hK K
      try simp only [Act.put, List.setIfInBounds_toArray, List.set_cons_zero, List.set_cons_succ]
      refine wpK.step (i := 7) (by kernel_rfl) (by simp only [List.getElem?_toArray, List.getElem?_cons_succ, List.getElem?_cons_zero]; rfl) (fun K hK => ?_)
      go_simp
      (refine (sl_CloneN _).mono ?_); rintro e w' ⟨rfl, rfl⟩; go_simp
      refine hK.out _ _ (by assumption) (fun hH => ?_)
      clear hK K
      try simp only [Act.put, List.setIfInBounds_toArray, List.set_cons_zero, List.set_cons_succ]
      refine wpK.step (i := 10) (by kernel_rfl) (by simp only [List.getElem?_toArray, List.getElem?_cons_succ, List.getElem?_cons_zero]; rfl) (fun K hK => ?_)
      go_simp
      (refine (sl_CloneN _).mono ?_); rintro e w' ⟨rfl, rfl⟩; go_simp
      refine hK.out _ _ (by assumption) (fun hH => ?_)
      clear hK K
      try simp only [Act.put, List.setIfInBounds_toArray, List.set_cons_zero, List.set_cons_succ]
      refine wpK.take (i := 11) (v := _) (by simp only [List.getElem?_toArray, List.getElem?_cons_succ, List.getElem?_cons_zero]; rfl) (by kernel_rfl) (by kernel_rfl) (by kernel_rfl) (by kernel_rfl) (by kernel_rfl) (by exact fun _ _ _ h => h) (by first | exact Or.inl ⟨by rfl, by intro w hSw; go_simp; try with_reducible rfl⟩ | exact Or.inr ⟨by rfl, rfl⟩) hH ?_
      try simp only [Act.put, List.setIfInBounds_toArray, List.set_cons_zero, List.set_cons_succ]
      refine wpK.late (i := 13) (by kernel_rfl) (by simp only [List.getElem?_toArray, List.getElem?_cons_succ, List.getElem?_cons_zero]; rfl) (by kernel_rfl) (fun K hK => ?_)
      go_simp
      refine hK.out _ _ ?_
      clear hK K
      try simp only [Act.put, List.setIfInBounds_toArray, List.set_cons_zero, List.set_cons_succ]
      refine wpK.done (by kernel_rfl) ?_ _
      obtain ⟨wz, hwz, hblkZ, huZ⟩ := set4_of hblk10 (.int .i64 o) (.slice none 0 0) (.slice none 0 0) (.slice none 0 0)
      rw [← hwz]
      have hge : wq.heap.size ≤ g10 := by have := HG10.out; have : wq.drew.heap.size = wq.heap.size := rfl; omega
      have hBZ : Below wq.heap.size wq wz := Below.trans hH (huZ.below hH.size (fun k _ q => q ▸ hge))
      have HBLKZ := hid hblkZ
      have HBZ := hid hBZ
      have HGE := hid hge
      clear hwz hblkZ huZ hge hBZ hblk10 hb12 hk12 hH hk0 hy0 hy1 hy2 hy3 hz0 hz1 hz2 hz3 hq1 hq2 hq3
      go_wp2_with fail
      refine (acc_list1 g10 _).mono ?_
      rintro e w6 ⟨rfl, hb6⟩
      have HK6 := hid (Below.trans HBZ.out (hb6.mono HBZ.out.size))
      have hq0' := hq0 w6 HK6.out
      have hblk6 := HBLKZ.out.below hb6
      obtain ⟨hy0, hy1, hy2, hy3, hz0, hz1, hz2, hz3⟩ := hblk6.c4
      have HBLK6 := hid hblk6
      clear hb6 hblk6 hq0
      go_wp2_with fail
      refine (sl_Search0 _ p _ (SlI.nil _)).mono ?_
      rintro e w' ⟨rfl, rfl⟩
      go_wp2_with fail
      refine (sl_InsertEnd [] p (.slice none 0 0) w6.heap.size w6.heap.size _ (World.ownsRow_nil _ _ _ _) (by simp) (by simp) ((Blk.new w6 _ _).cell 0)).mono ?_
      rintro e w8 ⟨v8, rfl, hown8, hg8⟩
      have hk8 : Below w6.heap.size w6 w8 := Below.trans (Below.new w6 _) ((Upd.of_grown hg8).below (by simp) (fun _ _ q => by cases q))
      obtain ⟨b8, c8, rfl⟩ := Joins.ownsRow_form hown8 (by omega)
      have hblk8 := HBLK6.out.below hk8
      have HK8 := hid (Below.trans HK6.out (hk8.mono HK6.out.size))
      have HOWN8 := hid hown8
      have HBLK8 := hid hblk8
      have hres8 := HRES.out.below HK8.out
      have HRES8 := hid hres8
      clear hy0 hy1 hy2 hy3 hz0 hz1 hz2 hz3 hg8 hown8 hk8 hq0'
      obtain ⟨hy0, hy1, hy2, hy3, hz0, hz1, hz2, hz3⟩ := hblk8.c4
      obtain ⟨hr0, hr1, hr2, hr3, hs0, hs1, hs2, hs3⟩ := hres8.c4
      have hn1 : ¬ g10 = w.heap.size + 1 := by have := HGE.out; have := HSQ.out; omega
      have hn2 : ¬ w.heap.size + 1 = g10 := fun q => hn1 q.symm
      clear hblk8 hres8
      go_wp2_with fail
      obtain ⟨wf, hwf, hblkF, huF⟩ := set4_of (x := w8.setCell ⟨g10, 1, none⟩ (.slice (some ⟨b8, 0, none⟩) 1 c8)) (HRES8.out.upd (Upd.setCell w8 g10 1 _) hn2) (.int .i64 o) (.slice (some ⟨b8, 0, none⟩) 1 c8) (.slice none 0 0) (.slice none 0 0)
      rw [← hwf]
      have hUF : Upd (fun k => k = g10 ∨ k = w.heap.size + 1) w8 wf := ((Upd.setCell w8 g10 1 _).mono (fun k _ q => Or.inl q)).trans (huF.mono (fun k _ q => Or.inr q)) (fun _ _ q => q)
      have hVB : SlI wf (.slice (some ⟨b8, 0, none⟩) 1 c8) [p] := (SlI.of_own (l := [p]) HOWN8.out).upd hUF (fun k hk q => by have h8 := (HOWN8.out.lt k hk).1; have := HBLK6.out.lt; have := HK6.out.size; have := HSQ.out; rcases q with q | q <;> omega)
      have hW8 : Below w.heap.size w w8 := Below.trans HBQ.out (HK8.out.mono HBQ.out.size)
      have hBF : Below w.heap.size w wf := Below.trans hW8 (hUF.below hW8.size (fun k _ q => by have := HGE.out; have := HSQ.out; rcases q with q | q <;> omega))
      obtain ⟨hF0, hF1, hF2, hF3, -⟩ := hblkF.c4
      have HPOST := hid (And.intro hVB hBF)
      clear hVB hBF hW8 hUF huF hwf hblkF
      (try simp only [Exit.inBlock, Exit.then])
      refine bodyPost_ret (results_cell_tmp rfl _ _ _ rfl (by go_simp; rfl)) rfl ?_
      exact ⟨_, rfl, HPOST.out.1, HPOST.out.2⟩
  · go_simp
    (first | refine K_alloc (K := K) ?_ | refine K_allocD (K := K) ?_); intro g10 wn hg10 hs12 hb12 hblk10; rw [← hg10]; (have hk12 : Below wq.heap.size wq wn := Below.next (by first | exact hH | exact Below.refl _ _) hb12); (have HG10 := hid hg10); (have HS12 := hid hs12); clear hg10 hs12; (obtain ⟨hy0, hy1, hy2, hy3, hz0, hz1, hz2, hz3⟩ := hblk10.c4)
    refine hK.out _ _ (by assumption) (fun hH => ?_)
    clear hK K
    try simp only [Act.put, List.setIfInBounds_toArray, List.set_cons_zero, List.set_cons_succ]
    refine wpK.step (i := 4) (by kernel_rfl) (by simp only [List.getElem?_toArray, List.getElem?_cons_succ, List.getElem?_cons_zero]; rfl) (fun K hK => ?_)
    go_simp
    (refine (sl_CloneN _).mono ?_); rintro e w' ⟨rfl, rfl⟩; go_simp
    refine hK.out _ _ (by assumption) (fun hH => ?_)
    clear hK K
    try simp only [Act.put, List.setIfInBounds_toArray, List.set_cons_zero, List.set_cons_succ]
    refine wpK.step (i := 7) (by kernel_rfl) (by simp only [List.getElem?_toArray, List.getElem?_cons_succ, List.getElem?_cons_zero]; rfl) (fun K hK => ?_)
    go_simp
    (refine (sl_CloneN _).mono ?_); rintro e w' ⟨rfl, rfl⟩; go_simp
    refine hK.out _ _ (by assumption) (fun hH => ?_)
    clear hK K
    try simp only [Act.put, List.setIfInBounds_toArray, List.set_cons_zero, List.set_cons_succ]
    refine wpK.step (i := 10) (by kernel_rfl) (by simp only [List.getElem?_toArray, List.getElem?_cons_succ, List.getElem?_cons_zero]; rfl) (fun K hK => ?_)
    go_simp
    (refine (sl_CloneN _).mono ?_); rintro e w' ⟨rfl, rfl⟩; go_simp
    refine hK.out _ _ (by assumption) (fun hH => ?_)
    clear hK K
    try simp only [Act.put, List.setIfInBounds_toArray, List.set_cons_zero, List.set_cons_succ]
    refine wpK.take (i := 11) (v := _) (by simp only [List.getElem?_toArray, List.getElem?_cons_succ, List.getElem?_cons_zero]; rfl) (by kernel_rfl) (by kernel_rfl) (by kernel_rfl) (by kernel_rfl) (by kernel_rfl) (by exact fun _ _ _ h => h) (by first | exact Or.inl ⟨by rfl, by intro w hSw; go_simp; try with_reducible rfl⟩ | exact Or.inr ⟨by rfl, rfl⟩) hH ?_
    try simp only [Act.put, List.setIfInBounds_toArray, List.set_cons_zero, List.set_cons_succ]
    refine wpK.late (i := 13) (by kernel_rfl) (by simp only [List.getElem?_toArray, List.getElem?_cons_succ, List.getElem?_cons_zero]; rfl) (by kernel_rfl) (fun K hK => ?_)
    go_simp
    refine hK.out _ _ ?_
    clear hK K
    try simp only [Act.put, List.setIfInBounds_toArray, List.set_cons_zero, List.set_cons_succ]
    refine wpK.done (by kernel_rfl) ?_ _
    obtain ⟨wz, hwz, hblkZ, huZ⟩ := set4_of hblk10 (.int .i64 o) (.slice none 0 0) (.slice none 0 0) (.slice none 0 0)
    rw [← hwz]
    have hge : wq.heap.size ≤ g10 := by have := HG10.out; have : wq.drew.heap.size = wq.heap.size := rfl; omega
    have hBZ : Below wq.heap.size wq wz := Below.trans hH (huZ.below hH.size (fun k _ q => q ▸ hge))
    have HBLKZ := hid hblkZ
    have HBZ := hid hBZ
    have HGE := hid hge
    clear hwz hblkZ huZ hge hBZ hblk10 hb12 hk12 hH hk0 hy0 hy1 hy2 hy3 hz0 hz1 hz2 hz3 hq1 hq2 hq3
    go_wp2_with fail
    refine (acc_list1 g10 _).mono ?_
    rintro e w6 ⟨rfl, hb6⟩
    have HK6 := hid (Below.trans HBZ.out (hb6.mono HBZ.out.size))
    have hq0' := hq0 w6 HK6.out
    have hblk6 := HBLKZ.out.below hb6
    obtain ⟨hy0, hy1, hy2, hy3, hz0, hz1, hz2, hz3⟩ := hblk6.c4
    have HBLK6 := hid hblk6
    clear hb6 hblk6 hq0
    go_wp2_with fail
    refine (sl_Search0 _ p _ (SlI.nil _)).mono ?_
    rintro e w' ⟨rfl, rfl⟩
    go_wp2_with fail
    refine (sl_InsertEnd [] p (.slice none 0 0) w6.heap.size w6.heap.size _ (World.ownsRow_nil _ _ _ _) (by simp) (by simp) ((Blk.new w6 _ _).cell 0)).mono ?_
    rintro e w8 ⟨v8, rfl, hown8, hg8⟩
    have hk8 : Below w6.heap.size w6 w8 := Below.trans (Below.new w6 _) ((Upd.of_grown hg8).below (by simp) (fun _ _ q => by cases q))
    obtain ⟨b8, c8, rfl⟩ := Joins.ownsRow_form hown8 (by omega)
    have hblk8 := HBLK6.out.below hk8
    have HK8 := hid (Below.trans HK6.out (hk8.mono HK6.out.size))
    have HOWN8 := hid hown8
    have HBLK8 := hid hblk8
    have hres8 := HRES.out.below HK8.out
    have HRES8 := hid hres8
    clear hy0 hy1 hy2 hy3 hz0 hz1 hz2 hz3 hg8 hown8 hk8 hq0'
    obtain ⟨hy0, hy1, hy2, hy3, hz0, hz1, hz2, hz3⟩ := hblk8.c4
    obtain ⟨hr0, hr1, hr2, hr3, hs0, hs1, hs2, hs3⟩ := hres8.c4
    have hn1 : ¬ g10 = w.heap.size + 1 := by have := HGE.out; have := HSQ.out; omega
    have hn2 : ¬ w.heap.size + 1 = g10 := fun q => hn1 q.symm
    clear hblk8 hres8
    go_wp2_with fail
    obtain ⟨wf, hwf, hblkF, huF⟩ := set4_of (x := w8.setCell ⟨g10, 1, none⟩ (.slice (some ⟨b8, 0, none⟩) 1 c8)) (HRES8.out.upd (Upd.setCell w8 g10 1 _) hn2) (.int .i64 o) (.slice (some ⟨b8, 0, none⟩) 1 c8) (.slice none 0 0) (.slice none 0 0)
    rw [← hwf]
    have hUF : Upd (fun k => k = g10 ∨ k = w.heap.size + 1) w8 wf := ((Upd.setCell w8 g10 1 _).mono (fun k _ q => Or.inl q)).trans (huF.mono (fun k _ q => Or.inr q)) (fun _ _ q => q)
    have hVB : SlI wf (.slice (some ⟨b8, 0, none⟩) 1 c8) [p] := (SlI.of_own (l := [p]) HOWN8.out).upd hUF (fun k hk q => by have h8 := (HOWN8.out.lt k hk).1; have := HBLK6.out.lt; have := HK6.out.size; have := HSQ.out; rcases q with q | q <;> omega)
    have hW8 : Below w.heap.size w w8 := Below.trans HBQ.out (HK8.out.mono HBQ.out.size)
    have hBF : Below w.heap.size w wf := Below.trans hW8 (hUF.below hW8.size (fun k _ q => by have := HGE.out; have := HSQ.out; rcases q with q | q <;> omega))
    obtain ⟨hF0, hF1, hF2, hF3, -⟩ := hblkF.c4
    have HPOST := hid (And.intro hVB hBF)
    clear hVB hBF hW8 hUF huF hwf hblkF
    (try simp only [Exit.inBlock, Exit.then])
    refine bodyPost_ret (results_cell_tmp rfl _ _ _ rfl (by go_simp; rfl)) rfl ?_
    exact ⟨_, rfl, HPOST.out.1, HPOST.out.2⟩
end Go.Proofs.Ytdchopckbklncaa
