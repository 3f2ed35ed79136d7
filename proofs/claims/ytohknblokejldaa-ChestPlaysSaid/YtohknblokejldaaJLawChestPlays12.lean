/- Joined texts, in this order: ChestStep2. Each one's first remark says what it proves; no condition beyond those that its theorems name. -/
import Derived.Test.YtohknblokejldaaJLawChestPlays11
section
/- Contracts of the statements' own functions of layer 22: step, where a chest is altered, and where a house is cleared. -/
namespace Go.Proofs.Ytohknblokejldaa
open Go.RowKit
open Go.Lib (hid)
set_option linter.unusedVariables false

set_option maxRecDepth 100000 in
set_option maxHeartbeats 2000000 in
theorem step_alter (h n d : Int) (g : Nat) (F : Nat → Prop) (m : List (Int × List Int)) (v : Value) (X : List (Int × Int)) (w : World) (P : StepPre w g F m v X) (hn1 : -9223372036854775808 ≤ n) (hn2 : n ≤ 9223372036854775807) :
    Calls Try.prog 28 #[.pointer (some ⟨g, 0, none⟩), v, .agg #[.int .i64 2, .int .i64 h, .int .i64 n, .int .i64 d]] w (StepPost w g F m v X) := by
  have HP := hid P
  have HBLK := hid (opBlk w 2 h n d)
  have HB0 := hid (Below.new' w (.cells #[.int .i64 2, .int .i64 h, .int .i64 n, .int .i64 d] 61))
  have hXl := P.len
  have hpl := place_need P.rel h n hn1 hn2 (by omega)
  rcases hpl with ⟨hp, hq⟩ | ⟨j, x, hp, hXj, hq, hrel⟩
  · have HPL := hid hp
    have HAL : Hid (chAlter m h n d = (14, m)) := hid (by unfold chAlter; rw [hq]; simp)
    clear P hp hq
    go_enter Try.func28, Try.ntmps28
    go_wp2_with fail
    refine (chest_Alter h n d g F m _ (HP.out.ch.below HB0.out) hn2 _ _ HAL).mono ?_
    rintro e w1 ⟨rfl, hci, hu⟩
    obtain ⟨F', hc1, hF1, hs1, hv1, hu1⟩ := HP.out.ahead HB0.out hci hu
    have hblk1 := HBLK.out.upd hu (fun s => by have := HP.out.lt _ s; omega)
    have hcell1 : w1.cell? ⟨w.heap.size, 1, none⟩ = some (.int .i64 h) := by rw [hblk1.cell]; rfl
    have hcell2 : w1.cell? ⟨w.heap.size, 2, none⟩ = some (.int .i64 n) := by rw [hblk1.cell]; rfl
    have hcell3 : w1.cell? ⟨w.heap.size, 3, none⟩ = some (.int .i64 d) := by rw [hblk1.cell]; rfl
    have HS1 := hid hs1
    have HPOST : Hid (StepPost w g F m v X (.returned (.tuple #[v, .bool true])) w1) := hid ⟨v, m, X, F', rfl, hc1, fun j hj => ⟨(hF1 j hj).1.imp id (fun q => by have := HB0.out.size; omega), (hF1 j hj).2⟩, hs1, fun j hj => ⟨(hv1 j hj).1, (hv1 j hj).2, .inl hj⟩, HP.out.rel, by omega, id, hu1⟩
    clear hci hu hc1 hF1 hs1 hv1 hu1 hblk1
    go_wp2_with (go_at_call 75; (with_reducible refine (ref_Place X v h n _ HS1.out (by have := HP.out.len; omega) _ HPL).mono ?_); rintro e w' ⟨rfl, rfl⟩; simp only [placeV])
    go_ret2
    exact HPOST.out
  have HPL := hid hp
  by_cases hd : 2 ≤ d ∧ d ≤ 4
  case neg =>
    have HAL : Hid (chAlter m h n d = (11, m)) := hid (by unfold chAlter; rw [hq, if_neg (by simp), if_pos hd])
    have HB : Hid ((decide (2 ≤ d) && decide (d ≤ 4)) = false) := hid (by simpa using hd)
    clear P hp hq hXj hrel hd
    go_enter Try.func28, Try.ntmps28
    go_wp2_with fail
    refine (chest_Alter h n d g F m _ (HP.out.ch.below HB0.out) hn2 _ _ HAL).mono ?_
    rintro e w1 ⟨rfl, hci, hu⟩
    obtain ⟨F', hc1, hF1, hs1, hv1, hu1⟩ := HP.out.ahead HB0.out hci hu
    have hblk1 := HBLK.out.upd hu (fun s => by have := HP.out.lt _ s; omega)
    have hcell1 : w1.cell? ⟨w.heap.size, 1, none⟩ = some (.int .i64 h) := by rw [hblk1.cell]; rfl
    have hcell2 : w1.cell? ⟨w.heap.size, 2, none⟩ = some (.int .i64 n) := by rw [hblk1.cell]; rfl
    have hcell3 : w1.cell? ⟨w.heap.size, 3, none⟩ = some (.int .i64 d) := by rw [hblk1.cell]; rfl
    have HS1 := hid hs1
    have HPOST : Hid (StepPost w g F m v X (.returned (.tuple #[v, .bool true])) w1) := hid ⟨v, m, X, F', rfl, hc1, fun j hj => ⟨(hF1 j hj).1.imp id (fun q => by have := HB0.out.size; omega), (hF1 j hj).2⟩, hs1, fun j hj => ⟨(hv1 j hj).1, (hv1 j hj).2, .inl hj⟩, HP.out.rel, by omega, id, hu1⟩
    clear hci hu hc1 hF1 hs1 hv1 hu1 hblk1
    go_wp2_with (first | (go_at_call 75; (with_reducible refine (ref_Place X v h n _ HS1.out (by have := HP.out.len; omega) _ HPL).mono ?_); rintro e w' ⟨rfl, rfl⟩; simp only [placeV]) | (go_at_call 30; (with_reducible refine (law22_need _ _).mono ?_); rintro e w' ⟨rfl, rfl⟩; rw [HB.out]))
    go_ret2
    exact HPOST.out
  obtain ⟨m', hm'⟩ : ∃ m', m' = aput m h ((chOf m h).set (n - 1).toNat d) := ⟨_, rfl⟩
  have HAL : Hid (chAlter m h n d = (0, m')) := hid (by unfold chAlter; rw [hq, if_neg (by simp), if_neg (fun k => k hd), hm'])
  have HB : Hid ((decide (2 ≤ d) && decide (d ≤ 4)) = true) := hid (by simpa using hd)
  have HREL : Hid (ChRel m' (X.set j (h, d))) := hid (by rw [hm']; exact hrel d)
  have HINV : Hid (ChInv m → ChInv m') := hid (fun hi => by rw [hm']; exact hi.alter hq d)
  have hjX : j < X.length := (List.getElem?_eq_some_iff.1 hXj).1
  have HXJ := hid hXj
  have hpos : 0 < X.length := by omega
  obtain ⟨a, c, rfl, -⟩ := P.sl
  clear P hp hq hXj hrel hd hm'
  go_enter Try.func28, Try.ntmps28
  go_wp2_with fail
  refine (chest_Alter h n d g F m _ (HP.out.ch.below HB0.out) hn2 _ _ HAL).mono ?_
  rintro e w1 ⟨rfl, hci, hu⟩
  obtain ⟨F', hc1, hF1, hs1, hv1, hu1⟩ := HP.out.ahead HB0.out hci hu
  have hblk1 := HBLK.out.upd hu (fun s => by have := HP.out.lt _ s; omega)
  have hcell1 : w1.cell? ⟨w.heap.size, 1, none⟩ = some (.int .i64 h) := by rw [hblk1.cell]; rfl
  have hcell2 : w1.cell? ⟨w.heap.size, 2, none⟩ = some (.int .i64 n) := by rw [hblk1.cell]; rfl
  have hcell3 : w1.cell? ⟨w.heap.size, 3, none⟩ = some (.int .i64 d) := by rw [hblk1.cell]; rfl
  have HBLK1 := hid hblk1
  have HS1 := hid hs1
  have HPOST : Hid (∀ v9 wE, Below w1.heap.size w1 wE → wE.ownsRow w1.heap.size 71 2 v9 (X.set j (h, d)).length (pv (X.set j (h, d))) → StepPost w g F m (.slice a X.length c) X (.returned (.tuple #[v9, .bool true])) wE) := hid (fun v9 wE hb ho => by
    refine ⟨v9, m', X.set j (h, d), F', rfl, hc1.below hb, fun j hj => ⟨(hF1 j hj).1.imp id (fun q => by have := HB0.out.size; omega), Nat.lt_of_lt_of_le (hF1 j hj).2 hb.size⟩, SlP.of_own ho, fun j hj => ?_, HREL.out, by simp, HINV.out, hu1.trans (Upd.of_below (S := F) hb) (fun _ _ x => x)⟩
    have := ho.lt j hj
    exact ⟨fun hf => by have := (hF1 j hf).2; omega, this.2, .inr (by have := hu1.size; omega)⟩)
  have hown0 : (w1.alloc (.cells #[] 71)).ownsRow w1.heap.size 71 2 (.slice (some ⟨w1.heap.size, 0, none⟩) 0 0) 0 [] := World.ownsRow_made w1 #[] 0 (Nat.le_refl _) (by unfold maxLen; omega) (by simp)
  have HOWN0 := hid hown0
  have HR0 : Hid (Rd (w1.alloc (.cells #[] 71)) a (pv X) ∧ (a = none → c = 0)) := hid (by
    obtain ⟨aa, cc, ee, h1, -, -, h2⟩ := HS1.out.below (Below.new' w1 (.cells #[] 71))
    simp only [Value.slice.injEq] at ee
    obtain ⟨rfl, -, rfl⟩ := ee
    exact ⟨h1, h2⟩)
  have hk0 : (0 : Int) ≤ (j : Int) := by omega
  have hk1 : ¬ (j : Int) < 0 := by omega
  have hk2 : (j : Int) < (X.length : Int) := by omega
  clear hci hu hc1 hF1 hs1 hv1 hu1 hblk1 hown0
  go_wp2_with (first | (go_at_call 75; (with_reducible refine (ref_Place X _ h n _ HS1.out (by have := HP.out.len; omega) _ HPL).mono ?_); rintro e w' ⟨rfl, rfl⟩; simp only [placeV]) | (go_at_call 30; (with_reducible refine (law22_need _ _).mono ?_); rintro e w' ⟨rfl, rfl⟩; rw [HB.out]) | (at_builtin; refine wpList_appendNw T_refchest _ rfl _ _ rfl w1.heap.size _ _ _ rfl HOWN0.out a X.length c (pv X) rfl ?c1 (fun _ => HR0.out.2) HR0.out.1 (pv_oneCell X) ?c2 ?c3 ?_))
  case c1 => exact pv_length X
  case c2 => omega
  case c3 => simp
  intro v2 w2 hown2 hg2 hnil2 hwh2
  replace hown2 : w2.ownsRow w1.heap.size 71 2 v2 X.length (pv X) := by simpa using hown2
  obtain ⟨g2, c2, rfl⟩ := Joins.ownsRow_form hown2 hpos
  have hg2l := hown2.lt g2 rfl
  have hb12 : Below w1.heap.size w1 w2 := (Below.new' w1 _).grown hg2 (by simp) (fun k hk => by simp [Value.ownBlock] at hk; omega)
  have hcell3' : w2.cell? ⟨w.heap.size, 3, none⟩ = some (.int .i64 d) := by rw [(HBLK1.out.below hb12).cell]; rfl
  have hj2 := pv_at X j _ HXJ.out
  have hcj : w2.cell? ⟨g2, j * 2 + 1, none⟩ = some (.int .i64 x) := by rw [hown2.cellAt (j * 2 + 1) (by omega)]; exact hj2.2
  have hfj : w2.frozen? ⟨g2, j * 2 + 1, none⟩ = false := hown2.frozenAt (j * 2 + 1)
  have hst := (hown2.stored (j * 2 + 1) (.int .i64 d)).1
  have HST : Hid ((w2.setCell ⟨g2, j * 2 + 1, none⟩ (.int .i64 d)).ownsRow w1.heap.size 71 2 (.slice (some ⟨g2, 0, none⟩) X.length c2) (X.set j (h, d)).length (pv (X.set j (h, d)))) := hid (by
    rw [List.length_set, pv_set2 X j h x d HXJ.out]; exact hst)
  have HBE : Hid (Below w1.heap.size w1 (w2.setCell ⟨g2, j * 2 + 1, none⟩ (.int .i64 d))) := hid (hb12.setCell (p := ⟨g2, j * 2 + 1, none⟩) hg2l.1 _)
  clear hown2 hg2 hnil2 hwh2 hb12 hj2 hst HR0 HOWN0 hcell1 hcell2 hcell3
  go_wp2
  go_ret2
  exact HPOST.out _ _ HBE.out HST.out

set_option maxRecDepth 100000 in
set_option maxHeartbeats 2000000 in
theorem step_clear (h n d : Int) (g : Nat) (F : Nat → Prop) (m : List (Int × List Int)) (v : Value) (X : List (Int × Int)) (w : World) (P : StepPre w g F m v X) :
    Calls Try.prog 28 #[.pointer (some ⟨g, 0, none⟩), v, .agg #[.int .i64 3, .int .i64 h, .int .i64 n, .int .i64 d]] w (StepPost w g F m v X) := by
  have HP := hid P
  have HBLK := hid (opBlk w 3 h n d)
  have HB0 := hid (Below.new' w (.cells #[.int .i64 3, .int .i64 h, .int .i64 n, .int .i64 d] 61))
  have hXl := P.len
  have HLEN : Hid (lenF X h 0 = (liOf X h).length) := hid (liOf_len X h)
  have HCH : Hid (chOf m h = liOf X h) := hid (P.rel h)
  obtain ⟨li, hli⟩ : ∃ li, liOf X h = li := ⟨_, rfl⟩
  rw [hli] at HLEN HCH
  have hcell1 : ∀ w', Upd F (w.alloc (.cells #[.int .i64 3, .int .i64 h, .int .i64 n, .int .i64 d] 61)) w' → w'.cell? ⟨w.heap.size, 1, none⟩ = some (.int .i64 h) := fun w' hu => by
    rw [(HBLK.out.upd hu (fun s => by have := HP.out.lt _ s; omega)).cell]; rfl
  have hd0 : Upd F (w.alloc (.cells #[.int .i64 3, .int .i64 h, .int .i64 n, .int .i64 d] 61)) (w.alloc (.cells #[.int .i64 3, .int .i64 h, .int .i64 n, .int .i64 d] 61)).drew := (Upd.refl F _).drew
  have HBD := hid (below_on HB0.out (Below.refl _ (w.alloc (.cells #[.int .i64 3, .int .i64 h, .int .i64 n, .int .i64 d] 61))).drew)
  clear P hli
  go_enter Try.func28, Try.ntmps28
  go_wp2_with fail
  refine wp_region_kept [] (fun w' => Upd F (w.alloc (.cells #[.int .i64 3, .int .i64 h, .int .i64 n, .int .i64 d] 61)) w') (by kernel_rfl) (by assumption) (fun hH => ?_)
  refine wpK.take (i := 0) (v := _) (by simp only [List.getElem?_toArray, List.getElem?_cons_succ, List.getElem?_cons_zero]; rfl) (by kernel_rfl) (by kernel_rfl) (by kernel_rfl) (by kernel_rfl) (by kernel_rfl) (by exact fun _ _ _ h => h) (by first | exact Or.inl ⟨by rfl, by intro w hSw; go_simp; try with_reducible rfl⟩ | exact Or.inr ⟨by rfl, rfl⟩) hH ?_
  try simp only [Act.put, List.setIfInBounds_toArray, List.set_cons_zero, List.set_cons_succ]
  refine wpK.take (i := 1) (v := _) (by simp only [List.getElem?_toArray, List.getElem?_cons_succ, List.getElem?_cons_zero]; rfl) (by kernel_rfl) (by kernel_rfl) (by kernel_rfl) (by kernel_rfl) (by kernel_rfl) (by exact fun _ _ _ h => h) (by first | exact Or.inl ⟨by rfl, by intro w hSw; go_simp; try with_reducible rfl⟩ | exact Or.inr ⟨by rfl, rfl⟩) hH ?_
  try simp only [Act.put, List.setIfInBounds_toArray, List.set_cons_zero, List.set_cons_succ]
  refine wpK.take (i := 2) (v := _) (by simp only [List.getElem?_toArray, List.getElem?_cons_succ, List.getElem?_cons_zero]; rfl) (by kernel_rfl) (by kernel_rfl) (by kernel_rfl) (by kernel_rfl) (by kernel_rfl) (by exact fun _ _ _ h => h) (by first | exact Or.inl ⟨by rfl, by intro w hSw; go_simp; try with_reducible rfl⟩ | exact Or.inr ⟨by rfl, rfl⟩) hH ?_
  try simp only [Act.put, List.setIfInBounds_toArray, List.set_cons_zero, List.set_cons_succ]
  refine wpK.take (i := 4) (v := _) (by simp only [List.getElem?_toArray, List.getElem?_cons_succ, List.getElem?_cons_zero]; rfl) (by kernel_rfl) (by kernel_rfl) (by kernel_rfl) (by kernel_rfl) (by kernel_rfl) (by exact fun _ _ _ h => h) (by first | exact Or.inl ⟨by rfl, by intro w hSw; go_simp; try with_reducible rfl⟩ | exact Or.inr ⟨by rfl, rfl⟩) hH ?_
  try simp only [Act.put, List.setIfInBounds_toArray, List.set_cons_zero, List.set_cons_succ]
  refine wpK.take (i := 5) (v := _) (by simp only [List.getElem?_toArray, List.getElem?_cons_succ, List.getElem?_cons_zero]; rfl) (by kernel_rfl) (by kernel_rfl) (by kernel_rfl) (by kernel_rfl) (by kernel_rfl) (by exact fun _ _ _ h => h) (by first | exact Or.inl ⟨by rfl, by intro w hSw; go_simp; try with_reducible rfl⟩ | exact Or.inr ⟨by rfl, rfl⟩) hH ?_
  try simp only [Act.put, List.setIfInBounds_toArray, List.set_cons_zero, List.set_cons_succ]
  refine wpK.take (i := 6) (v := _) (by simp only [List.getElem?_toArray, List.getElem?_cons_succ, List.getElem?_cons_zero]; rfl) (by kernel_rfl) (by kernel_rfl) (by kernel_rfl) (by kernel_rfl) (by kernel_rfl) (by exact fun _ _ _ h => h) (by first | exact Or.inl ⟨by rfl, by intro w hSw; go_simp; try with_reducible rfl⟩ | exact Or.inr ⟨by rfl, rfl⟩) hH ?_
  try simp only [Act.put, List.setIfInBounds_toArray, List.set_cons_zero, List.set_cons_succ]
  refine wpK.take (i := 8) (v := _) (by simp only [List.getElem?_toArray, List.getElem?_cons_succ, List.getElem?_cons_zero]; rfl) (by kernel_rfl) (by kernel_rfl) (by kernel_rfl) (by kernel_rfl) (by kernel_rfl) (by exact fun _ _ _ h => h) (by first | exact Or.inl ⟨by rfl, by intro w hSw; go_simp; try with_reducible rfl⟩ | exact Or.inr ⟨by rfl, rfl⟩) hH ?_
  try simp only [Act.put, List.setIfInBounds_toArray, List.set_cons_zero, List.set_cons_succ]
  refine wpK.take (i := 9) (v := _) (by simp only [List.getElem?_toArray, List.getElem?_cons_succ, List.getElem?_cons_zero]; rfl) (by kernel_rfl) (by kernel_rfl) (by kernel_rfl) (by kernel_rfl) (by kernel_rfl) (by exact fun _ _ _ h => h) (by first | exact Or.inl ⟨by rfl, by intro w hSw; go_simp; try with_reducible rfl⟩ | exact Or.inr ⟨by rfl, rfl⟩) hH ?_
  try simp only [Act.put, List.setIfInBounds_toArray, List.set_cons_zero, List.set_cons_succ]
  refine wpK.take (i := 10) (v := _) (by simp only [List.getElem?_toArray, List.getElem?_cons_succ, List.getElem?_cons_zero]; rfl) (by kernel_rfl) (by kernel_rfl) (by kernel_rfl) (by kernel_rfl) (by kernel_rfl) (by exact fun _ _ _ h => h) (by first | exact Or.inl ⟨by rfl, by intro w hSw; go_simp; try with_reducible rfl⟩ | exact Or.inr ⟨by rfl, rfl⟩) hH ?_
  try simp only [Act.put, List.setIfInBounds_toArray, List.set_cons_zero, List.set_cons_succ]
  refine wpK.step (i := 3) (by kernel_rfl) (by simp only [List.getElem?_toArray, List.getElem?_cons_succ, List.getElem?_cons_zero]; rfl) (fun K hK => ?_)
  go_simp
  (refine (ref_Without X v h _ (HP.out.sl.below HBD.out) (by omega)).mono ?_); rintro e wA ⟨v3, rfl, hown3, hb3⟩; (have hcA := (HP.out.ch.below HBD.out).below hb3); (have hsA := (HP.out.sl.below HBD.out).below hb3); (have hkA := hH.trans (Upd.of_below (S := F) hb3) (fun _ _ x => x)); go_simp
  refine hK.out _ _ (by assumption) (fun hH => ?_)
  clear hK K
  try simp only [Act.put, List.setIfInBounds_toArray, List.set_cons_zero, List.set_cons_succ]
  refine wpK.step (i := 7) (by kernel_rfl) (by simp only [List.getElem?_toArray, List.getElem?_cons_succ, List.getElem?_cons_zero]; rfl) (fun K hK => ?_)
  go_simp
  (refine (chest_Clear h g F m _ hcA li HCH).mono ?_); rintro e wB ⟨rfl, hcB, huB⟩; (have hsB := hsA.upd huB (fun k hk => (HP.out.far k hk).1)); (have hkB := hkA.trans huB (fun _ _ x => x)); go_simp
  refine hK.out _ _ (by assumption) (fun hH => ?_)
  clear hK K
  try simp only [Act.put, List.setIfInBounds_toArray, List.set_cons_zero, List.set_cons_succ]
  refine wpK.step (i := 11) (by kernel_rfl) (by simp only [List.getElem?_toArray, List.getElem?_cons_succ, List.getElem?_cons_zero]; rfl) (fun K hK => ?_)
  go_simp
  (refine (ref_Len X v h _ hsB (by omega) _ HLEN).mono ?_); rintro e wC ⟨rfl, rfl⟩; go_simp
  refine hK.out _ _ (by assumption) (fun hH => ?_)
  clear hK K
  try simp only [Act.put, List.setIfInBounds_toArray, List.set_cons_zero, List.set_cons_succ]
  refine wpK.take (i := 12) (v := _) (by simp only [List.getElem?_toArray, List.getElem?_cons_succ, List.getElem?_cons_zero]; rfl) (by kernel_rfl) (by kernel_rfl) (by kernel_rfl) (by kernel_rfl) (by kernel_rfl) (by exact fun _ _ _ h => h) (by first | exact Or.inl ⟨by rfl, by intro w hSw; go_simp; try with_reducible rfl⟩ | exact Or.inr ⟨by rfl, rfl⟩) hH ?_
  try simp only [Act.put, List.setIfInBounds_toArray, List.set_cons_zero, List.set_cons_succ]
  refine wpK.take (i := 13) (v := _) (by simp only [List.getElem?_toArray, List.getElem?_cons_succ, List.getElem?_cons_zero]; rfl) (by kernel_rfl) (by kernel_rfl) (by kernel_rfl) (by kernel_rfl) (by kernel_rfl) (by exact fun _ _ _ h => h) (by first | exact Or.inl ⟨by rfl, by intro w hSw; go_simp; try with_reducible rfl⟩ | exact Or.inr ⟨by rfl, rfl⟩) hH ?_
  try simp only [Act.put, List.setIfInBounds_toArray, List.set_cons_zero, List.set_cons_succ]
  refine wpK.take (i := 14) (v := _) (by simp only [List.getElem?_toArray, List.getElem?_cons_succ, List.getElem?_cons_zero]; rfl) (by kernel_rfl) (by kernel_rfl) (by kernel_rfl) (by kernel_rfl) (by kernel_rfl) (by exact fun _ _ _ h => h) (by first | exact Or.inl ⟨by rfl, by intro w hSw; go_simp; try with_reducible rfl⟩ | exact Or.inr ⟨by rfl, rfl⟩) hH ?_
  try simp only [Act.put, List.setIfInBounds_toArray, List.set_cons_zero, List.set_cons_succ]
  refine wpK.done (by kernel_rfl) ?_ _
  have hsz := HBD.out.size
  have hw3 : ∀ k, v3.ownBlock = some k → (w.alloc (.cells #[.int .i64 3, .int .i64 h, .int .i64 n, .int .i64 d] 61)).drew.heap.size ≤ k ∧ k < wA.heap.size := fun k hk => hown3.lt k hk
  have ho3 := Upd.owns huB hown3 (fun k hk s => by have := (hw3 k hk).1; have := HP.out.lt _ s; omega)
  have HPOST : Hid (StepPost w g F m v X (.returned (.tuple #[v3, .bool true])) wB) := hid ⟨v3, adel m h, withoutL X h, F, rfl, hcB, fun j hj => ⟨.inl hj, by have := HP.out.lt j hj; have := HBD.out.size; have := hb3.size; have := huB.size; omega⟩, SlP.of_own ho3, fun j hj => ⟨fun s => by have := (hw3 j hj).1; have := HP.out.lt _ s; omega, by have := (hw3 j hj).2; have := huB.size; omega, .inr (by have := (hw3 j hj).1; omega)⟩, HP.out.rel.clear h, Nat.le_trans (List.length_filter_le _ _) (by omega), fun hi => hi.del h, (Upd.of_below (S := F) HBD.out).trans ((Upd.of_below (S := F) hb3).trans huB (fun _ _ x => x)) (fun _ _ x => x)⟩
  clear hown3 hb3 hcA hsA hkA hcB huB hsB hkB ho3 hw3 hH
  go_wp2
  go_ret2
  exact HPOST.out
end Go.Proofs.Ytohknblokejldaa
end
