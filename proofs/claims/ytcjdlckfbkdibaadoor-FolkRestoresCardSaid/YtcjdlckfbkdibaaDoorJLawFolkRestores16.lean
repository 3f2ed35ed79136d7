/- Joined texts, in this order: FolkOps. Each one's first remark says what it proves; no condition beyond those that its theorems name. -/
import Derived.Test.YtcjdlckfbkdibaaDoorJLawFolkRestores15
section
/- Contracts of the package folk: the other ways of Mint, Hold, Burn, Give, Move. -/
namespace Go.Proofs.YtcjdlckfbkdibaaDoor
open Go.RowKit
open Go.Lib (hid)
set_option linter.unusedVariables false

theorem folk_Mint15 (g b r c : Nat) (L : List (List UInt8 × Int)) (held total : Int) (w : World) (h : FkIs w g b (.slice (some ⟨r, 0, none⟩) L.length c) L held total) (i : Nat) (x : List UInt8) (y n : Int) (hx : L[i]? = some (x, y)) (hl : L.length ≤ 256) (id : Int) (hi : id = (i : Int) + 1)
    (hy : 0 ≤ y ∧ y ≤ 1099511627776) (hn : 0 ≤ n ∧ n ≤ 1099511627776) (ht : 0 ≤ total ∧ total ≤ 1099511627776) (hs : 1099511627776 < total + n) :
    Calls Tryd.prog 41 #[.pointer (some ⟨g, 0, none⟩), .int .i64 id, .int .i64 n] w fun e w' => e = .returned (.int .i64 15) ∧ w = w' := by
  have H := hid h
  have hil := (List.getElem?_eq_some_iff.1 hx).1
  have hE : checkE L id n = 0 := by unfold checkE; rw [if_pos ⟨by omega, by omega⟩, if_pos hn]
  have HE := hid hE
  have HX := hid hx
  have HIL := hid hil
  have HI := hid hi
  have hrg : r ≠ g := fun e => h.n1 (by rw [e]; rfl)
  have HRG := hid hrg
  have HN := hid hn
  have HY := hid hy
  have e1 : addE total n = 15 := by unfold addE; rw [goldR_true ht, goldR_true hn]; simp [hs]
  have e2 : addV total n = 0 := by unfold addV; rw [e1]; rfl
  have E1 := hid e1
  have E2 := hid e2
  have c3 : w.cell? ⟨g, 3, none⟩ = some (.int .i64 total) := h.blk.cells4.2.2.2
  clear h hE hx hil hi hy hn hrg e1 e2 ht hs
  go_enter Tryd.func41, Tryd.ntmps41
  go_wp2_with fail
  refine (folk_check g b _ L held total w H.out id n 0 HE).mono ?_
  rintro e w1 ⟨rfl, rfl⟩
  go_wp2_with fail
  refine (gold_Add total n w).mono ?_
  rintro e w1 ⟨rfl, rfl⟩
  rw [E1.out, E2.out]
  go_wp2_with fail
  go_ret
  exact ⟨rfl, rfl⟩
theorem folk_Hold35 (g b r c : Nat) (L : List (List UInt8 × Int)) (held total : Int) (w : World) (h : FkIs w g b (.slice (some ⟨r, 0, none⟩) L.length c) L held total) (i : Nat) (x : List UInt8) (y n : Int) (hx : L[i]? = some (x, y)) (hl : L.length ≤ 256) (id : Int) (hi : id = (i : Int) + 1)
    (hy : 0 ≤ y ∧ y ≤ 1099511627776) (hn : 0 ≤ n ∧ n ≤ 1099511627776) (hs : y < n) :
    Calls Tryd.prog 42 #[.pointer (some ⟨g, 0, none⟩), .int .i64 id, .int .i64 n] w fun e w' => e = .returned (.int .i64 35) ∧ Below w.heap.size w w' := by
  have H := hid h
  have hil := (List.getElem?_eq_some_iff.1 hx).1
  have hE : checkE L id n = 0 := by unfold checkE; rw [if_pos ⟨by omega, by omega⟩, if_pos hn]
  have HE := hid hE
  have HX := hid hx
  have HIL := hid hil
  have HI := hid hi
  have hrg : r ≠ g := fun e => h.n1 (by rw [e]; rfl)
  have HRG := hid hrg
  have HN := hid hn
  have HY := hid hy
  have HS := hid hs
  clear h hE hx hil hi hy hn hrg hs
  go_enter Tryd.func42, Tryd.ntmps42
  go_wp2_with fail
  refine (folk_check g b _ L held total w H.out id n 0 HE).mono ?_
  rintro e w1 ⟨rfl, rfl⟩
  go_upto_region 4 with fail
  have hH2 := hid (H.out.below (Below.refl _ _).drew)
  obtain ⟨q1, -, q2⟩ := hH2.out.gold i x y HX.out
  have q3 : w.drew.cell? ⟨g, 2, none⟩ = some (.int .i64 held) := hH2.out.blk.cells4.2.2.1
  have q4 : w.drew.frozen? ⟨g, 2, none⟩ = false := hH2.out.blk.unfrozen 2
  have HQ := hid (And.intro q1 (And.intro q2 (And.intro q3 q4)))
  clear q1 q2 q3 q4
  refine wp_region_kept [8] (fun _ => True) (by kernel_rfl) (by trivial) (fun hH => ?_)
  refine wpK.take (i := 0) (v := _) (by simp only [List.getElem?_toArray, List.getElem?_cons_succ, List.getElem?_cons_zero]; rfl) (by kernel_rfl) (by kernel_rfl) (by kernel_rfl) (by kernel_rfl) (by kernel_rfl) (by exact fun _ _ _ h => h) (by first | exact Or.inl ⟨by rfl, by intro w hSw; go_simp; try with_reducible rfl⟩ | exact Or.inr ⟨by rfl, rfl⟩) hH ?_
  try simp only [Act.put, List.setIfInBounds_toArray, List.set_cons_zero, List.set_cons_succ]
  refine wpK.take (i := 1) (v := _) (by simp only [List.getElem?_toArray, List.getElem?_cons_succ, List.getElem?_cons_zero]; rfl) (by kernel_rfl) (by kernel_rfl) (by kernel_rfl) (by kernel_rfl) (by kernel_rfl) (by exact fun _ _ _ h => h) (by first | exact Or.inl ⟨by rfl, by intro w hSw; go_simp; try with_reducible rfl⟩ | exact Or.inr ⟨by rfl, rfl⟩) hH ?_
  try simp only [Act.put, List.setIfInBounds_toArray, List.set_cons_zero, List.set_cons_succ]
  refine wpK.take (i := 3) (v := _) (by simp only [List.getElem?_toArray, List.getElem?_cons_succ, List.getElem?_cons_zero]; rfl) (by kernel_rfl) (by kernel_rfl) (by kernel_rfl) (by kernel_rfl) (by kernel_rfl) (by exact fun _ _ _ h => h) (by first | exact Or.inl ⟨by rfl, by intro w hSw; go_simp; try with_reducible rfl⟩ | exact Or.inr ⟨by rfl, rfl⟩) hH ?_
  try simp only [Act.put, List.setIfInBounds_toArray, List.set_cons_zero, List.set_cons_succ]
  refine wpK.take (i := 4) (v := _) (by simp only [List.getElem?_toArray, List.getElem?_cons_succ, List.getElem?_cons_zero]; rfl) (by kernel_rfl) (by kernel_rfl) (by kernel_rfl) (by kernel_rfl) (by kernel_rfl) (by exact fun _ _ _ h => h) (by first | exact Or.inl ⟨by rfl, by intro w hSw; go_simp; try with_reducible rfl⟩ | exact Or.inr ⟨by rfl, rfl⟩) hH ?_
  try simp only [Act.put, List.setIfInBounds_toArray, List.set_cons_zero, List.set_cons_succ]
  refine wpK.take (i := 5) (v := _) (by simp only [List.getElem?_toArray, List.getElem?_cons_succ, List.getElem?_cons_zero]; rfl) (by kernel_rfl) (by kernel_rfl) (by kernel_rfl) (by kernel_rfl) (by kernel_rfl) (by exact fun _ _ _ h => h) (by first | exact Or.inl ⟨by rfl, by intro w hSw; go_simp; try with_reducible rfl⟩ | exact Or.inr ⟨by rfl, rfl⟩) hH ?_
  try simp only [Act.put, List.setIfInBounds_toArray, List.set_cons_zero, List.set_cons_succ]
  refine wpK.take (i := 6) (v := _) (by simp only [List.getElem?_toArray, List.getElem?_cons_succ, List.getElem?_cons_zero]; rfl) (by kernel_rfl) (by kernel_rfl) (by kernel_rfl) (by kernel_rfl) (by kernel_rfl) (by exact fun _ _ _ h => h) (by first | exact Or.inl ⟨by rfl, by intro w hSw; go_simp; try with_reducible rfl⟩ | exact Or.inr ⟨by rfl, rfl⟩) hH ?_
  try simp only [Act.put, List.setIfInBounds_toArray, List.set_cons_zero, List.set_cons_succ]
  refine wpK.step (i := 2) (by kernel_rfl) (by simp only [List.getElem?_toArray, List.getElem?_cons_succ, List.getElem?_cons_zero]; rfl) (fun K hK => ?_)
  go_simp
  (refine (folk_purse g b r c L held total _ hH2.out i HIL.out hl id HI.out).mono ?_); rintro e wk ⟨rfl, rfl⟩; go_simp
  refine hK.out _ _ (by trivial) (fun hH => ?_)
  clear hK K
  try simp only [Act.put, List.setIfInBounds_toArray, List.set_cons_zero, List.set_cons_succ]
  refine wpK.step (i := 7) (by kernel_rfl) (by simp only [List.getElem?_toArray, List.getElem?_cons_succ, List.getElem?_cons_zero]; rfl) (fun K hK => ?_)
  go_simp
  (refine (folk_shiftNo r (i * 2 + 1) g 2 y n _ HQ.out.1 HY.out HN.out HS.out).mono ?_); rintro e wk ⟨rfl, rfl⟩; go_simp
  refine hK.out _ _ (by trivial) (fun hH => ?_)
  clear hK K
  try simp only [Act.put, List.setIfInBounds_toArray, List.set_cons_zero, List.set_cons_succ]
  refine wpK.late (i := 8) (by kernel_rfl) (by simp only [List.getElem?_toArray, List.getElem?_cons_succ, List.getElem?_cons_zero]; rfl) (by kernel_rfl) (fun K hK => ?_)
  go_simp
  refine hK.out _ _ ?_
  clear hK K
  try simp only [Act.put, List.setIfInBounds_toArray, List.set_cons_zero, List.set_cons_succ]
  refine wpK.done (by kernel_rfl) ?_ _
  go_wp2_with fail
  go_ret
  exact ⟨rfl, (Below.refl _ _).drew⟩
theorem folk_Give35 (g b r c : Nat) (L : List (List UInt8 × Int)) (held total : Int) (w : World) (h : FkIs w g b (.slice (some ⟨r, 0, none⟩) L.length c) L held total) (i : Nat) (x : List UInt8) (y n : Int) (hx : L[i]? = some (x, y)) (hl : L.length ≤ 256) (id : Int) (hi : id = (i : Int) + 1)
    (hy : 0 ≤ y ∧ y ≤ 1099511627776) (hn : 0 ≤ n ∧ n ≤ 1099511627776) (ht : 0 ≤ held ∧ held ≤ 1099511627776) (hs : held < n) :
    Calls Tryd.prog 50 #[.pointer (some ⟨g, 0, none⟩), .int .i64 id, .int .i64 n] w fun e w' => e = .returned (.int .i64 35) ∧ Below w.heap.size w w' := by
  have H := hid h
  have hil := (List.getElem?_eq_some_iff.1 hx).1
  have hE : checkE L id n = 0 := by unfold checkE; rw [if_pos ⟨by omega, by omega⟩, if_pos hn]
  have HE := hid hE
  have HX := hid hx
  have HIL := hid hil
  have HI := hid hi
  have hrg : r ≠ g := fun e => h.n1 (by rw [e]; rfl)
  have HRG := hid hrg
  have HN := hid hn
  have HY := hid hy
  have HS := hid hs
  have HT := hid ht
  clear h hE hx hil hi hy hn hrg hs ht
  go_enter Tryd.func50, Tryd.ntmps50
  go_wp2_with fail
  refine (folk_check g b _ L held total w H.out id n 0 HE).mono ?_
  rintro e w1 ⟨rfl, rfl⟩
  go_upto_region 4 with fail
  have hH2 := hid (H.out.below (Below.refl _ _).drew)
  obtain ⟨q1, -, q2⟩ := hH2.out.gold i x y HX.out
  have q3 : w.drew.cell? ⟨g, 2, none⟩ = some (.int .i64 held) := hH2.out.blk.cells4.2.2.1
  have q4 : w.drew.frozen? ⟨g, 2, none⟩ = false := hH2.out.blk.unfrozen 2
  have HQ := hid (And.intro q1 (And.intro q2 (And.intro q3 q4)))
  clear q1 q2 q3 q4
  refine wp_region_kept [8] (fun _ => True) (by kernel_rfl) (by trivial) (fun hH => ?_)
  refine wpK.take (i := 0) (v := _) (by simp only [List.getElem?_toArray, List.getElem?_cons_succ, List.getElem?_cons_zero]; rfl) (by kernel_rfl) (by kernel_rfl) (by kernel_rfl) (by kernel_rfl) (by kernel_rfl) (by exact fun _ _ _ h => h) (by first | exact Or.inl ⟨by rfl, by intro w hSw; go_simp; try with_reducible rfl⟩ | exact Or.inr ⟨by rfl, rfl⟩) hH ?_
  try simp only [Act.put, List.setIfInBounds_toArray, List.set_cons_zero, List.set_cons_succ]
  refine wpK.take (i := 1) (v := _) (by simp only [List.getElem?_toArray, List.getElem?_cons_succ, List.getElem?_cons_zero]; rfl) (by kernel_rfl) (by kernel_rfl) (by kernel_rfl) (by kernel_rfl) (by kernel_rfl) (by exact fun _ _ _ h => h) (by first | exact Or.inl ⟨by rfl, by intro w hSw; go_simp; try with_reducible rfl⟩ | exact Or.inr ⟨by rfl, rfl⟩) hH ?_
  try simp only [Act.put, List.setIfInBounds_toArray, List.set_cons_zero, List.set_cons_succ]
  refine wpK.take (i := 2) (v := _) (by simp only [List.getElem?_toArray, List.getElem?_cons_succ, List.getElem?_cons_zero]; rfl) (by kernel_rfl) (by kernel_rfl) (by kernel_rfl) (by kernel_rfl) (by kernel_rfl) (by exact fun _ _ _ h => h) (by first | exact Or.inl ⟨by rfl, by intro w hSw; go_simp; try with_reducible rfl⟩ | exact Or.inr ⟨by rfl, rfl⟩) hH ?_
  try simp only [Act.put, List.setIfInBounds_toArray, List.set_cons_zero, List.set_cons_succ]
  refine wpK.take (i := 3) (v := _) (by simp only [List.getElem?_toArray, List.getElem?_cons_succ, List.getElem?_cons_zero]; rfl) (by kernel_rfl) (by kernel_rfl) (by kernel_rfl) (by kernel_rfl) (by kernel_rfl) (by exact fun _ _ _ h => h) (by first | exact Or.inl ⟨by rfl, by intro w hSw; go_simp; try with_reducible rfl⟩ | exact Or.inr ⟨by rfl, rfl⟩) hH ?_
  try simp only [Act.put, List.setIfInBounds_toArray, List.set_cons_zero, List.set_cons_succ]
  refine wpK.take (i := 4) (v := _) (by simp only [List.getElem?_toArray, List.getElem?_cons_succ, List.getElem?_cons_zero]; rfl) (by kernel_rfl) (by kernel_rfl) (by kernel_rfl) (by kernel_rfl) (by kernel_rfl) (by exact fun _ _ _ h => h) (by first | exact Or.inl ⟨by rfl, by intro w hSw; go_simp; try with_reducible rfl⟩ | exact Or.inr ⟨by rfl, rfl⟩) hH ?_
  try simp only [Act.put, List.setIfInBounds_toArray, List.set_cons_zero, List.set_cons_succ]
  refine wpK.take (i := 6) (v := _) (by simp only [List.getElem?_toArray, List.getElem?_cons_succ, List.getElem?_cons_zero]; rfl) (by kernel_rfl) (by kernel_rfl) (by kernel_rfl) (by kernel_rfl) (by kernel_rfl) (by exact fun _ _ _ h => h) (by first | exact Or.inl ⟨by rfl, by intro w hSw; go_simp; try with_reducible rfl⟩ | exact Or.inr ⟨by rfl, rfl⟩) hH ?_
  try simp only [Act.put, List.setIfInBounds_toArray, List.set_cons_zero, List.set_cons_succ]
  refine wpK.step (i := 5) (by kernel_rfl) (by simp only [List.getElem?_toArray, List.getElem?_cons_succ, List.getElem?_cons_zero]; rfl) (fun K hK => ?_)
  go_simp
  (refine (folk_purse g b r c L held total _ hH2.out i HIL.out hl id HI.out).mono ?_); rintro e wk ⟨rfl, rfl⟩; go_simp
  refine hK.out _ _ (by trivial) (fun hH => ?_)
  clear hK K
  try simp only [Act.put, List.setIfInBounds_toArray, List.set_cons_zero, List.set_cons_succ]
  refine wpK.step (i := 7) (by kernel_rfl) (by simp only [List.getElem?_toArray, List.getElem?_cons_succ, List.getElem?_cons_zero]; rfl) (fun K hK => ?_)
  go_simp
  (refine (folk_shiftNo g 2 r (i * 2 + 1) held n _ HQ.out.2.2.1 HT.out HN.out HS.out).mono ?_); rintro e wk ⟨rfl, rfl⟩; go_simp
  refine hK.out _ _ (by trivial) (fun hH => ?_)
  clear hK K
  try simp only [Act.put, List.setIfInBounds_toArray, List.set_cons_zero, List.set_cons_succ]
  refine wpK.late (i := 8) (by kernel_rfl) (by simp only [List.getElem?_toArray, List.getElem?_cons_succ, List.getElem?_cons_zero]; rfl) (by kernel_rfl) (fun K hK => ?_)
  go_simp
  refine hK.out _ _ ?_
  clear hK K
  try simp only [Act.put, List.setIfInBounds_toArray, List.set_cons_zero, List.set_cons_succ]
  refine wpK.done (by kernel_rfl) ?_ _
  go_wp2_with fail
  go_ret
  exact ⟨rfl, (Below.refl _ _).drew⟩
theorem folk_GiveYes (g b r c : Nat) (L : List (List UInt8 × Int)) (held total : Int) (w : World) (h : FkIs w g b (.slice (some ⟨r, 0, none⟩) L.length c) L held total) (i : Nat) (x : List UInt8) (y n : Int) (hx : L[i]? = some (x, y)) (hl : L.length ≤ 256) (id : Int) (hi : id = (i : Int) + 1)
    (hy : 0 ≤ y ∧ y ≤ 1099511627776) (hn : 0 ≤ n ∧ n ≤ 1099511627776) (ht : 0 ≤ held ∧ held ≤ 1099511627776) (hs : ¬ held < n) (d : Int) (hd : Hid (d = held - n)) :
    Calls Tryd.prog 50 #[.pointer (some ⟨g, 0, none⟩), .int .i64 id, .int .i64 n] w fun e w' => e = .returned (.int .i64 0) ∧ FkIs w' g b (.slice (some ⟨r, 0, none⟩) (L.set i (x, y + n)).length c) (L.set i (x, y + n)) d total ∧ Upd (fun k => k = g ∨ k = r) w w' := by
  have H := hid h
  have hil := (List.getElem?_eq_some_iff.1 hx).1
  have hE : checkE L id n = 0 := by unfold checkE; rw [if_pos ⟨by omega, by omega⟩, if_pos hn]
  have HE := hid hE
  have HX := hid hx
  have HIL := hid hil
  have HI := hid hi
  have hrg : r ≠ g := fun e => h.n1 (by rw [e]; rfl)
  have HRG := hid hrg
  have HN := hid hn
  have HY := hid hy
  have HS := hid hs
  have HT := hid ht
  clear h hE hx hil hi hy hn hrg hs ht
  go_enter Tryd.func50, Tryd.ntmps50
  go_wp2_with fail
  refine (folk_check g b _ L held total w H.out id n 0 HE).mono ?_
  rintro e w1 ⟨rfl, rfl⟩
  go_upto_region 4 with fail
  have hH2 := hid (H.out.below (Below.refl _ _).drew)
  obtain ⟨q1, -, q2⟩ := hH2.out.gold i x y HX.out
  have q3 : w.drew.cell? ⟨g, 2, none⟩ = some (.int .i64 held) := hH2.out.blk.cells4.2.2.1
  have q4 : w.drew.frozen? ⟨g, 2, none⟩ = false := hH2.out.blk.unfrozen 2
  have HQ := hid (And.intro q1 (And.intro q2 (And.intro q3 q4)))
  clear q1 q2 q3 q4
  refine wp_region_kept [8] (fun _ => True) (by kernel_rfl) (by trivial) (fun hH => ?_)
  refine wpK.take (i := 0) (v := _) (by simp only [List.getElem?_toArray, List.getElem?_cons_succ, List.getElem?_cons_zero]; rfl) (by kernel_rfl) (by kernel_rfl) (by kernel_rfl) (by kernel_rfl) (by kernel_rfl) (by exact fun _ _ _ h => h) (by first | exact Or.inl ⟨by rfl, by intro w hSw; go_simp; try with_reducible rfl⟩ | exact Or.inr ⟨by rfl, rfl⟩) hH ?_
  try simp only [Act.put, List.setIfInBounds_toArray, List.set_cons_zero, List.set_cons_succ]
  refine wpK.take (i := 1) (v := _) (by simp only [List.getElem?_toArray, List.getElem?_cons_succ, List.getElem?_cons_zero]; rfl) (by kernel_rfl) (by kernel_rfl) (by kernel_rfl) (by kernel_rfl) (by kernel_rfl) (by exact fun _ _ _ h => h) (by first | exact Or.inl ⟨by rfl, by intro w hSw; go_simp; try with_reducible rfl⟩ | exact Or.inr ⟨by rfl, rfl⟩) hH ?_
  try simp only [Act.put, List.setIfInBounds_toArray, List.set_cons_zero, List.set_cons_succ]
  refine wpK.take (i := 2) (v := _) (by simp only [List.getElem?_toArray, List.getElem?_cons_succ, List.getElem?_cons_zero]; rfl) (by kernel_rfl) (by kernel_rfl) (by kernel_rfl) (by kernel_rfl) (by kernel_rfl) (by exact fun _ _ _ h => h) (by first | exact Or.inl ⟨by rfl, by intro w hSw; go_simp; try with_reducible rfl⟩ | exact Or.inr ⟨by rfl, rfl⟩) hH ?_
  try simp only [Act.put, List.setIfInBounds_toArray, List.set_cons_zero, List.set_cons_succ]
  refine wpK.take (i := 3) (v := _) (by simp only [List.getElem?_toArray, List.getElem?_cons_succ, List.getElem?_cons_zero]; rfl) (by kernel_rfl) (by kernel_rfl) (by kernel_rfl) (by kernel_rfl) (by kernel_rfl) (by exact fun _ _ _ h => h) (by first | exact Or.inl ⟨by rfl, by intro w hSw; go_simp; try with_reducible rfl⟩ | exact Or.inr ⟨by rfl, rfl⟩) hH ?_
  try simp only [Act.put, List.setIfInBounds_toArray, List.set_cons_zero, List.set_cons_succ]
  refine wpK.take (i := 4) (v := _) (by simp only [List.getElem?_toArray, List.getElem?_cons_succ, List.getElem?_cons_zero]; rfl) (by kernel_rfl) (by kernel_rfl) (by kernel_rfl) (by kernel_rfl) (by kernel_rfl) (by exact fun _ _ _ h => h) (by first | exact Or.inl ⟨by rfl, by intro w hSw; go_simp; try with_reducible rfl⟩ | exact Or.inr ⟨by rfl, rfl⟩) hH ?_
  try simp only [Act.put, List.setIfInBounds_toArray, List.set_cons_zero, List.set_cons_succ]
  refine wpK.take (i := 6) (v := _) (by simp only [List.getElem?_toArray, List.getElem?_cons_succ, List.getElem?_cons_zero]; rfl) (by kernel_rfl) (by kernel_rfl) (by kernel_rfl) (by kernel_rfl) (by kernel_rfl) (by exact fun _ _ _ h => h) (by first | exact Or.inl ⟨by rfl, by intro w hSw; go_simp; try with_reducible rfl⟩ | exact Or.inr ⟨by rfl, rfl⟩) hH ?_
  try simp only [Act.put, List.setIfInBounds_toArray, List.set_cons_zero, List.set_cons_succ]
  refine wpK.step (i := 5) (by kernel_rfl) (by simp only [List.getElem?_toArray, List.getElem?_cons_succ, List.getElem?_cons_zero]; rfl) (fun K hK => ?_)
  go_simp
  (refine (folk_purse g b r c L held total _ hH2.out i HIL.out hl id HI.out).mono ?_); rintro e wk ⟨rfl, rfl⟩; go_simp
  refine hK.out _ _ (by trivial) (fun hH => ?_)
  clear hK K
  try simp only [Act.put, List.setIfInBounds_toArray, List.set_cons_zero, List.set_cons_succ]
  refine wpK.step (i := 7) (by kernel_rfl) (by simp only [List.getElem?_toArray, List.getElem?_cons_succ, List.getElem?_cons_zero]; rfl) (fun K hK => ?_)
  go_simp
  (refine (folk_shiftYes g 2 r (i * 2 + 1) held y n d _ HQ.out.2.2.1 HQ.out.1 HQ.out.2.2.2 HQ.out.2.1 (fun q => HRG.out (by simpa using (congrArg Addr.block q).symm)) HT.out HN.out HY.out (by have := HS.out; omega) hd).mono ?_); rintro e wk ⟨rfl, rfl⟩; go_simp
  refine hK.out _ _ (by trivial) (fun hH => ?_)
  clear hK K
  try simp only [Act.put, List.setIfInBounds_toArray, List.set_cons_zero, List.set_cons_succ]
  refine wpK.late (i := 8) (by kernel_rfl) (by simp only [List.getElem?_toArray, List.getElem?_cons_succ, List.getElem?_cons_zero]; rfl) (by kernel_rfl) (fun K hK => ?_)
  go_simp
  refine hK.out _ _ ?_
  clear hK K
  try simp only [Act.put, List.setIfInBounds_toArray, List.set_cons_zero, List.set_cons_succ]
  refine wpK.done (by kernel_rfl) ?_ _
  go_wp2_with fail
  go_ret
  refine ⟨rfl, ?_, ?_⟩
  · exact (hH2.out.setHeld d).put i x y (y + n) HX.out
  · exact (((Upd.of_below (S := fun k => k = g ∨ k = r) (Below.refl w.heap.size w).drew)).trans (Upd.setCell _ g 2 _) (fun k _ q => .inl q)).trans (Upd.setCell _ r (i * 2 + 1) _) (fun k _ q => .inr q)
theorem folk_BurnYes (g b r c : Nat) (L : List (List UInt8 × Int)) (held total : Int) (w : World) (h : FkIs w g b (.slice (some ⟨r, 0, none⟩) L.length c) L held total) (i : Nat) (x : List UInt8) (y n : Int) (hx : L[i]? = some (x, y)) (hl : L.length ≤ 256) (id : Int) (hi : id = (i : Int) + 1)
    (hy : 0 ≤ y ∧ y ≤ 1099511627776) (hn : 0 ≤ n ∧ n ≤ 1099511627776) (ht : 0 ≤ total ∧ total ≤ 1099511627776) (htn : n ≤ total) (hs : ¬ y < n) (d T : Int) (hd : Hid (d = y - n)) (hT : T = total - n) :
    Calls Tryd.prog 43 #[.pointer (some ⟨g, 0, none⟩), .int .i64 id, .int .i64 n] w fun e w' => e = .returned (.int .i64 0) ∧ FkIs w' g b (.slice (some ⟨r, 0, none⟩) (L.set i (x, d)).length c) (L.set i (x, d)) held T ∧ Upd (fun k => k = g ∨ k = r) w w' := by
  have H := hid h
  have hil := (List.getElem?_eq_some_iff.1 hx).1
  have hE : checkE L id n = 0 := by unfold checkE; rw [if_pos ⟨by omega, by omega⟩, if_pos hn]
  have HE := hid hE
  have HX := hid hx
  have HIL := hid hil
  have HI := hid hi
  have hrg : r ≠ g := fun e => h.n1 (by rw [e]; rfl)
  have HRG := hid hrg
  have HN := hid hn
  have HY := hid hy
  have HS := hid hs
  obtain ⟨t0, t1⟩ := ht
  obtain ⟨n0, n1⟩ := hn
  have hrl := (h.own.lt r rfl).2
  clear h hE hx hil hi hy hrg hs
  go_enter Tryd.func43, Tryd.ntmps43
  go_wp2_with fail
  refine (folk_check g b _ L held total w H.out id n 0 HE).mono ?_
  rintro e w1 ⟨rfl, rfl⟩
  go_upto_region 4 with fail
  obtain ⟨bg, hbg⟩ : ∃ bg, bg = w.heap.size := ⟨_, rfl⟩
  rw [← hbg]
  generalize hw2 : World.alloc w _ = w2
  have hb2 : Below w.heap.size w w2 := by rw [← hw2]; exact Below.new _ _
  have HG2 : Hid (Blk w2 bg #[.int .i64 0]) := hid (by rw [← hw2, hbg]; exact Blk.new w _ _)
  have H2 := hid (H.out.below hb2)
  have HB2 := hid hb2
  have HBG : Hid (r ≠ bg ∧ g ≠ bg ∧ b ≠ bg ∧ w.heap.size ≤ bg) := hid (by have := H.out.blk.lt; have := H.out.map.lt; omega)
  clear hw2 hb2 hbg hrl
  go_wp2_with fail
  refine (folk_purse g b r c L held total w2 H2.out i HIL.out hl id HI.out).mono ?_
  rintro e w3 ⟨rfl, rfl⟩
  go_wp2_with fail
  refine (folk_shiftYes r (i * 2 + 1) bg 0 y 0 n d w2 (H2.out.gold i x y HX.out).1 (by rw [HG2.out.cell]; rfl) (H2.out.gold i x y HX.out).2.2 (HG2.out.unfrozen 0) (fun q => HBG.out.1 (by simpa using congrArg Addr.block q)) HY.out HN.out (by omega) (by have := HS.out; omega) hd).mono ?_
  rintro e w3 ⟨rfl, rfl⟩
  have HF3 : Hid (FkIs ((w2.setCell ⟨r, i * 2 + 1, none⟩ (.int .i64 d)).setCell ⟨bg, 0, none⟩ (.int .i64 (0 + n))) g b (.slice (some ⟨r, 0, none⟩) (L.set i (x, d)).length c) (L.set i (x, d)) held total) := hid
    ((H2.out.put i x y d HX.out).upd (Upd.setCell _ bg 0 _) HBG.out.2.1 HBG.out.2.2.1 (fun k hk => by
      have : k = r := by simpa [Value.ownBlock] using hk.symm
      rw [this]; exact HBG.out.1))
  have HG3 : Hid (Blk ((w2.setCell ⟨r, i * 2 + 1, none⟩ (.int .i64 d)).setCell ⟨bg, 0, none⟩ (.int .i64 (0 + n))) bg #[.int .i64 (0 + n)]) := hid (by simpa using (HG2.out.upd (Upd.setCell w2 r (i * 2 + 1) (.int .i64 d)) (fun q => HBG.out.1 q.symm)).set 0 (.int .i64 (0 + n)))
  have HU3 : Hid (Upd (fun k => k = g ∨ k = r) w ((w2.setCell ⟨r, i * 2 + 1, none⟩ (.int .i64 d)).setCell ⟨bg, 0, none⟩ (.int .i64 (0 + n)))) := hid
    (((Upd.of_below (S := fun k => k = g ∨ k = r) HB2.out).trans (Upd.setCell w2 r (i * 2 + 1) (.int .i64 d)) (fun k _ q => .inr q)).trans (Upd.setCell _ bg 0 _) (fun k hk q => by have := HBG.out.2.2.2; omega))
  generalize World.setCell (World.setCell w2 _ _) _ _ = w3 at HF3 HG3 HU3
  clear HG2 H2 HB2
  go_upto_region 5 with fail
  have hz : (0 : Int) + n = n := by omega
  have d3 : ∀ y, Below w3.heap.size w3 y → y.cell? ⟨g, 3, none⟩ = some (.int .i64 total) := fun y hy => (HF3.out.blk.below hy).cells4.2.2.2
  have f3 : ∀ y, Below w3.heap.size w3 y → y.frozen? ⟨g, 3, none⟩ = false := fun y hy => (HF3.out.blk.below hy).unfrozen 3
  have d4 : ∀ y, Below w3.heap.size w3 y → y.cell? ⟨bg, 0, none⟩ = some (.int .i64 n) := fun y hy => by rw [(HG3.out.below hy).cell, hz]; rfl
  have hy2 := (Below.refl w3.heap.size w3).drew
  have hwt : IntKind.i64.wrap (total - n) = total - n := by unfold IntKind.wrap; simp [IntKind.bits, IntKind.signed]; omega
  clear hz
  refine wp_region_kept [6, 7, 8] (fun y => Below w3.heap.size w3 y) (by kernel_rfl) (by assumption) (fun hH => ?_)
  refine wpK.take (i := 0) (v := _) (by simp only [List.getElem?_toArray, List.getElem?_cons_succ, List.getElem?_cons_zero]; rfl) (by kernel_rfl) (by kernel_rfl) (by kernel_rfl) (by kernel_rfl) (by kernel_rfl) (by exact fun _ _ _ h => h) (by first | exact Or.inl ⟨by rfl, by intro w hSw; go_simp; try with_reducible rfl⟩ | exact Or.inr ⟨by rfl, rfl⟩) hH ?_
  try simp only [Act.put, List.setIfInBounds_toArray, List.set_cons_zero, List.set_cons_succ]
  refine wpK.take (i := 1) (v := _) (by simp only [List.getElem?_toArray, List.getElem?_cons_succ, List.getElem?_cons_zero]; rfl) (by kernel_rfl) (by kernel_rfl) (by kernel_rfl) (by kernel_rfl) (by kernel_rfl) (by exact fun _ _ _ h => h) (by first | exact Or.inl ⟨by rfl, by intro w hSw; go_simp; try with_reducible rfl⟩ | exact Or.inr ⟨by rfl, rfl⟩) hH ?_
  try simp only [Act.put, List.setIfInBounds_toArray, List.set_cons_zero, List.set_cons_succ]
  refine wpK.take (i := 2) (v := _) (by simp only [List.getElem?_toArray, List.getElem?_cons_succ, List.getElem?_cons_zero]; rfl) (by kernel_rfl) (by kernel_rfl) (by kernel_rfl) (by kernel_rfl) (by kernel_rfl) (by exact fun _ _ _ h => h) (by first | exact Or.inl ⟨by rfl, by intro w hSw; go_simp; try with_reducible rfl⟩ | exact Or.inr ⟨by rfl, rfl⟩) hH ?_
  try simp only [Act.put, List.setIfInBounds_toArray, List.set_cons_zero, List.set_cons_succ]
  refine wpK.take (i := 3) (v := _) (by simp only [List.getElem?_toArray, List.getElem?_cons_succ, List.getElem?_cons_zero]; rfl) (by kernel_rfl) (by kernel_rfl) (by kernel_rfl) (by kernel_rfl) (by kernel_rfl) (by exact fun _ _ _ h => h) (by first | exact Or.inl ⟨by rfl, by intro w hSw; go_simp; try with_reducible rfl⟩ | exact Or.inr ⟨by rfl, rfl⟩) hH ?_
  try simp only [Act.put, List.setIfInBounds_toArray, List.set_cons_zero, List.set_cons_succ]
  refine wpK.take (i := 4) (v := _) (by simp only [List.getElem?_toArray, List.getElem?_cons_succ, List.getElem?_cons_zero]; rfl) (by kernel_rfl) (by kernel_rfl) (by kernel_rfl) (by kernel_rfl) (by kernel_rfl) (by exact fun _ _ _ h => h) (by first | exact Or.inl ⟨by rfl, by intro w hSw; go_simp; try with_reducible rfl⟩ | exact Or.inr ⟨by rfl, rfl⟩) hH ?_
  try simp only [Act.put, List.setIfInBounds_toArray, List.set_cons_zero, List.set_cons_succ]
  refine wpK.take (i := 5) (v := _) (by simp only [List.getElem?_toArray, List.getElem?_cons_succ, List.getElem?_cons_zero]; rfl) (by kernel_rfl) (by kernel_rfl) (by kernel_rfl) (by kernel_rfl) (by kernel_rfl) (by exact fun _ _ _ h => h) (by first | exact Or.inl ⟨by rfl, by intro w hSw; go_simp; try with_reducible rfl⟩ | exact Or.inr ⟨by rfl, rfl⟩) hH ?_
  try simp only [Act.put, List.setIfInBounds_toArray, List.set_cons_zero, List.set_cons_succ]
  refine wpK.late (i := 6) (by kernel_rfl) (by simp only [List.getElem?_toArray, List.getElem?_cons_succ, List.getElem?_cons_zero]; rfl) (by kernel_rfl) (fun K hK => ?_)
  go_simp
  refine hK.out _ _ ?_
  clear hK K
  try simp only [Act.put, List.setIfInBounds_toArray, List.set_cons_zero, List.set_cons_succ]
  refine wpK.late (i := 7) (by kernel_rfl) (by simp only [List.getElem?_toArray, List.getElem?_cons_succ, List.getElem?_cons_zero]; rfl) (by kernel_rfl) (fun K hK => ?_)
  go_simp
  refine hK.out _ _ ?_
  clear hK K
  try simp only [Act.put, List.setIfInBounds_toArray, List.set_cons_zero, List.set_cons_succ]
  refine wpK.late (i := 8) (by kernel_rfl) (by simp only [List.getElem?_toArray, List.getElem?_cons_succ, List.getElem?_cons_zero]; rfl) (by kernel_rfl) (fun K hK => ?_)
  go_simp
  refine hK.out _ _ ?_
  clear hK K
  try simp only [Act.put, List.setIfInBounds_toArray, List.set_cons_zero, List.set_cons_succ]
  refine wpK.done (by kernel_rfl) ?_ _
  clear d3 f3 d4 hy2 hH hwt
  go_wp2_with fail
  go_ret
  refine ⟨rfl, ?_, ?_⟩
  · rw [hT]; exact (HF3.out.below (Below.refl _ _).drew).setTotal (total - n)
  · exact (HU3.out.drew).trans (Upd.setCell _ g 3 _) (fun k _ q => .inl q)
theorem folk_MoveNoC (g b : Nat) (v : Value) (L : List (List UInt8 × Int)) (held total : Int) (w : World) (h : FkIs w g b v L held total) (id tt n E : Int) (hE : Hid (checkE L id n = E)) (hne : E ≠ 0) :
    Calls Tryd.prog 47 #[.pointer (some ⟨g, 0, none⟩), .int .i64 id, .int .i64 tt, .int .i64 n] w fun e w' => e = .returned (.int .i64 E) ∧ w = w' := by
  have H := hid h
  have e1 : (E == 0) = false := by simp [hne]
  have e2 : (E != 0) = true := by simp [hne]
  clear h hne
  go_enter Tryd.func47, Tryd.ntmps47
  go_wp2_with fail
  refine (folk_check g b v L held total w H.out id n E hE).mono ?_
  rintro e w1 ⟨rfl, rfl⟩
  go_wp2_with fail
  go_ret
  exact ⟨rfl, rfl⟩
theorem folk_MoveNo14 (g b : Nat) (v : Value) (L : List (List UInt8 × Int)) (held total : Int) (w : World) (h : FkIs w g b v L held total) (id tt n : Int) (hE : Hid (checkE L id n = 0)) (hto : ¬ (1 ≤ tt ∧ tt ≤ (L.length : Int))) :
    Calls Tryd.prog 47 #[.pointer (some ⟨g, 0, none⟩), .int .i64 id, .int .i64 tt, .int .i64 n] w fun e w' => e = .returned (.int .i64 14) ∧ w = w' := by
  have H := hid h
  have d1 : decide (1 ≤ tt ∧ tt ≤ (L.length : Int)) = false := by simpa using hto
  clear h hto
  go_enter Tryd.func47, Tryd.ntmps47
  go_wp2_with fail
  refine (folk_check g b v L held total w H.out id n 0 hE).mono ?_
  rintro e w1 ⟨rfl, rfl⟩
  go_wp2_with fail
  refine (folk_Has g b v L held total w H.out tt).mono ?_
  rintro e w1 ⟨rfl, rfl⟩
  rw [d1]
  go_wp2_with fail
  go_ret
  exact ⟨rfl, rfl⟩
theorem folk_Move35 (g b r c : Nat) (L : List (List UInt8 × Int)) (held total : Int) (w : World) (h : FkIs w g b (.slice (some ⟨r, 0, none⟩) L.length c) L held total) (i : Nat) (x : List UInt8) (y n : Int) (tt : Int) (hx : L[i]? = some (x, y)) (hl : L.length ≤ 256) (id : Int) (hi : id = (i : Int) + 1)
    (hy : 0 ≤ y ∧ y ≤ 1099511627776) (hn : 0 ≤ n ∧ n ≤ 1099511627776) (j : Nat) (hj : j < L.length) (hjt : tt = (j : Int) + 1) (hs : y < n) :
    Calls Tryd.prog 47 #[.pointer (some ⟨g, 0, none⟩), .int .i64 id, .int .i64 tt, .int .i64 n] w fun e w' => e = .returned (.int .i64 35) ∧ w = w' := by
  have H := hid h
  have hil := (List.getElem?_eq_some_iff.1 hx).1
  have hE : checkE L id n = 0 := by unfold checkE; rw [if_pos ⟨by omega, by omega⟩, if_pos hn]
  have HE := hid hE
  have HX := hid hx
  have HIL := hid hil
  have HI := hid hi
  have hrg : r ≠ g := fun e => h.n1 (by rw [e]; rfl)
  have HRG := hid hrg
  have HN := hid hn
  have HY := hid hy
  have HS := hid hs
  have d1 : decide (1 ≤ tt ∧ tt ≤ (L.length : Int)) = true := by simp; omega
  have HJ := hid (And.intro hj hjt)
  clear h hE hx hil hi hy hn hrg hs hj hjt
  go_enter Tryd.func47, Tryd.ntmps47
  go_wp2_with fail
  refine (folk_check g b _ L held total w H.out id n 0 HE).mono ?_
  rintro e w1 ⟨rfl, rfl⟩
  go_wp2_with fail
  refine (folk_Has g b _ L held total w H.out tt).mono ?_
  rintro e w1 ⟨rfl, rfl⟩
  rw [d1]
  go_wp2_with fail
  refine (folk_purse g b r c L held total w H.out i HIL.out hl id HI.out).mono ?_
  rintro e w1 ⟨rfl, rfl⟩
  go_wp2_with fail
  refine (folk_purse g b r c L held total w H.out j HJ.out.1 hl tt HJ.out.2).mono ?_
  rintro e w1 ⟨rfl, rfl⟩
  go_wp2_with fail
  refine (folk_shiftNo r (i * 2 + 1) r (j * 2 + 1) y n w (H.out.gold i x y HX.out).1 HY.out HN.out HS.out).mono ?_
  rintro e w1 ⟨rfl, rfl⟩
  go_wp2_with fail
  go_ret
  exact ⟨rfl, rfl⟩
theorem folk_MoveYes (g b r c : Nat) (L : List (List UInt8 × Int)) (held total : Int) (w : World) (h : FkIs w g b (.slice (some ⟨r, 0, none⟩) L.length c) L held total) (i : Nat) (x : List UInt8) (y n : Int) (tt : Int) (hx : L[i]? = some (x, y)) (hl : L.length ≤ 256) (id : Int) (hi : id = (i : Int) + 1)
    (hy : 0 ≤ y ∧ y ≤ 1099511627776) (hn : 0 ≤ n ∧ n ≤ 1099511627776) (j : Nat) (hjt : tt = (j : Int) + 1) (hs : ¬ y < n) (d : Int) (hd : Hid (d = y - n)) (x2 : List UInt8) (y2 : Int) (hx2 : (L.set i (x, d))[j]? = some (x2, y2)) (hy2 : 0 ≤ y2 ∧ y2 ≤ 1099511627776) :
    Calls Tryd.prog 47 #[.pointer (some ⟨g, 0, none⟩), .int .i64 id, .int .i64 tt, .int .i64 n] w fun e w' => e = .returned (.int .i64 0) ∧ FkIs w' g b (.slice (some ⟨r, 0, none⟩) ((L.set i (x, d)).set j (x2, y2 + n)).length c) ((L.set i (x, d)).set j (x2, y2 + n)) held total ∧ Upd (fun k => k = r) w w' := by
  have H := hid h
  have hil := (List.getElem?_eq_some_iff.1 hx).1
  have hE : checkE L id n = 0 := by unfold checkE; rw [if_pos ⟨by omega, by omega⟩, if_pos hn]
  have HE := hid hE
  have HX := hid hx
  have HIL := hid hil
  have HI := hid hi
  have hrg : r ≠ g := fun e => h.n1 (by rw [e]; rfl)
  have HRG := hid hrg
  have HN := hid hn
  have HY := hid hy
  have HS := hid hs
  have hj : j < L.length := by have := (List.getElem?_eq_some_iff.1 hx2).1; simpa using this
  have d1 : decide (1 ≤ tt ∧ tt ≤ (L.length : Int)) = true := by simp; omega
  have HJ := hid (And.intro hj hjt)
  have HX2 := hid hx2
  have HY2 := hid hy2
  have HP1 := hid (h.put i x y d hx)
  clear h hE hx hil hi hy hn hrg hs hj hjt hx2 hy2
  go_enter Tryd.func47, Tryd.ntmps47
  go_wp2_with fail
  refine (folk_check g b _ L held total w H.out id n 0 HE).mono ?_
  rintro e w1 ⟨rfl, rfl⟩
  go_wp2_with fail
  refine (folk_Has g b _ L held total w H.out tt).mono ?_
  rintro e w1 ⟨rfl, rfl⟩
  rw [d1]
  go_wp2_with fail
  refine (folk_purse g b r c L held total w H.out i HIL.out hl id HI.out).mono ?_
  rintro e w1 ⟨rfl, rfl⟩
  go_wp2_with fail
  refine (folk_purse g b r c L held total w H.out j HJ.out.1 hl tt HJ.out.2).mono ?_
  rintro e w1 ⟨rfl, rfl⟩
  go_wp2_with fail
  refine (folk_shiftG r (i * 2 + 1) r (j * 2 + 1) y y2 n d w (H.out.gold i x y HX.out).1 (HP1.out.gold j x2 y2 HX2.out).1 (H.out.gold i x y HX.out).2.2 (by
    obtain ⟨p, hp⟩ : ∃ p, L[j]? = some p := ⟨_, List.getElem?_eq_getElem HJ.out.1⟩
    exact (H.out.gold j p.1 p.2 hp).2.2) HY.out HN.out HY2.out (by have := HS.out; omega) hd).mono ?_
  rintro e w1 ⟨rfl, rfl⟩
  go_wp2_with fail
  go_ret
  exact ⟨rfl, HP1.out.put j x2 y2 (y2 + n) HX2.out, (Upd.setCell w r (i * 2 + 1) _).trans (Upd.setCell _ r (j * 2 + 1) _) (fun k _ q => q)⟩
end Go.Proofs.YtcjdlckfbkdibaaDoor
end
