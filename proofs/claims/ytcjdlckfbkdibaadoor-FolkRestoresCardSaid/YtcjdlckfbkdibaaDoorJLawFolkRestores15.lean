/- Joined texts, in this order: FolkShift. Each one's first remark says what it proves; no condition beyond those that its theorems name. -/
import Derived.Test.YtcjdlckfbkdibaaDoorJLawFolkRestores14
import Derived.Test.YtcjdlckfbkdibaaDoorJLawFolkRestores12
section
/- Contracts of the package folk: Gold, shift, Mint, Hold, Burn. -/
namespace Go.Proofs.YtcjdlckfbkdibaaDoor
open Go.RowKit
open Go.Lib (hid)
set_option linter.unusedVariables false

theorem folk_GoldYes (g b r c : Nat) (L : List (List UInt8 × Int)) (held total : Int) (w : World) (h : FkIs w g b (.slice (some ⟨r, 0, none⟩) L.length c) L held total) (i : Nat) (x : List UInt8) (y : Int) (hx : L[i]? = some (x, y)) (hl : L.length ≤ 256) (id : Int) (hi : id = (i : Int) + 1) :
    Calls Tryd.prog 44 #[.pointer (some ⟨g, 0, none⟩), .int .i64 id] w fun e w' => e = .returned (.tuple #[.int .i64 y, .int .i64 0]) ∧ w = w' := by
  have H := hid h
  have hil := (List.getElem?_eq_some_iff.1 hx).1
  have hE : checkE L id 0 = 0 := by unfold checkE; rw [if_pos ⟨by omega, by omega⟩, if_pos ⟨by omega, by omega⟩]
  have HE := hid hE
  have HX := hid hx
  have HIL := hid hil
  have HI := hid hi
  obtain ⟨c0, -, -⟩ := h.gold i x y hx
  clear h hE hx hil hi
  go_enter Tryd.func44, Tryd.ntmps44
  go_wp2_with fail
  refine (folk_check g b _ L held total w H.out id 0 0 HE).mono ?_
  rintro e w1 ⟨rfl, rfl⟩
  go_wp2_with fail
  refine (folk_purse g b r c L held total w H.out i HIL.out hl id HI.out).mono ?_
  rintro e w1 ⟨rfl, rfl⟩
  go_wp2_with fail
  go_ret2
  exact ⟨rfl, rfl⟩
theorem folk_GoldNo (g b : Nat) (v : Value) (L : List (List UInt8 × Int)) (held total : Int) (w : World) (h : FkIs w g b v L held total) (id : Int) (hi : ¬ (1 ≤ id ∧ id ≤ (L.length : Int))) :
    Calls Tryd.prog 44 #[.pointer (some ⟨g, 0, none⟩), .int .i64 id] w fun e w' => e = .returned (.tuple #[.int .i64 0, .int .i64 14]) ∧ w = w' := by
  have H := hid h
  have hE : checkE L id 0 = 14 := by unfold checkE; rw [if_neg hi]
  have HE := hid hE
  clear h hE hi
  go_enter Tryd.func44, Tryd.ntmps44
  go_wp2_with fail
  refine (folk_check g b v L held total w H.out id 0 14 HE).mono ?_
  rintro e w1 ⟨rfl, rfl⟩
  go_wp2_with fail
  go_ret2
  exact ⟨rfl, rfl⟩
theorem folk_shiftNo (a1 o1 a2 o2 : Nat) (x n : Int) (w : World) (h1 : w.cell? ⟨a1, o1, none⟩ = some (.int .i64 x)) (hx : 0 ≤ x ∧ x ≤ 1099511627776) (hn : 0 ≤ n ∧ n ≤ 1099511627776) (hlt : x < n) :
    Calls Tryd.prog 80 #[.pointer (some ⟨a1, o1, none⟩), .pointer (some ⟨a2, o2, none⟩), .int .i64 n] w fun e w' => e = .returned (.int .i64 35) ∧ w = w' := by
  have e1 : subE x n = 35 := by unfold subE; rw [goldR_true hx, goldR_true hn]; simp [hlt]
  have e2 : subV x n = 0 := by unfold subV; rw [e1]; rfl
  have E1 := hid e1
  have E2 := hid e2
  clear e1 e2 hx hn hlt
  go_enter Tryd.func80, Tryd.ntmps80
  go_wp2_with fail
  refine (gold_Sub x n w).mono ?_
  rintro e w1 ⟨rfl, rfl⟩
  rw [E1.out, E2.out]
  go_wp2_with fail
  go_ret
  exact ⟨rfl, rfl⟩
theorem folk_shiftG (a1 o1 a2 o2 : Nat) (x y n d : Int) (w : World) (h1 : w.cell? ⟨a1, o1, none⟩ = some (.int .i64 x)) (h3 : (w.setCell ⟨a1, o1, none⟩ (.int .i64 d)).cell? ⟨a2, o2, none⟩ = some (.int .i64 y)) (f1 : w.frozen? ⟨a1, o1, none⟩ = false) (f2 : w.frozen? ⟨a2, o2, none⟩ = false)
    (hx : 0 ≤ x ∧ x ≤ 1099511627776) (hn : 0 ≤ n ∧ n ≤ 1099511627776) (hy : 0 ≤ y ∧ y ≤ 1099511627776) (hlt : ¬ x < n) (hd : Hid (d = x - n)) :
    Calls Tryd.prog 80 #[.pointer (some ⟨a1, o1, none⟩), .pointer (some ⟨a2, o2, none⟩), .int .i64 n] w fun e w' => e = .returned (.int .i64 0) ∧ w' = (w.setCell ⟨a1, o1, none⟩ (.int .i64 d)).setCell ⟨a2, o2, none⟩ (.int .i64 (y + n)) := by
  have e1 : subE x n = 0 := by unfold subE; rw [goldR_true hx, goldR_true hn]; simp; omega
  have e2 : subV x n = d := by unfold subV; rw [e1, hd.out]; rfl
  have E1 := hid e1
  have E2 := hid e2
  have f3 : (w.setCell ⟨a1, o1, none⟩ (.int .i64 d)).frozen? ⟨a2, o2, none⟩ = false := by rw [World.frozen?_setCell]; exact f2
  obtain ⟨y0, y1⟩ := hy
  obtain ⟨n0, n1⟩ := hn
  clear e1 e2 hx hlt f2
  go_enter Tryd.func80, Tryd.ntmps80
  go_wp2_with fail
  refine (gold_Sub x n w).mono ?_
  rintro e w1 ⟨rfl, rfl⟩
  rw [E1.out, E2.out]
  go_wp2_with fail
  go_ret
  exact ⟨rfl, rfl⟩
theorem folk_shiftYes (a1 o1 a2 o2 : Nat) (x y n d : Int) (w : World) (h1 : w.cell? ⟨a1, o1, none⟩ = some (.int .i64 x)) (h2 : w.cell? ⟨a2, o2, none⟩ = some (.int .i64 y)) (f1 : w.frozen? ⟨a1, o1, none⟩ = false) (f2 : w.frozen? ⟨a2, o2, none⟩ = false)
    (hne : (⟨a1, o1, none⟩ : Addr) ≠ ⟨a2, o2, none⟩) (hx : 0 ≤ x ∧ x ≤ 1099511627776) (hn : 0 ≤ n ∧ n ≤ 1099511627776) (hy : 0 ≤ y ∧ y ≤ 1099511627776) (hlt : ¬ x < n) (hd : Hid (d = x - n)) :
    Calls Tryd.prog 80 #[.pointer (some ⟨a1, o1, none⟩), .pointer (some ⟨a2, o2, none⟩), .int .i64 n] w fun e w' => e = .returned (.int .i64 0) ∧ w' = (w.setCell ⟨a1, o1, none⟩ (.int .i64 d)).setCell ⟨a2, o2, none⟩ (.int .i64 (y + n)) :=
  folk_shiftG a1 o1 a2 o2 x y n d w h1 (by rw [World.cell?_setCell_other _ _ _ _ hne]; exact h2) f1 f2 hx hn hy hlt hd
theorem folk_MintYes (g b r c : Nat) (L : List (List UInt8 × Int)) (held total : Int) (w : World) (h : FkIs w g b (.slice (some ⟨r, 0, none⟩) L.length c) L held total) (i : Nat) (x : List UInt8) (y n : Int) (hx : L[i]? = some (x, y)) (hl : L.length ≤ 256) (id : Int) (hi : id = (i : Int) + 1)
    (hy : 0 ≤ y ∧ y ≤ 1099511627776) (hn : 0 ≤ n ∧ n ≤ 1099511627776) (ht : 0 ≤ total ∧ total ≤ 1099511627776) (hs : total + n ≤ 1099511627776) :
    Calls Tryd.prog 41 #[.pointer (some ⟨g, 0, none⟩), .int .i64 id, .int .i64 n] w fun e w' => e = .returned (.int .i64 0) ∧ FkIs w' g b (.slice (some ⟨r, 0, none⟩) (L.set i (x, y + n)).length c) (L.set i (x, y + n)) held (total + n) ∧ Upd (fun k => k = g ∨ k = r) w w' := by
  have H := hid h
  have hil := (List.getElem?_eq_some_iff.1 hx).1
  have hE : checkE L id n = 0 := by unfold checkE; rw [if_pos ⟨by omega, by omega⟩, if_pos hn]
  have HE := hid hE
  have HX := hid hx
  have HIL := hid hil
  have HI := hid hi
  obtain ⟨T, hT⟩ : ∃ T, T = total + n := ⟨_, rfl⟩
  have e1 : addE total n = 0 := by unfold addE; rw [goldR_true ht, goldR_true hn]; simp; omega
  have e2 : addV total n = T := by unfold addV; rw [e1, hT]; rfl
  have E1 := hid e1
  have E2 := hid e2
  rw [← hT]
  have hrg : r ≠ g := fun e => h.n1 (by rw [e]; rfl)
  have c3 : w.cell? ⟨g, 3, none⟩ = some (.int .i64 total) := h.blk.cells4.2.2.2
  have f3 : w.frozen? ⟨g, 3, none⟩ = false := h.blk.unfrozen 3
  have HW1 := hid (h.setTotal T)
  obtain ⟨y0, y1⟩ := hy
  obtain ⟨n0, n1⟩ := hn
  clear h hE hx hil hi e1 e2 ht hs hT
  go_enter Tryd.func41, Tryd.ntmps41
  go_wp2_with fail
  refine (folk_check g b _ L held total w H.out id n 0 HE).mono ?_
  rintro e w1 ⟨rfl, rfl⟩
  go_wp2_with fail
  refine (gold_Add total n w).mono ?_
  rintro e w1 ⟨rfl, rfl⟩
  rw [E1.out, E2.out]
  go_upto_region 8 with fail
  have HU1 := hid (Upd.setCell w g 3 (.int .i64 T))
  generalize World.setCell w _ _ = w2 at HW1 HU1
  clear c3 f3
  obtain ⟨cy, -, fy⟩ := HW1.out.gold i x y HX.out
  go_wp2_with fail
  refine (folk_purse g b r c L held T w2 HW1.out i HIL.out hl id HI.out).mono ?_
  rintro e w3 ⟨rfl, rfl⟩
  go_wp2_with fail
  go_ret
  refine ⟨rfl, HW1.out.put i x y (y + n) HX.out, (HU1.out.mono (fun k _ q => Or.inl q)).trans (Upd.setCell w2 r (i * 2 + 1) _) (fun k _ q => .inr q)⟩
theorem folk_HoldYes (g b r c : Nat) (L : List (List UInt8 × Int)) (held total : Int) (w : World) (h : FkIs w g b (.slice (some ⟨r, 0, none⟩) L.length c) L held total) (i : Nat) (x : List UInt8) (y n d : Int) (hx : L[i]? = some (x, y)) (hl : L.length ≤ 256) (id : Int) (hi : id = (i : Int) + 1)
    (hy : 0 ≤ y ∧ y ≤ 1099511627776) (hn : 0 ≤ n ∧ n ≤ 1099511627776) (ht : 0 ≤ held ∧ held ≤ 1099511627776) (hs : ¬ y < n) (hd : Hid (d = y - n)) :
    Calls Tryd.prog 42 #[.pointer (some ⟨g, 0, none⟩), .int .i64 id, .int .i64 n] w fun e w' => e = .returned (.int .i64 0) ∧ FkIs w' g b (.slice (some ⟨r, 0, none⟩) (L.set i (x, d)).length c) (L.set i (x, d)) (held + n) total ∧ Upd (fun k => k = g ∨ k = r) w w' := by
  have H := hid h
  have hil := (List.getElem?_eq_some_iff.1 hx).1
  have hE : checkE L id n = 0 := by unfold checkE; rw [if_pos ⟨by omega, by omega⟩, if_pos hn]
  have HE := hid hE
  have HX := hid hx
  have HIL := hid hil
  have HI := hid hi
  have hrg : r ≠ g := fun e => h.n1 (by rw [e]; rfl)
  have HRG := hid hrg
  have HN := hid hn
  have HY := hid hy
  have HT := hid ht
  have HS := hid hs
  clear h hE hx hil hi hy hn ht hs hrg
  go_enter Tryd.func42, Tryd.ntmps42
  go_wp2_with fail
  refine (folk_check g b _ L held total w H.out id n 0 HE).mono ?_
  rintro e w1 ⟨rfl, rfl⟩
  go_upto_region 4 with fail
  have hH2 := hid (H.out.below (Below.refl _ _).drew)
  obtain ⟨q1, -, q2⟩ := hH2.out.gold i x y HX.out
  have q3 : w.drew.cell? ⟨g, 2, none⟩ = some (.int .i64 held) := hH2.out.blk.cells4.2.2.1
  have q4 : w.drew.frozen? ⟨g, 2, none⟩ = false := hH2.out.blk.unfrozen 2
  have HQ := hid (And.intro q1 (And.intro q2 (And.intro q3 q4)))
  clear q1 q2 q3 q4
  refine wp_region_kept [8] (fun _ => True) (by kernel_rfl) (by trivial) (fun hH => ?_)
  refine wpK.take (i := 0) (v := _) (by simp only [List.getElem?_toArray, List.getElem?_cons_succ, List.getElem?_cons_zero]; rfl) (by kernel_rfl) (by kernel_rfl) (by kernel_rfl) (by kernel_rfl) (by kernel_rfl) (by exact fun _ _ _ h => h) (by first | exact Or.inl ⟨by rfl, by intro w hSw; go_simp; try with_reducible rfl⟩ | exact Or.inr ⟨by rfl, rfl⟩) hH ?_
  try simp only [Act.put, List.setIfInBounds_toArray, List.set_cons_zero, List.set_cons_succ]
  refine wpK.take (i := 1) (v := _) (by simp only [List.getElem?_toArray, List.getElem?_cons_succ, List.getElem?_cons_zero]; rfl) (by kernel_rfl) (by kernel_rfl) (by kernel_rfl) (by kernel_rfl) (by kernel_rfl) (by exact fun _ _ _ h => h) (by first | exact Or.inl ⟨by rfl, by intro w hSw; go_simp; try with_reducible rfl⟩ | exact Or.inr ⟨by rfl, rfl⟩) hH ?_
  try simp only [Act.put, List.setIfInBounds_toArray, List.set_cons_zero, List.set_cons_succ]
  refine wpK.take (i := 3) (v := _) (by simp only [List.getElem?_toArray, List.getElem?_cons_succ, List.getElem?_cons_zero]; rfl) (by kernel_rfl) (by kernel_rfl) (by kernel_rfl) (by kernel_rfl) (by kernel_rfl) (by exact fun _ _ _ h => h) (by first | exact Or.inl ⟨by rfl, by intro w hSw; go_simp; try with_reducible rfl⟩ | exact Or.inr ⟨by rfl, rfl⟩) hH ?_
  try simp only [Act.put, List.setIfInBounds_toArray, List.set_cons_zero, List.set_cons_succ]
  refine wpK.take (i := 4) (v := _) (by simp only [List.getElem?_toArray, List.getElem?_cons_succ, List.getElem?_cons_zero]; rfl) (by kernel_rfl) (by kernel_rfl) (by kernel_rfl) (by kernel_rfl) (by kernel_rfl) (by exact fun _ _ _ h => h) (by first | exact Or.inl ⟨by rfl, by intro w hSw; go_simp; try with_reducible rfl⟩ | exact Or.inr ⟨by rfl, rfl⟩) hH ?_
  try simp only [Act.put, List.setIfInBounds_toArray, List.set_cons_zero, List.set_cons_succ]
  refine wpK.take (i := 5) (v := _) (by simp only [List.getElem?_toArray, List.getElem?_cons_succ, List.getElem?_cons_zero]; rfl) (by kernel_rfl) (by kernel_rfl) (by kernel_rfl) (by kernel_rfl) (by kernel_rfl) (by exact fun _ _ _ h => h) (by first | exact Or.inl ⟨by rfl, by intro w hSw; go_simp; try with_reducible rfl⟩ | exact Or.inr ⟨by rfl, rfl⟩) hH ?_
  try simp only [Act.put, List.setIfInBounds_toArray, List.set_cons_zero, List.set_cons_succ]
  refine wpK.take (i := 6) (v := _) (by simp only [List.getElem?_toArray, List.getElem?_cons_succ, List.getElem?_cons_zero]; rfl) (by kernel_rfl) (by kernel_rfl) (by kernel_rfl) (by kernel_rfl) (by kernel_rfl) (by exact fun _ _ _ h => h) (by first | exact Or.inl ⟨by rfl, by intro w hSw; go_simp; try with_reducible rfl⟩ | exact Or.inr ⟨by rfl, rfl⟩) hH ?_
  try simp only [Act.put, List.setIfInBounds_toArray, List.set_cons_zero, List.set_cons_succ]
  refine wpK.step (i := 2) (by kernel_rfl) (by simp only [List.getElem?_toArray, List.getElem?_cons_succ, List.getElem?_cons_zero]; rfl) (fun K hK => ?_)
  go_simp
  (refine (folk_purse g b r c L held total _ hH2.out i HIL.out hl id HI.out).mono ?_); rintro e wk ⟨rfl, rfl⟩; go_simp
  refine hK.out _ _ (by trivial) (fun hH => ?_)
  clear hK K
  try simp only [Act.put, List.setIfInBounds_toArray, List.set_cons_zero, List.set_cons_succ]
  refine wpK.step (i := 7) (by kernel_rfl) (by simp only [List.getElem?_toArray, List.getElem?_cons_succ, List.getElem?_cons_zero]; rfl) (fun K hK => ?_)
  go_simp
  (refine (folk_shiftYes r (i * 2 + 1) g 2 y held n d _ HQ.out.1 HQ.out.2.2.1 HQ.out.2.1 HQ.out.2.2.2 (fun q => HRG.out (by simpa using congrArg Addr.block q)) HY.out HN.out HT.out (by have := HS.out; omega) hd).mono ?_); rintro e wk ⟨rfl, rfl⟩; go_simp
  refine hK.out _ _ (by trivial) (fun hH => ?_)
  clear hK K
  try simp only [Act.put, List.setIfInBounds_toArray, List.set_cons_zero, List.set_cons_succ]
  refine wpK.late (i := 8) (by kernel_rfl) (by simp only [List.getElem?_toArray, List.getElem?_cons_succ, List.getElem?_cons_zero]; rfl) (by kernel_rfl) (fun K hK => ?_)
  go_simp
  refine hK.out _ _ ?_
  clear hK K
  try simp only [Act.put, List.setIfInBounds_toArray, List.set_cons_zero, List.set_cons_succ]
  refine wpK.done (by kernel_rfl) ?_ _
  go_wp2_with fail
  go_ret
  refine ⟨rfl, ?_, ?_⟩
  · have := (hH2.out.put i x y d HX.out).setHeld (held + n)
    exact this
  · exact (((Upd.of_below (S := fun k => k = g ∨ k = r) (Below.refl w.heap.size w).drew)).trans (Upd.setCell _ r (i * 2 + 1) _) (fun k _ q => .inr q)).trans (Upd.setCell _ g 2 _) (fun k _ q => .inl q)
theorem folk_BurnNo (g b r c : Nat) (L : List (List UInt8 × Int)) (held total : Int) (w : World) (h : FkIs w g b (.slice (some ⟨r, 0, none⟩) L.length c) L held total) (i : Nat) (x : List UInt8) (y n : Int) (hx : L[i]? = some (x, y)) (hl : L.length ≤ 256) (id : Int) (hi : id = (i : Int) + 1)
    (hy : 0 ≤ y ∧ y ≤ 1099511627776) (hn : 0 ≤ n ∧ n ≤ 1099511627776) (ht : 0 ≤ total ∧ total ≤ 1099511627776) (hs : y < n) :
    Calls Tryd.prog 43 #[.pointer (some ⟨g, 0, none⟩), .int .i64 id, .int .i64 n] w fun e w' => e = .returned (.int .i64 35) ∧ FkIs w' g b (.slice (some ⟨r, 0, none⟩) L.length c) L held total ∧ Upd (fun k => k = g) w w' := by
  have H := hid h
  have hil := (List.getElem?_eq_some_iff.1 hx).1
  have hE : checkE L id n = 0 := by unfold checkE; rw [if_pos ⟨by omega, by omega⟩, if_pos hn]
  have HE := hid hE
  have HX := hid hx
  have HIL := hid hil
  have HI := hid hi
  have HN := hid hn
  have HY := hid hy
  have HS := hid hs
  obtain ⟨t0, t1⟩ := ht
  clear h hE hx hil hi hy hn hs
  go_enter Tryd.func43, Tryd.ntmps43
  go_wp2_with fail
  refine (folk_check g b _ L held total w H.out id n 0 HE).mono ?_
  rintro e w1 ⟨rfl, rfl⟩
  go_upto_region 4 with fail
  obtain ⟨bg, hbg⟩ : ∃ bg, bg = w.heap.size := ⟨_, rfl⟩
  rw [← hbg]
  generalize hw2 : World.alloc w _ = w2
  have hb2 : Below w.heap.size w w2 := by rw [← hw2]; exact Below.new _ _
  have HG2 : Hid (Blk w2 bg #[.int .i64 0]) := hid (by rw [← hw2, hbg]; exact Blk.new w _ _)
  have H2 := hid (H.out.below hb2)
  have HB2 := hid hb2
  clear hw2 hb2 hbg
  go_wp2_with fail
  refine (folk_purse g b r c L held total w2 H2.out i HIL.out hl id HI.out).mono ?_
  rintro e w3 ⟨rfl, rfl⟩
  go_wp2_with fail
  refine (folk_shiftNo r (i * 2 + 1) bg 0 y n w2 (H2.out.gold i x y HX.out).1 HY.out HN.out HS.out).mono ?_
  rintro e w3 ⟨rfl, rfl⟩
  go_upto_region 5 with fail
  have d3 : ∀ y, Below w2.heap.size w2 y → y.cell? ⟨g, 3, none⟩ = some (.int .i64 total) := fun y hy => (H2.out.blk.below hy).cells4.2.2.2
  have f3 : ∀ y, Below w2.heap.size w2 y → y.frozen? ⟨g, 3, none⟩ = false := fun y hy => (H2.out.blk.below hy).unfrozen 3
  have d4 : ∀ y, Below w2.heap.size w2 y → y.cell? ⟨bg, 0, none⟩ = some (.int .i64 0) := fun y hy => by rw [(HG2.out.below hy).cell]; rfl
  have hy2 := (Below.refl w2.heap.size w2).drew
  have hwt : IntKind.i64.wrap total = total := by unfold IntKind.wrap; simp [IntKind.bits, IntKind.signed]; omega
  refine wp_region_kept [6, 7, 8] (fun y => Below w2.heap.size w2 y) (by kernel_rfl) (by assumption) (fun hH => ?_)
  refine wpK.take (i := 0) (v := _) (by simp only [List.getElem?_toArray, List.getElem?_cons_succ, List.getElem?_cons_zero]; rfl) (by kernel_rfl) (by kernel_rfl) (by kernel_rfl) (by kernel_rfl) (by kernel_rfl) (by exact fun _ _ _ h => h) (by first | exact Or.inl ⟨by rfl, by intro w hSw; go_simp; try with_reducible rfl⟩ | exact Or.inr ⟨by rfl, rfl⟩) hH ?_
  try simp only [Act.put, List.setIfInBounds_toArray, List.set_cons_zero, List.set_cons_succ]
  refine wpK.take (i := 1) (v := _) (by simp only [List.getElem?_toArray, List.getElem?_cons_succ, List.getElem?_cons_zero]; rfl) (by kernel_rfl) (by kernel_rfl) (by kernel_rfl) (by kernel_rfl) (by kernel_rfl) (by exact fun _ _ _ h => h) (by first | exact Or.inl ⟨by rfl, by intro w hSw; go_simp; try with_reducible rfl⟩ | exact Or.inr ⟨by rfl, rfl⟩) hH ?_
  try simp only [Act.put, List.setIfInBounds_toArray, List.set_cons_zero, List.set_cons_succ]
  refine wpK.take (i := 2) (v := _) (by simp only [List.getElem?_toArray, List.getElem?_cons_succ, List.getElem?_cons_zero]; rfl) (by kernel_rfl) (by kernel_rfl) (by kernel_rfl) (by kernel_rfl) (by kernel_rfl) (by exact fun _ _ _ h => h) (by first | exact Or.inl ⟨by rfl, by intro w hSw; go_simp; try with_reducible rfl⟩ | exact Or.inr ⟨by rfl, rfl⟩) hH ?_
  try simp only [Act.put, List.setIfInBounds_toArray, List.set_cons_zero, List.set_cons_succ]
  refine wpK.take (i := 3) (v := _) (by simp only [List.getElem?_toArray, List.getElem?_cons_succ, List.getElem?_cons_zero]; rfl) (by kernel_rfl) (by kernel_rfl) (by kernel_rfl) (by kernel_rfl) (by kernel_rfl) (by exact fun _ _ _ h => h) (by first | exact Or.inl ⟨by rfl, by intro w hSw; go_simp; try with_reducible rfl⟩ | exact Or.inr ⟨by rfl, rfl⟩) hH ?_
  try simp only [Act.put, List.setIfInBounds_toArray, List.set_cons_zero, List.set_cons_succ]
  refine wpK.take (i := 4) (v := _) (by simp only [List.getElem?_toArray, List.getElem?_cons_succ, List.getElem?_cons_zero]; rfl) (by kernel_rfl) (by kernel_rfl) (by kernel_rfl) (by kernel_rfl) (by kernel_rfl) (by exact fun _ _ _ h => h) (by first | exact Or.inl ⟨by rfl, by intro w hSw; go_simp; try with_reducible rfl⟩ | exact Or.inr ⟨by rfl, rfl⟩) hH ?_
  try simp only [Act.put, List.setIfInBounds_toArray, List.set_cons_zero, List.set_cons_succ]
  refine wpK.take (i := 5) (v := _) (by simp only [List.getElem?_toArray, List.getElem?_cons_succ, List.getElem?_cons_zero]; rfl) (by kernel_rfl) (by kernel_rfl) (by kernel_rfl) (by kernel_rfl) (by kernel_rfl) (by exact fun _ _ _ h => h) (by first | exact Or.inl ⟨by rfl, by intro w hSw; go_simp; try with_reducible rfl⟩ | exact Or.inr ⟨by rfl, rfl⟩) hH ?_
  try simp only [Act.put, List.setIfInBounds_toArray, List.set_cons_zero, List.set_cons_succ]
  refine wpK.late (i := 6) (by kernel_rfl) (by simp only [List.getElem?_toArray, List.getElem?_cons_succ, List.getElem?_cons_zero]; rfl) (by kernel_rfl) (fun K hK => ?_)
  go_simp
  refine hK.out _ _ ?_
  clear hK K
  try simp only [Act.put, List.setIfInBounds_toArray, List.set_cons_zero, List.set_cons_succ]
  refine wpK.late (i := 7) (by kernel_rfl) (by simp only [List.getElem?_toArray, List.getElem?_cons_succ, List.getElem?_cons_zero]; rfl) (by kernel_rfl) (fun K hK => ?_)
  go_simp
  refine hK.out _ _ ?_
  clear hK K
  try simp only [Act.put, List.setIfInBounds_toArray, List.set_cons_zero, List.set_cons_succ]
  refine wpK.late (i := 8) (by kernel_rfl) (by simp only [List.getElem?_toArray, List.getElem?_cons_succ, List.getElem?_cons_zero]; rfl) (by kernel_rfl) (fun K hK => ?_)
  go_simp
  refine hK.out _ _ ?_
  clear hK K
  try simp only [Act.put, List.setIfInBounds_toArray, List.set_cons_zero, List.set_cons_succ]
  refine wpK.done (by kernel_rfl) ?_ _
  clear d3 f3 d4 hy2 hH hwt
  go_wp2_with fail
  go_ret
  refine ⟨rfl, ?_, ?_⟩
  · exact (H2.out.below (Below.refl _ _).drew).setTotal total
  · exact ((Upd.of_below HB2.out).drew).trans (Upd.setCell _ g 3 _) (fun k _ q => q)
theorem folk_MintNoC (g b : Nat) (v : Value) (L : List (List UInt8 × Int)) (held total : Int) (w : World) (h : FkIs w g b v L held total) (id n E : Int) (hE : Hid (checkE L id n = E)) (hne : E ≠ 0) :
    Calls Tryd.prog 41 #[.pointer (some ⟨g, 0, none⟩), .int .i64 id, .int .i64 n] w fun e w' => e = .returned (.int .i64 E) ∧ w = w' := by
  have H := hid h
  have e1 : (E == 0) = false := by simp [hne]
  have e2 : (E != 0) = true := by simp [hne]
  clear h hne
  go_enter Tryd.func41, Tryd.ntmps41
  go_wp2_with fail
  refine (folk_check g b v L held total w H.out id n E hE).mono ?_
  rintro e w1 ⟨rfl, rfl⟩
  go_wp2_with fail
  go_ret
  exact ⟨rfl, rfl⟩
theorem folk_BurnNoC (g b : Nat) (v : Value) (L : List (List UInt8 × Int)) (held total : Int) (w : World) (h : FkIs w g b v L held total) (id n E : Int) (hE : Hid (checkE L id n = E)) (hne : E ≠ 0) :
    Calls Tryd.prog 43 #[.pointer (some ⟨g, 0, none⟩), .int .i64 id, .int .i64 n] w fun e w' => e = .returned (.int .i64 E) ∧ w = w' := by
  have H := hid h
  have e1 : (E == 0) = false := by simp [hne]
  have e2 : (E != 0) = true := by simp [hne]
  clear h hne
  go_enter Tryd.func43, Tryd.ntmps43
  go_wp2_with fail
  refine (folk_check g b v L held total w H.out id n E hE).mono ?_
  rintro e w1 ⟨rfl, rfl⟩
  go_wp2_with fail
  go_ret
  exact ⟨rfl, rfl⟩
theorem folk_HoldNoC (g b : Nat) (v : Value) (L : List (List UInt8 × Int)) (held total : Int) (w : World) (h : FkIs w g b v L held total) (id n E : Int) (hE : Hid (checkE L id n = E)) (hne : E ≠ 0) :
    Calls Tryd.prog 42 #[.pointer (some ⟨g, 0, none⟩), .int .i64 id, .int .i64 n] w fun e w' => e = .returned (.int .i64 E) ∧ w = w' := by
  have H := hid h
  have e1 : (E == 0) = false := by simp [hne]
  have e2 : (E != 0) = true := by simp [hne]
  clear h hne
  go_enter Tryd.func42, Tryd.ntmps42
  go_wp2_with fail
  refine (folk_check g b v L held total w H.out id n E hE).mono ?_
  rintro e w1 ⟨rfl, rfl⟩
  go_wp2_with fail
  go_ret
  exact ⟨rfl, rfl⟩
theorem folk_GiveNoC (g b : Nat) (v : Value) (L : List (List UInt8 × Int)) (held total : Int) (w : World) (h : FkIs w g b v L held total) (id n E : Int) (hE : Hid (checkE L id n = E)) (hne : E ≠ 0) :
    Calls Tryd.prog 50 #[.pointer (some ⟨g, 0, none⟩), .int .i64 id, .int .i64 n] w fun e w' => e = .returned (.int .i64 E) ∧ w = w' := by
  have H := hid h
  have e1 : (E == 0) = false := by simp [hne]
  have e2 : (E != 0) = true := by simp [hne]
  clear h hne
  go_enter Tryd.func50, Tryd.ntmps50
  go_wp2_with fail
  refine (folk_check g b v L held total w H.out id n E hE).mono ?_
  rintro e w1 ⟨rfl, rfl⟩
  go_wp2_with fail
  go_ret
  exact ⟨rfl, rfl⟩
end Go.Proofs.YtcjdlckfbkdibaaDoor
end
