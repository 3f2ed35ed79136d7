/- Joined texts, in this order: IntsOps, LayInts, Lists. Each one's first remark says what it proves; no condition beyond those that its theorems name. -/
import Derived.Test.YtdoflhiogoefjaaDoorJLawThingCopies05
import Derived.Ground.Names2Prog
import Derived.Shelf.Spec.SlicesInsert
import Derived.Shelf.Spec.SlicesInsertGrow
import Derived.Shelf.Slices.SearchI
import Derived.Shelf.Slices.Empties
import Derived.Shelf.Slices.Cells
import Derived.Test.YtdoflhiogoefjaaDoorProg
section
/- Contracts: slices of numbers: Clone, BinarySearch of none, Insert at the end. -/
namespace Go.Proofs.YtdoflhiogoefjaaDoor
open Go.RowKit
open Go.Lib (hid)
set_option linter.unusedVariables false

theorem iv_oneCell (l : List Int) : ∀ u ∈ iv l, u.oneCell' = true := by
  intro u hu
  obtain ⟨_, _, rfl⟩ := List.mem_map.1 hu
  rfl
theorem T_ints18 : SlT Tryd.prog 41 3 (.int .i64 0) 1 8 := SlT.mk' Tryd.underlying41 (by kernel_rfl) rfl (by decide) (by decide)
set_option maxRecDepth 100000 in
theorem sl_CloneI (l : List Int) (u : Value) (w : World) (hl : SlI w u l) (hb : l.length ≤ 1000000) : Calls Tryd.prog 36 #[u] w fun e w' =>
    ∃ v, e = .returned v ∧ w'.ownsRow w.heap.size 3 1 v l.length (iv l) ∧ Below w.heap.size w w' := by
  obtain ⟨a, c, rfl, h1, h2, -⟩ := hl
  have hn := fun (w : World) (a : Option Addr) (n c : Nat) => Lib.run_eql_slice_nil (P := Tryd.prog) w 41 3 a n c 0 0 Tryd.underlying41
  cases a with
  | none =>
    have := Rd.nil_of_none h1
    obtain rfl : l = [] := by cases l <;> simp_all
    clear this
    go_enter Tryd.func36, Tryd.ntmps36
    go_wp2
    go_ret
    exact ⟨_, rfl, World.ownsRow_nil _ _ _ _, Below.refl _ _⟩
  | some ad =>
    have hr2 : Rd (w.alloc (.cells #[] 3)) (some ad) (iv l) := h1.below' ((Below.refl _ _).alloc (Nat.le_refl _) _)
    have hown : (w.alloc (.cells #[] 3)).ownsRow w.heap.size 3 1 (.slice (some ⟨w.heap.size, 0, none⟩) 0 0) 0 [] := World.ownsRow_made w #[] 0 (Nat.le_refl _) (by omega) (by simp)
    go_enter Tryd.func36, Tryd.ntmps36
    go_wp2_with (at_builtin; refine wpList_appendN T_ints18 _ rfl _ _ rfl w.heap.size _ _ _ rfl hown _ _ _ (iv l) rfl ?c1 (fun _ h => nomatch h) hr2 (iv_oneCell l) ?c2 ?c3 ?_)
    case c1 => simp [iv]
    case c2 => omega
    case c3 => simp
    intro v' w' hown' hg hnil
    have hb' : Below w.heap.size w w' := ((Below.refl _ _).alloc (Nat.le_refl _) _).grown hg (by simp) (fun k hk => by simp [Value.ownBlock] at hk; omega)
    clear hg hnil hown
    go_wp2
    go_ret
    exact ⟨_, rfl, hown', hb'⟩
theorem sl_Search0 (v : Value) (p : Int) (w : World) (hs : SlI w v []) : Calls Tryd.prog 50 #[v, .int .i64 p] w fun e w' => e = .returned (.tuple #[.int .i64 0, .bool false]) ∧ w = w' := by
  obtain ⟨a, c, rfl, -⟩ := hs
  go_enter Tryd.func50, Tryd.ntmps50
  go_wp2
  go_loop [7, 8] (fun v7 v8 => v7 = .int .i64 0 ∧ v8 = .int .i64 0) (fun v7 v8 => 0)
  case atStart => exact ⟨rfl, rfl⟩
  case round =>
    obtain ⟨rfl, rfl⟩ := hrel
    go_wp2
    go_ret2
    exact ⟨rfl, rfl⟩
set_option maxRecDepth 100000 in
theorem sl_InsertEnd (l : List Int) (p : Int) (sv : Value) (base vg : Nat) (w : World) (hown : w.ownsRow base 3 1 sv l.length (iv l)) (hbase : base ≤ w.heap.size) (hl : l.length ≤ 1000) (hv : w.cell? ⟨vg, 0, none⟩ = some (.int .i64 p)) :
    Calls Tryd.prog 51 #[sv, .int .i64 (l.length : Int), .slice (some ⟨vg, 0, none⟩) 1 1] w fun e w' => ∃ v, e = .returned v ∧ w'.ownsRow base 3 1 v (l.length + 1) (iv (l ++ [p])) ∧ w.grownBy w' sv.ownBlock := by
  have HOWN := hid hown
  obtain ⟨a, c, rfl, hc, hcm, -⟩ := ownsRow.rd hown
  have hcm2 : c ≤ 9223372036854775807 := by unfold maxLen at hcm; omega
  have i0 : (0 : Int) ≤ (l.length : Int) := by omega
  have i1 : (l.length : Int) ≤ (c : Int) := by omega
  have hrd : Rd w (some ⟨vg, 0, none⟩) (iv [p]) := fun i hi => ⟨vg, 0, rfl, by
    obtain rfl : i = 0 := by simp [iv] at hi; omega
    rw [Nat.zero_add, hv]; rfl⟩
  have HRD := hid hrd
  clear hown hcm hrd hv
  rcases Nat.eq_or_lt_of_le hc with hcl | hcl
  · subst hcl
    go_enter Tryd.func51, Tryd.ntmps51
    go_wp2_with (at_builtin; refine wpList_appendN T_ints18 _ rfl _ _ rfl base _ _ _ rfl HOWN.out _ _ _ (iv [p]) rfl ?c1 (fun h => nomatch h) HRD.out (iv_oneCell _) ?c2 ?c3 ?_)
    case c1 => simp [iv]
    case c2 => omega
    case c3 => omega
    intro v' w' hown' hg hnil
    have hown2 : w'.ownsRow base 3 1 v' (l.length + 1) (iv (l ++ [p])) := by
      have : iv (l ++ [p]) = iv l ++ iv [p] := by simp [iv]
      rw [this]; exact hown'
    have HO := hid hown2
    have HG := hid hg
    clear hown' hg hnil hown2
    go_wp2
    go_ret
    exact ⟨_, rfl, HO.out, HG.out⟩
  · have hcl : ¬ c = l.length := by omega
    go_enter Tryd.func51, Tryd.ntmps51
    go_wp2_with (at_builtin; refine wpList_appendN T_ints18 _ rfl _ _ rfl base _ _ _ rfl HOWN.out _ _ _ (iv [p]) rfl ?c1 (fun h => nomatch h) HRD.out (iv_oneCell _) ?c2 ?c3 ?_)
    case c1 => simp [iv]
    case c2 => omega
    case c3 => omega
    intro v' w' hown' hg hnil
    have hown2 : w'.ownsRow base 3 1 v' (l.length + 1) (iv (l ++ [p])) := by
      have : iv (l ++ [p]) = iv l ++ iv [p] := by simp [iv]
      rw [this]; exact hown'
    have HO := hid hown2
    have HG := hid hg
    clear hown' hg hnil hown2
    go_wp2
    go_ret
    exact ⟨_, rfl, HO.out, HG.out⟩
end Go.Proofs.YtdoflhiogoefjaaDoor
end
section
/- Layings of the shelf's contracts at this dump (printed by the shelf's lay-plain). -/
namespace Go.Proofs
open Go.Shelf
def Tryd.lays_Lays2_n21_ren : Go.Shelf.Ren := ⟨fun | 21 => 51 | 27 => 61 | 28 => 62 | 35 => 75 | 39 => 91 | n => n, fun | 22 => 41 | 3 => 3 | 4 => 4 | 0 => 0 | n => n, fun | n => n⟩
theorem Tryd.lays_Lays2_n21 : Go.Proofs.Lays2.n21 Tryd.prog Tryd.lays_Lays2_n21_ren := {
  mixed := by kernel_rfl
  f21 := Tryd.func51.trans (congrArg some (by kernel_rfl))
  f27 := Tryd.func61.trans (congrArg some (by kernel_rfl))
  f28 := Tryd.func62.trans (congrArg some (by kernel_rfl))
  f35 := Tryd.func75.trans (congrArg some (by kernel_rfl))
  f39 := Tryd.func91.trans (congrArg some (by kernel_rfl))
  t0 := Tryd.underlying0
  a0 := Tryd.isAgg0
  z0 := Tryd.sizeOf0
  v0 := Tryd.zeroValue0
  t3 := Tryd.underlying3
  a3 := Tryd.isAgg3
  z3 := Tryd.sizeOf3
  v3 := Tryd.zeroValue3
  t4 := Tryd.underlying4
  a4 := Tryd.isAgg4
  z4 := Tryd.sizeOf4
  v4 := Tryd.zeroValue4
  t22 := Tryd.underlying41
  a22 := Tryd.isAgg41
  z22 := Tryd.sizeOf41
  v22 := Tryd.zeroValue41
  i3 := by kernel_rfl }
def Tryd.lays_Lays2_n25_ren : Go.Shelf.Ren := ⟨fun | 25 => 50 | 31 => 59 | 32 => 60 | 37 => 74 | n => n, fun | 22 => 41 | 3 => 3 | 4 => 4 | 40 => 99 | 0 => 0 | n => n, fun | n => n⟩
theorem Tryd.lays_Lays2_n25 : Go.Proofs.Lays2.n25 Tryd.prog Tryd.lays_Lays2_n25_ren := {
  mixed := by kernel_rfl
  f25 := Tryd.func50.trans (congrArg some (by kernel_rfl))
  f31 := Tryd.func59.trans (congrArg some (by kernel_rfl))
  f32 := Tryd.func60.trans (congrArg some (by kernel_rfl))
  f37 := Tryd.func74.trans (congrArg some (by kernel_rfl))
  t0 := Tryd.underlying0
  a0 := Tryd.isAgg0
  z0 := Tryd.sizeOf0
  v0 := Tryd.zeroValue0
  t3 := Tryd.underlying3
  a3 := Tryd.isAgg3
  z3 := Tryd.sizeOf3
  v3 := Tryd.zeroValue3
  t4 := Tryd.underlying4
  a4 := Tryd.isAgg4
  z4 := Tryd.sizeOf4
  v4 := Tryd.zeroValue4
  t22 := Tryd.underlying41
  a22 := Tryd.isAgg41
  z22 := Tryd.sizeOf41
  v22 := Tryd.zeroValue41
  t40 := Tryd.underlying99
  a40 := Tryd.isAgg99
  z40 := Tryd.sizeOf99
  v40 := Tryd.zeroValue99 }
def Tryd.lays_Lays2_n23_ren : Go.Shelf.Ren := ⟨fun | 23 => 55 | n => n, fun | 22 => 41 | 3 => 3 | 4 => 4 | 0 => 0 | n => n, fun | n => n⟩
theorem Tryd.lays_Lays2_n23 : Go.Proofs.Lays2.n23 Tryd.prog Tryd.lays_Lays2_n23_ren := {
  mixed := by kernel_rfl
  f23 := Tryd.func55.trans (congrArg some (by kernel_rfl))
  t0 := Tryd.underlying0
  a0 := Tryd.isAgg0
  z0 := Tryd.sizeOf0
  v0 := Tryd.zeroValue0
  t3 := Tryd.underlying3
  a3 := Tryd.isAgg3
  z3 := Tryd.sizeOf3
  v3 := Tryd.zeroValue3
  t4 := Tryd.underlying4
  a4 := Tryd.isAgg4
  z4 := Tryd.sizeOf4
  v4 := Tryd.zeroValue4
  t22 := Tryd.underlying41
  a22 := Tryd.isAgg41
  z22 := Tryd.sizeOf41
  v22 := Tryd.zeroValue41
  i3 := by kernel_rfl }
end Go.Proofs
end
section
/- Slices of numbers, owned by the call: BinarySearch, Insert, Delete (over the shelf's contracts). -/
namespace Go.Proofs.YtdoflhiogoefjaaDoor
open Go.RowKit
open Go.Lib (hid)
set_option linter.unusedVariables false

theorem setCells_blk (g : Nat) (e : TypeId) : ∀ (vs : List Value) (o : Nat) (w : World) (cs : Array Value), w.heap[g]? = some (.cells cs e (0, 0)) → ∃ cs', (w.setCells g o vs).heap[g]? = some (.cells cs' e (0, 0)) ∧ cs'.size = cs.size ∧ (o + vs.length ≤ cs.size → cs'.toList = cs.toList.take o ++ (vs ++ cs.toList.drop (o + vs.length)))
  | [], o, w, cs, h => ⟨cs, h, rfl, fun _ => by simp⟩
  | v :: r, o, w, cs, h => by
    obtain ⟨cs', h1, h2, h3⟩ := setCells_blk g e r (o + 1) (w.setCell ⟨g, o, none⟩ v) _ (heap_setCell_same w g o cs e v h)
    refine ⟨cs', h1, by simpa using h2, fun hl => ?_⟩
    simp only [List.length_cons] at hl
    have ho : o < cs.toList.length := by simp; omega
    rw [h3 (by simp; omega), Array.toList_setIfInBounds, List.take_set, List.drop_set_of_lt (by omega), List.take_succ_eq_append_getElem ho, List.set_append_right _ _ (by simp; omega)]
    have hm : o - min o cs.size = 0 := by simp at ho; omega
    simp [Nat.add_assoc, Nat.add_comm 1, hm]
theorem upd_setCells (g : Nat) : ∀ (vs : List Value) (o : Nat) (w : World), Upd (fun k => k = g) w (w.setCells g o vs)
  | [], o, w => Upd.refl _ _
  | v :: r, o, w => (Upd.setCell w g o v).trans (upd_setCells g r (o + 1) _) (fun _ _ h => h)
theorem heap_drewN (w : World) (q : Nat) : (w.drewN q).heap = w.heap := rfl
theorem Rd.cellsI {w : World} {b off : Nat} {l : List Int} (h : Rd w (some ⟨b, off, none⟩) (iv l)) (j : Nat) (hj : j < l.length) : w.cell? ⟨b, off + j, none⟩ = some (.int .i64 (l.getD j 0)) := by
  obtain ⟨b', off', ha, hc⟩ := h j (by simpa [iv] using hj)
  simp only [Option.some.injEq, Addr.mk.injEq, and_true] at ha
  obtain ⟨rfl, rfl⟩ := ha
  rw [hc]
  simp [iv, List.getD, hj]

/-- BinarySearch of a sorted slice -/
theorem sl_SearchI (l : List Int) (v : Value) (x : Int) (w : World) (hs : SlI w v l) (hl : l.length ≤ 1000000) (hsort : l.Pairwise (· ≤ ·)) :
    Calls Tryd.prog 50 #[v, .int .i64 x] w fun e w' => e = .returned (.tuple #[.int .i64 (l.countP (· < x) : Nat), .bool (decide (x ∈ l))]) ∧ Below w.heap.size w w' := by
  obtain ⟨a, c, rfl, h1, h2, h3, h4⟩ := hs
  cases a with
  | none =>
    have := Rd.nil_of_none h1
    obtain rfl : l = [] := by cases l <;> simp_all
    refine (Any.slices_BinarySearch_int_empty Tryd.lays_Lays2_n25 none c x w).mono ?_
    rintro e w' ⟨rfl, rfl⟩
    exact ⟨by simp, Below.refl _ _⟩
  | some ad =>
    obtain ⟨b, off, spot⟩ := ad
    by_cases h0 : l = []
    · subst h0
      refine (Any.slices_BinarySearch_int_empty Tryd.lays_Lays2_n25 _ c x w).mono ?_
      rintro e w' ⟨rfl, rfl⟩
      exact ⟨by simp, Below.refl _ _⟩
    · have hsp : spot = none := by
        obtain ⟨b', off', ha, hc⟩ := h1 0 (by simp; exact List.length_pos_iff.2 h0)
        simp only [Option.some.injEq, Addr.mk.injEq] at ha
        exact ha.2.2
      subst hsp
      have h := Any.slices_BinarySearch_int Tryd.lays_Lays2_n25 b off l.length c l x w (Nat.le_refl _) (by omega) (fun j hj => Rd.cellsI h1 j hj) (by simpa using hsort)
      refine h.mono ?_
      rintro e w' ⟨rfl, q, rfl⟩
      refine ⟨by simp, Upd.below (S := fun _ => False) ((Upd.refl _ w).drewN q) (Nat.le_refl _) (fun _ _ h => h.elim)⟩

/-- Insert of one number into an own row -/
theorem sl_InsertI (l : List Int) (p : Int) (i : Nat) (sv : Value) (base vg : Nat) (w : World) (hown : w.ownsRow base 3 1 sv l.length (iv l)) (hbase : base ≤ w.heap.size) (hl : l.length ≤ 1000) (hi : i ≤ l.length)
    (hv : w.heap[vg]? = some (.cells #[.int .i64 p] 3 (0, 0))) (hne : ∀ k, sv.ownBlock = some k → k ≠ vg) :
    Calls Tryd.prog 51 #[sv, .int .i64 (i : Int), .slice (some ⟨vg, 0, none⟩) 1 1] w fun e w' => ∃ v, e = .returned v ∧ w'.ownsRow base 3 1 v (l.length + 1) (iv (l.take i ++ p :: l.drop i)) ∧ w.grownBy w' sv.ownBlock ∧ (∀ k, v.ownBlock = some k → sv.ownBlock = some k ∨ w.heap.size ≤ k) := by
  have hbv : Blk w vg #[.int .i64 p] := ⟨_, hv⟩
  have hv0 : ∀ j u, [Value.int .i64 p][j]? = some u → w.cell? ⟨vg, 0 + j, none⟩ = some u := fun j u h => by
    have hj : j < 1 := (List.getElem?_eq_some_iff.1 h).1
    obtain rfl : j = 0 := by omega
    rw [hbv.cell]; exact h
  have h1v : ∀ u ∈ [Value.int .i64 p], u.oneCell' = true := by intro u hu; simp at hu; subst hu; rfl
  rcases Nat.eq_or_lt_of_le hi with rfl | hlt
  · -- at the end
    simp only [List.take_length, List.drop_length]
    obtain ⟨a, c, rfl, hc, hcm, hrd, hn0⟩ := ownsRow.rd hown
    by_cases hroom : l.length + 1 ≤ c
    · cases a with
      | none => have := hn0 rfl; omega
      | some ad =>
        rcases hown.2 with ⟨hq, -⟩ | ⟨g, cap, cur, hq, hb, hg, hnc, hcm2, hcs, htake⟩
        · cases hq
        · simp only [Value.slice.injEq, Option.some.injEq] at hq
          obtain ⟨rfl, -, rfl⟩ := hq
          simp only [Nat.mul_one] at hcs htake
          have hblk : Blk w g cur := ⟨_, hg⟩
          refine (Any2.slices_Insert_int_end_room Tryd.lays_Lays2_n21 g 0 l.length c vg 0 1 1 [.int .i64 p] w (by omega) hroom (by unfold maxLen at hcm; omega) rfl
            (fun j hj => by rw [hblk.cell]; simp; omega) (fun j hj => hblk.unfrozen _) hv0 h1v).mono ?_
          rintro e w' ⟨rfl, rfl⟩
          obtain ⟨cs', h1, h2, h3⟩ := setCells_blk g 3 [.int .i64 p] (0 + l.length) w cur hg
          refine ⟨_, rfl, ⟨by simp [iv], .inr ⟨g, c, cs', rfl, hb, h1, hroom, hcm, by omega, ?_⟩⟩, ?_, fun k hk => .inl hk⟩
          · rw [h3 (by simp; omega), Nat.zero_add, htake, Nat.mul_one]
            have : (iv l).length = l.length := by simp [iv]
            rw [← List.append_assoc, List.take_append_of_le_length (by simp [iv])]
            rw [List.take_of_length_le (by simp [iv])]
            simp [iv]
          · have hu := upd_setCells g [.int .i64 p] (0 + l.length) w
            exact ⟨hu.os, hu.tape, hu.output, hu.size, fun k hk hn => hu.block k hk (fun e => hn (by rw [e]; rfl))⟩
    · have hcl : (iv l).length = l.length := by simp [iv]
      refine (Any2.slices_Insert_int_end_grow Tryd.lays_Lays2_n21 a l.length c vg 0 1 1 (iv l) [.int .i64 p] w (by omega) hc (by omega) (by omega) hcl rfl ?_ ?_ hv0 h1v).mono ?_
      · intro h; have := hn0 h; omega
      · rintro ad rfl j u hj
        obtain ⟨b, off, had, hcc⟩ := hrd j (List.getElem?_eq_some_iff.1 hj).1
        obtain rfl := Option.some.inj had
        rw [Addr.add_lit, hcc, hj]
      rintro e w' ⟨rfl, rfl⟩
      have hge := grownCap_ge w (l.length + 1) c 3
      have hle := grownCap_le_maxLen w (l.length + 1) c 3 (by unfold maxLen; omega)
      refine ⟨_, rfl, ⟨by simp [iv], .inr ⟨w.heap.size, _, _, rfl, hbase, heap_alloc_new w.drew _, ?_, ?_, ?_, ?_⟩⟩, ?_, fun k hk => ?_⟩
      · exact hge
      · exact hle
      · have hge' : l.length + 1 ≤ grownCap w (l.length + 1) c 3 := hge
        have : (Value.int .i64 0).cells.size = 1 := rfl
        have e2 : (Tryd.lays_Lays2_n21_ren.t 3) = 3 := rfl
        rw [e2]
        simp only [Array.size_append, size_zeroCells, this, List.size_toArray, List.length_append, hcl, List.length_cons, List.length_nil]; omega
      · rw [Array.toList_append, List.take_append_of_le_length (by simp [iv]), List.take_of_length_le (by simp [iv])]
        simp [iv]
      · exact ⟨rfl, rfl, rfl, by simp, fun k hk _ => Below.heap_alloc w.drew _ k hk⟩
      · simp only [Value.ownBlock, Option.some.injEq] at hk
        exact .inr (by omega)
  · -- in the middle
    rcases hown.2 with ⟨-, hq⟩ | ⟨g, c, cur, rfl, hb, hg, hnc, hcm, hcs, htake⟩
    · omega
    · simp only [Nat.mul_one] at hcs htake
      have hblk : Blk w g cur := ⟨_, hg⟩
      have hcl : (iv l).length = l.length := by simp [iv]
      have hgv : vg ≠ g := fun e => hne g rfl e.symm
      have hcc : ∀ j v, (iv l)[j]? = some v → w.cell? ⟨g, 0 + j, none⟩ = some v := fun j v h => by
        rw [Nat.zero_add, hblk.cell, ← Array.getElem?_toList]
        have hj := (List.getElem?_eq_some_iff.1 h).1
        rw [← htake, List.getElem?_take] at h
        rw [if_pos (by rw [hcl] at hj; exact hj)] at h
        exact h
      have h1c : ∀ v ∈ iv l, v.oneCell' = true := iv_oneCell l
      by_cases hroom : l.length + 1 ≤ c
      · refine (Any2.slices_Insert_int_shift Tryd.lays_Lays2_n21 g 0 l.length c i vg 0 1 1 (iv l) [.int .i64 p] w hlt (by omega) hroom (by unfold maxLen at hcm; omega) hgv hcl rfl hcc
          (fun j hj => by rw [hblk.cell]; simp; omega) (fun j hj => hblk.unfrozen _) hv0 h1c h1v 3 3 1 cur.size (by simp [World.shape?, hv]) (by simp [World.shape?, hg]) (by omega) (hbv.unfrozen _) (hbv.unfrozen _)).mono ?_
        rintro e w' ⟨rfl, rfl⟩
        obtain ⟨cs', h1, h2, h3⟩ := setCells_blk g 3 ((iv l).drop i) (0 + (i + 1)) w.drew cur hg
        obtain ⟨cs2, k1, k2, k3⟩ := setCells_blk g 3 [.int .i64 p] (0 + i) _ cs' h1
        refine ⟨_, rfl, ⟨by simp [iv]; omega, .inr ⟨g, c, cs2, rfl, hb, k1, hroom, hcm, by omega, ?_⟩⟩, ?_, fun k hk => .inl hk⟩
        · have e3 := h3 (by simp [iv]; omega)
          have e4 := k3 (by simp; omega)
          have ec : cur.toList.take i = iv (l.take i) := by
            have : cur.toList.take i = (cur.toList.take l.length).take i := by rw [List.take_take]; congr 1; omega
            rw [this, htake]; simp [iv]
          simp only [Nat.zero_add] at e3 e4
          have f1 : (cur.toList.take (i + 1)).length = i + 1 := by simp; omega
          have pA : cs'.toList.take i = iv (l.take i) := by
            rw [e3, List.take_append_of_le_length (by omega), List.take_take, Nat.min_eq_left (by omega), ec]
          obtain ⟨R, pB⟩ : ∃ R, cs'.toList.drop (i + 1) = iv (l.drop i) ++ R := ⟨_, by
            rw [e3, List.drop_append_of_le_length (by omega), List.drop_eq_nil_of_le (by omega), List.nil_append]
            congr 1
            simp [iv]⟩
          rw [e4, pA, show i + [Value.int .i64 p].length = i + 1 from rfl, pB, Nat.mul_one, ← List.append_assoc, ← List.append_assoc, List.take_append_of_le_length (by simp [iv]; omega), List.take_of_length_le (by simp [iv]; omega)]
          simp [iv]
        · have hu := ((upd_setCells g ((iv l).drop i) (0 + (i + 1)) w.drew).trans (upd_setCells g [.int .i64 p] (0 + i) _) (fun _ _ h => h))
          exact ⟨hu.os, hu.tape, hu.output, hu.size, fun k hk hn => hu.block k hk (fun e => hn (by rw [e]; rfl))⟩
      · refine (Any2.slices_Insert_int_grow Tryd.lays_Lays2_n21 g 0 l.length c i vg 0 1 1 (iv l) [.int .i64 p] w hlt (by omega) hnc (by omega) (by omega) hcl rfl hcc hv0 h1c h1v).mono ?_
        rintro e w' ⟨rfl, rfl⟩
        have e2 : (Tryd.lays_Lays2_n21_ren.t 3) = 3 := rfl
        have hge := grownCap_ge w (l.length + 1) c 3
        have hle := grownCap_le_maxLen w (l.length + 1) c 3 (by unfold maxLen; omega)
        rw [e2]
        generalize grownCap w (l.length + 1) c 3 = C at hge hle ⊢
        generalize hX : (((iv l).take i).toArray ++ Builtin.zeroCells (Value.int .i64 0).cells (l.length + 1 - i) ++ Builtin.zeroCells (Value.int .i64 0).cells (C - (l.length + 1))) = X
        have hone : (Value.int .i64 0).cells.size = 1 := rfl
        have hXs : X.size = C := by
          rw [← hX]
          simp only [Array.size_append, size_zeroCells, hone, List.size_toArray, List.length_take, hcl]; omega
        have hXl : X.toList.take i = iv (l.take i) := by
          rw [← hX]
          simp only [Array.toList_append, List.append_assoc]
          rw [List.take_append_of_le_length (by simp [iv]; omega), List.take_of_length_le (by simp [iv]; omega)]
          simp [iv]
        have hnew : (w.alloc (.cells X 3)).drew.heap[w.heap.size]? = some (.cells X 3 (0, 0)) := heap_alloc_new w _
        obtain ⟨cs', h1, h2, h3⟩ := setCells_blk w.heap.size 3 [.int .i64 p] i _ X hnew
        obtain ⟨cs2, k1, k2, k3⟩ := setCells_blk w.heap.size 3 ((iv l).drop i) (i + 1) ((w.alloc (.cells X 3)).drew.setCells w.heap.size i [.int .i64 p]).drew cs' h1
        refine ⟨_, rfl, ⟨by simp [iv]; omega, .inr ⟨w.heap.size, C, cs2, rfl, hbase, k1, hge, hle, by omega, ?_⟩⟩, ?_, fun k hk => ?_⟩
        · have e3 := h3 (by simp; omega)
          have e4 := k3 (by simp [iv]; omega)
          rw [hXl] at e3
          have f0 : (iv (l.take i)).length = i := by simp [iv]; omega
          have pA : cs'.toList.take (i + 1) = iv (l.take i) ++ [Value.int .i64 p] := by
            rw [e3, ← List.append_assoc, List.take_append_of_le_length (by simp [f0]), List.take_of_length_le (by simp [f0])]
          rw [e4, pA, Nat.mul_one, ← List.append_assoc, List.take_append_of_le_length (by simp [iv]; omega), List.take_of_length_le (by simp [iv]; omega)]
          simp [iv]
        · have hu := (upd_setCells w.heap.size [.int .i64 p] i (w.alloc (.cells X 3)).drew).drew.trans (upd_setCells w.heap.size ((iv l).drop i) (i + 1) _) (fun _ _ h => h)
          refine ⟨hu.os, hu.tape, hu.output, Nat.le_trans (by simp) hu.size, fun k hk hn => (hu.block k (by simp; omega) (by omega)).trans (Below.heap_alloc w _ k hk)⟩
        · simp only [Value.ownBlock, Option.some.injEq] at hk
          exact .inr (by omega)

/-- Delete of one number of an own row -/
theorem sl_DeleteI (l : List Int) (i : Nat) (sv : Value) (base : Nat) (w : World) (hown : w.ownsRow base 3 1 sv l.length (iv l)) (hi : i < l.length) :
    Calls Tryd.prog 55 #[sv, .int .i64 (i : Int), .int .i64 ((i : Int) + 1)] w fun e w' => ∃ v, e = .returned v ∧ w'.ownsRow base 3 1 v (l.length - 1) (iv (l.eraseIdx i)) ∧ w.grownBy w' sv.ownBlock ∧ v.ownBlock = sv.ownBlock := by
  rcases hown.2 with ⟨-, hq⟩ | ⟨g, c, cur, rfl, hb, hg, hnc, hcm, hcs, htake⟩
  · omega
  · simp only [Nat.mul_one] at hcs htake
    have hblk : Blk w g cur := ⟨_, hg⟩
    have hcc : ∀ j, j < l.length → w.cell? ⟨g, 0 + j, none⟩ = some (.int .i64 (l.getD j 0)) := fun j hj => by
      rw [Nat.zero_add, hblk.cell, ← Array.getElem?_toList]
      have : cur.toList[j]? = (iv l)[j]? := by rw [← htake, List.getElem?_take, if_pos hj]
      rw [this]; simp [iv, List.getD, hj]
    have h := Any.slices_Delete_int_cells Tryd.lays_Lays2_n23 g 0 l.length c i (i + 1) l w (Nat.le_refl _) hnc (by unfold maxLen at hcm; omega) (by omega) (by omega) hcc (fun j hj => hblk.unfrozen _)
    refine h.mono ?_
    rintro e w' ⟨rfl, q, rfl⟩
    generalize hvs : (List.map (Value.int .i64) ((l.take l.length).take i ++ (l.take l.length).drop (i + 1) ++ List.replicate (i + 1 - i) 0)) = vs
    rw [List.take_length, Nat.add_sub_cancel_left] at hvs
    rw [Nat.add_sub_cancel_left]
    have hvl : vs.length = l.length := by rw [← hvs]; simp; omega
    obtain ⟨cs', h1, h2, h3⟩ := setCells_blk g 3 vs 0 (w.drewN q) cur hg
    refine ⟨_, rfl, ⟨by simp [iv, List.length_eraseIdx, hi], .inr ⟨g, c, cs', rfl, hb, h1, by omega, hcm, by omega, ?_⟩⟩, ?_, rfl⟩
    · rw [h3 (by omega), List.take_zero, List.nil_append, List.take_append_of_le_length (by omega), ← hvs, List.map_append, List.take_append_of_le_length (by simp; omega), List.take_of_length_le (by simp; omega)]
      simp [iv, List.eraseIdx_eq_take_drop_succ]
    · have hu := upd_setCells g vs 0 (w.drewN q)
      exact ⟨hu.os, hu.tape, hu.output, hu.size, fun k hk hn => hu.block k hk (fun e => hn (by rw [e]; rfl))⟩
end Go.Proofs.YtdoflhiogoefjaaDoor
end
