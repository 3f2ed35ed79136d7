/- Joined texts, in this order: Bytes, Iv, IntsOps, LayInts. Each one's first remark says what it proves; no condition beyond those that its theorems name. -/
import Derived.Test.YtdoflhiogoefjaaDoorJLawThingFinds01
import Derived.Test.YtdoflhiogoefjaaDoorProg
import Derived.Lib.SlBytesConst
import Derived.Deep.QuietTactic
import Derived.BigQuiet
import Derived.Deep.RegionHeld3
import Derived.Test.YtdoflhiogoefjaaDoorJLawThingFinds06
import Derived.Ground.Names2Prog
import Derived.Shelf.Spec.SlicesInsert
import Derived.Shelf.Spec.SlicesInsertGrow
import Derived.Shelf.Slices.SearchI
import Derived.Shelf.Slices.Empties
import Derived.Shelf.Slices.Cells
section
/- Contracts of the package bytes: Equal, Clone. -/
namespace Go.Proofs.YtdoflhiogoefjaaDoor
open Go.RowKit
open Go.Lib (hid)
set_option linter.unusedVariables false

theorem Rd.nil_of_none {w : World} {xs : List Value} (h : Rd w none xs) : xs = [] := by
  cases xs with
  | nil => rfl
  | cons y ys => obtain ⟨b, off, had, _⟩ := h 0 (by simp); cases had

theorem bv_oneCell (l : List UInt8) : ∀ u ∈ bv l, u.oneCell' = true := by
  intro u hu
  obtain ⟨_, _, rfl⟩ := List.mem_map.1 hu
  rfl

/-- what is owned reads as bytes -/
theorem ownsRow.slb {w : World} {base : Nat} {v : Value} {l : List UInt8} (h : w.ownsRow base 5 1 v l.length (bv l)) (hm : l.length ≤ 9223372036854775807) : SlB w v l := by
  obtain ⟨a, cap, rfl, h1, h2, hr, h3⟩ := ownsRow.rd h
  exact ⟨a, cap, rfl, hm, hr, h1, by unfold maxLen at h2; omega, h3⟩
theorem SlB.below {w w' : World} {v : Value} {l : List UInt8} (h : SlB w v l) (hb : Below w.heap.size w w') : SlB w' v l := by
  obtain ⟨a, c, rfl, h1, h2, h3⟩ := h
  exact ⟨a, c, rfl, h1, h2.below' hb, h3⟩

theorem Below.next {w w1 w2 : World} (h : Below w.heap.size w w1) (k : Below w1.heap.size w1 w2) : Below w.heap.size w w2 := h.trans (k.mono h.size)
theorem Below.new (w : World) (o : Obj) : Below w.heap.size w (w.alloc o) := (Below.refl _ _).alloc (Nat.le_refl _) o
theorem Below.grownBy {w w' : World} (hb : Below w.heap.size w w') : w.grownBy w' none := ⟨hb.os, hb.tape, hb.output, hb.size, fun k hk _ => hb.block k hk⟩
theorem ownsRow_below {w w' : World} {base : Nat} {e : TypeId} {v : Value} {n : Nat} {xs : List Value} {size : Nat} (h : w.ownsRow base e size v n xs) (hb : Below w.heap.size w w') : w'.ownsRow base e size v n xs :=
  h.kept (Below.grownBy hb) (by cases v.ownBlock <;> simp)
theorem cell_block0 (w : World) (u : Value) (e : TypeId) : (w.alloc (.cells #[u] e)).cell? ⟨w.heap.size, 0, none⟩ = some u := by
  rw [World.cell?_alloc_new]; rfl
theorem cell_block1 (w : World) (o : Obj) (u : Value) (e : TypeId) : ((w.alloc o).alloc (.cells #[u] e)).cell? ⟨w.heap.size + 1, 0, none⟩ = some u := by
  rw [← World.size_alloc w o]; exact cell_block0 _ _ _
theorem Below.drawn (w : World) (n : Nat) : Below w.heap.size w (w.drewN n) := below_drewN (Below.refl _ _) n

theorem str_append (l m : List UInt8) : ((⟨l.toArray⟩ : ByteArray) ++ (⟨m.toArray⟩ : ByteArray)) = ⟨(l ++ m).toArray⟩ := by
  apply ByteArray.ext
  simp

/-- a slice of bytes that the call has just laid -/
theorem slb_lit (w : World) (cs : Array Value) (fr : Nat × Nat) (l : List UInt8) (h : cs.toList = bv l) (hl : l.length ≤ 1000) (n : Nat) (hn : n = l.length) : SlB (w.alloc (.cells cs 5 fr)) (.slice (some ⟨w.heap.size, 0, none⟩) n n) l := by
  subst hn
  refine ⟨_, _, rfl, by omega, fun i hi => ⟨w.heap.size, 0, rfl, ?_⟩, Nat.le_refl _, by omega, nofun⟩
  rw [Nat.zero_add, ← h, Array.getElem?_toList]
  have : (w.alloc (.cells cs 5 fr)).heap[w.heap.size]? = some (.cells cs 5 fr) := by show (w.heap.push _)[w.heap.size]? = _; simp
  unfold World.cell?
  rw [this]
  simp
end Go.Proofs.YtdoflhiogoefjaaDoor
end
section
/- Numbers as the cells of a row. No program in sight. -/
namespace Go.Proofs.YtdoflhiogoefjaaDoor
def iv (l : List Int) : List Value := l.map (Value.int .i64)
end Go.Proofs.YtdoflhiogoefjaaDoor
end
section
/- Contracts: slices of numbers: Clone, BinarySearch of none, Insert at the end. -/
namespace Go.Proofs.YtdoflhiogoefjaaDoor
open Go.RowKit
open Go.Lib (hid)
set_option linter.unusedVariables false

theorem iv_oneCell (l : List Int) : ∀ u ∈ iv l, u.oneCell' = true := by
  intro u hu
  obtain ⟨_, _, rfl⟩ := List.mem_map.1 hu
  rfl
theorem T_ints18 : SlT Tryd.prog 41 3 (.int .i64 0) 1 8 := SlT.mk' Tryd.underlying41 (by kernel_rfl) rfl (by decide) (by decide)
set_option maxRecDepth 100000 in
theorem sl_CloneI (l : List Int) (u : Value) (w : World) (hl : SlI w u l) (hb : l.length ≤ 1000000) : Calls Tryd.prog 36 #[u] w fun e w' =>
    ∃ v, e = .returned v ∧ w'.ownsRow w.heap.size 3 1 v l.length (iv l) ∧ Below w.heap.size w w' := by
  obtain ⟨a, c, rfl, h1, h2, -⟩ := hl
  have hn := fun (w : World) (a : Option Addr) (n c : Nat) => Lib.run_eql_slice_nil (P := Tryd.prog) w 41 3 a n c 0 0 Tryd.underlying41
  cases a with
  | none =>
    have := Rd.nil_of_none h1
    obtain rfl : l = [] := by cases l <;> simp_all
    clear this
    go_enter Tryd.func36, Tryd.ntmps36
    go_wp2
    go_ret
    exact ⟨_, rfl, World.ownsRow_nil _ _ _ _, Below.refl _ _⟩
  | some ad =>
    have hr2 : Rd (w.alloc (.cells #[] 3)) (some ad) (iv l) := h1.below' ((Below.refl _ _).alloc (Nat.le_refl _) _)
    have hown : (w.alloc (.cells #[] 3)).ownsRow w.heap.size 3 1 (.slice (some ⟨w.heap.size, 0, none⟩) 0 0) 0 [] := World.ownsRow_made w #[] 0 (Nat.le_refl _) (by omega) (by simp)
    go_enter Tryd.func36, Tryd.ntmps36
    go_wp2_with (at_builtin; refine wpList_appendN T_ints18 _ rfl _ _ rfl w.heap.size _ _ _ rfl hown _ _ _ (iv l) rfl ?c1 (fun _ h => nomatch h) hr2 (iv_oneCell l) ?c2 ?c3 ?_)
    case c1 => simp [iv]
    case c2 => omega
    case c3 => simp
    intro v' w' hown' hg hnil
    have hb' : Below w.heap.size w w' := ((Below.refl _ _).alloc (Nat.le_refl _) _).grown hg (by simp) (fun k hk => by simp [Value.ownBlock] at hk; omega)
    clear hg hnil hown
    go_wp2
    go_ret
    exact ⟨_, rfl, hown', hb'⟩
theorem sl_Search0 (v : Value) (p : Int) (w : World) (hs : SlI w v []) : Calls Tryd.prog 50 #[v, .int .i64 p] w fun e w' => e = .returned (.tuple #[.int .i64 0, .bool false]) ∧ w = w' := by
  obtain ⟨a, c, rfl, -⟩ := hs
  go_enter Tryd.func50, Tryd.ntmps50
  go_wp2
  go_loop [7, 8] (fun v7 v8 => v7 = .int .i64 0 ∧ v8 = .int .i64 0) (fun v7 v8 => 0)
  case atStart => exact ⟨rfl, rfl⟩
  case round =>
    obtain ⟨rfl, rfl⟩ := hrel
    go_wp2
    go_ret2
    exact ⟨rfl, rfl⟩
set_option maxRecDepth 100000 in
theorem sl_InsertEnd (l : List Int) (p : Int) (sv : Value) (base vg : Nat) (w : World) (hown : w.ownsRow base 3 1 sv l.length (iv l)) (hbase : base ≤ w.heap.size) (hl : l.length ≤ 1000) (hv : w.cell? ⟨vg, 0, none⟩ = some (.int .i64 p)) :
    Calls Tryd.prog 51 #[sv, .int .i64 (l.length : Int), .slice (some ⟨vg, 0, none⟩) 1 1] w fun e w' => ∃ v, e = .returned v ∧ w'.ownsRow base 3 1 v (l.length + 1) (iv (l ++ [p])) ∧ w.grownBy w' sv.ownBlock := by
  have HOWN := hid hown
  obtain ⟨a, c, rfl, hc, hcm, -⟩ := ownsRow.rd hown
  have hcm2 : c ≤ 9223372036854775807 := by unfold maxLen at hcm; omega
  have i0 : (0 : Int) ≤ (l.length : Int) := by omega
  have i1 : (l.length : Int) ≤ (c : Int) := by omega
  have hrd : Rd w (some ⟨vg, 0, none⟩) (iv [p]) := fun i hi => ⟨vg, 0, rfl, by
    obtain rfl : i = 0 := by simp [iv] at hi; omega
    rw [Nat.zero_add, hv]; rfl⟩
  have HRD := hid hrd
  clear hown hcm hrd hv
  rcases Nat.eq_or_lt_of_le hc with hcl | hcl
  · subst hcl
    go_enter Tryd.func51, Tryd.ntmps51
    go_wp2_with (at_builtin; refine wpList_appendN T_ints18 _ rfl _ _ rfl base _ _ _ rfl HOWN.out _ _ _ (iv [p]) rfl ?c1 (fun h => nomatch h) HRD.out (iv_oneCell _) ?c2 ?c3 ?_)
    case c1 => simp [iv]
    case c2 => omega
    case c3 => omega
    intro v' w' hown' hg hnil
    have hown2 : w'.ownsRow base 3 1 v' (l.length + 1) (iv (l ++ [p])) := by
      have : iv (l ++ [p]) = iv l ++ iv [p] := by simp [iv]
      rw [this]; exact hown'
    have HO := hid hown2
    have HG := hid hg
    clear hown' hg hnil hown2
    go_wp2
    go_ret
    exact ⟨_, rfl, HO.out, HG.out⟩
  · have hcl : ¬ c = l.length := by omega
    go_enter Tryd.func51, Tryd.ntmps51
    go_wp2_with (at_builtin; refine wpList_appendN T_ints18 _ rfl _ _ rfl base _ _ _ rfl HOWN.out _ _ _ (iv [p]) rfl ?c1 (fun h => nomatch h) HRD.out (iv_oneCell _) ?c2 ?c3 ?_)
    case c1 => simp [iv]
    case c2 => omega
    case c3 => omega
    intro v' w' hown' hg hnil
    have hown2 : w'.ownsRow base 3 1 v' (l.length + 1) (iv (l ++ [p])) := by
      have : iv (l ++ [p]) = iv l ++ iv [p] := by simp [iv]
      rw [this]; exact hown'
    have HO := hid hown2
    have HG := hid hg
    clear hown' hg hnil hown2
    go_wp2
    go_ret
    exact ⟨_, rfl, HO.out, HG.out⟩
end Go.Proofs.YtdoflhiogoefjaaDoor
end
section
/- Layings of the shelf's contracts at this dump (printed by the shelf's lay-plain). -/
namespace Go.Proofs
open Go.Shelf
def Tryd.lays_Lays2_n21_ren : Go.Shelf.Ren := ⟨fun | 21 => 51 | 27 => 61 | 28 => 62 | 35 => 75 | 39 => 91 | n => n, fun | 22 => 41 | 3 => 3 | 4 => 4 | 0 => 0 | n => n, fun | n => n⟩
theorem Tryd.lays_Lays2_n21 : Go.Proofs.Lays2.n21 Tryd.prog Tryd.lays_Lays2_n21_ren := {
  mixed := by kernel_rfl
  f21 := Tryd.func51.trans (congrArg some (by kernel_rfl))
  f27 := Tryd.func61.trans (congrArg some (by kernel_rfl))
  f28 := Tryd.func62.trans (congrArg some (by kernel_rfl))
  f35 := Tryd.func75.trans (congrArg some (by kernel_rfl))
  f39 := Tryd.func91.trans (congrArg some (by kernel_rfl))
  t0 := Tryd.underlying0
  a0 := Tryd.isAgg0
  z0 := Tryd.sizeOf0
  v0 := Tryd.zeroValue0
  t3 := Tryd.underlying3
  a3 := Tryd.isAgg3
  z3 := Tryd.sizeOf3
  v3 := Tryd.zeroValue3
  t4 := Tryd.underlying4
  a4 := Tryd.isAgg4
  z4 := Tryd.sizeOf4
  v4 := Tryd.zeroValue4
  t22 := Tryd.underlying41
  a22 := Tryd.isAgg41
  z22 := Tryd.sizeOf41
  v22 := Tryd.zeroValue41
  i3 := by kernel_rfl }
def Tryd.lays_Lays2_n25_ren : Go.Shelf.Ren := ⟨fun | 25 => 50 | 31 => 59 | 32 => 60 | 37 => 74 | n => n, fun | 22 => 41 | 3 => 3 | 4 => 4 | 40 => 99 | 0 => 0 | n => n, fun | n => n⟩
theorem Tryd.lays_Lays2_n25 : Go.Proofs.Lays2.n25 Tryd.prog Tryd.lays_Lays2_n25_ren := {
  mixed := by kernel_rfl
  f25 := Tryd.func50.trans (congrArg some (by kernel_rfl))
  f31 := Tryd.func59.trans (congrArg some (by kernel_rfl))
  f32 := Tryd.func60.trans (congrArg some (by kernel_rfl))
  f37 := Tryd.func74.trans (congrArg some (by kernel_rfl))
  t0 := Tryd.underlying0
  a0 := Tryd.isAgg0
  z0 := Tryd.sizeOf0
  v0 := Tryd.zeroValue0
  t3 := Tryd.underlying3
  a3 := Tryd.isAgg3
  z3 := Tryd.sizeOf3
  v3 := Tryd.zeroValue3
  t4 := Tryd.underlying4
  a4 := Tryd.isAgg4
  z4 := Tryd.sizeOf4
  v4 := Tryd.zeroValue4
  t22 := Tryd.underlying41
  a22 := Tryd.isAgg41
  z22 := Tryd.sizeOf41
  v22 := Tryd.zeroValue41
  t40 := Tryd.underlying99
  a40 := Tryd.isAgg99
  z40 := Tryd.sizeOf99
  v40 := Tryd.zeroValue99 }
def Tryd.lays_Lays2_n23_ren : Go.Shelf.Ren := ⟨fun | 23 => 55 | n => n, fun | 22 => 41 | 3 => 3 | 4 => 4 | 0 => 0 | n => n, fun | n => n⟩
theorem Tryd.lays_Lays2_n23 : Go.Proofs.Lays2.n23 Tryd.prog Tryd.lays_Lays2_n23_ren := {
  mixed := by kernel_rfl
  f23 := Tryd.func55.trans (congrArg some (by kernel_rfl))
  t0 := Tryd.underlying0
  a0 := Tryd.isAgg0
  z0 := Tryd.sizeOf0
  v0 := Tryd.zeroValue0
  t3 := Tryd.underlying3
  a3 := Tryd.isAgg3
  z3 := Tryd.sizeOf3
  v3 := Tryd.zeroValue3
  t4 := Tryd.underlying4
  a4 := Tryd.isAgg4
  z4 := Tryd.sizeOf4
  v4 := Tryd.zeroValue4
  t22 := Tryd.underlying41
  a22 := Tryd.isAgg41
  z22 := Tryd.sizeOf41
  v22 := Tryd.zeroValue41
  i3 := by kernel_rfl }
end Go.Proofs
end
