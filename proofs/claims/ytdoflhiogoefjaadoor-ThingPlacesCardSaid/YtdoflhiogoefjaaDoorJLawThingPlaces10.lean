/- Joined texts, in this order: IntsOps. Each one's first remark says what it proves; no condition beyond those that its theorems name. -/
import Derived.Test.YtdoflhiogoefjaaDoorJLawThingPlaces09
section
/- Contracts: slices of numbers: Clone, BinarySearch of none, Insert at the end. -/
namespace Go.Proofs.YtdoflhiogoefjaaDoor
open Go.RowKit
open Go.Lib (hid)
set_option linter.unusedVariables false

theorem iv_oneCell (l : List Int) : ∀ u ∈ iv l, u.oneCell' = true := by
  intro u hu
  obtain ⟨_, _, rfl⟩ := List.mem_map.1 hu
  rfl
theorem T_ints18 : SlT Tryd.prog 41 3 (.int .i64 0) 1 8 := SlT.mk' Tryd.underlying41 (by kernel_rfl) rfl (by decide) (by decide)
set_option maxRecDepth 100000 in
theorem sl_CloneI (l : List Int) (u : Value) (w : World) (hl : SlI w u l) (hb : l.length ≤ 1000000) : Calls Tryd.prog 36 #[u] w fun e w' =>
    ∃ v, e = .returned v ∧ w'.ownsRow w.heap.size 3 1 v l.length (iv l) ∧ Below w.heap.size w w' := by
  obtain ⟨a, c, rfl, h1, h2, -⟩ := hl
  have hn := fun (w : World) (a : Option Addr) (n c : Nat) => Lib.run_eql_slice_nil (P := Tryd.prog) w 41 3 a n c 0 0 Tryd.underlying41
  cases a with
  | none =>
    have := Rd.nil_of_none h1
    obtain rfl : l = [] := by cases l <;> simp_all
    clear this
    go_enter Tryd.func36, Tryd.ntmps36
    go_wp2
    go_ret
    exact ⟨_, rfl, World.ownsRow_nil _ _ _ _, Below.refl _ _⟩
  | some ad =>
    have hr2 : Rd (w.alloc (.cells #[] 3)) (some ad) (iv l) := h1.below' ((Below.refl _ _).alloc (Nat.le_refl _) _)
    have hown : (w.alloc (.cells #[] 3)).ownsRow w.heap.size 3 1 (.slice (some ⟨w.heap.size, 0, none⟩) 0 0) 0 [] := World.ownsRow_made w #[] 0 (Nat.le_refl _) (by omega) (by simp)
    go_enter Tryd.func36, Tryd.ntmps36
    go_wp2_with (at_builtin; refine wpList_appendN T_ints18 _ rfl _ _ rfl w.heap.size _ _ _ rfl hown _ _ _ (iv l) rfl ?c1 (fun _ h => nomatch h) hr2 (iv_oneCell l) ?c2 ?c3 ?_)
    case c1 => simp [iv]
    case c2 => omega
    case c3 => simp
    intro v' w' hown' hg hnil
    have hb' : Below w.heap.size w w' := ((Below.refl _ _).alloc (Nat.le_refl _) _).grown hg (by simp) (fun k hk => by simp [Value.ownBlock] at hk; omega)
    clear hg hnil hown
    go_wp2
    go_ret
    exact ⟨_, rfl, hown', hb'⟩
theorem sl_Search0 (v : Value) (p : Int) (w : World) (hs : SlI w v []) : Calls Tryd.prog 50 #[v, .int .i64 p] w fun e w' => e = .returned (.tuple #[.int .i64 0, .bool false]) ∧ w = w' := by
  obtain ⟨a, c, rfl, -⟩ := hs
  go_enter Tryd.func50, Tryd.ntmps50
  go_wp2
  go_loop [7, 8] (fun v7 v8 => v7 = .int .i64 0 ∧ v8 = .int .i64 0) (fun v7 v8 => 0)
  case atStart => exact ⟨rfl, rfl⟩
  case round =>
    obtain ⟨rfl, rfl⟩ := hrel
    go_wp2
    go_ret2
    exact ⟨rfl, rfl⟩
set_option maxRecDepth 100000 in
theorem sl_InsertEnd (l : List Int) (p : Int) (sv : Value) (base vg : Nat) (w : World) (hown : w.ownsRow base 3 1 sv l.length (iv l)) (hbase : base ≤ w.heap.size) (hl : l.length ≤ 1000) (hv : w.cell? ⟨vg, 0, none⟩ = some (.int .i64 p)) :
    Calls Tryd.prog 51 #[sv, .int .i64 (l.length : Int), .slice (some ⟨vg, 0, none⟩) 1 1] w fun e w' => ∃ v, e = .returned v ∧ w'.ownsRow base 3 1 v (l.length + 1) (iv (l ++ [p])) ∧ w.grownBy w' sv.ownBlock := by
  have HOWN := hid hown
  obtain ⟨a, c, rfl, hc, hcm, -⟩ := ownsRow.rd hown
  have hcm2 : c ≤ 9223372036854775807 := by unfold maxLen at hcm; omega
  have i0 : (0 : Int) ≤ (l.length : Int) := by omega
  have i1 : (l.length : Int) ≤ (c : Int) := by omega
  have hrd : Rd w (some ⟨vg, 0, none⟩) (iv [p]) := fun i hi => ⟨vg, 0, rfl, by
    obtain rfl : i = 0 := by simp [iv] at hi; omega
    rw [Nat.zero_add, hv]; rfl⟩
  have HRD := hid hrd
  clear hown hcm hrd hv
  rcases Nat.eq_or_lt_of_le hc with hcl | hcl
  · subst hcl
    go_enter Tryd.func51, Tryd.ntmps51
    go_wp2_with (at_builtin; refine wpList_appendN T_ints18 _ rfl _ _ rfl base _ _ _ rfl HOWN.out _ _ _ (iv [p]) rfl ?c1 (fun h => nomatch h) HRD.out (iv_oneCell _) ?c2 ?c3 ?_)
    case c1 => simp [iv]
    case c2 => omega
    case c3 => omega
    intro v' w' hown' hg hnil
    have hown2 : w'.ownsRow base 3 1 v' (l.length + 1) (iv (l ++ [p])) := by
      have : iv (l ++ [p]) = iv l ++ iv [p] := by simp [iv]
      rw [this]; exact hown'
    have HO := hid hown2
    have HG := hid hg
    clear hown' hg hnil hown2
    go_wp2
    go_ret
    exact ⟨_, rfl, HO.out, HG.out⟩
  · have hcl : ¬ c = l.length := by omega
    go_enter Tryd.func51, Tryd.ntmps51
    go_wp2_with (at_builtin; refine wpList_appendN T_ints18 _ rfl _ _ rfl base _ _ _ rfl HOWN.out _ _ _ (iv [p]) rfl ?c1 (fun h => nomatch h) HRD.out (iv_oneCell _) ?c2 ?c3 ?_)
    case c1 => simp [iv]
    case c2 => omega
    case c3 => omega
    intro v' w' hown' hg hnil
    have hown2 : w'.ownsRow base 3 1 v' (l.length + 1) (iv (l ++ [p])) := by
      have : iv (l ++ [p]) = iv l ++ iv [p] := by simp [iv]
      rw [this]; exact hown'
    have HO := hid hown2
    have HG := hid hg
    clear hown' hg hnil hown2
    go_wp2
    go_ret
    exact ⟨_, rfl, HO.out, HG.out⟩
end Go.Proofs.YtdoflhiogoefjaaDoor
end
