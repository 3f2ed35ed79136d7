/- Joined texts, in this order: Iv, IntsOps. Each one's first remark says what it proves; no condition beyond those that its theorems name. -/
import Derived.Test.YtohknblokejldaaJLawChestPlays01
import Derived.Test.YtohknblokejldaaJLawChestPlays17
import Derived.Test.YtohknblokejldaaJLawChestPlays18
section
/- Numbers as the cells of a row. No program in sight. -/
namespace Go.Proofs.Ytohknblokejldaa
def iv (l : List Int) : List Value := l.map (Value.int .i64)
end Go.Proofs.Ytohknblokejldaa
end
section
/- Contracts: slices of numbers: Clone, BinarySearch of none, Insert at the end. -/
namespace Go.Proofs.Ytohknblokejldaa
open Go.RowKit
open Go.Lib (hid)
set_option linter.unusedVariables false

theorem iv_oneCell (l : List Int) : ∀ u ∈ iv l, u.oneCell' = true := by
  intro u hu
  obtain ⟨_, _, rfl⟩ := List.mem_map.1 hu
  rfl
theorem T_ints18 : SlT Try.prog 22 3 (.int .i64 0) 1 8 := SlT.mk' Try.underlying22 (by kernel_rfl) rfl (by decide) (by decide)
set_option maxRecDepth 100000 in
theorem sl_CloneI (l : List Int) (u : Value) (w : World) (hl : SlI w u l) (hb : l.length ≤ 1000000) : Calls Try.prog 82 #[u] w fun e w' =>
    ∃ v, e = .returned v ∧ w'.ownsRow w.heap.size 3 1 v l.length (iv l) ∧ Below w.heap.size w w' := by
  obtain ⟨a, c, rfl, h1, h2, -⟩ := hl
  have hn := fun (w : World) (a : Option Addr) (n c : Nat) => Lib.run_eql_slice_nil (P := Try.prog) w 22 3 a n c 0 0 Try.underlying22
  cases a with
  | none =>
    have := Rd.nil_of_none h1
    obtain rfl : l = [] := by cases l <;> simp_all
    clear this
    go_enter Try.func82, Try.ntmps82
    go_wp2
    go_ret
    exact ⟨_, rfl, World.ownsRow_nil _ _ _ _, Below.refl _ _⟩
  | some ad =>
    have hr2 : Rd (w.alloc (.cells #[] 3)) (some ad) (iv l) := h1.below' ((Below.refl _ _).alloc (Nat.le_refl _) _)
    have hown : (w.alloc (.cells #[] 3)).ownsRow w.heap.size 3 1 (.slice (some ⟨w.heap.size, 0, none⟩) 0 0) 0 [] := World.ownsRow_made w #[] 0 (Nat.le_refl _) (by omega) (by simp)
    go_enter Try.func82, Try.ntmps82
    go_wp2_with (at_builtin; refine wpList_appendN T_ints18 _ rfl _ _ rfl w.heap.size _ _ _ rfl hown _ _ _ (iv l) rfl ?c1 (fun _ h => nomatch h) hr2 (iv_oneCell l) ?c2 ?c3 ?_)
    case c1 => simp [iv]
    case c2 => omega
    case c3 => simp
    intro v' w' hown' hg hnil
    have hb' : Below w.heap.size w w' := ((Below.refl _ _).alloc (Nat.le_refl _) _).grown hg (by simp) (fun k hk => by simp [Value.ownBlock] at hk; omega)
    clear hg hnil hown
    go_wp2
    go_ret
    exact ⟨_, rfl, hown', hb'⟩
end Go.Proofs.Ytohknblokejldaa
end
