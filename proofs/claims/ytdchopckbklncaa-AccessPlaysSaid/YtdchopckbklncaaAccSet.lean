/- Contracts: access: New, list, three, person; Set of a person on an empty list. -/
import Derived.Test.YtdchopckbklncaaIntsOps
import Derived.Test.YtdchopckbklncaaRegion
namespace Go.Proofs.Ytdchopckbklncaa
open Go.RowKit
open Go.Lib (hid)
set_option linter.unusedVariables false

theorem results_cell1 {fn : Func} {a : Tmp} {t : TypeId} (h : fn.results = #[.cell a t]) (tmps : Array Value) (P : Program) (w : World) {x : Addr} {v : Value} (ha : tmps.getD a undef = .pointer (some x)) (hl : (loadVar t x).run P w = .ok v w) : (results fn tmps).run P w = .ok v w := by
  have ha' : tmps[a]?.getD undef = .pointer (some x) := by rw [← ha]; simp
  simp [results, h, ha', asAddr, hl, Result.andThen]
theorem results_cell_tmp {fn : Func} {a u : Tmp} {t : TypeId} (h : fn.results = #[.cell a t, .tmp u]) (tmps : Array Value) (P : Program) (w : World) {x : Addr} {v : Value} (ha : tmps.getD a undef = .pointer (some x)) (hl : (loadVar t x).run P w = .ok v w) : (results fn tmps).run P w = .ok (.tuple #[v, tmps.getD u undef]) w := by
  have ha' : tmps[a]?.getD undef = .pointer (some x) := by rw [← ha]; simp
  simp [results, h, ha', asAddr, hl, Result.andThen]
theorem sl_CloneN (w : World) : Calls Try.prog 94 #[.slice none 0 0] w fun e w' => e = .returned (.slice none 0 0) ∧ w = w' := by
  have hn := fun (w : World) (a : Option Addr) (n c : Nat) => Lib.run_eql_slice_nil (P := Try.prog) w 39 3 a n c 0 0 Try.underlying39
  go_enter Try.func94, Try.ntmps94
  go_wp2
  go_ret
  exact ⟨rfl, rfl⟩
theorem acc_three (n : Int) (w : World) (h1 : 1 ≤ n) (h2 : n ≤ 3) : Calls Try.prog 92 #[.int .i64 n] w fun e w' => e = .returned (.bool true) ∧ w = w' := by
  go_enter Try.func92, Try.ntmps92
  go_wp2
  go_ret
  exact ⟨rfl, rfl⟩
theorem acc_person (n : Int) (w : World) (h1 : 1 ≤ n) (h2 : n ≤ 256) : Calls Try.prog 93 #[.int .i64 n] w fun e w' => e = .returned (.bool true) ∧ w = w' := by
  go_enter Try.func93, Try.ntmps93
  go_wp2
  go_ret
  exact ⟨rfl, rfl⟩
theorem idx3_1 (g : Nat) (w : World) : (Instr.index 87 (.agg #[.pointer (some ⟨g, 1, none⟩), .pointer (some ⟨g, 2, none⟩), .pointer (some ⟨g, 3, none⟩)]) (.int .i64 (IntKind.i64.wrap 0))).run Try.prog w = .ok (.pointer (some ⟨g, 1, none⟩)) w := by
  kernel_rfl
theorem idx3_3 (g : Nat) (w : World) : (Instr.index 87 (.agg #[.pointer (some ⟨g, 1, none⟩), .pointer (some ⟨g, 2, none⟩), .pointer (some ⟨g, 3, none⟩)]) (.int .i64 (IntKind.i64.wrap 2))).run Try.prog w = .ok (.pointer (some ⟨g, 3, none⟩)) w := by
  kernel_rfl
theorem acc_list1 (g : Nat) (w : World) : Calls Try.prog 95 #[.pointer (some ⟨g, 0, none⟩), .int .i64 1] w fun e w' => e = .returned (.pointer (some ⟨g, 1, none⟩)) ∧ Below w.heap.size w w' := by
  have hidx := idx3_1 g
  go_enter Try.func95, Try.ntmps95
  go_wp2
  have hk0 := (Below.refl w.heap.size w).drew
  refine wp_region_kept [13] (fun x => Below w.heap.size w x) (by kernel_rfl) (by assumption) (fun hH => ?_)
  refine wpK.take (i := 0) (v := _) (by simp only [List.getElem?_toArray, List.getElem?_cons_succ, List.getElem?_cons_zero]; rfl) (by kernel_rfl) (by kernel_rfl) (by kernel_rfl) (by kernel_rfl) (by kernel_rfl) (by exact fun _ _ _ h => h) (by first | exact Or.inl ⟨by rfl, by intro w hSw; go_simp; try with_reducible rfl⟩ | exact Or.inr ⟨by rfl, rfl⟩) hH ?_
  try simp only [Act.put, List.setIfInBounds_toArray, List.set_cons_zero, List.set_cons_succ]
  refine wpK.take (i := 1) (v := _) (by simp only [List.getElem?_toArray, List.getElem?_cons_succ, List.getElem?_cons_zero]; rfl) (by kernel_rfl) (by kernel_rfl) (by kernel_rfl) (by kernel_rfl) (by kernel_rfl) (by exact fun _ _ _ h => h) (by first | exact Or.inl ⟨by rfl, by intro w hSw; go_simp; try with_reducible rfl⟩ | exact Or.inr ⟨by rfl, rfl⟩) hH ?_
  try simp only [Act.put, List.setIfInBounds_toArray, List.set_cons_zero, List.set_cons_succ]
  refine wpK.take (i := 2) (v := _) (by simp only [List.getElem?_toArray, List.getElem?_cons_succ, List.getElem?_cons_zero]; rfl) (by kernel_rfl) (by kernel_rfl) (by kernel_rfl) (by kernel_rfl) (by kernel_rfl) (by exact fun _ _ _ h => h) (by first | exact Or.inl ⟨by rfl, by intro w hSw; go_simp; try with_reducible rfl⟩ | exact Or.inr ⟨by rfl, rfl⟩) hH ?_
  try simp only [Act.put, List.setIfInBounds_toArray, List.set_cons_zero, List.set_cons_succ]
  refine wpK.take (i := 3) (v := _) (by simp only [List.getElem?_toArray, List.getElem?_cons_succ, List.getElem?_cons_zero]; rfl) (by kernel_rfl) (by kernel_rfl) (by kernel_rfl) (by kernel_rfl) (by kernel_rfl) (by exact fun _ _ _ h => h) (by first | exact Or.inl ⟨by rfl, by intro w hSw; go_simp; try with_reducible rfl⟩ | exact Or.inr ⟨by rfl, rfl⟩) hH ?_
  try simp only [Act.put, List.setIfInBounds_toArray, List.set_cons_zero, List.set_cons_succ]
  refine wpK.take (i := 4) (v := _) (by simp only [List.getElem?_toArray, List.getElem?_cons_succ, List.getElem?_cons_zero]; rfl) (by kernel_rfl) (by kernel_rfl) (by kernel_rfl) (by kernel_rfl) (by kernel_rfl) (by exact fun _ _ _ h => h) (by first | exact Or.inl ⟨by rfl, by intro w hSw; go_simp; try with_reducible rfl⟩ | exact Or.inr ⟨by rfl, rfl⟩) hH ?_
  try simp only [Act.put, List.setIfInBounds_toArray, List.set_cons_zero, List.set_cons_succ]
  refine wpK.take (i := 5) (v := _) (by simp only [List.getElem?_toArray, List.getElem?_cons_succ, List.getElem?_cons_zero]; rfl) (by kernel_rfl) (by kernel_rfl) (by kernel_rfl) (by kernel_rfl) (by kernel_rfl) (by exact fun _ _ _ h => h) (by first | exact Or.inl ⟨by rfl, by intro w hSw; go_simp; try with_reducible rfl⟩ | exact Or.inr ⟨by rfl, rfl⟩) hH ?_
  try simp only [Act.put, List.setIfInBounds_toArray, List.set_cons_zero, List.set_cons_succ]
  refine wpK.take (i := 6) (v := _) (by simp only [List.getElem?_toArray, List.getElem?_cons_succ, List.getElem?_cons_zero]; rfl) (by kernel_rfl) (by kernel_rfl) (by kernel_rfl) (by kernel_rfl) (by kernel_rfl) (by exact fun _ _ _ h => h) (by first | exact Or.inl ⟨by rfl, by intro w hSw; go_simp; try with_reducible rfl⟩ | exact Or.inr ⟨by rfl, rfl⟩) hH ?_
  try simp only [Act.put, List.setIfInBounds_toArray, List.set_cons_zero, List.set_cons_succ]
  refine wpK.take (i := 7) (v := _) (by simp only [List.getElem?_toArray, List.getElem?_cons_succ, List.getElem?_cons_zero]; rfl) (by kernel_rfl) (by kernel_rfl) (by kernel_rfl) (by kernel_rfl) (by kernel_rfl) (by exact fun _ _ _ h => h) (by first | exact Or.inl ⟨by rfl, by intro w hSw; go_simp; try with_reducible rfl⟩ | exact Or.inr ⟨by rfl, rfl⟩) hH ?_
  try simp only [Act.put, List.setIfInBounds_toArray, List.set_cons_zero, List.set_cons_succ]
  refine wpK.take (i := 8) (v := _) (by simp only [List.getElem?_toArray, List.getElem?_cons_succ, List.getElem?_cons_zero]; rfl) (by kernel_rfl) (by kernel_rfl) (by kernel_rfl) (by kernel_rfl) (by kernel_rfl) (by exact fun _ _ _ h => h) (by first | exact Or.inl ⟨by rfl, by intro w hSw; go_simp; try with_reducible rfl⟩ | exact Or.inr ⟨by rfl, rfl⟩) hH ?_
  try simp only [Act.put, List.setIfInBounds_toArray, List.set_cons_zero, List.set_cons_succ]
  refine wpK.take (i := 9) (v := _) (by simp only [List.getElem?_toArray, List.getElem?_cons_succ, List.getElem?_cons_zero]; rfl) (by kernel_rfl) (by kernel_rfl) (by kernel_rfl) (by kernel_rfl) (by kernel_rfl) (by exact fun _ _ _ h => h) (by first | exact Or.inl ⟨by rfl, by intro w hSw; go_simp; try with_reducible rfl⟩ | exact Or.inr ⟨by rfl, rfl⟩) hH ?_
  try simp only [Act.put, List.setIfInBounds_toArray, List.set_cons_zero, List.set_cons_succ]
  refine wpK.take (i := 10) (v := _) (by simp only [List.getElem?_toArray, List.getElem?_cons_succ, List.getElem?_cons_zero]; rfl) (by kernel_rfl) (by kernel_rfl) (by kernel_rfl) (by kernel_rfl) (by kernel_rfl) (by exact fun _ _ _ h => h) (by first | exact Or.inl ⟨by rfl, by intro w hSw; go_simp; try with_reducible rfl⟩ | exact Or.inr ⟨by rfl, rfl⟩) hH ?_
  try simp only [Act.put, List.setIfInBounds_toArray, List.set_cons_zero, List.set_cons_succ]
  refine wpK.take (i := 11) (v := _) (by simp only [List.getElem?_toArray, List.getElem?_cons_succ, List.getElem?_cons_zero]; rfl) (by kernel_rfl) (by kernel_rfl) (by kernel_rfl) (by kernel_rfl) (by kernel_rfl) (by exact fun _ _ _ h => h) (by first | exact Or.inl ⟨by rfl, by intro w hSw; go_simp; try with_reducible rfl⟩ | exact Or.inr ⟨by rfl, rfl⟩) hH ?_
  try simp only [Act.put, List.setIfInBounds_toArray, List.set_cons_zero, List.set_cons_succ]
  refine wpK.take (i := 12) (v := _) (by simp only [List.getElem?_toArray, List.getElem?_cons_succ, List.getElem?_cons_zero]; rfl) (by kernel_rfl) (by kernel_rfl) (by kernel_rfl) (by kernel_rfl) (by kernel_rfl) (by exact fun _ _ _ h => h) (by first | exact Or.inl ⟨by rfl, by intro w hSw; go_simp; try with_reducible rfl⟩ | exact Or.inr ⟨by rfl, rfl⟩) hH ?_
  try simp only [Act.put, List.setIfInBounds_toArray, List.set_cons_zero, List.set_cons_succ]
  refine wpK.late (i := 13) (by kernel_rfl) (by simp only [List.getElem?_toArray, List.getElem?_cons_succ, List.getElem?_cons_zero]; rfl) (by kernel_rfl) (fun K hK => ?_)
  go_simp
  refine hK.out _ _ ?_
  clear hK K
  try simp only [Act.put, List.setIfInBounds_toArray, List.set_cons_zero, List.set_cons_succ]
  refine wpK.done (by kernel_rfl) ?_ _
  go_wp2
  go_ret
  exact ⟨rfl, hk0⟩
theorem acc_list3 (g : Nat) (w : World) : Calls Try.prog 95 #[.pointer (some ⟨g, 0, none⟩), .int .i64 3] w fun e w' => e = .returned (.pointer (some ⟨g, 3, none⟩)) ∧ Below w.heap.size w w' := by
  have hidx := idx3_3 g
  go_enter Try.func95, Try.ntmps95
  go_wp2
  have hk0 := (Below.refl w.heap.size w).drew
  refine wp_region_kept [13] (fun x => Below w.heap.size w x) (by kernel_rfl) (by assumption) (fun hH => ?_)
  refine wpK.take (i := 0) (v := _) (by simp only [List.getElem?_toArray, List.getElem?_cons_succ, List.getElem?_cons_zero]; rfl) (by kernel_rfl) (by kernel_rfl) (by kernel_rfl) (by kernel_rfl) (by kernel_rfl) (by exact fun _ _ _ h => h) (by first | exact Or.inl ⟨by rfl, by intro w hSw; go_simp; try with_reducible rfl⟩ | exact Or.inr ⟨by rfl, rfl⟩) hH ?_
  try simp only [Act.put, List.setIfInBounds_toArray, List.set_cons_zero, List.set_cons_succ]
  refine wpK.take (i := 1) (v := _) (by simp only [List.getElem?_toArray, List.getElem?_cons_succ, List.getElem?_cons_zero]; rfl) (by kernel_rfl) (by kernel_rfl) (by kernel_rfl) (by kernel_rfl) (by kernel_rfl) (by exact fun _ _ _ h => h) (by first | exact Or.inl ⟨by rfl, by intro w hSw; go_simp; try with_reducible rfl⟩ | exact Or.inr ⟨by rfl, rfl⟩) hH ?_
  try simp only [Act.put, List.setIfInBounds_toArray, List.set_cons_zero, List.set_cons_succ]
  refine wpK.take (i := 2) (v := _) (by simp only [List.getElem?_toArray, List.getElem?_cons_succ, List.getElem?_cons_zero]; rfl) (by kernel_rfl) (by kernel_rfl) (by kernel_rfl) (by kernel_rfl) (by kernel_rfl) (by exact fun _ _ _ h => h) (by first | exact Or.inl ⟨by rfl, by intro w hSw; go_simp; try with_reducible rfl⟩ | exact Or.inr ⟨by rfl, rfl⟩) hH ?_
  try simp only [Act.put, List.setIfInBounds_toArray, List.set_cons_zero, List.set_cons_succ]
  refine wpK.take (i := 3) (v := _) (by simp only [List.getElem?_toArray, List.getElem?_cons_succ, List.getElem?_cons_zero]; rfl) (by kernel_rfl) (by kernel_rfl) (by kernel_rfl) (by kernel_rfl) (by kernel_rfl) (by exact fun _ _ _ h => h) (by first | exact Or.inl ⟨by rfl, by intro w hSw; go_simp; try with_reducible rfl⟩ | exact Or.inr ⟨by rfl, rfl⟩) hH ?_
  try simp only [Act.put, List.setIfInBounds_toArray, List.set_cons_zero, List.set_cons_succ]
  refine wpK.take (i := 4) (v := _) (by simp only [List.getElem?_toArray, List.getElem?_cons_succ, List.getElem?_cons_zero]; rfl) (by kernel_rfl) (by kernel_rfl) (by kernel_rfl) (by kernel_rfl) (by kernel_rfl) (by exact fun _ _ _ h => h) (by first | exact Or.inl ⟨by rfl, by intro w hSw; go_simp; try with_reducible rfl⟩ | exact Or.inr ⟨by rfl, rfl⟩) hH ?_
  try simp only [Act.put, List.setIfInBounds_toArray, List.set_cons_zero, List.set_cons_succ]
  refine wpK.take (i := 5) (v := _) (by simp only [List.getElem?_toArray, List.getElem?_cons_succ, List.getElem?_cons_zero]; rfl) (by kernel_rfl) (by kernel_rfl) (by kernel_rfl) (by kernel_rfl) (by kernel_rfl) (by exact fun _ _ _ h => h) (by first | exact Or.inl ⟨by rfl, by intro w hSw; go_simp; try with_reducible rfl⟩ | exact Or.inr ⟨by rfl, rfl⟩) hH ?_
  try simp only [Act.put, List.setIfInBounds_toArray, List.set_cons_zero, List.set_cons_succ]
  refine wpK.take (i := 6) (v := _) (by simp only [List.getElem?_toArray, List.getElem?_cons_succ, List.getElem?_cons_zero]; rfl) (by kernel_rfl) (by kernel_rfl) (by kernel_rfl) (by kernel_rfl) (by kernel_rfl) (by exact fun _ _ _ h => h) (by first | exact Or.inl ⟨by rfl, by intro w hSw; go_simp; try with_reducible rfl⟩ | exact Or.inr ⟨by rfl, rfl⟩) hH ?_
  try simp only [Act.put, List.setIfInBounds_toArray, List.set_cons_zero, List.set_cons_succ]
  refine wpK.take (i := 7) (v := _) (by simp only [List.getElem?_toArray, List.getElem?_cons_succ, List.getElem?_cons_zero]; rfl) (by kernel_rfl) (by kernel_rfl) (by kernel_rfl) (by kernel_rfl) (by kernel_rfl) (by exact fun _ _ _ h => h) (by first | exact Or.inl ⟨by rfl, by intro w hSw; go_simp; try with_reducible rfl⟩ | exact Or.inr ⟨by rfl, rfl⟩) hH ?_
  try simp only [Act.put, List.setIfInBounds_toArray, List.set_cons_zero, List.set_cons_succ]
  refine wpK.take (i := 8) (v := _) (by simp only [List.getElem?_toArray, List.getElem?_cons_succ, List.getElem?_cons_zero]; rfl) (by kernel_rfl) (by kernel_rfl) (by kernel_rfl) (by kernel_rfl) (by kernel_rfl) (by exact fun _ _ _ h => h) (by first | exact Or.inl ⟨by rfl, by intro w hSw; go_simp; try with_reducible rfl⟩ | exact Or.inr ⟨by rfl, rfl⟩) hH ?_
  try simp only [Act.put, List.setIfInBounds_toArray, List.set_cons_zero, List.set_cons_succ]
  refine wpK.take (i := 9) (v := _) (by simp only [List.getElem?_toArray, List.getElem?_cons_succ, List.getElem?_cons_zero]; rfl) (by kernel_rfl) (by kernel_rfl) (by kernel_rfl) (by kernel_rfl) (by kernel_rfl) (by exact fun _ _ _ h => h) (by first | exact Or.inl ⟨by rfl, by intro w hSw; go_simp; try with_reducible rfl⟩ | exact Or.inr ⟨by rfl, rfl⟩) hH ?_
  try simp only [Act.put, List.setIfInBounds_toArray, List.set_cons_zero, List.set_cons_succ]
  refine wpK.take (i := 10) (v := _) (by simp only [List.getElem?_toArray, List.getElem?_cons_succ, List.getElem?_cons_zero]; rfl) (by kernel_rfl) (by kernel_rfl) (by kernel_rfl) (by kernel_rfl) (by kernel_rfl) (by exact fun _ _ _ h => h) (by first | exact Or.inl ⟨by rfl, by intro w hSw; go_simp; try with_reducible rfl⟩ | exact Or.inr ⟨by rfl, rfl⟩) hH ?_
  try simp only [Act.put, List.setIfInBounds_toArray, List.set_cons_zero, List.set_cons_succ]
  refine wpK.take (i := 11) (v := _) (by simp only [List.getElem?_toArray, List.getElem?_cons_succ, List.getElem?_cons_zero]; rfl) (by kernel_rfl) (by kernel_rfl) (by kernel_rfl) (by kernel_rfl) (by kernel_rfl) (by exact fun _ _ _ h => h) (by first | exact Or.inl ⟨by rfl, by intro w hSw; go_simp; try with_reducible rfl⟩ | exact Or.inr ⟨by rfl, rfl⟩) hH ?_
  try simp only [Act.put, List.setIfInBounds_toArray, List.set_cons_zero, List.set_cons_succ]
  refine wpK.take (i := 12) (v := _) (by simp only [List.getElem?_toArray, List.getElem?_cons_succ, List.getElem?_cons_zero]; rfl) (by kernel_rfl) (by kernel_rfl) (by kernel_rfl) (by kernel_rfl) (by kernel_rfl) (by exact fun _ _ _ h => h) (by first | exact Or.inl ⟨by rfl, by intro w hSw; go_simp; try with_reducible rfl⟩ | exact Or.inr ⟨by rfl, rfl⟩) hH ?_
  try simp only [Act.put, List.setIfInBounds_toArray, List.set_cons_zero, List.set_cons_succ]
  refine wpK.late (i := 13) (by kernel_rfl) (by simp only [List.getElem?_toArray, List.getElem?_cons_succ, List.getElem?_cons_zero]; rfl) (by kernel_rfl) (fun K hK => ?_)
  go_simp
  refine hK.out _ _ ?_
  clear hK K
  try simp only [Act.put, List.setIfInBounds_toArray, List.set_cons_zero, List.set_cons_succ]
  refine wpK.done (by kernel_rfl) ?_ _
  go_wp2
  go_ret
  exact ⟨rfl, hk0⟩
theorem acc_New (o : Int) (w : World) : Calls Try.prog 57 #[.int .i64 o] w fun e w' => e = .returned (.agg #[.int .i64 o, .slice none 0 0, .slice none 0 0, .slice none 0 0]) ∧ Below w.heap.size w w' := by
  go_enter Try.func57, Try.ntmps57
  go_wp2
  (try simp only [Exit.inBlock, Exit.then])
  refine bodyPost_ret (results_cell1 rfl _ _ _ rfl (by go_simp; rfl)) rfl ?_
  exact ⟨rfl, Below.new _ _⟩
theorem Blk.c4 {w : World} {g : Nat} {a b c d : Value} (h : Blk w g #[a, b, c, d]) : w.cell? ⟨g, 0, none⟩ = some a ∧ w.cell? ⟨g, 1, none⟩ = some b ∧ w.cell? ⟨g, 2, none⟩ = some c ∧ w.cell? ⟨g, 3, none⟩ = some d ∧
    w.frozen? ⟨g, 0, none⟩ = false ∧ w.frozen? ⟨g, 1, none⟩ = false ∧ w.frozen? ⟨g, 2, none⟩ = false ∧ w.frozen? ⟨g, 3, none⟩ = false :=
  ⟨by rw [h.cell]; rfl, by rw [h.cell]; rfl, by rw [h.cell]; rfl, by rw [h.cell]; rfl, h.unfrozen _, h.unfrozen _, h.unfrozen _, h.unfrozen _⟩
theorem K_alloc {K : Act → World → Prop} {a : Act} {x : World} {cs : Array Value} {e : TypeId} (h : ∀ (g : Nat) (wn : World), g = x.heap.size → wn.heap.size = g + 1 → Below x.heap.size x wn → Blk wn g cs → K a wn) : K a (x.alloc (.cells cs e)) :=
  h x.heap.size _ rfl (by simp) (Below.new _ _) (Blk.new _ _ _)
theorem K_allocD {K : Act → World → Prop} {a : Act} {x : World} {cs : Array Value} {e : TypeId} (h : ∀ (g : Nat) (wn : World), g = x.heap.size → wn.heap.size = g + 1 → Below x.heap.size x wn → Blk wn g cs → K a wn) : K a (x.alloc (.cells cs e)).drew :=
  h x.heap.size _ rfl (by simp) (Below.new _ _).drew (Blk.new _ _ _)
theorem set4_of {x : World} {g : Nat} {c0 c1 c2 c3 : Value} (h : Blk x g #[c0, c1, c2, c3]) (u0 u1 u2 u3 : Value) : ∃ wz, wz = (((x.setCell ⟨g, 0, none⟩ u0).setCell ⟨g, 1, none⟩ u1).setCell ⟨g, 2, none⟩ u2).setCell ⟨g, 3, none⟩ u3 ∧ Blk wz g #[u0, u1, u2, u3] ∧ Upd (fun k => k = g) x wz :=
  ⟨_, rfl, by simpa using (((h.set 0 u0).set 1 u1).set 2 u2).set 3 u3, (((Upd.setCell x g 0 u0).trans (Upd.setCell _ g 1 u1) (fun _ _ q => q)).trans (Upd.setCell _ g 2 u2) (fun _ _ q => q)).trans (Upd.setCell _ g 3 u3) (fun _ _ q => q)⟩
set_option maxRecDepth 100000 in
set_option maxHeartbeats 4000000 in
theorem acc_Set3 (o p : Int) (lc : List Int) (vc : Value) (w : World) (hc : SlI w vc lc) (hl : lc.length ≤ 1000) (h1 : 1 ≤ p) (h2 : p ≤ 256) (h3 : p ≠ o) :
    Calls Try.prog 58 #[.agg #[.int .i64 o, vc, .slice none 0 0, .slice none 0 0], .int .i64 3, .int .i64 p, .bool true] w fun e w' => ∃ uc ub, e = .returned (.tuple #[.agg #[.int .i64 o, uc, .slice none 0 0, ub], .int .i64 0]) ∧ SlI w' uc lc ∧ SlI w' ub [p] ∧ Below w.heap.size w w' := by
  have HC0 := hid hc
  obtain ⟨a, c, rfl, -⟩ := hc
  obtain ⟨wb, hwb⟩ : ∃ wb, wb = w.alloc (.cells #[.int .i64 o, .slice a lc.length c, .slice none 0 0, .slice none 0 0] 69) := ⟨_, rfl⟩
  obtain ⟨wq, hwq⟩ : ∃ wq, wq = wb.alloc (.cells #[.int .i64 0, .slice none 0 0, .slice none 0 0, .slice none 0 0] 69) := ⟨_, rfl⟩
  have hbb : Below w.heap.size w wb := by rw [hwb]; exact Below.new _ _
  have hbq : Below wb.heap.size wb wq := by rw [hwq]; exact Below.new _ _
  have hblk0 : Blk wq w.heap.size #[.int .i64 o, .slice a lc.length c, .slice none 0 0, .slice none 0 0] := Blk.below hbq (by rw [hwb]; exact Blk.new _ _ _)
  have hsb : wb.heap.size = w.heap.size + 1 := by rw [hwb]; simp
  have hres : Blk wq (w.heap.size + 1) #[.int .i64 0, .slice none 0 0, .slice none 0 0, .slice none 0 0] := by rw [hwq, ← hsb]; exact Blk.new _ _ _
  have hsq : wq.heap.size = w.heap.size + 2 := by rw [hwq]; simp; omega
  have HBQ := hid (Below.next hbb hbq)
  have HC := hid (HC0.out.below HBQ.out)
  have HBLK0 := hid hblk0
  have HRES := hid hres
  have HSQ := hid hsq
  rw [hwb] at hwq
  have HWQ := hid hwq
  have b3 : (p == o) = false := by simpa using h3
  clear hwb hwq hbb hbq hsb hsq h3
  go_enter Try.func58, Try.ntmps58
  go_wp2_with fail
  rw [← HWQ.out]
  refine (acc_three 3 _ (by omega) (by omega)).mono ?_
  rintro e w' ⟨rfl, rfl⟩
  go_wp2_with fail
  refine (acc_person p _ h1 h2).mono ?_
  rintro e w' ⟨rfl, rfl⟩
  have hq0 : ∀ x, Below wq.heap.size wq x → x.cell? ⟨w.heap.size, 0, none⟩ = some (.int .i64 o) := fun x hb => (HBLK0.out.below hb).c4.1
  have hq1 : ∀ x, Below wq.heap.size wq x → x.cell? ⟨w.heap.size, 1, none⟩ = some (.slice a lc.length c) := fun x hb => (HBLK0.out.below hb).c4.2.1
  have hq2 : ∀ x, Below wq.heap.size wq x → x.cell? ⟨w.heap.size, 2, none⟩ = some (.slice none 0 0) := fun x hb => (HBLK0.out.below hb).c4.2.2.1
  have hq3 : ∀ x, Below wq.heap.size wq x → x.cell? ⟨w.heap.size, 3, none⟩ = some (.slice none 0 0) := fun x hb => (HBLK0.out.below hb).c4.2.2.2.1
  clear hblk0 hres
  go_wp2_with fail
  have hk0 := (Below.refl wq.heap.size wq).drew
  refine wp_region_kept [13] (fun x => Below wq.heap.size wq x) (by kernel_rfl) (by assumption) (fun hH => ?_)
  refine wpK.take (i := 0) (v := _) (by simp only [List.getElem?_toArray, List.getElem?_cons_succ, List.getElem?_cons_zero]; rfl) (by kernel_rfl) (by kernel_rfl) (by kernel_rfl) (by kernel_rfl) (by kernel_rfl) (by exact fun _ _ _ h => h) (by first | exact Or.inl ⟨by rfl, by intro w hSw; go_simp; try with_reducible rfl⟩ | exact Or.inr ⟨by rfl, rfl⟩) hH ?_
  try simp only [Act.put, List.setIfInBounds_toArray, List.set_cons_zero, List.set_cons_succ]
  refine wpK.take (i := 1) (v := _) (by simp only [List.getElem?_toArray, List.getElem?_cons_succ, List.getElem?_cons_zero]; rfl) (by kernel_rfl) (by kernel_rfl) (by kernel_rfl) (by kernel_rfl) (by kernel_rfl) (by exact fun _ _ _ h => h) (by first | exact Or.inl ⟨by rfl, by intro w hSw; go_simp; try with_reducible rfl⟩ | exact Or.inr ⟨by rfl, rfl⟩) hH ?_
  try simp only [Act.put, List.setIfInBounds_toArray, List.set_cons_zero, List.set_cons_succ]
  refine wpK.take (i := 2) (v := _) (by simp only [List.getElem?_toArray, List.getElem?_cons_succ, List.getElem?_cons_zero]; rfl) (by kernel_rfl) (by kernel_rfl) (by kernel_rfl) (by kernel_rfl) (by kernel_rfl) (by exact fun _ _ _ h => h) (by first | exact Or.inl ⟨by rfl, by intro w hSw; go_simp; try with_reducible rfl⟩ | exact Or.inr ⟨by rfl, rfl⟩) hH ?_
  try simp only [Act.put, List.setIfInBounds_toArray, List.set_cons_zero, List.set_cons_succ]
  refine wpK.take (i := 3) (v := _) (by simp only [List.getElem?_toArray, List.getElem?_cons_succ, List.getElem?_cons_zero]; rfl) (by kernel_rfl) (by kernel_rfl) (by kernel_rfl) (by kernel_rfl) (by kernel_rfl) (by exact fun _ _ _ h => h) (by first | exact Or.inl ⟨by rfl, by intro w hSw; go_simp; try with_reducible rfl⟩ | exact Or.inr ⟨by rfl, rfl⟩) hH ?_
  try simp only [Act.put, List.setIfInBounds_toArray, List.set_cons_zero, List.set_cons_succ]
  refine wpK.take (i := 5) (v := _) (by simp only [List.getElem?_toArray, List.getElem?_cons_succ, List.getElem?_cons_zero]; rfl) (by kernel_rfl) (by kernel_rfl) (by kernel_rfl) (by kernel_rfl) (by kernel_rfl) (by exact fun _ _ _ h => h) (by first | exact Or.inl ⟨by rfl, by intro w hSw; go_simp; try with_reducible rfl⟩ | exact Or.inr ⟨by rfl, rfl⟩) hH ?_
  try simp only [Act.put, List.setIfInBounds_toArray, List.set_cons_zero, List.set_cons_succ]
  refine wpK.take (i := 6) (v := _) (by simp only [List.getElem?_toArray, List.getElem?_cons_succ, List.getElem?_cons_zero]; rfl) (by kernel_rfl) (by kernel_rfl) (by kernel_rfl) (by kernel_rfl) (by kernel_rfl) (by exact fun _ _ _ h => h) (by first | exact Or.inl ⟨by rfl, by intro w hSw; go_simp; try with_reducible rfl⟩ | exact Or.inr ⟨by rfl, rfl⟩) hH ?_
  try simp only [Act.put, List.setIfInBounds_toArray, List.set_cons_zero, List.set_cons_succ]
  refine wpK.take (i := 8) (v := _) (by simp only [List.getElem?_toArray, List.getElem?_cons_succ, List.getElem?_cons_zero]; rfl) (by kernel_rfl) (by kernel_rfl) (by kernel_rfl) (by kernel_rfl) (by kernel_rfl) (by exact fun _ _ _ h => h) (by first | exact Or.inl ⟨by rfl, by intro w hSw; go_simp; try with_reducible rfl⟩ | exact Or.inr ⟨by rfl, rfl⟩) hH ?_
  try simp only [Act.put, List.setIfInBounds_toArray, List.set_cons_zero, List.set_cons_succ]
  refine wpK.take (i := 9) (v := _) (by simp only [List.getElem?_toArray, List.getElem?_cons_succ, List.getElem?_cons_zero]; rfl) (by kernel_rfl) (by kernel_rfl) (by kernel_rfl) (by kernel_rfl) (by kernel_rfl) (by exact fun _ _ _ h => h) (by first | exact Or.inl ⟨by rfl, by intro w hSw; go_simp; try with_reducible rfl⟩ | exact Or.inr ⟨by rfl, rfl⟩) hH ?_
  try simp only [Act.put, List.setIfInBounds_toArray, List.set_cons_zero, List.set_cons_succ]
  refine wpK.two (i := 4) (j := 12) (by kernel_rfl) (by simp only [List.getElem?_toArray, List.getElem?_cons_succ, List.getElem?_cons_zero]; rfl) (by simp only [List.getElem?_toArray, List.getElem?_cons_succ, List.getElem?_cons_zero]; rfl) (fun K hK => ?_) (fun K hK => ?_)
  · go_simp
    (refine (sl_CloneI lc _ _ (HC.out.below hH) (by omega)).mono ?_); rintro e w4 ⟨u1, rfl, hown1, hb4⟩; (obtain ⟨a1, c1, rfl, -, -, -, -⟩ := ownsRow.rd hown1); (have hlt1 := fun k hk => hown1.lt k hk); (have HS4 := hid hb4.size); (have hk4 := Below.next hH hb4); (try (have hblk10 := hblk10.below hb4)); (try (obtain ⟨hy0, hy1, hy2, hy3, hz0, hz1, hz2, hz3⟩ := hblk10.c4)); go_simp
    refine hK.out _ _ (by assumption) (fun hH => ?_)
    clear hK K
    try simp only [Act.put, List.setIfInBounds_toArray, List.set_cons_zero, List.set_cons_succ]
    refine wpK.two (i := 7) (j := 12) (by kernel_rfl) (by simp only [List.getElem?_toArray, List.getElem?_cons_succ, List.getElem?_cons_zero]; rfl) (by simp only [List.getElem?_toArray, List.getElem?_cons_succ, List.getElem?_cons_zero]; rfl) (fun K hK => ?_) (fun K hK => ?_)
    · go_simp
      (refine (sl_CloneN _).mono ?_); rintro e w' ⟨rfl, rfl⟩; go_simp
      refine hK.out _ _ (by assumption) (fun hH => ?_)
      clear hK K
      try simp only [Act.put, List.setIfInBounds_toArray, List.set_cons_zero, List.set_cons_succ]
      refine wpK.two (i := 10) (j := 12) (by kernel_rfl) (by simp only [List.getElem?_toArray, List.getElem?_cons_succ, List.getElem?_cons_zero]; rfl) (by simp only [List.getElem?_toArray, List.getElem?_cons_succ, List.getElem?_cons_zero]; rfl) (fun K hK => ?_) (fun K hK => ?_)
      · go_simp
        (refine (sl_CloneN _).mono ?_); rintro e w' ⟨rfl, rfl⟩; go_simp
        refine hK.out _ _ (by assumption) (fun hH => ?_)
        clear hK K
        try simp only [Act.put, List.setIfInBounds_toArray, List.set_cons_zero, List.set_cons_succ]
        refine wpK.take (i := 11) (v := _) (by simp only [List.getElem?_toArray, List.getElem?_cons_succ, List.getElem?_cons_zero]; rfl) (by kernel_rfl) (by kernel_rfl) (by kernel_rfl) (by kernel_rfl) (by kernel_rfl) (by exact fun _ _ _ h => h) (by first | exact Or.inl ⟨by rfl, by intro w hSw; go_simp; try with_reducible rfl⟩ | exact Or.inr ⟨by rfl, rfl⟩) hH ?_
        try simp only [Act.put, List.setIfInBounds_toArray, List.set_cons_zero, List.set_cons_succ]
        refine wpK.step (i := 12) (by kernel_rfl) (by simp only [List.getElem?_toArray, List.getElem?_cons_succ, List.getElem?_cons_zero]; rfl) (fun K hK => ?_)
        go_simp
        (first | refine K_alloc (K := K) ?_ | refine K_allocD (K := K) ?_); intro g10 wn hg10 hs12 hb12 hblk10; rw [← hg10]; (have hk12 : Below wq.heap.size wq wn := Below.next (by first | exact hH | exact Below.refl _ _) hb12); (have HG10 := hid hg10); (have HS12 := hid hs12); clear hg10 hs12; (try (have hown1 := owns_below hown1 hb12)); (obtain ⟨hy0, hy1, hy2, hy3, hz0, hz1, hz2, hz3⟩ := hblk10.c4)
        refine hK.out _ _ (by assumption) (fun hH => ?_)
        clear hK K
        try simp only [Act.put, List.setIfInBounds_toArray, List.set_cons_zero, List.set_cons_succ]
        refine wpK.late (i := 13) (by kernel_rfl) (by simp only [List.getElem?_toArray, List.getElem?_cons_succ, List.getElem?_cons_zero]; rfl) (by kernel_rfl) (fun K hK => ?_)
        go_simp
        refine hK.out _ _ ?_
        clear hK K
        try simp only [Act.put, List.setIfInBounds_toArray, List.set_cons_zero, List.set_cons_succ]
        refine wpK.done (by kernel_rfl) ?_ _
        obtain ⟨wz, hwz, hblkZ, huZ⟩ := set4_of hblk10 (.int .i64 o) (.slice a1 lc.length c1) (.slice none 0 0) (.slice none 0 0)
        rw [← hwz]
        have hne : ∀ k, (Value.slice a1 lc.length c1).ownBlock = some k → ¬ k = g10 := fun k hk q => by have := hlt1 k hk; have := HG10.out; have := HS12.out; have := HS4.out; omega
        have hge2 : ∀ k, (Value.slice a1 lc.length c1).ownBlock = some k → wq.heap.size ≤ k := fun k hk => by have := hlt1 k hk; have : wq.drew.heap.size = wq.heap.size := rfl; first | omega | (have := hk12.size; omega)
        have HGE2 := hid hge2
        clear hge2
        have hge : wq.heap.size ≤ g10 := by have := HG10.out; have := HS4.out; first | omega | (have := hk4.size; omega)
        have hBZ : Below wq.heap.size wq wz := Below.trans hH (huZ.below hH.size (fun k _ q => q ▸ hge))
        have hownZ := huZ.owns hown1 (fun k hk q => hne k hk q)
        have HBLKZ := hid hblkZ
        have HBZ := hid hBZ
        have HOWNZ := hid (SlI.of_own hownZ)
        have HNE := hid hne
        have HLT := hid hlt1
        have HGE := hid hge
        clear hwz hblkZ huZ hne hge hBZ hownZ hown1 hblk10 hb4 hb12 hk4 hk12 hH hk0 hlt1 hy0 hy1 hy2 hy3 hz0 hz1 hz2 hz3 hq1 hq2 hq3
        go_wp2_with fail
        refine (acc_list3 g10 _).mono ?_
        rintro e w6 ⟨rfl, hb6⟩
        have HK6 := hid (Below.trans HBZ.out (hb6.mono HBZ.out.size))
        have hq0' := hq0 w6 HK6.out
        have hblk6 := HBLKZ.out.below hb6
        have HOWN6 := hid (HOWNZ.out.below hb6)
        obtain ⟨hy0, hy1, hy2, hy3, hz0, hz1, hz2, hz3⟩ := hblk6.c4
        have HBLK6 := hid hblk6
        clear hb6 hblk6 hq0
        go_wp2_with fail
        refine (sl_Search0 _ p _ (SlI.nil _)).mono ?_
        rintro e w' ⟨rfl, rfl⟩
        go_wp2_with fail
        refine (sl_InsertEnd [] p (.slice none 0 0) w6.heap.size w6.heap.size _ (World.ownsRow_nil _ _ _ _) (by simp) (by simp) ((Blk.new w6 _ _).cell 0)).mono ?_
        rintro e w8 ⟨v8, rfl, hown8, hg8⟩
        have hk8 : Below w6.heap.size w6 w8 := Below.trans (Below.new w6 _) ((Upd.of_grown hg8).below (by simp) (fun _ _ q => by cases q))
        obtain ⟨b8, c8, rfl⟩ := Joins.ownsRow_form hown8 (by omega)
        have hblk8 := HBLK6.out.below hk8
        have HK8 := hid (Below.trans HK6.out (hk8.mono HK6.out.size))
        have HOWN8 := hid hown8
        have HV6 := hid (HOWN6.out.below hk8)
        have HBLK8 := hid hblk8
        have hres8 := HRES.out.below HK8.out
        have HRES8 := hid hres8
        clear hy0 hy1 hy2 hy3 hz0 hz1 hz2 hz3 hg8 hown8 hk8 hq0'
        obtain ⟨hy0, hy1, hy2, hy3, hz0, hz1, hz2, hz3⟩ := hblk8.c4
        obtain ⟨hr0, hr1, hr2, hr3, hs0, hs1, hs2, hs3⟩ := hres8.c4
        have hn1 : ¬ g10 = w.heap.size + 1 := by have := HGE.out; have := HSQ.out; omega
        have hn2 : ¬ w.heap.size + 1 = g10 := fun q => hn1 q.symm
        clear hblk8 hres8
        go_wp2_with fail
        obtain ⟨wf, hwf, hblkF, huF⟩ := set4_of (x := w8.setCell ⟨g10, 3, none⟩ (.slice (some ⟨b8, 0, none⟩) 1 c8)) (HRES8.out.upd (Upd.setCell w8 g10 3 _) hn2) (.int .i64 o) (.slice a1 lc.length c1) (.slice none 0 0) (.slice (some ⟨b8, 0, none⟩) 1 c8)
        rw [← hwf]
        have hUF : Upd (fun k => k = g10 ∨ k = w.heap.size + 1) w8 wf := ((Upd.setCell w8 g10 3 _).mono (fun k _ q => Or.inl q)).trans (huF.mono (fun k _ q => Or.inr q)) (fun _ _ q => q)
        have hVC : SlI wf (.slice a1 lc.length c1) lc := HV6.out.upd hUF (fun k hk q => by rcases q with q | q; exact HNE.out k hk q; have := HGE2.out k hk; have := HSQ.out; omega)
        have hVB : SlI wf (.slice (some ⟨b8, 0, none⟩) 1 c8) [p] := (SlI.of_own (l := [p]) HOWN8.out).upd hUF (fun k hk q => by have h8 := (HOWN8.out.lt k hk).1; have := HBLK6.out.lt; have := HK6.out.size; have := HSQ.out; rcases q with q | q <;> omega)
        have hW8 : Below w.heap.size w w8 := Below.trans HBQ.out (HK8.out.mono HBQ.out.size)
        have hBF : Below w.heap.size w wf := Below.trans hW8 (hUF.below hW8.size (fun k _ q => by have := HGE.out; have := HSQ.out; rcases q with q | q <;> omega))
        obtain ⟨hF0, hF1, hF2, hF3, -⟩ := hblkF.c4
        have HPOST := hid (And.intro hVC (And.intro hVB hBF))
        clear hVC hVB hBF hW8 hUF huF hwf hblkF
        (try simp only [Exit.inBlock, Exit.then])
        refine bodyPost_ret (results_cell_tmp rfl _ _ _ rfl (by go_simp; rfl)) rfl ?_
        exact ⟨_, _, rfl, HPOST.out.1, HPOST.out.2.1, HPOST.out.2.2⟩
      · go_simp
        (first | refine K_alloc (K := K) ?_ | refine K_allocD (K := K) ?_); intro g10 wn hg10 hs12 hb12 hblk10; rw [← hg10]; (have hk12 : Below wq.heap.size wq wn := Below.next (by first | exact hH | exact Below.refl _ _) hb12); (have HG10 := hid hg10); (have HS12 := hid hs12); clear hg10 hs12; (try (have hown1 := owns_below hown1 hb12)); (obtain ⟨hy0, hy1, hy2, hy3, hz0, hz1, hz2, hz3⟩ := hblk10.c4)
        refine hK.out _ _ (by assumption) (fun hH => ?_)
        clear hK K
        try simp only [Act.put, List.setIfInBounds_toArray, List.set_cons_zero, List.set_cons_succ]
        refine wpK.step (i := 10) (by kernel_rfl) (by simp only [List.getElem?_toArray, List.getElem?_cons_succ, List.getElem?_cons_zero]; rfl) (fun K hK => ?_)
        go_simp
        (refine (sl_CloneN _).mono ?_); rintro e w' ⟨rfl, rfl⟩; go_simp
        refine hK.out _ _ (by assumption) (fun hH => ?_)
        clear hK K
        try simp only [Act.put, List.setIfInBounds_toArray, List.set_cons_zero, List.set_cons_succ]
        refine wpK.take (i := 11) (v := _) (by simp only [List.getElem?_toArray, List.getElem?_cons_succ, List.getElem?_cons_zero]; rfl) (by kernel_rfl) (by kernel_rfl) (by kernel_rfl) (by kernel_rfl) (by kernel_rfl) (by exact fun _ _ _ h => h) (by first | exact Or.inl ⟨by rfl, by intro w hSw; go_simp; try with_reducible rfl⟩ | exact Or.inr ⟨by rfl, rfl⟩) hH ?_
        try simp only [Act.put, List.setIfInBounds_toArray, List.set_cons_zero, List.set_cons_succ]
        refine wpK.late (i := 13) (by kernel_rfl) (by simp only [List.getElem?_toArray, List.getElem?_cons_succ, List.getElem?_cons_zero]; rfl) (by kernel_rfl) (fun K hK => ?_)
        go_simp
        refine hK.out _ _ ?_
        clear hK K
        try simp only [Act.put, List.setIfInBounds_toArray, List.set_cons_zero, List.set_cons_succ]
        refine wpK.done (by kernel_rfl) ?_ _
        obtain ⟨wz, hwz, hblkZ, huZ⟩ := set4_of hblk10 (.int .i64 o) (.slice a1 lc.length c1) (.slice none 0 0) (.slice none 0 0)
        rw [← hwz]
        have hne : ∀ k, (Value.slice a1 lc.length c1).ownBlock = some k → ¬ k = g10 := fun k hk q => by have := hlt1 k hk; have := HG10.out; have := HS12.out; have := HS4.out; omega
        have hge2 : ∀ k, (Value.slice a1 lc.length c1).ownBlock = some k → wq.heap.size ≤ k := fun k hk => by have := hlt1 k hk; have : wq.drew.heap.size = wq.heap.size := rfl; first | omega | (have := hk12.size; omega)
        have HGE2 := hid hge2
        clear hge2
        have hge : wq.heap.size ≤ g10 := by have := HG10.out; have := HS4.out; first | omega | (have := hk4.size; omega)
        have hBZ : Below wq.heap.size wq wz := Below.trans hH (huZ.below hH.size (fun k _ q => q ▸ hge))
        have hownZ := huZ.owns hown1 (fun k hk q => hne k hk q)
        have HBLKZ := hid hblkZ
        have HBZ := hid hBZ
        have HOWNZ := hid (SlI.of_own hownZ)
        have HNE := hid hne
        have HLT := hid hlt1
        have HGE := hid hge
        clear hwz hblkZ huZ hne hge hBZ hownZ hown1 hblk10 hb4 hb12 hk4 hk12 hH hk0 hlt1 hy0 hy1 hy2 hy3 hz0 hz1 hz2 hz3 hq1 hq2 hq3
        go_wp2_with fail
        refine (acc_list3 g10 _).mono ?_
        rintro e w6 ⟨rfl, hb6⟩
        have HK6 := hid (Below.trans HBZ.out (hb6.mono HBZ.out.size))
        have hq0' := hq0 w6 HK6.out
        have hblk6 := HBLKZ.out.below hb6
        have HOWN6 := hid (HOWNZ.out.below hb6)
        obtain ⟨hy0, hy1, hy2, hy3, hz0, hz1, hz2, hz3⟩ := hblk6.c4
        have HBLK6 := hid hblk6
        clear hb6 hblk6 hq0
        go_wp2_with fail
        refine (sl_Search0 _ p _ (SlI.nil _)).mono ?_
        rintro e w' ⟨rfl, rfl⟩
        go_wp2_with fail
        refine (sl_InsertEnd [] p (.slice none 0 0) w6.heap.size w6.heap.size _ (World.ownsRow_nil _ _ _ _) (by simp) (by simp) ((Blk.new w6 _ _).cell 0)).mono ?_
        rintro e w8 ⟨v8, rfl, hown8, hg8⟩
        have hk8 : Below w6.heap.size w6 w8 := Below.trans (Below.new w6 _) ((Upd.of_grown hg8).below (by simp) (fun _ _ q => by cases q))
        obtain ⟨b8, c8, rfl⟩ := Joins.ownsRow_form hown8 (by omega)
        have hblk8 := HBLK6.out.below hk8
        have HK8 := hid (Below.trans HK6.out (hk8.mono HK6.out.size))
        have HOWN8 := hid hown8
        have HV6 := hid (HOWN6.out.below hk8)
        have HBLK8 := hid hblk8
        have hres8 := HRES.out.below HK8.out
        have HRES8 := hid hres8
        clear hy0 hy1 hy2 hy3 hz0 hz1 hz2 hz3 hg8 hown8 hk8 hq0'
        obtain ⟨hy0, hy1, hy2, hy3, hz0, hz1, hz2, hz3⟩ := hblk8.c4
        obtain ⟨hr0, hr1, hr2, hr3, hs0, hs1, hs2, hs3⟩ := hres8.c4
        have hn1 : ¬ g10 = w.heap.size + 1 := by have := HGE.out; have := HSQ.out; omega
        have hn2 : ¬ w.heap.size + 1 = g10 := fun q => hn1 q.symm
        clear hblk8 hres8
        go_wp2_with fail
        obtain ⟨wf, hwf, hblkF, huF⟩ := set4_of (x := w8.setCell ⟨g10, 3, none⟩ (.slice (some ⟨b8, 0, none⟩) 1 c8)) (HRES8.out.upd (Upd.setCell w8 g10 3 _) hn2) (.int .i64 o) (.slice a1 lc.length c1) (.slice none 0 0) (.slice (some ⟨b8, 0, none⟩) 1 c8)
        rw [← hwf]
        have hUF : Upd (fun k => k = g10 ∨ k = w.heap.size + 1) w8 wf := ((Upd.setCell w8 g10 3 _).mono (fun k _ q => Or.inl q)).trans (huF.mono (fun k _ q => Or.inr q)) (fun _ _ q => q)
        have hVC : SlI wf (.slice a1 lc.length c1) lc := HV6.out.upd hUF (fun k hk q => by rcases q with q | q; exact HNE.out k hk q; have := HGE2.out k hk; have := HSQ.out; omega)
        have hVB : SlI wf (.slice (some ⟨b8, 0, none⟩) 1 c8) [p] := (SlI.of_own (l := [p]) HOWN8.out).upd hUF (fun k hk q => by have h8 := (HOWN8.out.lt k hk).1; have := HBLK6.out.lt; have := HK6.out.size; have := HSQ.out; rcases q with q | q <;> omega)
        have hW8 : Below w.heap.size w w8 := Below.trans HBQ.out (HK8.out.mono HBQ.out.size)
        have hBF : Below w.heap.size w wf := Below.trans hW8 (hUF.below hW8.size (fun k _ q => by have := HGE.out; have := HSQ.out; rcases q with q | q <;> omega))
        obtain ⟨hF0, hF1, hF2, hF3, -⟩ := hblkF.c4
        have HPOST := hid (And.intro hVC (And.intro hVB hBF))
        clear hVC hVB hBF hW8 hUF huF hwf hblkF
        (try simp only [Exit.inBlock, Exit.then])
        refine bodyPost_ret (results_cell_tmp rfl _ _ _ rfl (by go_simp; rfl)) rfl ?_
        exact ⟨_, _, rfl, HPOST.out.1, HPOST.out.2.1, HPOST.out.2.2⟩
    · go_simp
      (first | refine K_alloc (K := K) ?_ | refine K_allocD (K := K) ?_); intro g10 wn hg10 hs12 hb12 hblk10; rw [← hg10]; (have hk12 : Below wq.heap.size wq wn := Below.next (by first | exact hH | exact Below.refl _ _) hb12); (have HG10 := hid hg10); (have HS12 := hid hs12); clear hg10 hs12; (try (have hown1 := owns_below hown1 hb12)); (obtain ⟨hy0, hy1, hy2, hy3, hz0, hz1, hz2, hz3⟩ := hblk10.c4)
      refine hK.out _ _ (by assumption) (fun hH => ?_)
      clear hK K
      try simp only [Act.put, List.setIfInBounds_toArray, List.set_cons_zero, List.set_cons_succ]
      refine wpK.step (i := 7) (by kernel_rfl) (by simp only [List.getElem?_toArray, List.getElem?_cons_succ, List.getElem?_cons_zero]; rfl) (fun K hK => ?_)
      go_simp
      (refine (sl_CloneN _).mono ?_); rintro e w' ⟨rfl, rfl⟩; go_simp
      refine hK.out _ _ (by assumption) (fun hH => ?_)
      clear hK K
      try simp only [Act.put, List.setIfInBounds_toArray, List.set_cons_zero, List.set_cons_succ]
      refine wpK.step (i := 10) (by kernel_rfl) (by simp only [List.getElem?_toArray, List.getElem?_cons_succ, List.getElem?_cons_zero]; rfl) (fun K hK => ?_)
      go_simp
      (refine (sl_CloneN _).mono ?_); rintro e w' ⟨rfl, rfl⟩; go_simp
      refine hK.out _ _ (by assumption) (fun hH => ?_)
      clear hK K
      try simp only [Act.put, List.setIfInBounds_toArray, List.set_cons_zero, List.set_cons_succ]
      refine wpK.take (i := 11) (v := _) (by simp only [List.getElem?_toArray, List.getElem?_cons_succ, List.getElem?_cons_zero]; rfl) (by kernel_rfl) (by kernel_rfl) (by kernel_rfl) (by kernel_rfl) (by kernel_rfl) (by exact fun _ _ _ h => h) (by first | exact Or.inl ⟨by rfl, by intro w hSw; go_simp; try with_reducible rfl⟩ | exact Or.inr ⟨by rfl, rfl⟩) hH ?_
      try simp only [Act.put, List.setIfInBounds_toArray, List.set_cons_zero, List.set_cons_succ]
      refine wpK.late (i := 13) (by kernel_rfl) (by simp only [List.getElem?_toArray, List.getElem?_cons_succ, List.getElem?_cons_zero]; rfl) (by kernel_rfl) (fun K hK => ?_)
      go_simp
      refine hK.out _ _ ?_
      clear hK K
      try simp only [Act.put, List.setIfInBounds_toArray, List.set_cons_zero, List.set_cons_succ]
      refine wpK.done (by kernel_rfl) ?_ _
      obtain ⟨wz, hwz, hblkZ, huZ⟩ := set4_of hblk10 (.int .i64 o) (.slice a1 lc.length c1) (.slice none 0 0) (.slice none 0 0)
      rw [← hwz]
      have hne : ∀ k, (Value.slice a1 lc.length c1).ownBlock = some k → ¬ k = g10 := fun k hk q => by have := hlt1 k hk; have := HG10.out; have := HS12.out; have := HS4.out; omega
      have hge2 : ∀ k, (Value.slice a1 lc.length c1).ownBlock = some k → wq.heap.size ≤ k := fun k hk => by have := hlt1 k hk; have : wq.drew.heap.size = wq.heap.size := rfl; first | omega | (have := hk12.size; omega)
      have HGE2 := hid hge2
      clear hge2
      have hge : wq.heap.size ≤ g10 := by have := HG10.out; have := HS4.out; first | omega | (have := hk4.size; omega)
      have hBZ : Below wq.heap.size wq wz := Below.trans hH (huZ.below hH.size (fun k _ q => q ▸ hge))
      have hownZ := huZ.owns hown1 (fun k hk q => hne k hk q)
      have HBLKZ := hid hblkZ
      have HBZ := hid hBZ
      have HOWNZ := hid (SlI.of_own hownZ)
      have HNE := hid hne
      have HLT := hid hlt1
      have HGE := hid hge
      clear hwz hblkZ huZ hne hge hBZ hownZ hown1 hblk10 hb4 hb12 hk4 hk12 hH hk0 hlt1 hy0 hy1 hy2 hy3 hz0 hz1 hz2 hz3 hq1 hq2 hq3
      go_wp2_with fail
      refine (acc_list3 g10 _).mono ?_
      rintro e w6 ⟨rfl, hb6⟩
      have HK6 := hid (Below.trans HBZ.out (hb6.mono HBZ.out.size))
      have hq0' := hq0 w6 HK6.out
      have hblk6 := HBLKZ.out.below hb6
      have HOWN6 := hid (HOWNZ.out.below hb6)
      obtain ⟨hy0, hy1, hy2, hy3, hz0, hz1, hz2, hz3⟩ := hblk6.c4
      have HBLK6 := hid hblk6
      clear hb6 hblk6 hq0
      go_wp2_with fail
      refine (sl_Search0 _ p _ (SlI.nil _)).mono ?_
      rintro e w' ⟨rfl, rfl⟩
      go_wp2_with fail
      refine (sl_InsertEnd [] p (.slice none 0 0) w6.heap.size w6.heap.size _ (World.ownsRow_nil _ _ _ _) (by simp) (by simp) ((Blk.new w6 _ _).cell 0)).mono ?_
      rintro e w8 ⟨v8, rfl, hown8, hg8⟩
      have hk8 : Below w6.heap.size w6 w8 := Below.trans (Below.new w6 _) ((Upd.of_grown hg8).below (by simp) (fun _ _ q => by cases q))
      obtain ⟨b8, c8, rfl⟩ := Joins.ownsRow_form hown8 (by omega)
      have hblk8 := HBLK6.out.below hk8
      have HK8 := hid (Below.trans HK6.out (hk8.mono HK6.out.size))
      have HOWN8 := hid hown8
      have HV6 := hid (HOWN6.out.below hk8)
      have HBLK8 := hid hblk8
      have hres8 := HRES.out.below HK8.out
      have HRES8 := hid hres8
      clear hy0 hy1 hy2 hy3 hz0 hz1 hz2 hz3 hg8 hown8 hk8 hq0'
      obtain ⟨hy0, hy1, hy2, hy3, hz0, hz1, hz2, hz3⟩ := hblk8.c4
      obtain ⟨hr0, hr1, hr2, hr3, hs0, hs1, hs2, hs3⟩ := hres8.c4
      have hn1 : ¬ g10 = w.heap.size + 1 := by have := HGE.out; have := HSQ.out; omega
      have hn2 : ¬ w.heap.size + 1 = g10 := fun q => hn1 q.symm
      clear hblk8 hres8
      go_wp2_with fail
      obtain ⟨wf, hwf, hblkF, huF⟩ := set4_of (x := w8.setCell ⟨g10, 3, none⟩ (.slice (some ⟨b8, 0, none⟩) 1 c8)) (HRES8.out.upd (Upd.setCell w8 g10 3 _) hn2) (.int .i64 o) (.slice a1 lc.length c1) (.slice none 0 0) (.slice (some ⟨b8, 0, none⟩) 1 c8)
      rw [← hwf]
      have hUF : Upd (fun k => k = g10 ∨ k = w.heap.size + 1) w8 wf := ((Upd.setCell w8 g10 3 _).mono (fun k _ q => Or.inl q)).trans (huF.mono (fun k _ q => Or.inr q)) (fun _ _ q => q)
      have hVC : SlI wf (.slice a1 lc.length c1) lc := HV6.out.upd hUF (fun k hk q => by rcases q with q | q; exact HNE.out k hk q; have := HGE2.out k hk; have := HSQ.out; omega)
      have hVB : SlI wf (.slice (some ⟨b8, 0, none⟩) 1 c8) [p] := (SlI.of_own (l := [p]) HOWN8.out).upd hUF (fun k hk q => by have h8 := (HOWN8.out.lt k hk).1; have := HBLK6.out.lt; have := HK6.out.size; have := HSQ.out; rcases q with q | q <;> omega)
      have hW8 : Below w.heap.size w w8 := Below.trans HBQ.out (HK8.out.mono HBQ.out.size)
      have hBF : Below w.heap.size w wf := Below.trans hW8 (hUF.below hW8.size (fun k _ q => by have := HGE.out; have := HSQ.out; rcases q with q | q <;> omega))
      obtain ⟨hF0, hF1, hF2, hF3, -⟩ := hblkF.c4
      have HPOST := hid (And.intro hVC (And.intro hVB hBF))
      clear hVC hVB hBF hW8 hUF huF hwf hblkF
      (try simp only [Exit.inBlock, Exit.then])
      refine bodyPost_ret (results_cell_tmp rfl _ _ _ rfl (by go_simp; rfl)) rfl ?_
      exact ⟨_, _, rfl, HPOST.out.1, HPOST.out.2.1, HPOST.out.2.2⟩
  · go_simp
    (first | refine K_alloc (K := K) ?_ | refine K_allocD (K := K) ?_); intro g10 wn hg10 hs12 hb12 hblk10; rw [← hg10]; (have hk12 : Below wq.heap.size wq wn := Below.next (by first | exact hH | exact Below.refl _ _) hb12); (have HG10 := hid hg10); (have HS12 := hid hs12); clear hg10 hs12; (try (have hown1 := owns_below hown1 hb12)); (obtain ⟨hy0, hy1, hy2, hy3, hz0, hz1, hz2, hz3⟩ := hblk10.c4)
    refine hK.out _ _ (by assumption) (fun hH => ?_)
    clear hK K
    try simp only [Act.put, List.setIfInBounds_toArray, List.set_cons_zero, List.set_cons_succ]
    refine wpK.step (i := 4) (by kernel_rfl) (by simp only [List.getElem?_toArray, List.getElem?_cons_succ, List.getElem?_cons_zero]; rfl) (fun K hK => ?_)
    go_simp
    (refine (sl_CloneI lc _ _ (HC.out.below hH) (by omega)).mono ?_); rintro e w4 ⟨u1, rfl, hown1, hb4⟩; (obtain ⟨a1, c1, rfl, -, -, -, -⟩ := ownsRow.rd hown1); (have hlt1 := fun k hk => hown1.lt k hk); (have HS4 := hid hb4.size); (have hk4 := Below.next hH hb4); (try (have hblk10 := hblk10.below hb4)); (try (obtain ⟨hy0, hy1, hy2, hy3, hz0, hz1, hz2, hz3⟩ := hblk10.c4)); go_simp
    refine hK.out _ _ (by assumption) (fun hH => ?_)
    clear hK K
    try simp only [Act.put, List.setIfInBounds_toArray, List.set_cons_zero, List.set_cons_succ]
    refine wpK.step (i := 7) (by kernel_rfl) (by simp only [List.getElem?_toArray, List.getElem?_cons_succ, List.getElem?_cons_zero]; rfl) (fun K hK => ?_)
    go_simp
    (refine (sl_CloneN _).mono ?_); rintro e w' ⟨rfl, rfl⟩; go_simp
    refine hK.out _ _ (by assumption) (fun hH => ?_)
    clear hK K
    try simp only [Act.put, List.setIfInBounds_toArray, List.set_cons_zero, List.set_cons_succ]
    refine wpK.step (i := 10) (by kernel_rfl) (by simp only [List.getElem?_toArray, List.getElem?_cons_succ, List.getElem?_cons_zero]; rfl) (fun K hK => ?_)
    go_simp
    (refine (sl_CloneN _).mono ?_); rintro e w' ⟨rfl, rfl⟩; go_simp
    refine hK.out _ _ (by assumption) (fun hH => ?_)
    clear hK K
    try simp only [Act.put, List.setIfInBounds_toArray, List.set_cons_zero, List.set_cons_succ]
    refine wpK.take (i := 11) (v := _) (by simp only [List.getElem?_toArray, List.getElem?_cons_succ, List.getElem?_cons_zero]; rfl) (by kernel_rfl) (by kernel_rfl) (by kernel_rfl) (by kernel_rfl) (by kernel_rfl) (by exact fun _ _ _ h => h) (by first | exact Or.inl ⟨by rfl, by intro w hSw; go_simp; try with_reducible rfl⟩ | exact Or.inr ⟨by rfl, rfl⟩) hH ?_
    try simp only [Act.put, List.setIfInBounds_toArray, List.set_cons_zero, List.set_cons_succ]
    refine wpK.late (i := 13) (by kernel_rfl) (by simp only [List.getElem?_toArray, List.getElem?_cons_succ, List.getElem?_cons_zero]; rfl) (by kernel_rfl) (fun K hK => ?_)
    go_simp
    refine hK.out _ _ ?_
    clear hK K
    try simp only [Act.put, List.setIfInBounds_toArray, List.set_cons_zero, List.set_cons_succ]
    refine wpK.done (by kernel_rfl) ?_ _
    obtain ⟨wz, hwz, hblkZ, huZ⟩ := set4_of hblk10 (.int .i64 o) (.slice a1 lc.length c1) (.slice none 0 0) (.slice none 0 0)
    rw [← hwz]
    have hne : ∀ k, (Value.slice a1 lc.length c1).ownBlock = some k → ¬ k = g10 := fun k hk q => by have := hlt1 k hk; have := HG10.out; have := HS12.out; have := HS4.out; omega
    have hge2 : ∀ k, (Value.slice a1 lc.length c1).ownBlock = some k → wq.heap.size ≤ k := fun k hk => by have := hlt1 k hk; have : wq.drew.heap.size = wq.heap.size := rfl; first | omega | (have := hk12.size; omega)
    have HGE2 := hid hge2
    clear hge2
    have hge : wq.heap.size ≤ g10 := by have := HG10.out; have := HS4.out; first | omega | (have := hk4.size; omega)
    have hBZ : Below wq.heap.size wq wz := Below.trans hH (huZ.below hH.size (fun k _ q => q ▸ hge))
    have hownZ := huZ.owns hown1 (fun k hk q => hne k hk q)
    have HBLKZ := hid hblkZ
    have HBZ := hid hBZ
    have HOWNZ := hid (SlI.of_own hownZ)
    have HNE := hid hne
    have HLT := hid hlt1
    have HGE := hid hge
    clear hwz hblkZ huZ hne hge hBZ hownZ hown1 hblk10 hb4 hb12 hk4 hk12 hH hk0 hlt1 hy0 hy1 hy2 hy3 hz0 hz1 hz2 hz3 hq1 hq2 hq3
    go_wp2_with fail
    refine (acc_list3 g10 _).mono ?_
    rintro e w6 ⟨rfl, hb6⟩
    have HK6 := hid (Below.trans HBZ.out (hb6.mono HBZ.out.size))
    have hq0' := hq0 w6 HK6.out
    have hblk6 := HBLKZ.out.below hb6
    have HOWN6 := hid (HOWNZ.out.below hb6)
    obtain ⟨hy0, hy1, hy2, hy3, hz0, hz1, hz2, hz3⟩ := hblk6.c4
    have HBLK6 := hid hblk6
    clear hb6 hblk6 hq0
    go_wp2_with fail
    refine (sl_Search0 _ p _ (SlI.nil _)).mono ?_
    rintro e w' ⟨rfl, rfl⟩
    go_wp2_with fail
    refine (sl_InsertEnd [] p (.slice none 0 0) w6.heap.size w6.heap.size _ (World.ownsRow_nil _ _ _ _) (by simp) (by simp) ((Blk.new w6 _ _).cell 0)).mono ?_
    rintro e w8 ⟨v8, rfl, hown8, hg8⟩
    have hk8 : Below w6.heap.size w6 w8 := Below.trans (Below.new w6 _) ((Upd.of_grown hg8).below (by simp) (fun _ _ q => by cases q))
    obtain ⟨b8, c8, rfl⟩ := Joins.ownsRow_form hown8 (by omega)
    have hblk8 := HBLK6.out.below hk8
    have HK8 := hid (Below.trans HK6.out (hk8.mono HK6.out.size))
    have HOWN8 := hid hown8
    have HV6 := hid (HOWN6.out.below hk8)
    have HBLK8 := hid hblk8
    have hres8 := HRES.out.below HK8.out
    have HRES8 := hid hres8
    clear hy0 hy1 hy2 hy3 hz0 hz1 hz2 hz3 hg8 hown8 hk8 hq0'
    obtain ⟨hy0, hy1, hy2, hy3, hz0, hz1, hz2, hz3⟩ := hblk8.c4
    obtain ⟨hr0, hr1, hr2, hr3, hs0, hs1, hs2, hs3⟩ := hres8.c4
    have hn1 : ¬ g10 = w.heap.size + 1 := by have := HGE.out; have := HSQ.out; omega
    have hn2 : ¬ w.heap.size + 1 = g10 := fun q => hn1 q.symm
    clear hblk8 hres8
    go_wp2_with fail
    obtain ⟨wf, hwf, hblkF, huF⟩ := set4_of (x := w8.setCell ⟨g10, 3, none⟩ (.slice (some ⟨b8, 0, none⟩) 1 c8)) (HRES8.out.upd (Upd.setCell w8 g10 3 _) hn2) (.int .i64 o) (.slice a1 lc.length c1) (.slice none 0 0) (.slice (some ⟨b8, 0, none⟩) 1 c8)
    rw [← hwf]
    have hUF : Upd (fun k => k = g10 ∨ k = w.heap.size + 1) w8 wf := ((Upd.setCell w8 g10 3 _).mono (fun k _ q => Or.inl q)).trans (huF.mono (fun k _ q => Or.inr q)) (fun _ _ q => q)
    have hVC : SlI wf (.slice a1 lc.length c1) lc := HV6.out.upd hUF (fun k hk q => by rcases q with q | q; exact HNE.out k hk q; have := HGE2.out k hk; have := HSQ.out; omega)
    have hVB : SlI wf (.slice (some ⟨b8, 0, none⟩) 1 c8) [p] := (SlI.of_own (l := [p]) HOWN8.out).upd hUF (fun k hk q => by have h8 := (HOWN8.out.lt k hk).1; have := HBLK6.out.lt; have := HK6.out.size; have := HSQ.out; rcases q with q | q <;> omega)
    have hW8 : Below w.heap.size w w8 := Below.trans HBQ.out (HK8.out.mono HBQ.out.size)
    have hBF : Below w.heap.size w wf := Below.trans hW8 (hUF.below hW8.size (fun k _ q => by have := HGE.out; have := HSQ.out; rcases q with q | q <;> omega))
    obtain ⟨hF0, hF1, hF2, hF3, -⟩ := hblkF.c4
    have HPOST := hid (And.intro hVC (And.intro hVB hBF))
    clear hVC hVB hBF hW8 hUF huF hwf hblkF
    (try simp only [Exit.inBlock, Exit.then])
    refine bodyPost_ret (results_cell_tmp rfl _ _ _ rfl (by go_simp; rfl)) rfl ?_
    exact ⟨_, _, rfl, HPOST.out.1, HPOST.out.2.1, HPOST.out.2.2⟩
end Go.Proofs.Ytdchopckbklncaa
