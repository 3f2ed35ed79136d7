/- Joined texts, in this order: Ends. Each one's first remark says what it proves; no condition beyond those that its theorems name. -/
import Derived.Test.YtajfjgekcjkedaaJLawStallPlays05
section
/- The ends of functions whose result is a struct in memory. No program in sight. -/
namespace Go.Proofs.Ytajfjgekcjkedaa
open Go.RowKit
open Go.Lib (hid)
set_option linter.unusedVariables false

theorem results_cell1 {fn : Func} {a : Tmp} {t : TypeId} (h : fn.results = #[.cell a t]) (tmps : Array Value) (P : Program) (w : World) {x : Addr} {v : Value} (ha : tmps.getD a undef = .pointer (some x)) (hl : (loadVar t x).run P w = .ok v w) : (results fn tmps).run P w = .ok v w := by
  have ha' : tmps[a]?.getD undef = .pointer (some x) := by rw [← ha]; simp
  simp [results, h, ha', asAddr, hl, Result.andThen]
theorem results_cell_tmp {fn : Func} {a u : Tmp} {t : TypeId} (h : fn.results = #[.cell a t, .tmp u]) (tmps : Array Value) (P : Program) (w : World) {x : Addr} {v : Value} (ha : tmps.getD a undef = .pointer (some x)) (hl : (loadVar t x).run P w = .ok v w) : (results fn tmps).run P w = .ok (.tuple #[v, tmps.getD u undef]) w := by
  have ha' : tmps[a]?.getD undef = .pointer (some x) := by rw [← ha]; simp
  simp [results, h, ha', asAddr, hl, Result.andThen]
theorem K_alloc {K : Act → World → Prop} {a : Act} {x : World} {cs : Array Value} {e : TypeId} (h : ∀ (g : Nat) (wn : World), g = x.heap.size → wn.heap.size = g + 1 → Below x.heap.size x wn → Blk wn g cs → K a wn) : K a (x.alloc (.cells cs e)) :=
  h x.heap.size _ rfl (by simp) (Below.new _ _) (Blk.new _ _ _)
theorem K_allocD {K : Act → World → Prop} {a : Act} {x : World} {cs : Array Value} {e : TypeId} (h : ∀ (g : Nat) (wn : World), g = x.heap.size → wn.heap.size = g + 1 → Below x.heap.size x wn → Blk wn g cs → K a wn) : K a (x.alloc (.cells cs e)).drew :=
  h x.heap.size _ rfl (by simp) (Below.new _ _).drew (Blk.new _ _ _)
theorem Blk.c2 {w : World} {g : Nat} {a b : Value} (h : Blk w g #[a, b]) : w.cell? ⟨g, 0, none⟩ = some a ∧ w.cell? ⟨g, 1, none⟩ = some b ∧ w.frozen? ⟨g, 0, none⟩ = false ∧ w.frozen? ⟨g, 1, none⟩ = false :=
  ⟨by rw [h.cell]; rfl, by rw [h.cell]; rfl, h.unfrozen _, h.unfrozen _⟩
theorem set2_of {x : World} {g : Nat} {c0 c1 : Value} (h : Blk x g #[c0, c1]) (u0 u1 : Value) : ∃ wz, wz = (x.setCell ⟨g, 0, none⟩ u0).setCell ⟨g, 1, none⟩ u1 ∧ Blk wz g #[u0, u1] ∧ Upd (fun k => k = g) x wz :=
  ⟨_, rfl, by simpa using (h.set 0 u0).set 1 u1, (Upd.setCell x g 0 u0).trans (Upd.setCell _ g 1 u1) (fun _ _ q => q)⟩
end Go.Proofs.Ytajfjgekcjkedaa
end
