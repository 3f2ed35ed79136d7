/- Joined texts, in this order: ChestLaw, Ends. Each one's first remark says what it proves; no condition beyond those that its theorems name. -/
import Derived.Test.YtohknblokejldaaJLawChestCopies12
import Derived.Test.YtohknblokejldaaJLawChestCopies21
import Derived.Test.YtohknblokejldaaJLawChestCopies06
import Derived.Test.YtohknblokejldaaJLawChestCopies18
section
/- The law ChestMay: its step in any case, its fixed answer. -/
namespace Go.Proofs.Ytohknblokejldaa
open Go.RowKit
open Go.Lib (hid)
set_option linter.unusedVariables false

theorem StepPre.below {w w' : World} {g : Nat} {F : Nat → Prop} {m : List (Int × List Int)} {v : Value} {X : List (Int × Int)} (h : StepPre w g F m v X) (hb : Below w.heap.size w w') : StepPre w' g F m v X :=
  ⟨h.ch.below hb, fun j hj => Nat.lt_of_lt_of_le (h.lt j hj) hb.size, h.sl.below hb, fun j hj => ⟨(h.far j hj).1, Nat.lt_of_lt_of_le (h.far j hj).2 hb.size⟩, h.rel, h.len⟩
theorem law_step (k h n d : Int) (g : Nat) (F : Nat → Prop) (m : List (Int × List Int)) (v : Value) (X : List (Int × Int)) (w : World) (P : StepPre w g F m v X) (hn1 : -9223372036854775808 ≤ n) (hn2 : n ≤ 9223372036854775807) (hh : h ≤ 9223372036854775807) :
    Calls Try.prog 28 #[.pointer (some ⟨g, 0, none⟩), v, .agg #[.int .i64 k, .int .i64 h, .int .i64 n, .int .i64 d]] w (StepPost w g F m v X) := by
  by_cases h1 : k = 1
  · subst h1
    by_cases q1 : h < 1
    · exact step_build_no h n d g F m v X w P 10 (hid (by unfold chBuild; rw [if_pos q1])) (.inl ⟨q1, rfl⟩)
    by_cases q2 : 2 ≤ d ∧ d ≤ 4
    case neg => exact step_build_no h n d g F m v X w P 11 (hid (by unfold chBuild; rw [if_neg q1, if_pos q2])) (.inr (.inl ⟨by omega, q2, rfl⟩))
    by_cases q3 : 4 ≤ (liOf X h).length
    · exact step_build_no h n d g F m v X w P 12 (hid (by unfold chBuild; rw [if_neg q1, if_neg (by omega), P.rel h, if_pos q3])) (.inr (.inr ⟨by omega, q2.1, q2.2, q3, rfl⟩))
    · exact step_build_yes h n d g F m v X w P (by omega) hh q2.1 q2.2 (by omega)
  by_cases h2 : k = 2
  · subst h2; exact step_alter h n d g F m v X w P hn1 hn2
  by_cases h3 : k = 3
  · subst h3; exact step_clear h n d g F m v X w P
  exact step_else k h n d g F m v X w P h1 h2 h3

set_option maxRecDepth 100000 in
set_option maxHeartbeats 1000000 in
theorem law22_awake (w : World) : Calls Try.prog 27 #[] w fun e w' => e = .returned (.bool true) ∧ Below w.heap.size w w' := by
  have HB : Hid (chBuild [] 7 3 = (1, 0, [(7, [3])])) := hid (by decide)
  have HM1 : Hid (chMay [(7, [3])] 7 1 2 = 31) := hid (by decide)
  have HM2 : Hid (chMay [(7, [3])] 7 1 3 = 0) := hid (by decide)
  have HM3 : Hid (chMay [(7, [3])] 7 2 4 = 14) := hid (by decide)
  have HL : Hid (chOf [(7, [3])] 7 = [3]) := hid (by decide)
  go_enter Try.func27, Try.ntmps27
  go_wp2_with fail
  refine (chest_New _).mono ?_
  rintro e w1 ⟨g, rfl, hc, hb⟩
  have HC := hid hc
  have HB1 := hid hb
  clear hc hb
  go_wp2_with fail
  refine (chest_Build 7 3 g _ _ _ HC.out _ _ _ HB).mono ?_
  rintro e w2 ⟨rfl, hc, hu⟩
  have HC2 := hid hc
  have HB2 := hid (HB1.out.trans (hu.below (B := w.heap.size) HB1.out.size (fun k _ s => s)))
  clear hc hu
  go_wp2_with (first | (go_at_call 70; (with_reducible refine (chest_May 7 1 2 g _ _ _ HC2.out (by omega) _ HM1).mono ?_); rintro e w' ⟨rfl, rfl⟩) | (go_at_call 70; (with_reducible refine (chest_May 7 1 3 g _ _ _ HC2.out (by omega) _ HM2).mono ?_); rintro e w' ⟨rfl, rfl⟩) | (go_at_call 70; (with_reducible refine (chest_May 7 2 4 g _ _ _ HC2.out (by omega) _ HM3).mono ?_); rintro e w' ⟨rfl, rfl⟩) | (go_at_call 71; (with_reducible refine (chest_Len 7 g _ _ _ HC2.out _ HL).mono ?_); rintro e w' ⟨rfl, rfl⟩) | (go_at_call 72; (with_reducible refine (chest_Room 16 _).mono ?_); rintro e w' ⟨rfl, rfl⟩))
  go_ret
  exact ⟨rfl, HB2.out⟩
end Go.Proofs.Ytohknblokejldaa
end
section
/- The ends of functions whose result is a struct in memory. No program in sight. -/
namespace Go.Proofs.Ytohknblokejldaa
open Go.RowKit
open Go.Lib (hid)
set_option linter.unusedVariables false

theorem results_cell1 {fn : Func} {a : Tmp} {t : TypeId} (h : fn.results = #[.cell a t]) (tmps : Array Value) (P : Program) (w : World) {x : Addr} {v : Value} (ha : tmps.getD a undef = .pointer (some x)) (hl : (loadVar t x).run P w = .ok v w) : (results fn tmps).run P w = .ok v w := by
  have ha' : tmps[a]?.getD undef = .pointer (some x) := by rw [← ha]; simp
  simp [results, h, ha', asAddr, hl, Result.andThen]
theorem results_cell_tmp {fn : Func} {a u : Tmp} {t : TypeId} (h : fn.results = #[.cell a t, .tmp u]) (tmps : Array Value) (P : Program) (w : World) {x : Addr} {v : Value} (ha : tmps.getD a undef = .pointer (some x)) (hl : (loadVar t x).run P w = .ok v w) : (results fn tmps).run P w = .ok (.tuple #[v, tmps.getD u undef]) w := by
  have ha' : tmps[a]?.getD undef = .pointer (some x) := by rw [← ha]; simp
  simp [results, h, ha', asAddr, hl, Result.andThen]
theorem K_alloc {K : Act → World → Prop} {a : Act} {x : World} {cs : Array Value} {e : TypeId} (h : ∀ (g : Nat) (wn : World), g = x.heap.size → wn.heap.size = g + 1 → Below x.heap.size x wn → Blk wn g cs → K a wn) : K a (x.alloc (.cells cs e)) :=
  h x.heap.size _ rfl (by simp) (Below.new _ _) (Blk.new _ _ _)
theorem K_allocD {K : Act → World → Prop} {a : Act} {x : World} {cs : Array Value} {e : TypeId} (h : ∀ (g : Nat) (wn : World), g = x.heap.size → wn.heap.size = g + 1 → Below x.heap.size x wn → Blk wn g cs → K a wn) : K a (x.alloc (.cells cs e)).drew :=
  h x.heap.size _ rfl (by simp) (Below.new _ _).drew (Blk.new _ _ _)
theorem Blk.c2 {w : World} {g : Nat} {a b : Value} (h : Blk w g #[a, b]) : w.cell? ⟨g, 0, none⟩ = some a ∧ w.cell? ⟨g, 1, none⟩ = some b ∧ w.frozen? ⟨g, 0, none⟩ = false ∧ w.frozen? ⟨g, 1, none⟩ = false :=
  ⟨by rw [h.cell]; rfl, by rw [h.cell]; rfl, h.unfrozen _, h.unfrozen _⟩
theorem set2_of {x : World} {g : Nat} {c0 c1 : Value} (h : Blk x g #[c0, c1]) (u0 u1 : Value) : ∃ wz, wz = (x.setCell ⟨g, 0, none⟩ u0).setCell ⟨g, 1, none⟩ u1 ∧ Blk wz g #[u0, u1] ∧ Upd (fun k => k = g) x wz :=
  ⟨_, rfl, by simpa using (h.set 0 u0).set 1 u1, (Upd.setCell x g 0 u0).trans (Upd.setCell _ g 1 u1) (fun _ _ q => q)⟩
end Go.Proofs.Ytohknblokejldaa
end
