/- Joined texts, in this order: ChestStep. Each one's first remark says what it proves; no condition beyond those that its theorems name. -/
import Derived.Test.YtohknblokejldaaJLawChestRestores10
import Derived.Test.YtohknblokejldaaJLawChestRestores04
import Derived.Deep.DeepCutAuto
import Derived.Deep.QuietTactic
import Derived.BigQuiet
section
/- Contracts of the statements' own functions of layer 22: need, step. -/
namespace Go.Proofs.Ytohknblokejldaa
open Go.RowKit
open Go.Lib (hid)
set_option linter.unusedVariables false

theorem law22_need (n : Int) (w : World) : Calls Try.prog 30 #[.int .i64 n] w fun e w' => e = .returned (.bool (decide (2 ≤ n) && decide (n ≤ 4))) ∧ w = w' := by
  go_enter Try.func30, Try.ntmps30
  go_wp2
  all_goals
    go_ret
    refine ⟨?_, rfl⟩
    simp_all <;> omega
theorem ChestIs.lt {w : World} {g : Nat} {F : Nat → Prop} {m : List (Int × List Int)} (h : ChestIs w g F m) : ChestIs w g (fun k => F k ∧ k < w.heap.size) m := by
  obtain ⟨b, M, h⟩ := h
  exact ⟨b, M, h.eq, h.blk, ⟨h.fg, h.blk.lt⟩, ⟨h.fb, h.map.lt⟩, h.map, fun p hp => ⟨(h.own p hp).1, fun k hk => ⟨⟨((h.own p hp).2 k hk).1, ownBlock_lt (h.own p hp).1 hk⟩, ((h.own p hp).2 k hk).2⟩⟩, h.far, h.ne⟩

/-- each house that is told has a chest -/
def ChInv (m : List (Int × List Int)) : Prop := ∀ p ∈ m, 1 ≤ p.1 ∧ p.1 ≤ 9223372036854775807 ∧ p.2 ≠ []
theorem ChInv.put {m : List (Int × List Int)} (h : ChInv m) {k : Int} {l : List Int} (hk : 1 ≤ k) (hk2 : k ≤ 9223372036854775807) (hl : l ≠ []) : ChInv (aput m k l) := by
  intro p hp
  rcases mem_aput hp with rfl | ⟨hp, -⟩
  · exact ⟨hk, hk2, hl⟩
  · exact h p hp
theorem ChInv.del {m : List (Int × List Int)} (h : ChInv m) (k : Int) : ChInv (adel m k) := fun p hp => h p (List.mem_filter.1 hp).1
theorem ChInv.alter {m : List (Int × List Int)} (h : ChInv m) {k n x : Int} (hx : chNeed m k n = some x) (y : Int) : ChInv (aput m k ((chOf m k).set (n - 1).toNat y)) := by
  unfold chNeed at hx
  by_cases hn : n < 1
  · rw [if_pos hn] at hx; simp at hx
  rw [if_neg hn] at hx
  unfold chOf at hx ⊢
  cases hl : m.lookup k with
  | none => rw [hl] at hx; simp at hx
  | some l =>
    have hp := h _ (lookup_mem hl)
    refine h.put hp.1 hp.2.1 ?_
    intro e
    have := congrArg List.length e
    simp at this
    exact hp.2.2 (by simpa using this)

/-- behind a step -/
def StepPost (w : World) (g : Nat) (F : Nat → Prop) (m : List (Int × List Int)) (v : Value) (X : List (Int × Int)) (e : Ending) (w' : World) : Prop :=
  ∃ v' m' X' F', e = .returned (.tuple #[v', .bool true]) ∧ ChestIs w' g F' m' ∧ (∀ j, F' j → (F j ∨ w.heap.size ≤ j) ∧ j < w'.heap.size) ∧ SlP w' v' X' ∧ (∀ j, v'.ownBlock = some j → ¬ F' j ∧ j < w'.heap.size ∧ (v.ownBlock = some j ∨ w.heap.size ≤ j)) ∧ ChRel m' X' ∧ X'.length ≤ X.length + 1 ∧ (ChInv m → ChInv m') ∧ Upd F w w'
structure StepPre (w : World) (g : Nat) (F : Nat → Prop) (m : List (Int × List Int)) (v : Value) (X : List (Int × Int)) : Prop where
  ch : ChestIs w g F m
  lt : ∀ j, F j → j < w.heap.size
  sl : SlP w v X
  far : ∀ j, v.ownBlock = some j → ¬ F j ∧ j < w.heap.size
  rel : ChRel m X
  len : X.length ≤ 1000
/-- nothing has turned -/
theorem StepPre.same {w w' : World} {g : Nat} {F : Nat → Prop} {m : List (Int × List Int)} {v : Value} {X : List (Int × Int)} (h : StepPre w g F m v X) (hb : Below w.heap.size w w') : StepPost w g F m v X (.returned (.tuple #[v, .bool true])) w' :=
  ⟨v, m, X, F, rfl, h.ch.below hb, fun j hj => ⟨.inl hj, Nat.lt_of_lt_of_le (h.lt j hj) hb.size⟩, h.sl.below hb, fun j hj => ⟨(h.far j hj).1, Nat.lt_of_lt_of_le (h.far j hj).2 hb.size, .inl hj⟩, h.rel, by omega, id, Upd.of_below hb⟩
/-- the chests have turned, the list is as it was -/
theorem StepPre.ahead {w w0 w1 : World} {g : Nat} {F : Nat → Prop} {m m' : List (Int × List Int)} {v : Value} {X : List (Int × Int)} (h : StepPre w g F m v X) (hb : Below w.heap.size w w0) (hc : ChestIs w1 g (fun k => F k ∨ w0.heap.size ≤ k) m') (hu : Upd F w0 w1) :
    ∃ F', ChestIs w1 g F' m' ∧ (∀ j, F' j → (F j ∨ w0.heap.size ≤ j) ∧ j < w1.heap.size) ∧ SlP w1 v X ∧ (∀ j, v.ownBlock = some j → ¬ F' j ∧ j < w1.heap.size) ∧ Upd F w w1 :=
  ⟨_, hc.lt, fun j hj => hj, (h.sl.below hb).upd hu (fun k hk => (h.far k hk).1), fun j hj => ⟨fun ⟨hf, _⟩ => by rcases hf with hf | hf; exact (h.far j hj).1 hf; have := (h.far j hj).2; have := hb.size; omega, Nat.lt_of_lt_of_le (Nat.lt_of_lt_of_le (h.far j hj).2 hb.size) hu.size⟩, (Upd.of_below (S := F) hb).trans hu (fun _ _ x => x)⟩

/-- the step's own copy of its argument -/
theorem opBlk (w : World) (k h n d : Int) : Blk (w.alloc (.cells #[.int .i64 k, .int .i64 h, .int .i64 n, .int .i64 d] 61)) w.heap.size #[.int .i64 k, .int .i64 h, .int .i64 n, .int .i64 d] := Blk.new _ _ _

set_option maxRecDepth 100000 in
set_option maxHeartbeats 1000000 in
theorem step_else (k h n d : Int) (g : Nat) (F : Nat → Prop) (m : List (Int × List Int)) (v : Value) (X : List (Int × Int)) (w : World) (P : StepPre w g F m v X) (h1 : k ≠ 1) (h2 : k ≠ 2) (h3 : k ≠ 3) :
    Calls Try.prog 28 #[.pointer (some ⟨g, 0, none⟩), v, .agg #[.int .i64 k, .int .i64 h, .int .i64 n, .int .i64 d]] w (StepPost w g F m v X) := by
  have b1 : (k == 1) = false := by simpa using h1
  have b2 : (k == 2) = false := by simpa using h2
  have b3 : (k == 3) = false := by simpa using h3
  have HP := hid P
  clear P
  go_enter Try.func28, Try.ntmps28
  go_wp2
  go_ret2
  exact HP.out.same (Below.new' _ _)

set_option maxRecDepth 100000 in
set_option maxHeartbeats 2000000 in
theorem step_build_no (h n d : Int) (g : Nat) (F : Nat → Prop) (m : List (Int × List Int)) (v : Value) (X : List (Int × Int)) (w : World) (P : StepPre w g F m v X) (e0 : Int) (he : Hid (chBuild m h d = (0, e0, m))) (hc : (h < 1 ∧ e0 = 10) ∨ (1 ≤ h ∧ ¬ (2 ≤ d ∧ d ≤ 4) ∧ e0 = 11) ∨ (1 ≤ h ∧ 2 ≤ d ∧ d ≤ 4 ∧ 4 ≤ (liOf X h).length ∧ e0 = 12)) :
    Calls Try.prog 28 #[.pointer (some ⟨g, 0, none⟩), v, .agg #[.int .i64 1, .int .i64 h, .int .i64 n, .int .i64 d]] w (StepPost w g F m v X) := by
  have HP := hid P
  have HLEN : Hid (lenF X h 0 = (liOf X h).length) := hid (liOf_len X h)
  obtain ⟨many, hmany⟩ : ∃ many, (liOf X h).length = many := ⟨_, rfl⟩
  rw [hmany] at HLEN hc
  have HBLK := hid (opBlk w 1 h n d)
  have HB0 := hid (Below.new' w (.cells #[.int .i64 1, .int .i64 h, .int .i64 n, .int .i64 d] 61))
  clear P hmany
  rcases hc with ⟨q1, rfl⟩ | ⟨q1, q2, rfl⟩ | ⟨q1, q2, q3, q4, rfl⟩
  all_goals
    go_enter Try.func28, Try.ntmps28
    go_wp2_with fail
    refine (chest_Build h d g F m _ (HP.out.ch.below HB0.out) _ _ _ he).mono ?_
    rintro e w1 ⟨rfl, hci, hu⟩
    obtain ⟨F', hc1, hF1, hs1, hv1, hu1⟩ := HP.out.ahead HB0.out hci hu
    have hblk1 := HBLK.out.upd hu (fun s => by have := HP.out.lt _ s; omega)
    have hcell1 : w1.cell? ⟨w.heap.size, 1, none⟩ = some (.int .i64 h) := by rw [hblk1.cell]; rfl
    have hcell3 : w1.cell? ⟨w.heap.size, 3, none⟩ = some (.int .i64 d) := by rw [hblk1.cell]; rfl
    have HS1 := hid hs1
    have HPOST : Hid (StepPost w g F m v X (.returned (.tuple #[v, .bool true])) w1) := hid ⟨v, m, X, F', rfl, hc1, fun j hj => ⟨(hF1 j hj).1.imp id (fun q => by have := HB0.out.size; omega), (hF1 j hj).2⟩, hs1, fun j hj => ⟨(hv1 j hj).1, (hv1 j hj).2, .inl hj⟩, HP.out.rel, by omega, id, hu1⟩
    clear hci hu hc1 hF1 hs1 hv1 hu1 hblk1
  · go_wp2_with (first | (go_at_call 73; (with_reducible refine (ref_Len X v h _ HS1.out (by have := HP.out.len; omega) _ HLEN).mono ?_); rintro e w' ⟨rfl, rfl⟩) | (go_at_call 30; (with_reducible refine (law22_need _ _).mono ?_); rintro e w' ⟨rfl, rfl⟩))
    go_ret2
    exact HPOST.out
  · have hb : (decide (2 ≤ d) && decide (d ≤ 4)) = false := by simpa using q2
    have HB := hid hb
    clear hb q2
    go_wp2_with (first | (go_at_call 73; (with_reducible refine (ref_Len X v h _ HS1.out (by have := HP.out.len; omega) _ HLEN).mono ?_); rintro e w' ⟨rfl, rfl⟩) | (go_at_call 30; (with_reducible refine (law22_need _ _).mono ?_); rintro e w' ⟨rfl, rfl⟩; rw [HB.out]))
    go_ret2
    exact HPOST.out
  · have q4' : (4 : Int) ≤ (many : Int) := by omega
    go_wp2_with (first | (go_at_call 73; (with_reducible refine (ref_Len X v h _ HS1.out (by have := HP.out.len; omega) _ HLEN).mono ?_); rintro e w' ⟨rfl, rfl⟩) | (go_at_call 30; (with_reducible refine (law22_need _ _).mono ?_); rintro e w' ⟨rfl, rfl⟩))
    go_ret2
    exact HPOST.out

theorem lit_chest0 (W : World) : (Instr.buildSlice 59 0 #[]).run Try.prog W = .ok (.slice (some ⟨W.heap.size, 0, none⟩) 0 0) (W.alloc (.cells #[] 71)) := by kernel_rfl
theorem lit_chest1 (h d : Int) (W : World) : (Instr.buildSlice 59 1 #[(0, .agg #[.int .i64 h, .int .i64 d])]).run Try.prog W = .ok (.slice (some ⟨W.heap.size, 0, none⟩) 1 1) (W.alloc (.cells #[.int .i64 h, .int .i64 d] 71)) := by kernel_rfl
theorem Below.next4 {B : Nat} {w w1 w2 : World} (h : Below B w w1) (k : Below w1.heap.size w1 w2) : Below B w w2 ∨ ¬ B ≤ w1.heap.size := by
  by_cases hB : B ≤ w1.heap.size
  · exact .inl (h.trans (k.mono hB))
  · exact .inr hB
theorem below_on {w w1 w2 : World} (h : Below w.heap.size w w1) (k : Below w1.heap.size w1 w2) : Below w.heap.size w w2 := h.trans (k.mono h.size)

set_option maxRecDepth 100000 in
set_option maxHeartbeats 4000000 in
theorem step_build_yes (h n d : Int) (g : Nat) (F : Nat → Prop) (m : List (Int × List Int)) (v : Value) (X : List (Int × Int)) (w : World) (P : StepPre w g F m v X) (q1 : 1 ≤ h) (q1b : h ≤ 9223372036854775807) (q2 : 2 ≤ d) (q3 : d ≤ 4) (q4 : (liOf X h).length < 4) :
    Calls Try.prog 28 #[.pointer (some ⟨g, 0, none⟩), v, .agg #[.int .i64 1, .int .i64 h, .int .i64 n, .int .i64 d]] w (StepPost w g F m v X) := by
  have HP := hid P
  have HLEN : Hid (lenF X h 0 = (liOf X h).length) := hid (liOf_len X h)
  obtain ⟨m', hm'⟩ : ∃ m', m' = aput m h (chOf m h ++ [d]) := ⟨_, rfl⟩
  have HREL : Hid (ChRel m' (X ++ [(h, d)])) := hid (by rw [hm']; exact P.rel.build h d)
  have HINV : Hid (ChInv m → ChInv m') := hid (fun hi => by rw [hm']; exact hi.put q1 q1b (by simp))
  have HBU : Hid (chBuild m h d = (((liOf X h).length : Int) + 1, 0, m')) := hid (by
    unfold chBuild
    rw [if_neg (by omega), if_neg (by omega), P.rel h, if_neg (by omega), hm', P.rel h])
  obtain ⟨many, hmany⟩ : ∃ many, (liOf X h).length = many := ⟨_, rfl⟩
  rw [hmany] at HLEN HBU q4
  have HBLK := hid (opBlk w 1 h n d)
  have HB0 := hid (Below.new' w (.cells #[.int .i64 1, .int .i64 h, .int .i64 n, .int .i64 d] 61))
  have hXl := P.len
  obtain ⟨a, c, rfl, -⟩ := P.sl
  clear P hmany hm'
  go_enter Try.func28, Try.ntmps28
  go_wp2_with fail
  refine (chest_Build h d g F m _ (HP.out.ch.below HB0.out) _ _ _ HBU).mono ?_
  rintro e w1 ⟨rfl, hci, hu⟩
  obtain ⟨F', hc1, hF1, hs1, hv1, hu1⟩ := HP.out.ahead HB0.out hci hu
  have hblk1 := HBLK.out.upd hu (fun s => by have := HP.out.lt _ s; omega)
  have hcell1 : ∀ w', Below w1.heap.size w1 w' → w'.cell? ⟨w.heap.size, 1, none⟩ = some (.int .i64 h) := fun w' hb => by rw [(hblk1.below hb).cell]; rfl
  have hcell3 : ∀ w', Below w1.heap.size w1 w' → w'.cell? ⟨w.heap.size, 3, none⟩ = some (.int .i64 d) := fun w' hb => by rw [(hblk1.below hb).cell]; rfl
  have hc1a := hcell1 w1 (Below.refl _ _)
  have hc3a := hcell3 w1 (Below.refl _ _)
  have HS1 := hid hs1
  have HPOST : Hid (∀ v9 wE, Below w1.heap.size w1 wE → wE.ownsRow w1.heap.size 71 2 v9 (X.length + 1) (pv X ++ [.int .i64 h, .int .i64 d]) → StepPost w g F m (.slice a X.length c) X (.returned (.tuple #[v9, .bool true])) wE) := hid (fun v9 wE hb ho => by
    refine ⟨v9, m', X ++ [(h, d)], F', rfl, hc1.below hb, fun j hj => ⟨(hF1 j hj).1.imp id (fun q => by have := HB0.out.size; omega), Nat.lt_of_lt_of_le (hF1 j hj).2 hb.size⟩, SlP.of_own (by rw [List.length_append, pv_append]; exact ho), fun j hj => ?_, HREL.out, by simp, HINV.out, hu1.trans (Upd.of_below (S := F) hb) (fun _ _ x => x)⟩
    have := ho.lt j hj
    exact ⟨fun hf => by have := (hF1 j hf).2; omega, this.2, .inr (by have := hu1.size; omega)⟩)
  have HB : Hid ((decide (2 ≤ d) && decide (d ≤ 4)) = true) := hid (by simp; omega)
  have q4' : ¬ (4 : Int) ≤ (many : Int) := by omega
  clear hci hu hc1 hF1 hs1 hv1 hu1 hblk1
  go_wp2_with (first | (go_at_call 73; (with_reducible refine (ref_Len X _ h _ HS1.out (by have := HP.out.len; omega) _ HLEN).mono ?_); rintro e w' ⟨rfl, rfl⟩) | (go_at_call 30; (with_reducible refine (law22_need _ _).mono ?_); rintro e w' ⟨rfl, rfl⟩; rw [HB.out]))
  have hd := (Below.refl w1.heap.size w1).drew
  clear hc1a hc3a
  have hsum : IntKind.i64.wrap ((many : Int) + 1) = (many : Int) + 1 := by rw [IntKind.wrap_i64]; omega
  refine wp_region_kept [] (fun w' => Below w1.heap.size w1 w') (by kernel_rfl) (by assumption) (fun hH => ?_)
  refine wpK.take (i := 1) (v := _) (by simp only [List.getElem?_toArray, List.getElem?_cons_succ, List.getElem?_cons_zero]; rfl) (by kernel_rfl) (by kernel_rfl) (by kernel_rfl) (by kernel_rfl) (by kernel_rfl) (by exact fun _ _ _ h => h) (by first | exact Or.inl ⟨by rfl, by intro w hSw; go_simp; try with_reducible rfl⟩ | exact Or.inr ⟨by rfl, rfl⟩) hH ?_
  try simp only [Act.put, List.setIfInBounds_toArray, List.set_cons_zero, List.set_cons_succ]
  refine wpK.take (i := 3) (v := _) (by simp only [List.getElem?_toArray, List.getElem?_cons_succ, List.getElem?_cons_zero]; rfl) (by kernel_rfl) (by kernel_rfl) (by kernel_rfl) (by kernel_rfl) (by kernel_rfl) (by exact fun _ _ _ h => h) (by first | exact Or.inl ⟨by rfl, by intro w hSw; go_simp; try with_reducible rfl⟩ | exact Or.inr ⟨by rfl, rfl⟩) hH ?_
  try simp only [Act.put, List.setIfInBounds_toArray, List.set_cons_zero, List.set_cons_succ]
  refine wpK.take (i := 4) (v := _) (by simp only [List.getElem?_toArray, List.getElem?_cons_succ, List.getElem?_cons_zero]; rfl) (by kernel_rfl) (by kernel_rfl) (by kernel_rfl) (by kernel_rfl) (by kernel_rfl) (by exact fun _ _ _ h => h) (by first | exact Or.inl ⟨by rfl, by intro w hSw; go_simp; try with_reducible rfl⟩ | exact Or.inr ⟨by rfl, rfl⟩) hH ?_
  try simp only [Act.put, List.setIfInBounds_toArray, List.set_cons_zero, List.set_cons_succ]
  refine wpK.take (i := 5) (v := _) (by simp only [List.getElem?_toArray, List.getElem?_cons_succ, List.getElem?_cons_zero]; rfl) (by kernel_rfl) (by kernel_rfl) (by kernel_rfl) (by kernel_rfl) (by kernel_rfl) (by exact fun _ _ _ h => h) (by first | exact Or.inl ⟨by rfl, by intro w hSw; go_simp; try with_reducible rfl⟩ | exact Or.inr ⟨by rfl, rfl⟩) hH ?_
  try simp only [Act.put, List.setIfInBounds_toArray, List.set_cons_zero, List.set_cons_succ]
  refine wpK.take (i := 6) (v := _) (by simp only [List.getElem?_toArray, List.getElem?_cons_succ, List.getElem?_cons_zero]; rfl) (by kernel_rfl) (by kernel_rfl) (by kernel_rfl) (by kernel_rfl) (by kernel_rfl) (by exact fun _ _ _ h => h) (by first | exact Or.inl ⟨by rfl, by intro w hSw; go_simp; try with_reducible rfl⟩ | exact Or.inr ⟨by rfl, rfl⟩) hH ?_
  try simp only [Act.put, List.setIfInBounds_toArray, List.set_cons_zero, List.set_cons_succ]
  refine wpK.take (i := 7) (v := _) (by simp only [List.getElem?_toArray, List.getElem?_cons_succ, List.getElem?_cons_zero]; rfl) (by kernel_rfl) (by kernel_rfl) (by kernel_rfl) (by kernel_rfl) (by kernel_rfl) (by exact fun _ _ _ h => h) (by first | exact Or.inl ⟨by rfl, by intro w hSw; go_simp; try with_reducible rfl⟩ | exact Or.inr ⟨by rfl, rfl⟩) hH ?_
  try simp only [Act.put, List.setIfInBounds_toArray, List.set_cons_zero, List.set_cons_succ]
  refine wpK.take (i := 10) (v := _) (by simp only [List.getElem?_toArray, List.getElem?_cons_succ, List.getElem?_cons_zero]; rfl) (by kernel_rfl) (by kernel_rfl) (by kernel_rfl) (by kernel_rfl) (by kernel_rfl) (by exact fun _ _ _ h => h) (by first | exact Or.inl ⟨by rfl, by intro w hSw; go_simp; try with_reducible rfl⟩ | exact Or.inr ⟨by rfl, rfl⟩) hH ?_
  try simp only [Act.put, List.setIfInBounds_toArray, List.set_cons_zero, List.set_cons_succ]
  refine wpK.take (i := 11) (v := _) (by simp only [List.getElem?_toArray, List.getElem?_cons_succ, List.getElem?_cons_zero]; rfl) (by kernel_rfl) (by kernel_rfl) (by kernel_rfl) (by kernel_rfl) (by kernel_rfl) (by exact fun _ _ _ h => h) (by first | exact Or.inl ⟨by rfl, by intro w hSw; go_simp; try with_reducible rfl⟩ | exact Or.inr ⟨by rfl, rfl⟩) hH ?_
  try simp only [Act.put, List.setIfInBounds_toArray, List.set_cons_zero, List.set_cons_succ]
  refine wpK.two (i := 0) (j := 8) (by kernel_rfl) (by simp only [List.getElem?_toArray, List.getElem?_cons_succ, List.getElem?_cons_zero]; rfl) (by simp only [List.getElem?_toArray, List.getElem?_cons_succ, List.getElem?_cons_zero]; rfl) (fun K hK => ?_) (fun K hK => ?_)
  · refine step_lit (us := #[]) (e := 71) (size := 2) (ps := #[]) rfl rfl (by simp) (lit_chest0 _) rfl (by omega) ?_; intro g0 wB hg0 hb0 hs0 hown0; have hge0 : w1.heap.size ≤ g0 := (by have := hH.size; omega); have hk0 : Below w1.heap.size w1 wB := below_on hH hb0; try (have hown8 := owns_below hown8 hb0)
    refine hK.out _ _ (by assumption) (fun hH => ?_)
    clear hK K
    try simp only [Act.put, List.setIfInBounds_toArray, List.set_cons_zero, List.set_cons_succ]
    refine wpK.two (i := 2) (j := 8) (by kernel_rfl) (by simp only [List.getElem?_toArray, List.getElem?_cons_succ, List.getElem?_cons_zero]; rfl) (by simp only [List.getElem?_toArray, List.getElem?_cons_succ, List.getElem?_cons_zero]; rfl) (fun K hK => ?_) (fun K hK => ?_)
    · have hrd2 := HS1.out.below hH; obtain ⟨aa, cc, ee, hrd2, -, -, hcz2⟩ := hrd2; simp only [Value.slice.injEq] at ee; obtain ⟨rfl, -, rfl⟩ := ee; refine step_appN T_refchest rfl _ _ rfl g0 (.slice (some ⟨g0, 0, none⟩) 0 0) 0 [] rfl hown0 a X.length c (pv X) rfl (pv_length X) (fun _ => hcz2) hrd2 (pv_oneCell X) (by omega) (by have := (hown0.lt g0 rfl).2; omega) ?_; intro v2 wC hown2 hg2 hnil2 hwh2; have hle2 : g0 ≤ wC.heap.size := (by have := hg2.size; have := (hown0.lt g0 rfl).2; omega); (have hk2 : Below w1.heap.size w1 wC := hH.grown hg2 hH.size (fun k hk => by simp [Value.ownBlock] at hk; omega)); try (have hown8 := Upd.owns (Upd.of_grown hg2) hown8 (fun k hk s => by simp [Value.ownBlock] at hk s; omega))
      refine hK.out _ _ (by assumption) (fun hH => ?_)
      clear hK K
      try simp only [Act.put, List.setIfInBounds_toArray, List.set_cons_zero, List.set_cons_succ]
      refine wpK.step (i := 8) (by kernel_rfl) (by simp only [List.getElem?_toArray, List.getElem?_cons_succ, List.getElem?_cons_zero]; rfl) (fun K hK => ?_)
      refine step_lit (us := #[.int .i64 h, .int .i64 d]) (e := 71) (size := 2) (ps := #[(0, .agg #[.int .i64 h, .int .i64 d])]) rfl rfl (by simp only [List.map_toArray, List.map_cons, List.map_nil]; rfl) (lit_chest1 h d _) rfl (by omega) ?_; intro g8 wD hg8 hb8 hs8 hown8; have hge8 : w1.heap.size ≤ g8 := (by have := hH.size; omega); have hk8 : Below w1.heap.size w1 wD := below_on hH hb8; (try have hown2 := owns_below hown2 hb8); (try have hown0 := owns_below hown0 hb8)
      refine hK.out _ _ (by assumption) (fun hH => ?_)
      clear hK K
      try simp only [Act.put, List.setIfInBounds_toArray, List.set_cons_zero, List.set_cons_succ]
      refine wpK.step (i := 9) (by kernel_rfl) (by simp only [List.getElem?_toArray, List.getElem?_cons_succ, List.getElem?_cons_zero]; rfl) (fun K hK => ?_)
      obtain ⟨a8, c8, e8, -, -, hr8, hcz8⟩ := ownsRow.rd hown8; simp only [Value.slice.injEq] at e8; obtain ⟨rfl, -, rfl⟩ := e8; refine step_appN T_refchest rfl _ _ rfl g0 v2 (0 + X.length) ([] ++ pv X) rfl hown2 (some ⟨g8, 0, none⟩) 1 1 _ rfl rfl (fun h => nomatch h) hr8 (by intro u hu; simp at hu; rcases hu with rfl | rfl <;> rfl) (by omega) (by first | omega | (have := hb8.size; omega)) ?_; intro v9 wE hown9 hg9 hnil9 hwh9; (have hk9 : Below w1.heap.size w1 wE := hH.grown hg9 hH.size (fun k hk => by have := (hown2.lt k hk).1; omega))
      refine hK.out _ _ (by assumption) (fun hH => ?_)
      clear hK K
      try simp only [Act.put, List.setIfInBounds_toArray, List.set_cons_zero, List.set_cons_succ]
      refine wpK.take (i := 12) (v := _) (by simp only [List.getElem?_toArray, List.getElem?_cons_succ, List.getElem?_cons_zero]; rfl) (by kernel_rfl) (by kernel_rfl) (by kernel_rfl) (by kernel_rfl) (by kernel_rfl) (by exact fun _ _ _ h => h) (by first | exact Or.inl ⟨by rfl, by intro w hSw; go_simp; try with_reducible rfl⟩ | exact Or.inr ⟨by rfl, rfl⟩) hH ?_
      try simp only [Act.put, List.setIfInBounds_toArray, List.set_cons_zero, List.set_cons_succ]
      refine wpK.take (i := 13) (v := _) (by simp only [List.getElem?_toArray, List.getElem?_cons_succ, List.getElem?_cons_zero]; rfl) (by kernel_rfl) (by kernel_rfl) (by kernel_rfl) (by kernel_rfl) (by kernel_rfl) (by exact fun _ _ _ h => h) (by first | exact Or.inl ⟨by rfl, by intro w hSw; go_simp; try with_reducible rfl⟩ | exact Or.inr ⟨by rfl, rfl⟩) hH ?_
      try simp only [Act.put, List.setIfInBounds_toArray, List.set_cons_zero, List.set_cons_succ]
      refine wpK.take (i := 14) (v := _) (by simp only [List.getElem?_toArray, List.getElem?_cons_succ, List.getElem?_cons_zero]; rfl) (by kernel_rfl) (by kernel_rfl) (by kernel_rfl) (by kernel_rfl) (by kernel_rfl) (by exact fun _ _ _ h => h) (by first | exact Or.inl ⟨by rfl, by intro w hSw; go_simp; try with_reducible rfl⟩ | exact Or.inr ⟨by rfl, rfl⟩) hH ?_
      try simp only [Act.put, List.setIfInBounds_toArray, List.set_cons_zero, List.set_cons_succ]
      refine wpK.take (i := 15) (v := _) (by simp only [List.getElem?_toArray, List.getElem?_cons_succ, List.getElem?_cons_zero]; rfl) (by kernel_rfl) (by kernel_rfl) (by kernel_rfl) (by kernel_rfl) (by kernel_rfl) (by exact fun _ _ _ h => h) (by first | exact Or.inl ⟨by rfl, by intro w hSw; go_simp; try with_reducible rfl⟩ | exact Or.inr ⟨by rfl, rfl⟩) hH ?_
      try simp only [Act.put, List.setIfInBounds_toArray, List.set_cons_zero, List.set_cons_succ]
      refine wpK.take (i := 16) (v := _) (by simp only [List.getElem?_toArray, List.getElem?_cons_succ, List.getElem?_cons_zero]; rfl) (by kernel_rfl) (by kernel_rfl) (by kernel_rfl) (by kernel_rfl) (by kernel_rfl) (by exact fun _ _ _ h => h) (by first | exact Or.inl ⟨by rfl, by intro w hSw; go_simp; try with_reducible rfl⟩ | exact Or.inr ⟨by rfl, rfl⟩) hH ?_
      try simp only [Act.put, List.setIfInBounds_toArray, List.set_cons_zero, List.set_cons_succ]
      refine wpK.take (i := 17) (v := _) (by simp only [List.getElem?_toArray, List.getElem?_cons_succ, List.getElem?_cons_zero]; rfl) (by kernel_rfl) (by kernel_rfl) (by kernel_rfl) (by kernel_rfl) (by kernel_rfl) (by exact fun _ _ _ h => h) (by first | exact Or.inl ⟨by rfl, by intro w hSw; go_simp; try with_reducible rfl⟩ | exact Or.inr ⟨by rfl, rfl⟩) hH ?_
      try simp only [Act.put, List.setIfInBounds_toArray, List.set_cons_zero, List.set_cons_succ]
      refine wpK.take (i := 18) (v := _) (by simp only [List.getElem?_toArray, List.getElem?_cons_succ, List.getElem?_cons_zero]; rfl) (by kernel_rfl) (by kernel_rfl) (by kernel_rfl) (by kernel_rfl) (by kernel_rfl) (by exact fun _ _ _ h => h) (by first | exact Or.inl ⟨by rfl, by intro w hSw; go_simp; try with_reducible rfl⟩ | exact Or.inr ⟨by rfl, rfl⟩) hH ?_
      try simp only [Act.put, List.setIfInBounds_toArray, List.set_cons_zero, List.set_cons_succ]
      refine wpK.take (i := 19) (v := _) (by simp only [List.getElem?_toArray, List.getElem?_cons_succ, List.getElem?_cons_zero]; rfl) (by kernel_rfl) (by kernel_rfl) (by kernel_rfl) (by kernel_rfl) (by kernel_rfl) (by exact fun _ _ _ h => h) (by first | exact Or.inl ⟨by rfl, by intro w hSw; go_simp; try with_reducible rfl⟩ | exact Or.inr ⟨by rfl, rfl⟩) hH ?_
      try simp only [Act.put, List.setIfInBounds_toArray, List.set_cons_zero, List.set_cons_succ]
      refine wpK.done (by kernel_rfl) ?_ _
      have ho9 : wE.ownsRow w1.heap.size 71 2 v9 (X.length + 1) (pv X ++ [.int .i64 h, .int .i64 d]) := ownsRow_base (by simpa using hown9) hge0
      go_wp2
      go_ret2
      exact HPOST.out v9 wE hk9 ho9
    · refine step_lit (us := #[.int .i64 h, .int .i64 d]) (e := 71) (size := 2) (ps := #[(0, .agg #[.int .i64 h, .int .i64 d])]) rfl rfl (by simp only [List.map_toArray, List.map_cons, List.map_nil]; rfl) (lit_chest1 h d _) rfl (by omega) ?_; intro g8 wD hg8 hb8 hs8 hown8; have hge8 : w1.heap.size ≤ g8 := (by have := hH.size; omega); have hk8 : Below w1.heap.size w1 wD := below_on hH hb8; (try have hown2 := owns_below hown2 hb8); (try have hown0 := owns_below hown0 hb8)
      refine hK.out _ _ (by assumption) (fun hH => ?_)
      clear hK K
      try simp only [Act.put, List.setIfInBounds_toArray, List.set_cons_zero, List.set_cons_succ]
      refine wpK.step (i := 2) (by kernel_rfl) (by simp only [List.getElem?_toArray, List.getElem?_cons_succ, List.getElem?_cons_zero]; rfl) (fun K hK => ?_)
      have hrd2 := HS1.out.below hH; obtain ⟨aa, cc, ee, hrd2, -, -, hcz2⟩ := hrd2; simp only [Value.slice.injEq] at ee; obtain ⟨rfl, -, rfl⟩ := ee; refine step_appN T_refchest rfl _ _ rfl g0 (.slice (some ⟨g0, 0, none⟩) 0 0) 0 [] rfl hown0 a X.length c (pv X) rfl (pv_length X) (fun _ => hcz2) hrd2 (pv_oneCell X) (by omega) (by have := (hown0.lt g0 rfl).2; omega) ?_; intro v2 wC hown2 hg2 hnil2 hwh2; have hle2 : g0 ≤ wC.heap.size := (by have := hg2.size; have := (hown0.lt g0 rfl).2; omega); (have hk2 : Below w1.heap.size w1 wC := hH.grown hg2 hH.size (fun k hk => by simp [Value.ownBlock] at hk; omega)); try (have hown8 := Upd.owns (Upd.of_grown hg2) hown8 (fun k hk s => by simp [Value.ownBlock] at hk s; omega))
      refine hK.out _ _ (by assumption) (fun hH => ?_)
      clear hK K
      try simp only [Act.put, List.setIfInBounds_toArray, List.set_cons_zero, List.set_cons_succ]
      refine wpK.step (i := 9) (by kernel_rfl) (by simp only [List.getElem?_toArray, List.getElem?_cons_succ, List.getElem?_cons_zero]; rfl) (fun K hK => ?_)
      obtain ⟨a8, c8, e8, -, -, hr8, hcz8⟩ := ownsRow.rd hown8; simp only [Value.slice.injEq] at e8; obtain ⟨rfl, -, rfl⟩ := e8; refine step_appN T_refchest rfl _ _ rfl g0 v2 (0 + X.length) ([] ++ pv X) rfl hown2 (some ⟨g8, 0, none⟩) 1 1 _ rfl rfl (fun h => nomatch h) hr8 (by intro u hu; simp at hu; rcases hu with rfl | rfl <;> rfl) (by omega) (by first | omega | (have := hb8.size; omega)) ?_; intro v9 wE hown9 hg9 hnil9 hwh9; (have hk9 : Below w1.heap.size w1 wE := hH.grown hg9 hH.size (fun k hk => by have := (hown2.lt k hk).1; omega))
      refine hK.out _ _ (by assumption) (fun hH => ?_)
      clear hK K
      try simp only [Act.put, List.setIfInBounds_toArray, List.set_cons_zero, List.set_cons_succ]
      refine wpK.take (i := 12) (v := _) (by simp only [List.getElem?_toArray, List.getElem?_cons_succ, List.getElem?_cons_zero]; rfl) (by kernel_rfl) (by kernel_rfl) (by kernel_rfl) (by kernel_rfl) (by kernel_rfl) (by exact fun _ _ _ h => h) (by first | exact Or.inl ⟨by rfl, by intro w hSw; go_simp; try with_reducible rfl⟩ | exact Or.inr ⟨by rfl, rfl⟩) hH ?_
      try simp only [Act.put, List.setIfInBounds_toArray, List.set_cons_zero, List.set_cons_succ]
      refine wpK.take (i := 13) (v := _) (by simp only [List.getElem?_toArray, List.getElem?_cons_succ, List.getElem?_cons_zero]; rfl) (by kernel_rfl) (by kernel_rfl) (by kernel_rfl) (by kernel_rfl) (by kernel_rfl) (by exact fun _ _ _ h => h) (by first | exact Or.inl ⟨by rfl, by intro w hSw; go_simp; try with_reducible rfl⟩ | exact Or.inr ⟨by rfl, rfl⟩) hH ?_
      try simp only [Act.put, List.setIfInBounds_toArray, List.set_cons_zero, List.set_cons_succ]
      refine wpK.take (i := 14) (v := _) (by simp only [List.getElem?_toArray, List.getElem?_cons_succ, List.getElem?_cons_zero]; rfl) (by kernel_rfl) (by kernel_rfl) (by kernel_rfl) (by kernel_rfl) (by kernel_rfl) (by exact fun _ _ _ h => h) (by first | exact Or.inl ⟨by rfl, by intro w hSw; go_simp; try with_reducible rfl⟩ | exact Or.inr ⟨by rfl, rfl⟩) hH ?_
      try simp only [Act.put, List.setIfInBounds_toArray, List.set_cons_zero, List.set_cons_succ]
      refine wpK.take (i := 15) (v := _) (by simp only [List.getElem?_toArray, List.getElem?_cons_succ, List.getElem?_cons_zero]; rfl) (by kernel_rfl) (by kernel_rfl) (by kernel_rfl) (by kernel_rfl) (by kernel_rfl) (by exact fun _ _ _ h => h) (by first | exact Or.inl ⟨by rfl, by intro w hSw; go_simp; try with_reducible rfl⟩ | exact Or.inr ⟨by rfl, rfl⟩) hH ?_
      try simp only [Act.put, List.setIfInBounds_toArray, List.set_cons_zero, List.set_cons_succ]
      refine wpK.take (i := 16) (v := _) (by simp only [List.getElem?_toArray, List.getElem?_cons_succ, List.getElem?_cons_zero]; rfl) (by kernel_rfl) (by kernel_rfl) (by kernel_rfl) (by kernel_rfl) (by kernel_rfl) (by exact fun _ _ _ h => h) (by first | exact Or.inl ⟨by rfl, by intro w hSw; go_simp; try with_reducible rfl⟩ | exact Or.inr ⟨by rfl, rfl⟩) hH ?_
      try simp only [Act.put, List.setIfInBounds_toArray, List.set_cons_zero, List.set_cons_succ]
      refine wpK.take (i := 17) (v := _) (by simp only [List.getElem?_toArray, List.getElem?_cons_succ, List.getElem?_cons_zero]; rfl) (by kernel_rfl) (by kernel_rfl) (by kernel_rfl) (by kernel_rfl) (by kernel_rfl) (by exact fun _ _ _ h => h) (by first | exact Or.inl ⟨by rfl, by intro w hSw; go_simp; try with_reducible rfl⟩ | exact Or.inr ⟨by rfl, rfl⟩) hH ?_
      try simp only [Act.put, List.setIfInBounds_toArray, List.set_cons_zero, List.set_cons_succ]
      refine wpK.take (i := 18) (v := _) (by simp only [List.getElem?_toArray, List.getElem?_cons_succ, List.getElem?_cons_zero]; rfl) (by kernel_rfl) (by kernel_rfl) (by kernel_rfl) (by kernel_rfl) (by kernel_rfl) (by exact fun _ _ _ h => h) (by first | exact Or.inl ⟨by rfl, by intro w hSw; go_simp; try with_reducible rfl⟩ | exact Or.inr ⟨by rfl, rfl⟩) hH ?_
      try simp only [Act.put, List.setIfInBounds_toArray, List.set_cons_zero, List.set_cons_succ]
      refine wpK.take (i := 19) (v := _) (by simp only [List.getElem?_toArray, List.getElem?_cons_succ, List.getElem?_cons_zero]; rfl) (by kernel_rfl) (by kernel_rfl) (by kernel_rfl) (by kernel_rfl) (by kernel_rfl) (by exact fun _ _ _ h => h) (by first | exact Or.inl ⟨by rfl, by intro w hSw; go_simp; try with_reducible rfl⟩ | exact Or.inr ⟨by rfl, rfl⟩) hH ?_
      try simp only [Act.put, List.setIfInBounds_toArray, List.set_cons_zero, List.set_cons_succ]
      refine wpK.done (by kernel_rfl) ?_ _
      have ho9 : wE.ownsRow w1.heap.size 71 2 v9 (X.length + 1) (pv X ++ [.int .i64 h, .int .i64 d]) := ownsRow_base (by simpa using hown9) hge0
      go_wp2
      go_ret2
      exact HPOST.out v9 wE hk9 ho9
  · refine step_lit (us := #[.int .i64 h, .int .i64 d]) (e := 71) (size := 2) (ps := #[(0, .agg #[.int .i64 h, .int .i64 d])]) rfl rfl (by simp only [List.map_toArray, List.map_cons, List.map_nil]; rfl) (lit_chest1 h d _) rfl (by omega) ?_; intro g8 wD hg8 hb8 hs8 hown8; have hge8 : w1.heap.size ≤ g8 := (by have := hH.size; omega); have hk8 : Below w1.heap.size w1 wD := below_on hH hb8; (try have hown2 := owns_below hown2 hb8); (try have hown0 := owns_below hown0 hb8)
    refine hK.out _ _ (by assumption) (fun hH => ?_)
    clear hK K
    try simp only [Act.put, List.setIfInBounds_toArray, List.set_cons_zero, List.set_cons_succ]
    refine wpK.step (i := 0) (by kernel_rfl) (by simp only [List.getElem?_toArray, List.getElem?_cons_succ, List.getElem?_cons_zero]; rfl) (fun K hK => ?_)
    refine step_lit (us := #[]) (e := 71) (size := 2) (ps := #[]) rfl rfl (by simp) (lit_chest0 _) rfl (by omega) ?_; intro g0 wB hg0 hb0 hs0 hown0; have hge0 : w1.heap.size ≤ g0 := (by have := hH.size; omega); have hk0 : Below w1.heap.size w1 wB := below_on hH hb0; try (have hown8 := owns_below hown8 hb0)
    refine hK.out _ _ (by assumption) (fun hH => ?_)
    clear hK K
    try simp only [Act.put, List.setIfInBounds_toArray, List.set_cons_zero, List.set_cons_succ]
    refine wpK.step (i := 2) (by kernel_rfl) (by simp only [List.getElem?_toArray, List.getElem?_cons_succ, List.getElem?_cons_zero]; rfl) (fun K hK => ?_)
    have hrd2 := HS1.out.below hH; obtain ⟨aa, cc, ee, hrd2, -, -, hcz2⟩ := hrd2; simp only [Value.slice.injEq] at ee; obtain ⟨rfl, -, rfl⟩ := ee; refine step_appN T_refchest rfl _ _ rfl g0 (.slice (some ⟨g0, 0, none⟩) 0 0) 0 [] rfl hown0 a X.length c (pv X) rfl (pv_length X) (fun _ => hcz2) hrd2 (pv_oneCell X) (by omega) (by have := (hown0.lt g0 rfl).2; omega) ?_; intro v2 wC hown2 hg2 hnil2 hwh2; have hle2 : g0 ≤ wC.heap.size := (by have := hg2.size; have := (hown0.lt g0 rfl).2; omega); (have hk2 : Below w1.heap.size w1 wC := hH.grown hg2 hH.size (fun k hk => by simp [Value.ownBlock] at hk; omega)); try (have hown8 := Upd.owns (Upd.of_grown hg2) hown8 (fun k hk s => by simp [Value.ownBlock] at hk s; omega))
    refine hK.out _ _ (by assumption) (fun hH => ?_)
    clear hK K
    try simp only [Act.put, List.setIfInBounds_toArray, List.set_cons_zero, List.set_cons_succ]
    refine wpK.step (i := 9) (by kernel_rfl) (by simp only [List.getElem?_toArray, List.getElem?_cons_succ, List.getElem?_cons_zero]; rfl) (fun K hK => ?_)
    obtain ⟨a8, c8, e8, -, -, hr8, hcz8⟩ := ownsRow.rd hown8; simp only [Value.slice.injEq] at e8; obtain ⟨rfl, -, rfl⟩ := e8; refine step_appN T_refchest rfl _ _ rfl g0 v2 (0 + X.length) ([] ++ pv X) rfl hown2 (some ⟨g8, 0, none⟩) 1 1 _ rfl rfl (fun h => nomatch h) hr8 (by intro u hu; simp at hu; rcases hu with rfl | rfl <;> rfl) (by omega) (by first | omega | (have := hb8.size; omega)) ?_; intro v9 wE hown9 hg9 hnil9 hwh9; (have hk9 : Below w1.heap.size w1 wE := hH.grown hg9 hH.size (fun k hk => by have := (hown2.lt k hk).1; omega))
    refine hK.out _ _ (by assumption) (fun hH => ?_)
    clear hK K
    try simp only [Act.put, List.setIfInBounds_toArray, List.set_cons_zero, List.set_cons_succ]
    refine wpK.take (i := 12) (v := _) (by simp only [List.getElem?_toArray, List.getElem?_cons_succ, List.getElem?_cons_zero]; rfl) (by kernel_rfl) (by kernel_rfl) (by kernel_rfl) (by kernel_rfl) (by kernel_rfl) (by exact fun _ _ _ h => h) (by first | exact Or.inl ⟨by rfl, by intro w hSw; go_simp; try with_reducible rfl⟩ | exact Or.inr ⟨by rfl, rfl⟩) hH ?_
    try simp only [Act.put, List.setIfInBounds_toArray, List.set_cons_zero, List.set_cons_succ]
    refine wpK.take (i := 13) (v := _) (by simp only [List.getElem?_toArray, List.getElem?_cons_succ, List.getElem?_cons_zero]; rfl) (by kernel_rfl) (by kernel_rfl) (by kernel_rfl) (by kernel_rfl) (by kernel_rfl) (by exact fun _ _ _ h => h) (by first | exact Or.inl ⟨by rfl, by intro w hSw; go_simp; try with_reducible rfl⟩ | exact Or.inr ⟨by rfl, rfl⟩) hH ?_
    try simp only [Act.put, List.setIfInBounds_toArray, List.set_cons_zero, List.set_cons_succ]
    refine wpK.take (i := 14) (v := _) (by simp only [List.getElem?_toArray, List.getElem?_cons_succ, List.getElem?_cons_zero]; rfl) (by kernel_rfl) (by kernel_rfl) (by kernel_rfl) (by kernel_rfl) (by kernel_rfl) (by exact fun _ _ _ h => h) (by first | exact Or.inl ⟨by rfl, by intro w hSw; go_simp; try with_reducible rfl⟩ | exact Or.inr ⟨by rfl, rfl⟩) hH ?_
    try simp only [Act.put, List.setIfInBounds_toArray, List.set_cons_zero, List.set_cons_succ]
    refine wpK.take (i := 15) (v := _) (by simp only [List.getElem?_toArray, List.getElem?_cons_succ, List.getElem?_cons_zero]; rfl) (by kernel_rfl) (by kernel_rfl) (by kernel_rfl) (by kernel_rfl) (by kernel_rfl) (by exact fun _ _ _ h => h) (by first | exact Or.inl ⟨by rfl, by intro w hSw; go_simp; try with_reducible rfl⟩ | exact Or.inr ⟨by rfl, rfl⟩) hH ?_
    try simp only [Act.put, List.setIfInBounds_toArray, List.set_cons_zero, List.set_cons_succ]
    refine wpK.take (i := 16) (v := _) (by simp only [List.getElem?_toArray, List.getElem?_cons_succ, List.getElem?_cons_zero]; rfl) (by kernel_rfl) (by kernel_rfl) (by kernel_rfl) (by kernel_rfl) (by kernel_rfl) (by exact fun _ _ _ h => h) (by first | exact Or.inl ⟨by rfl, by intro w hSw; go_simp; try with_reducible rfl⟩ | exact Or.inr ⟨by rfl, rfl⟩) hH ?_
    try simp only [Act.put, List.setIfInBounds_toArray, List.set_cons_zero, List.set_cons_succ]
    refine wpK.take (i := 17) (v := _) (by simp only [List.getElem?_toArray, List.getElem?_cons_succ, List.getElem?_cons_zero]; rfl) (by kernel_rfl) (by kernel_rfl) (by kernel_rfl) (by kernel_rfl) (by kernel_rfl) (by exact fun _ _ _ h => h) (by first | exact Or.inl ⟨by rfl, by intro w hSw; go_simp; try with_reducible rfl⟩ | exact Or.inr ⟨by rfl, rfl⟩) hH ?_
    try simp only [Act.put, List.setIfInBounds_toArray, List.set_cons_zero, List.set_cons_succ]
    refine wpK.take (i := 18) (v := _) (by simp only [List.getElem?_toArray, List.getElem?_cons_succ, List.getElem?_cons_zero]; rfl) (by kernel_rfl) (by kernel_rfl) (by kernel_rfl) (by kernel_rfl) (by kernel_rfl) (by exact fun _ _ _ h => h) (by first | exact Or.inl ⟨by rfl, by intro w hSw; go_simp; try with_reducible rfl⟩ | exact Or.inr ⟨by rfl, rfl⟩) hH ?_
    try simp only [Act.put, List.setIfInBounds_toArray, List.set_cons_zero, List.set_cons_succ]
    refine wpK.take (i := 19) (v := _) (by simp only [List.getElem?_toArray, List.getElem?_cons_succ, List.getElem?_cons_zero]; rfl) (by kernel_rfl) (by kernel_rfl) (by kernel_rfl) (by kernel_rfl) (by kernel_rfl) (by exact fun _ _ _ h => h) (by first | exact Or.inl ⟨by rfl, by intro w hSw; go_simp; try with_reducible rfl⟩ | exact Or.inr ⟨by rfl, rfl⟩) hH ?_
    try simp only [Act.put, List.setIfInBounds_toArray, List.set_cons_zero, List.set_cons_succ]
    refine wpK.done (by kernel_rfl) ?_ _
    have ho9 : wE.ownsRow w1.heap.size 71 2 v9 (X.length + 1) (pv X ++ [.int .i64 h, .int .i64 d]) := ownsRow_base (by simpa using hown9) hge0
    go_wp2
    go_ret2
    exact HPOST.out v9 wE hk9 ho9
end Go.Proofs.Ytohknblokejldaa
end
