/- Joined texts, in this order: QuadObj, QuadNew. Each one's first remark says what it proves; no condition beyond those that its theorems name. -/
import Derived.Test.YtjbnfppnmljbmaaJLawLandMany21
section
/- Contracts of quad's New, Side, all, Set. -/
namespace Go.Proofs.Ytjbnfppnmljbmaa
open Go.RowKit Go.Deep
open Go.Lib (hid)
set_option linter.unusedVariables false
attribute [local go_sem] Oper.semAt_some

def rootC (k : Nat) (s : Sq) : Array Value := #[.int .i64 (sd k), c0S s, .int .u8 s.v]
structure QuadAt (w : World) (q : Nat) (F : Nat → Prop) (k : Nat) (s : Sq) : Prop where
  blk : Blk w q (rootC k s)
  sq : SqAt k w s
  nd : (q :: blkS k s).Nodup
  fr : ∀ b ∈ q :: blkS k s, F b
  le : k ≤ 8
theorem QuadAt.upd {S : Nat → Prop} {w w' : World} {q : Nat} {F : Nat → Prop} {k : Nat} {s : Sq} (h : QuadAt w q F k s) (hu : Upd S w w') (hS : ∀ b, S b → ¬ F b) : QuadAt w' q F k s :=
  ⟨h.blk.upd hu (fun z => hS q z (h.fr q (by simp))), h.sq.upd hu (fun b hb z => hS b z (h.fr b (List.mem_cons_of_mem _ hb))), h.nd, h.fr, h.le⟩
theorem QuadAt.below {w w' : World} {q : Nat} {F : Nat → Prop} {k : Nat} {s : Sq} (h : QuadAt w q F k s) (hb : Below w.heap.size w w') : QuadAt w' q F k s := h.upd (S := fun _ => False) (Upd.of_below hb) (fun _ z => z.elim)
theorem QuadAt.weaken {w : World} {q : Nat} {F G : Nat → Prop} {k : Nat} {s : Sq} (h : QuadAt w q F k s) (hG : ∀ b, F b → b < w.heap.size → G b) : QuadAt w q G k s :=
  ⟨h.blk, h.sq, h.nd, fun b hb => hG b (h.fr b hb) (by
    rcases List.mem_cons.1 hb with rfl | hb
    · exact h.blk.lt
    · exact h.sq.lt b hb), h.le⟩
theorem sd_le {k : Nat} (h : k ≤ 8) : sd k ≤ 256 := by
  unfold sd
  have : 2 ^ k ≤ 2 ^ 8 := Nat.pow_le_pow_right (by omega) h
  have e : (2 : Nat) ^ 8 = 256 := by decide
  omega
theorem QuadAt.own {w : World} {q : Nat} {F : Nat → Prop} {k : Nat} {s : Sq} (h : QuadAt w q F k s) : OwnOk k 0 0 := by
  have := sd_le h.le
  unfold OwnOk; omega
theorem QuadAt.c3 {w : World} {q : Nat} {F : Nat → Prop} {k : Nat} {s : Sq} (h : QuadAt w q F k s) : w.cell? ⟨q, 0, none⟩ = some (.int .i64 (sd k)) ∧ w.cell? ⟨q, 1, none⟩ = some (c0S s) ∧ w.cell? ⟨q, 2, none⟩ = some (.int .u8 s.v) :=
  ⟨by rw [h.blk.cell]; rfl, by rw [h.blk.cell]; rfl, by rw [h.blk.cell]; rfl⟩
set_option maxRecDepth 100000 in
theorem quad_Side (w : World) (q : Nat) (F : Nat → Prop) (k : Nat) (s : Sq) (h : QuadAt w q F k s) (S : Int) (hS : sd k = S) : Calls Try.prog 98 #[.pointer (some ⟨q, 0, none⟩)] w fun e w' => e = .returned (.int .i64 S) ∧ w' = w := by
  obtain ⟨c0, -, -⟩ := h.c3
  rw [hS] at c0
  clear h hS
  go_enter Try.func98, Try.ntmps98
  go_wp2_with fail
  go_ret
  exact ⟨rfl, rfl⟩
set_option maxRecDepth 100000 in
theorem quad_all (w : World) (q : Nat) (F : Nat → Prop) (k : Nat) (s : Sq) (h : QuadAt w q F k s) (S : Int) (hS : sd k = S) : Calls Try.prog 84 #[.pointer (some ⟨q, 0, none⟩)] w fun e w' => e = .returned (.agg #[.int .i64 0, .int .i64 0, .int .i64 S, .int .i64 S]) ∧ Below w.heap.size w w' := by
  obtain ⟨c0, -, -⟩ := h.c3
  rw [hS] at c0
  have HQ : Hid (q < w.heap.size) := hid h.blk.lt
  clear h hS
  go_enter Try.func84, Try.ntmps84
  go_upto_region 1 with fail
  obtain ⟨w1, hw1⟩ : ∃ w1, w1 = w.alloc (.cells #[.int .i64 0, .int .i64 0, .int .i64 0, .int .i64 0] 33) := ⟨_, rfl⟩
  rw [← hw1]
  obtain ⟨g, hg⟩ : ∃ g, g = w.heap.size := ⟨_, rfl⟩
  rw [← hg]
  have hb1 : Below w.heap.size w w1 := by rw [hw1]; exact Below.new _ _
  have hblk8 : Blk w1 g #[.int .i64 0, .int .i64 0, .int .i64 0, .int .i64 0] := by rw [hw1, hg]; exact Blk.new _ _ _
  have HB1 := hid hb1
  have HG := hid hg
  replace c0 := cellOf_belowR hb1 c0
  clear hw1 hg hb1
  replace c0 := fun (z : World) (hz : Below w1.heap.size w1 z) => cellOf_belowR hz c0
  have hyd := (Below.refl w1.heap.size w1).drew
  refine wp_region_kept [9] (fun z => Below w1.heap.size w1 z) (by kernel_rfl) (by assumption) (fun hH => ?_)
  refine wpK.take (i := 0) (v := _) (by simp only [List.getElem?_toArray, List.getElem?_cons_succ, List.getElem?_cons_zero]; rfl) (by kernel_rfl) (by kernel_rfl) (by kernel_rfl) (by kernel_rfl) (by kernel_rfl) (by exact fun _ _ _ h => h) (by first | exact Or.inl ⟨by rfl, by intro w hSw; go_simp; try with_reducible rfl⟩ | exact Or.inr ⟨by rfl, rfl⟩) hH ?_
  try simp only [Act.put, List.setIfInBounds_toArray, List.set_cons_zero, List.set_cons_succ]
  refine wpK.take (i := 1) (v := _) (by simp only [List.getElem?_toArray, List.getElem?_cons_succ, List.getElem?_cons_zero]; rfl) (by kernel_rfl) (by kernel_rfl) (by kernel_rfl) (by kernel_rfl) (by kernel_rfl) (by exact fun _ _ _ h => h) (by first | exact Or.inl ⟨by rfl, by intro w hSw; go_simp; try with_reducible rfl⟩ | exact Or.inr ⟨by rfl, rfl⟩) hH ?_
  try simp only [Act.put, List.setIfInBounds_toArray, List.set_cons_zero, List.set_cons_succ]
  refine wpK.take (i := 2) (v := _) (by simp only [List.getElem?_toArray, List.getElem?_cons_succ, List.getElem?_cons_zero]; rfl) (by kernel_rfl) (by kernel_rfl) (by kernel_rfl) (by kernel_rfl) (by kernel_rfl) (by exact fun _ _ _ h => h) (by first | exact Or.inl ⟨by rfl, by intro w hSw; go_simp; try with_reducible rfl⟩ | exact Or.inr ⟨by rfl, rfl⟩) hH ?_
  try simp only [Act.put, List.setIfInBounds_toArray, List.set_cons_zero, List.set_cons_succ]
  refine wpK.take (i := 3) (v := _) (by simp only [List.getElem?_toArray, List.getElem?_cons_succ, List.getElem?_cons_zero]; rfl) (by kernel_rfl) (by kernel_rfl) (by kernel_rfl) (by kernel_rfl) (by kernel_rfl) (by exact fun _ _ _ h => h) (by first | exact Or.inl ⟨by rfl, by intro w hSw; go_simp; try with_reducible rfl⟩ | exact Or.inr ⟨by rfl, rfl⟩) hH ?_
  try simp only [Act.put, List.setIfInBounds_toArray, List.set_cons_zero, List.set_cons_succ]
  refine wpK.take (i := 4) (v := _) (by simp only [List.getElem?_toArray, List.getElem?_cons_succ, List.getElem?_cons_zero]; rfl) (by kernel_rfl) (by kernel_rfl) (by kernel_rfl) (by kernel_rfl) (by kernel_rfl) (by exact fun _ _ _ h => h) (by first | exact Or.inl ⟨by rfl, by intro w hSw; go_simp; try with_reducible rfl⟩ | exact Or.inr ⟨by rfl, rfl⟩) hH ?_
  try simp only [Act.put, List.setIfInBounds_toArray, List.set_cons_zero, List.set_cons_succ]
  refine wpK.take (i := 5) (v := _) (by simp only [List.getElem?_toArray, List.getElem?_cons_succ, List.getElem?_cons_zero]; rfl) (by kernel_rfl) (by kernel_rfl) (by kernel_rfl) (by kernel_rfl) (by kernel_rfl) (by exact fun _ _ _ h => h) (by first | exact Or.inl ⟨by rfl, by intro w hSw; go_simp; try with_reducible rfl⟩ | exact Or.inr ⟨by rfl, rfl⟩) hH ?_
  try simp only [Act.put, List.setIfInBounds_toArray, List.set_cons_zero, List.set_cons_succ]
  refine wpK.take (i := 6) (v := _) (by simp only [List.getElem?_toArray, List.getElem?_cons_succ, List.getElem?_cons_zero]; rfl) (by kernel_rfl) (by kernel_rfl) (by kernel_rfl) (by kernel_rfl) (by kernel_rfl) (by exact fun _ _ _ h => h) (by first | exact Or.inl ⟨by rfl, by intro w hSw; go_simp; try with_reducible rfl⟩ | exact Or.inr ⟨by rfl, rfl⟩) hH ?_
  try simp only [Act.put, List.setIfInBounds_toArray, List.set_cons_zero, List.set_cons_succ]
  refine wpK.take (i := 7) (v := _) (by simp only [List.getElem?_toArray, List.getElem?_cons_succ, List.getElem?_cons_zero]; rfl) (by kernel_rfl) (by kernel_rfl) (by kernel_rfl) (by kernel_rfl) (by kernel_rfl) (by exact fun _ _ _ h => h) (by first | exact Or.inl ⟨by rfl, by intro w hSw; go_simp; try with_reducible rfl⟩ | exact Or.inr ⟨by rfl, rfl⟩) hH ?_
  try simp only [Act.put, List.setIfInBounds_toArray, List.set_cons_zero, List.set_cons_succ]
  refine wpK.take (i := 8) (v := _) (by simp only [List.getElem?_toArray, List.getElem?_cons_succ, List.getElem?_cons_zero]; rfl) (by kernel_rfl) (by kernel_rfl) (by kernel_rfl) (by kernel_rfl) (by kernel_rfl) (by exact fun _ _ _ h => h) (by first | exact Or.inl ⟨by rfl, by intro w hSw; go_simp; try with_reducible rfl⟩ | exact Or.inr ⟨by rfl, rfl⟩) hH ?_
  try simp only [Act.put, List.setIfInBounds_toArray, List.set_cons_zero, List.set_cons_succ]
  refine wpK.late (i := 9) (by kernel_rfl) (by simp only [List.getElem?_toArray, List.getElem?_cons_succ, List.getElem?_cons_zero]; rfl) (by kernel_rfl) (fun K hK => ?_)
  (obtain ⟨p0, p1, p2, p3⟩ := hblk8.c4r); (obtain ⟨f0, f1, f2, f3⟩ := hblk8.f4r); (obtain ⟨wz, hwz, hkz, huz⟩ := set4r hblk8 (.int .i64 0) (.int .i64 0) (.int .i64 S) (.int .i64 S)); (have HBZ : Hid (Below w.heap.size w wz) := hid (HB1.out.trans (huz.below HB1.out.size (fun k _ q => by rw [q]; have := HG.out; omega)))); (have HWZ := hid hwz); (have HKZ := hid hkz); clear hwz hkz huz; go_simp; (try rw [← HWZ.out])
  refine hK.out _ _ ?_
  clear hK K
  try simp only [Act.put, List.setIfInBounds_toArray, List.set_cons_zero, List.set_cons_succ]
  refine wpK.done (by kernel_rfl) ?_ _
  clear c0 hyd hH
  obtain ⟨z0, z1, z2, z3⟩ := HKZ.out.c4r
  go_wp2_with fail
  refine bodyPost_ret (results_cell1 rfl _ _ _ rfl (by go_simp; rfl)) rfl ?_
  exact ⟨rfl, HBZ.out.drew⟩
def allR (k : Nat) : R4 := ownR k 0 0
def SetQPost (w : World) (q : Nat) (F : Nat → Prop) (k : Nat) (s : Sq) (r : R4) (e : Ending) (w' : World) : Prop :=
  (InR r (allR k) ∧ ∃ (s' : Sq) (F' : Nat → Prop), e = .returned (.int .i64 0) ∧ QuadAt w' q F' k s' ∧ Upd F w w' ∧ (∀ b, F' b → F b ∨ w.heap.size ≤ b) ∧ SetOk k s s' 0 0 r 1) ∨
  (¬ InR r (allR k) ∧ e = .returned (.int .i64 11) ∧ Below w.heap.size w w')
set_option maxRecDepth 100000 in
set_option maxHeartbeats 4000000 in
theorem quad_Set (w : World) (q : Nat) (F : Nat → Prop) (k : Nat) (s : Sq) (rx ry ra rb : Int) (h : QuadAt w q F k s) :
    Calls Try.prog 64 #[.pointer (some ⟨q, 0, none⟩), .agg #[.int .i64 rx, .int .i64 ry, .int .i64 ra, .int .i64 rb], .int .i64 1] w (SetQPost w q F k s (rx, ry, ra, rb)) := by
  obtain ⟨S, hS⟩ : ∃ S, sd k = S := ⟨_, rfl⟩
  have HS := hid hS
  have HQ := hid h
  clear h hS
  go_enter Try.func64, Try.ntmps64
  go_upto_region 1 with fail
  obtain ⟨w1, hw1⟩ : ∃ w1, w1 = w.alloc (.cells #[.int .i64 rx, .int .i64 ry, .int .i64 ra, .int .i64 rb] 33) := ⟨_, rfl⟩
  rw [← hw1]
  obtain ⟨g, hg⟩ : ∃ g, g = w.heap.size := ⟨_, rfl⟩
  rw [← hg]
  have hb1 : Below w.heap.size w w1 := by rw [hw1]; exact Below.new _ _
  have hX : Blk w1 g #[.int .i64 rx, .int .i64 ry, .int .i64 ra, .int .i64 rb] := by rw [hw1, hg]; exact Blk.new _ _ _
  have HX := hid hX
  have HB1 := hid hb1
  have HG := hid hg
  obtain ⟨e0, e1, e2, e3⟩ := hX.c4r
  clear hw1 hg hb1 hX
  replace e0 := fun (z : World) (hz : Below w1.heap.size w1 z) => cellOf_belowR hz e0
  replace e1 := fun (z : World) (hz : Below w1.heap.size w1 z) => cellOf_belowR hz e1
  replace e2 := fun (z : World) (hz : Below w1.heap.size w1 z) => cellOf_belowR hz e2
  replace e3 := fun (z : World) (hz : Below w1.heap.size w1 z) => cellOf_belowR hz e3
  have hyd := (Below.refl w1.heap.size w1).drew
  obtain ⟨qi, hqi⟩ : ∃ b, decide (InR (rx, ry, ra, rb) (0, 0, S, S)) = b := ⟨_, rfl⟩
  have HIN : Hid (∀ z, Calls Try.prog 66 #[.agg #[.int .i64 rx, .int .i64 ry, .int .i64 ra, .int .i64 rb], .agg #[.int .i64 0, .int .i64 0, .int .i64 S, .int .i64 S]] z fun e w' => e = .returned (.bool qi) ∧ Below z.heap.size z w') := hid (fun z => by
    have := rect_In4 rx ry ra rb 0 0 S S z
    rw [hqi] at this; exact this)
  have HQI := hid hqi
  clear hqi
  cases qi with
  | false =>
    have HNI : Hid (¬ InR (rx, ry, ra, rb) (allR k)) := hid (by have := of_decide_eq_false HQI.out; unfold allR ownR; rw [HS.out]; exact this)
    refine wp_region_kept [] (fun z => Below w1.heap.size w1 z) (by kernel_rfl) (by assumption) (fun hH => ?_)
    refine wpK.take (i := 0) (v := _) (by simp only [List.getElem?_toArray, List.getElem?_cons_succ, List.getElem?_cons_zero]; rfl) (by kernel_rfl) (by kernel_rfl) (by kernel_rfl) (by kernel_rfl) (by kernel_rfl) (by exact fun _ _ _ h => h) (by first | exact Or.inl ⟨by rfl, by intro w hSw; go_simp; try with_reducible rfl⟩ | exact Or.inr ⟨by rfl, rfl⟩) hH ?_
    try simp only [Act.put, List.setIfInBounds_toArray, List.set_cons_zero, List.set_cons_succ]
    refine wpK.take (i := 1) (v := _) (by simp only [List.getElem?_toArray, List.getElem?_cons_succ, List.getElem?_cons_zero]; rfl) (by kernel_rfl) (by kernel_rfl) (by kernel_rfl) (by kernel_rfl) (by kernel_rfl) (by exact fun _ _ _ h => h) (by first | exact Or.inl ⟨by rfl, by intro w hSw; go_simp; try with_reducible rfl⟩ | exact Or.inr ⟨by rfl, rfl⟩) hH ?_
    try simp only [Act.put, List.setIfInBounds_toArray, List.set_cons_zero, List.set_cons_succ]
    refine wpK.step (i := 2) (by kernel_rfl) (by simp only [List.getElem?_toArray, List.getElem?_cons_succ, List.getElem?_cons_zero]; rfl) (fun K hK => ?_)
    go_simp
    (refine (quad_all _ q F k s ((HQ.out.below HB1.out).below hyd) S HS.out).mono ?_); rintro e w3 ⟨rfl, hb3⟩; (have hk3 := Below.next hyd hb3); go_simp
    refine hK.out _ _ (by assumption) (fun hH => ?_)
    clear hK K
    try simp only [Act.put, List.setIfInBounds_toArray, List.set_cons_zero, List.set_cons_succ]
    refine wpK.step (i := 3) (by kernel_rfl) (by simp only [List.getElem?_toArray, List.getElem?_cons_succ, List.getElem?_cons_zero]; rfl) (fun K hK => ?_)
    go_simp
    (refine (HIN.out _).mono ?_); rintro e w4 ⟨rfl, hb4⟩; (have hk4 := Below.next hk3 hb4); go_simp
    refine hK.out _ _ (by assumption) (fun hH => ?_)
    clear hK K
    try simp only [Act.put, List.setIfInBounds_toArray, List.set_cons_zero, List.set_cons_succ]
    refine wpK.take (i := 4) (v := _) (by simp only [List.getElem?_toArray, List.getElem?_cons_succ, List.getElem?_cons_zero]; rfl) (by kernel_rfl) (by kernel_rfl) (by kernel_rfl) (by kernel_rfl) (by kernel_rfl) (by exact fun _ _ _ h => h) (by first | exact Or.inl ⟨by rfl, by intro w hSw; go_simp; try with_reducible rfl⟩ | exact Or.inr ⟨by rfl, rfl⟩) hH ?_
    try simp only [Act.put, List.setIfInBounds_toArray, List.set_cons_zero, List.set_cons_succ]
    refine wpK.take (i := 5) (v := _) (by simp only [List.getElem?_toArray, List.getElem?_cons_succ, List.getElem?_cons_zero]; rfl) (by kernel_rfl) (by kernel_rfl) (by kernel_rfl) (by kernel_rfl) (by kernel_rfl) (by exact fun _ _ _ h => h) (by first | exact Or.inl ⟨by rfl, by intro w hSw; go_simp; try with_reducible rfl⟩ | exact Or.inr ⟨by rfl, rfl⟩) hH ?_
    try simp only [Act.put, List.setIfInBounds_toArray, List.set_cons_zero, List.set_cons_succ]
    refine wpK.take (i := 6) (v := _) (by simp only [List.getElem?_toArray, List.getElem?_cons_succ, List.getElem?_cons_zero]; rfl) (by kernel_rfl) (by kernel_rfl) (by kernel_rfl) (by kernel_rfl) (by kernel_rfl) (by exact fun _ _ _ h => h) (by first | exact Or.inl ⟨by rfl, by intro w hSw; go_simp; try with_reducible rfl⟩ | exact Or.inr ⟨by rfl, rfl⟩) hH ?_
    try simp only [Act.put, List.setIfInBounds_toArray, List.set_cons_zero, List.set_cons_succ]
    refine wpK.take (i := 7) (v := _) (by simp only [List.getElem?_toArray, List.getElem?_cons_succ, List.getElem?_cons_zero]; rfl) (by kernel_rfl) (by kernel_rfl) (by kernel_rfl) (by kernel_rfl) (by kernel_rfl) (by exact fun _ _ _ h => h) (by first | exact Or.inl ⟨by rfl, by intro w hSw; go_simp; try with_reducible rfl⟩ | exact Or.inr ⟨by rfl, rfl⟩) hH ?_
    try simp only [Act.put, List.setIfInBounds_toArray, List.set_cons_zero, List.set_cons_succ]
    refine wpK.take (i := 8) (v := _) (by simp only [List.getElem?_toArray, List.getElem?_cons_succ, List.getElem?_cons_zero]; rfl) (by kernel_rfl) (by kernel_rfl) (by kernel_rfl) (by kernel_rfl) (by kernel_rfl) (by exact fun _ _ _ h => h) (by first | exact Or.inl ⟨by rfl, by intro w hSw; go_simp; try with_reducible rfl⟩ | exact Or.inr ⟨by rfl, rfl⟩) hH ?_
    try simp only [Act.put, List.setIfInBounds_toArray, List.set_cons_zero, List.set_cons_succ]
    refine wpK.take (i := 9) (v := _) (by simp only [List.getElem?_toArray, List.getElem?_cons_succ, List.getElem?_cons_zero]; rfl) (by kernel_rfl) (by kernel_rfl) (by kernel_rfl) (by kernel_rfl) (by kernel_rfl) (by exact fun _ _ _ h => h) (by first | exact Or.inl ⟨by rfl, by intro w hSw; go_simp; try with_reducible rfl⟩ | exact Or.inr ⟨by rfl, rfl⟩) hH ?_
    try simp only [Act.put, List.setIfInBounds_toArray, List.set_cons_zero, List.set_cons_succ]
    refine wpK.take (i := 10) (v := _) (by simp only [List.getElem?_toArray, List.getElem?_cons_succ, List.getElem?_cons_zero]; rfl) (by kernel_rfl) (by kernel_rfl) (by kernel_rfl) (by kernel_rfl) (by kernel_rfl) (by exact fun _ _ _ h => h) (by first | exact Or.inl ⟨by rfl, by intro w hSw; go_simp; try with_reducible rfl⟩ | exact Or.inr ⟨by rfl, rfl⟩) hH ?_
    try simp only [Act.put, List.setIfInBounds_toArray, List.set_cons_zero, List.set_cons_succ]
    refine wpK.take (i := 11) (v := _) (by simp only [List.getElem?_toArray, List.getElem?_cons_succ, List.getElem?_cons_zero]; rfl) (by kernel_rfl) (by kernel_rfl) (by kernel_rfl) (by kernel_rfl) (by kernel_rfl) (by exact fun _ _ _ h => h) (by first | exact Or.inl ⟨by rfl, by intro w hSw; go_simp; try with_reducible rfl⟩ | exact Or.inr ⟨by rfl, rfl⟩) hH ?_
    try simp only [Act.put, List.setIfInBounds_toArray, List.set_cons_zero, List.set_cons_succ]
    refine wpK.take (i := 12) (v := _) (by simp only [List.getElem?_toArray, List.getElem?_cons_succ, List.getElem?_cons_zero]; rfl) (by kernel_rfl) (by kernel_rfl) (by kernel_rfl) (by kernel_rfl) (by kernel_rfl) (by exact fun _ _ _ h => h) (by first | exact Or.inl ⟨by rfl, by intro w hSw; go_simp; try with_reducible rfl⟩ | exact Or.inr ⟨by rfl, rfl⟩) hH ?_
    try simp only [Act.put, List.setIfInBounds_toArray, List.set_cons_zero, List.set_cons_succ]
    refine wpK.done (by kernel_rfl) ?_ _
    have HZ := hid (Below.next HB1.out hk4)
    clear e0 e1 e2 e3 hyd hH hk3 hk4 hb3 hb4
    go_wp2_with fail
    go_ret
    exact .inr ⟨HNI.out, rfl, HZ.out⟩
  | true =>
    have HIR : Hid (InR (rx, ry, ra, rb) (allR k)) := hid (by have := of_decide_eq_true HQI.out; unfold allR ownR; rw [HS.out]; exact this)
    refine wp_region_kept [] (fun z => Below w1.heap.size w1 z) (by kernel_rfl) (by assumption) (fun hH => ?_)
    refine wpK.take (i := 0) (v := _) (by simp only [List.getElem?_toArray, List.getElem?_cons_succ, List.getElem?_cons_zero]; rfl) (by kernel_rfl) (by kernel_rfl) (by kernel_rfl) (by kernel_rfl) (by kernel_rfl) (by exact fun _ _ _ h => h) (by first | exact Or.inl ⟨by rfl, by intro w hSw; go_simp; try with_reducible rfl⟩ | exact Or.inr ⟨by rfl, rfl⟩) hH ?_
    try simp only [Act.put, List.setIfInBounds_toArray, List.set_cons_zero, List.set_cons_succ]
    refine wpK.take (i := 1) (v := _) (by simp only [List.getElem?_toArray, List.getElem?_cons_succ, List.getElem?_cons_zero]; rfl) (by kernel_rfl) (by kernel_rfl) (by kernel_rfl) (by kernel_rfl) (by kernel_rfl) (by exact fun _ _ _ h => h) (by first | exact Or.inl ⟨by rfl, by intro w hSw; go_simp; try with_reducible rfl⟩ | exact Or.inr ⟨by rfl, rfl⟩) hH ?_
    try simp only [Act.put, List.setIfInBounds_toArray, List.set_cons_zero, List.set_cons_succ]
    refine wpK.step (i := 2) (by kernel_rfl) (by simp only [List.getElem?_toArray, List.getElem?_cons_succ, List.getElem?_cons_zero]; rfl) (fun K hK => ?_)
    go_simp
    (refine (quad_all _ q F k s ((HQ.out.below HB1.out).below hyd) S HS.out).mono ?_); rintro e w3 ⟨rfl, hb3⟩; (have hk3 := Below.next hyd hb3); go_simp
    refine hK.out _ _ (by assumption) (fun hH => ?_)
    clear hK K
    try simp only [Act.put, List.setIfInBounds_toArray, List.set_cons_zero, List.set_cons_succ]
    refine wpK.step (i := 3) (by kernel_rfl) (by simp only [List.getElem?_toArray, List.getElem?_cons_succ, List.getElem?_cons_zero]; rfl) (fun K hK => ?_)
    go_simp
    (refine (HIN.out _).mono ?_); rintro e w4 ⟨rfl, hb4⟩; (have hk4 := Below.next hk3 hb4); go_simp
    refine hK.out _ _ (by assumption) (fun hH => ?_)
    clear hK K
    try simp only [Act.put, List.setIfInBounds_toArray, List.set_cons_zero, List.set_cons_succ]
    refine wpK.take (i := 4) (v := _) (by simp only [List.getElem?_toArray, List.getElem?_cons_succ, List.getElem?_cons_zero]; rfl) (by kernel_rfl) (by kernel_rfl) (by kernel_rfl) (by kernel_rfl) (by kernel_rfl) (by exact fun _ _ _ h => h) (by first | exact Or.inl ⟨by rfl, by intro w hSw; go_simp; try with_reducible rfl⟩ | exact Or.inr ⟨by rfl, rfl⟩) hH ?_
    try simp only [Act.put, List.setIfInBounds_toArray, List.set_cons_zero, List.set_cons_succ]
    refine wpK.take (i := 5) (v := _) (by simp only [List.getElem?_toArray, List.getElem?_cons_succ, List.getElem?_cons_zero]; rfl) (by kernel_rfl) (by kernel_rfl) (by kernel_rfl) (by kernel_rfl) (by kernel_rfl) (by exact fun _ _ _ h => h) (by first | exact Or.inl ⟨by rfl, by intro w hSw; go_simp; try with_reducible rfl⟩ | exact Or.inr ⟨by rfl, rfl⟩) hH ?_
    try simp only [Act.put, List.setIfInBounds_toArray, List.set_cons_zero, List.set_cons_succ]
    refine wpK.take (i := 6) (v := _) (by simp only [List.getElem?_toArray, List.getElem?_cons_succ, List.getElem?_cons_zero]; rfl) (by kernel_rfl) (by kernel_rfl) (by kernel_rfl) (by kernel_rfl) (by kernel_rfl) (by exact fun _ _ _ h => h) (by first | exact Or.inl ⟨by rfl, by intro w hSw; go_simp; try with_reducible rfl⟩ | exact Or.inr ⟨by rfl, rfl⟩) hH ?_
    try simp only [Act.put, List.setIfInBounds_toArray, List.set_cons_zero, List.set_cons_succ]
    refine wpK.take (i := 7) (v := _) (by simp only [List.getElem?_toArray, List.getElem?_cons_succ, List.getElem?_cons_zero]; rfl) (by kernel_rfl) (by kernel_rfl) (by kernel_rfl) (by kernel_rfl) (by kernel_rfl) (by exact fun _ _ _ h => h) (by first | exact Or.inl ⟨by rfl, by intro w hSw; go_simp; try with_reducible rfl⟩ | exact Or.inr ⟨by rfl, rfl⟩) hH ?_
    try simp only [Act.put, List.setIfInBounds_toArray, List.set_cons_zero, List.set_cons_succ]
    refine wpK.take (i := 8) (v := _) (by simp only [List.getElem?_toArray, List.getElem?_cons_succ, List.getElem?_cons_zero]; rfl) (by kernel_rfl) (by kernel_rfl) (by kernel_rfl) (by kernel_rfl) (by kernel_rfl) (by exact fun _ _ _ h => h) (by first | exact Or.inl ⟨by rfl, by intro w hSw; go_simp; try with_reducible rfl⟩ | exact Or.inr ⟨by rfl, rfl⟩) hH ?_
    try simp only [Act.put, List.setIfInBounds_toArray, List.set_cons_zero, List.set_cons_succ]
    refine wpK.take (i := 9) (v := _) (by simp only [List.getElem?_toArray, List.getElem?_cons_succ, List.getElem?_cons_zero]; rfl) (by kernel_rfl) (by kernel_rfl) (by kernel_rfl) (by kernel_rfl) (by kernel_rfl) (by exact fun _ _ _ h => h) (by first | exact Or.inl ⟨by rfl, by intro w hSw; go_simp; try with_reducible rfl⟩ | exact Or.inr ⟨by rfl, rfl⟩) hH ?_
    try simp only [Act.put, List.setIfInBounds_toArray, List.set_cons_zero, List.set_cons_succ]
    refine wpK.take (i := 10) (v := _) (by simp only [List.getElem?_toArray, List.getElem?_cons_succ, List.getElem?_cons_zero]; rfl) (by kernel_rfl) (by kernel_rfl) (by kernel_rfl) (by kernel_rfl) (by kernel_rfl) (by exact fun _ _ _ h => h) (by first | exact Or.inl ⟨by rfl, by intro w hSw; go_simp; try with_reducible rfl⟩ | exact Or.inr ⟨by rfl, rfl⟩) hH ?_
    try simp only [Act.put, List.setIfInBounds_toArray, List.set_cons_zero, List.set_cons_succ]
    refine wpK.take (i := 11) (v := _) (by simp only [List.getElem?_toArray, List.getElem?_cons_succ, List.getElem?_cons_zero]; rfl) (by kernel_rfl) (by kernel_rfl) (by kernel_rfl) (by kernel_rfl) (by kernel_rfl) (by exact fun _ _ _ h => h) (by first | exact Or.inl ⟨by rfl, by intro w hSw; go_simp; try with_reducible rfl⟩ | exact Or.inr ⟨by rfl, rfl⟩) hH ?_
    try simp only [Act.put, List.setIfInBounds_toArray, List.set_cons_zero, List.set_cons_succ]
    refine wpK.take (i := 12) (v := _) (by simp only [List.getElem?_toArray, List.getElem?_cons_succ, List.getElem?_cons_zero]; rfl) (by kernel_rfl) (by kernel_rfl) (by kernel_rfl) (by kernel_rfl) (by kernel_rfl) (by exact fun _ _ _ h => h) (by first | exact Or.inl ⟨by rfl, by intro w hSw; go_simp; try with_reducible rfl⟩ | exact Or.inr ⟨by rfl, rfl⟩) hH ?_
    try simp only [Act.put, List.setIfInBounds_toArray, List.set_cons_zero, List.set_cons_succ]
    refine wpK.done (by kernel_rfl) ?_ _
    have HK4 := hid hk4
    have HQ4 := hid ((HQ.out.below HB1.out).below hk4)
    have hX4 : Blk w4 g #[.int .i64 rx, .int .i64 ry, .int .i64 ra, .int .i64 rb] := HX.out.below hk4
    have HB4 := hid (Below.next HB1.out hk4)
    clear e0 e1 e2 e3 hyd hH hk3 hk4 hb3 hb4
    obtain ⟨e0, e1, e2, e3⟩ := hX4.c4r
    go_upto_region 3 with fail
    clear hX4
    obtain ⟨U, hU⟩ : ∃ U : Nat → Prop, U = fun b => b = q ∨ b ∈ blkS k s := ⟨_, rfl⟩
    have HU := hid hU
    have hgU : ¬ U g := by
      rw [hU]
      have h1 := HG.out
      rintro (z | z)
      · have := HQ.out.blk.lt; omega
      · have := HQ.out.sq.lt g z; omega
    replace e0 := fun (z : World) (hz : Upd U w4 z) => hz.cell e0 hgU
    replace e1 := fun (z : World) (hz : Upd U w4 z) => hz.cell e1 hgU
    replace e2 := fun (z : World) (hz : Upd U w4 z) => hz.cell e2 hgU
    replace e3 := fun (z : World) (hz : Upd U w4 z) => hz.cell e3 hgU
    have hyb := (Below.refl w4.heap.size w4).drew
    have hyd : Upd U w4 w4.drew := Upd.of_below hyb
    clear hgU hU
    have HST : Hid (∀ z, Below w4.heap.size w4 z → Calls Try.prog 86 #[.pointer (some ⟨q, 1, none⟩), .agg #[.int .i64 0, .int .i64 0, .int .i64 S, .int .i64 S], .agg #[.int .i64 rx, .int .i64 ry, .int .i64 ra, .int .i64 rb], .int .u8 1] z (SetPost k z q 1 (rootC k s) s 0 0 (rx, ry, ra, rb) 1)) := hid (fun z hz => by
      have hq := HQ4.out.below hz
      have := quad_set k s 0 0 rx ry ra rb 1 z q 1 (rootC k s) hq.sq hq.blk rfl rfl hq.nd hq.own ⟨by omega, by omega⟩
      rw [HS.out] at this; exact this)
    refine wp_region_kept [] (fun z => Upd U w4 z) (by kernel_rfl) (by assumption) (fun hH => ?_)
    refine wpK.take (i := 0) (v := _) (by simp only [List.getElem?_toArray, List.getElem?_cons_succ, List.getElem?_cons_zero]; rfl) (by kernel_rfl) (by kernel_rfl) (by kernel_rfl) (by kernel_rfl) (by kernel_rfl) (by exact fun _ _ _ h => h) (by first | exact Or.inl ⟨by rfl, by intro w hSw; go_simp; try with_reducible rfl⟩ | exact Or.inr ⟨by rfl, rfl⟩) hH ?_
    try simp only [Act.put, List.setIfInBounds_toArray, List.set_cons_zero, List.set_cons_succ]
    refine wpK.take (i := 1) (v := _) (by simp only [List.getElem?_toArray, List.getElem?_cons_succ, List.getElem?_cons_zero]; rfl) (by kernel_rfl) (by kernel_rfl) (by kernel_rfl) (by kernel_rfl) (by kernel_rfl) (by exact fun _ _ _ h => h) (by first | exact Or.inl ⟨by rfl, by intro w hSw; go_simp; try with_reducible rfl⟩ | exact Or.inr ⟨by rfl, rfl⟩) hH ?_
    try simp only [Act.put, List.setIfInBounds_toArray, List.set_cons_zero, List.set_cons_succ]
    refine wpK.take (i := 2) (v := _) (by simp only [List.getElem?_toArray, List.getElem?_cons_succ, List.getElem?_cons_zero]; rfl) (by kernel_rfl) (by kernel_rfl) (by kernel_rfl) (by kernel_rfl) (by kernel_rfl) (by exact fun _ _ _ h => h) (by first | exact Or.inl ⟨by rfl, by intro w hSw; go_simp; try with_reducible rfl⟩ | exact Or.inr ⟨by rfl, rfl⟩) hH ?_
    try simp only [Act.put, List.setIfInBounds_toArray, List.set_cons_zero, List.set_cons_succ]
    refine wpK.take (i := 3) (v := _) (by simp only [List.getElem?_toArray, List.getElem?_cons_succ, List.getElem?_cons_zero]; rfl) (by kernel_rfl) (by kernel_rfl) (by kernel_rfl) (by kernel_rfl) (by kernel_rfl) (by exact fun _ _ _ h => h) (by first | exact Or.inl ⟨by rfl, by intro w hSw; go_simp; try with_reducible rfl⟩ | exact Or.inr ⟨by rfl, rfl⟩) hH ?_
    try simp only [Act.put, List.setIfInBounds_toArray, List.set_cons_zero, List.set_cons_succ]
    refine wpK.take (i := 5) (v := _) (by simp only [List.getElem?_toArray, List.getElem?_cons_succ, List.getElem?_cons_zero]; rfl) (by kernel_rfl) (by kernel_rfl) (by kernel_rfl) (by kernel_rfl) (by kernel_rfl) (by exact fun _ _ _ h => h) (by first | exact Or.inl ⟨by rfl, by intro w hSw; go_simp; try with_reducible rfl⟩ | exact Or.inr ⟨by rfl, rfl⟩) hH ?_
    try simp only [Act.put, List.setIfInBounds_toArray, List.set_cons_zero, List.set_cons_succ]
    refine wpK.take (i := 6) (v := _) (by simp only [List.getElem?_toArray, List.getElem?_cons_succ, List.getElem?_cons_zero]; rfl) (by kernel_rfl) (by kernel_rfl) (by kernel_rfl) (by kernel_rfl) (by kernel_rfl) (by exact fun _ _ _ h => h) (by first | exact Or.inl ⟨by rfl, by intro w hSw; go_simp; try with_reducible rfl⟩ | exact Or.inr ⟨by rfl, rfl⟩) hH ?_
    try simp only [Act.put, List.setIfInBounds_toArray, List.set_cons_zero, List.set_cons_succ]
    refine wpK.take (i := 7) (v := _) (by simp only [List.getElem?_toArray, List.getElem?_cons_succ, List.getElem?_cons_zero]; rfl) (by kernel_rfl) (by kernel_rfl) (by kernel_rfl) (by kernel_rfl) (by kernel_rfl) (by exact fun _ _ _ h => h) (by first | exact Or.inl ⟨by rfl, by intro w hSw; go_simp; try with_reducible rfl⟩ | exact Or.inr ⟨by rfl, rfl⟩) hH ?_
    try simp only [Act.put, List.setIfInBounds_toArray, List.set_cons_zero, List.set_cons_succ]
    refine wpK.step (i := 4) (by kernel_rfl) (by simp only [List.getElem?_toArray, List.getElem?_cons_succ, List.getElem?_cons_zero]; rfl) (fun K hK => ?_)
    go_simp
    (refine (quad_all _ q F k s (HQ4.out.below hyb) S HS.out).mono ?_); rintro e w5 ⟨rfl, hb5⟩; (have hkb := Below.next hyb hb5); (have hk5 : Upd U w4 w5 := Upd.of_below hkb); go_simp
    refine hK.out _ _ (by assumption) (fun hH => ?_)
    clear hK K
    try simp only [Act.put, List.setIfInBounds_toArray, List.set_cons_zero, List.set_cons_succ]
    refine wpK.step (i := 8) (by kernel_rfl) (by simp only [List.getElem?_toArray, List.getElem?_cons_succ, List.getElem?_cons_zero]; rfl) (fun K hK => ?_)
    go_simp
    (refine (HST.out _ hkb).mono ?_); rintro e w6 ⟨s', rfl, hs1, hs2, hs3, hs4, hs5, hs6⟩; (have HK5 := hid hkb); (have hk6 : Upd U w4 w6 := (Upd.of_below hkb).trans hs5 (fun b _ z => by rw [HU.out]; exact z)); (have HSS := hid (And.intro hs1 (And.intro hs2 (And.intro hs3 (And.intro hs4 (And.intro hs5 hs6)))))); clear hs1 hs2 hs3 hs4 hs5 hs6; go_simp
    refine hK.out _ _ (by assumption) (fun hH => ?_)
    clear hK K
    try simp only [Act.put, List.setIfInBounds_toArray, List.set_cons_zero, List.set_cons_succ]
    refine wpK.done (by kernel_rfl) ?_ _
    clear e0 e1 e2 e3 hyd hyb hH hk5 hkb hb5 hk6
    go_wp2_with fail
    go_ret
    obtain ⟨hs1, hs2, hs3, hs4, hs5, hs6⟩ := HSS.out
    have hq5 := (HQ4.out.below HK5.out)
    have hz4 := (Below.next HB4.out HK5.out)
    have hzs := hz4.size
    refine .inl ⟨HIR.out, s', fun b => b ∈ q :: blkS k s', rfl, ⟨by simpa [rootC, set2] using hs2, hs1, hs3, fun b hb => hb, HQ.out.le⟩, ?_, fun b hb => ?_, hs6⟩
    · refine (Upd.of_below hz4).trans hs5 (fun b _ z => ?_)
      rcases z with z | z
      · rw [z]; exact HQ.out.fr q (by simp)
      · exact HQ.out.fr b (List.mem_cons_of_mem _ z)
    · rcases List.mem_cons.1 hb with rfl | hb
      · exact .inl (HQ.out.fr _ (by simp))
      · rcases hs4 b hb with z | z
        · exact .inl (HQ.out.fr b (List.mem_cons_of_mem _ z))
        · exact .inr (by omega)
end Go.Proofs.Ytjbnfppnmljbmaa
end
section
/- Contracts of quad's right, New. -/
namespace Go.Proofs.Ytjbnfppnmljbmaa
open Go.RowKit Go.Deep
open Go.Lib (hid)
set_option linter.unusedVariables false
attribute [local go_sem] Oper.semAt_some

def rightQ (a : Int) : Bool := decide (1 ≤ a) && (decide (a ≤ 256) && decide (bits .and .i64 a (a - 1) = 0))
theorem rightQ_all : ∀ n : Fin 257, 16 ≤ n.val → (rightQ (n.val : Int) = true ↔ (n.val = 16 ∨ n.val = 32 ∨ n.val = 64 ∨ n.val = 128 ∨ n.val = 256)) := by decide +kernel
set_option maxRecDepth 100000 in
theorem quad_right (a : Int) (w : World) : Calls Try.prog 85 #[.int .i64 a] w fun e w' => e = .returned (.bool (rightQ a)) ∧ w' = w := by
  obtain ⟨b, hb⟩ : ∃ b, rightQ a = b := ⟨_, rfl⟩
  have HB := hid hb
  rw [hb]
  clear hb
  go_enter Try.func85, Try.ntmps85
  by_cases h1 : 1 ≤ a
  · by_cases h2 : a ≤ 256
    · have hw : IntKind.i64.wrap (a - 1) = a - 1 := by rw [IntKind.wrap_i64]; omega
      obtain ⟨c, hc⟩ : ∃ c, bits .and .i64 a (a - 1) = c := ⟨_, rfl⟩
      have HBC : Hid ((c == 0) = b) := hid (by
        have := HB.out
        unfold rightQ at this
        rw [decide_eq_true h1, decide_eq_true h2, hc] at this
        rw [← this]; simp [BEq.beq])
      go_wp2_with fail
      rw [HBC.out]
      go_ret
      exact ⟨rfl, rfl⟩
    · have h2' : ¬ a ≤ 256 := h2
      have hbf : b = false := by rw [← HB.out]; unfold rightQ; rw [decide_eq_false h2]; simp
      subst hbf
      go_wp2_with fail
      go_ret
      exact ⟨rfl, rfl⟩
  · have hbf : b = false := by rw [← HB.out]; unfold rightQ; rw [decide_eq_false h1]; simp
    subst hbf
    go_wp2_with fail
    go_ret
    exact ⟨rfl, rfl⟩
theorem rightQ_pow : ∀ n : Fin 257, rightQ (n.val : Int) = true → (n.val = 1 ∨ n.val = 2 ∨ n.val = 4 ∨ n.val = 8 ∨ n.val = 16 ∨ n.val = 32 ∨ n.val = 64 ∨ n.val = 128 ∨ n.val = 256) := by decide +kernel
theorem rightQ_nat {a : Int} (h : rightQ a = true) : ∃ n : Fin 257, a = (n.val : Int) := by
  unfold rightQ at h
  simp only [Bool.and_eq_true, decide_eq_true_eq] at h
  exact ⟨⟨a.toNat, by omega⟩, by simp; omega⟩
theorem rightQ_sd {a : Int} (h : rightQ a = true) : ∃ k, k ≤ 8 ∧ a = sd k := by
  obtain ⟨n, rfl⟩ := rightQ_nat h
  rcases rightQ_pow n h with e | e | e | e | e | e | e | e | e <;> rw [e]
  · exact ⟨0, by omega, rfl⟩
  · exact ⟨1, by omega, rfl⟩
  · exact ⟨2, by omega, rfl⟩
  · exact ⟨3, by omega, rfl⟩
  · exact ⟨4, by omega, rfl⟩
  · exact ⟨5, by omega, rfl⟩
  · exact ⟨6, by omega, rfl⟩
  · exact ⟨7, by omega, rfl⟩
  · exact ⟨8, by omega, rfl⟩
theorem rightQ_16 (a : Int) : (rightQ a = true ∧ 16 ≤ a) ↔ (a = 16 ∨ a = 32 ∨ a = 64 ∨ a = 128 ∨ a = 256) := by
  constructor
  · rintro ⟨h, h16⟩
    obtain ⟨n, rfl⟩ := rightQ_nat h
    have := (rightQ_all n (by omega)).1 h
    omega
  · intro h
    have key : ∀ n : Fin 257, 16 ≤ n.val → (n.val = 16 ∨ n.val = 32 ∨ n.val = 64 ∨ n.val = 128 ∨ n.val = 256) → rightQ (n.val : Int) = true ∧ 16 ≤ (n.val : Int) := fun n h1 h2 => ⟨(rightQ_all n h1).2 h2, by omega⟩
    rcases h with rfl | rfl | rfl | rfl | rfl
    · exact key ⟨16, by omega⟩ (by simp) (by simp)
    · exact key ⟨32, by omega⟩ (by simp) (by simp)
    · exact key ⟨64, by omega⟩ (by simp) (by simp)
    · exact key ⟨128, by omega⟩ (by simp) (by simp)
    · exact key ⟨256, by omega⟩ (by simp) (by simp)
def sq0 : Sq := ⟨0, 0, []⟩
def NewQPost (w : World) (a : Int) (e : Ending) (w' : World) : Prop :=
  (rightQ a = false ∧ e = .returned (.pointer none) ∧ w' = w) ∨ (rightQ a = true ∧ ∃ q k, a = sd k ∧ e = .returned (.pointer (some ⟨q, 0, none⟩)) ∧ QuadAt w' q (fun b => w.heap.size ≤ b) k sq0 ∧ Below w.heap.size w w')
set_option maxRecDepth 100000 in
theorem quad_New (a : Int) (w : World) : Calls Try.prog 63 #[.int .i64 a] w (NewQPost w a) := by
  obtain ⟨b, hb⟩ : ∃ b, rightQ a = b := ⟨_, rfl⟩
  have hq := quad_right a w
  rw [hb] at hq
  have HB := hid hb
  have HQ := hid hq
  clear hb hq
  go_enter Try.func63, Try.ntmps63
  go_wp2_with fail
  refine HQ.out.mono ?_
  rintro e w2 ⟨rfl, h2⟩
  replace h2 := h2.symm
  subst h2
  cases b with
  | false =>
    go_wp2_with fail
    go_ret
    exact .inl ⟨HB.out, rfl, rfl⟩
  | true =>
    obtain ⟨k, hk, hak⟩ := rightQ_sd HB.out
    have HAK := hid (And.intro hk hak)
    clear hk hak
    go_wp2_with fail
    go_ret
    obtain ⟨hk, hak⟩ := HAK.out
    refine .inr ⟨HB.out, w.heap.size, k, hak, rfl, ⟨?_, ?_, ?_, ?_, hk⟩, Below.new _ _⟩
    · rw [hak]; exact Blk.new w _ _
    · cases k with
      | zero => exact ⟨⟨by decide, by decide⟩, rfl⟩
      | succ k => exact ⟨⟨by decide, by decide⟩, .inl rfl⟩
    · cases k <;> simp [blkS, sq0]
    · intro b hb
      have : blkS k sq0 = [] := by cases k <;> simp [blkS, sq0]
      rw [this] at hb
      simp at hb; subst hb; exact Nat.le_refl _
end Go.Proofs.Ytjbnfppnmljbmaa
end
