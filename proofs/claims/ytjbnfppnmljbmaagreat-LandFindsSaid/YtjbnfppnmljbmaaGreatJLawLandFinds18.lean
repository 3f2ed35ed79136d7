/- Joined texts, in this order: QuadNew, QuadIter, Maps. Each one's first remark says what it proves; no condition beyond those that its theorems name. -/
import Derived.Test.YtjbnfppnmljbmaaGreatJLawLandFinds17
import Derived.Test.YtjbnfppnmljbmaaGreatJLawLandFinds10
import Derived.Test.YtjbnfppnmljbmaaGreatJLawLandFinds01
import Derived.MapKept
section
/- Contracts of quad's right, New. -/
namespace Go.Proofs.YtjbnfppnmljbmaaGreat
open Go.RowKit Go.Deep
open Go.Lib (hid)
set_option linter.unusedVariables false
attribute [local go_sem] Oper.semAt_some

def rightQ (a : Int) : Bool := decide (1 ≤ a) && (decide (a ≤ 256) && decide (bits .and .i64 a (a - 1) = 0))
theorem rightQ_all : ∀ n : Fin 257, 16 ≤ n.val → (rightQ (n.val : Int) = true ↔ (n.val = 16 ∨ n.val = 32 ∨ n.val = 64 ∨ n.val = 128 ∨ n.val = 256)) := by decide +kernel
set_option maxRecDepth 100000 in
theorem quad_right (a : Int) (w : World) : Calls Tryz.prog 68 #[.int .i64 a] w fun e w' => e = .returned (.bool (rightQ a)) ∧ w' = w := by
  obtain ⟨b, hb⟩ : ∃ b, rightQ a = b := ⟨_, rfl⟩
  have HB := hid hb
  rw [hb]
  clear hb
  go_enter Tryz.func68, Tryz.ntmps68
  by_cases h1 : 1 ≤ a
  · by_cases h2 : a ≤ 256
    · have hw : IntKind.i64.wrap (a - 1) = a - 1 := by rw [IntKind.wrap_i64]; omega
      obtain ⟨c, hc⟩ : ∃ c, bits .and .i64 a (a - 1) = c := ⟨_, rfl⟩
      have HBC : Hid ((c == 0) = b) := hid (by
        have := HB.out
        unfold rightQ at this
        rw [decide_eq_true h1, decide_eq_true h2, hc] at this
        rw [← this]; simp [BEq.beq])
      go_wp2_with fail
      rw [HBC.out]
      go_ret
      exact ⟨rfl, rfl⟩
    · have h2' : ¬ a ≤ 256 := h2
      have hbf : b = false := by rw [← HB.out]; unfold rightQ; rw [decide_eq_false h2]; simp
      subst hbf
      go_wp2_with fail
      go_ret
      exact ⟨rfl, rfl⟩
  · have hbf : b = false := by rw [← HB.out]; unfold rightQ; rw [decide_eq_false h1]; simp
    subst hbf
    go_wp2_with fail
    go_ret
    exact ⟨rfl, rfl⟩
theorem rightQ_pow : ∀ n : Fin 257, rightQ (n.val : Int) = true → (n.val = 1 ∨ n.val = 2 ∨ n.val = 4 ∨ n.val = 8 ∨ n.val = 16 ∨ n.val = 32 ∨ n.val = 64 ∨ n.val = 128 ∨ n.val = 256) := by decide +kernel
theorem rightQ_nat {a : Int} (h : rightQ a = true) : ∃ n : Fin 257, a = (n.val : Int) := by
  unfold rightQ at h
  simp only [Bool.and_eq_true, decide_eq_true_eq] at h
  exact ⟨⟨a.toNat, by omega⟩, by simp; omega⟩
theorem rightQ_sd {a : Int} (h : rightQ a = true) : ∃ k, k ≤ 8 ∧ a = sd k := by
  obtain ⟨n, rfl⟩ := rightQ_nat h
  rcases rightQ_pow n h with e | e | e | e | e | e | e | e | e <;> rw [e]
  · exact ⟨0, by omega, rfl⟩
  · exact ⟨1, by omega, rfl⟩
  · exact ⟨2, by omega, rfl⟩
  · exact ⟨3, by omega, rfl⟩
  · exact ⟨4, by omega, rfl⟩
  · exact ⟨5, by omega, rfl⟩
  · exact ⟨6, by omega, rfl⟩
  · exact ⟨7, by omega, rfl⟩
  · exact ⟨8, by omega, rfl⟩
theorem rightQ_16 (a : Int) : (rightQ a = true ∧ 16 ≤ a) ↔ (a = 16 ∨ a = 32 ∨ a = 64 ∨ a = 128 ∨ a = 256) := by
  constructor
  · rintro ⟨h, h16⟩
    obtain ⟨n, rfl⟩ := rightQ_nat h
    have := (rightQ_all n (by omega)).1 h
    omega
  · intro h
    have key : ∀ n : Fin 257, 16 ≤ n.val → (n.val = 16 ∨ n.val = 32 ∨ n.val = 64 ∨ n.val = 128 ∨ n.val = 256) → rightQ (n.val : Int) = true ∧ 16 ≤ (n.val : Int) := fun n h1 h2 => ⟨(rightQ_all n h1).2 h2, by omega⟩
    rcases h with rfl | rfl | rfl | rfl | rfl
    · exact key ⟨16, by omega⟩ (by simp) (by simp)
    · exact key ⟨32, by omega⟩ (by simp) (by simp)
    · exact key ⟨64, by omega⟩ (by simp) (by simp)
    · exact key ⟨128, by omega⟩ (by simp) (by simp)
    · exact key ⟨256, by omega⟩ (by simp) (by simp)
def sq0 : Sq := ⟨0, 0, []⟩
def NewQPost (w : World) (a : Int) (e : Ending) (w' : World) : Prop :=
  (rightQ a = false ∧ e = .returned (.pointer none) ∧ w' = w) ∨ (rightQ a = true ∧ ∃ q k, a = sd k ∧ e = .returned (.pointer (some ⟨q, 0, none⟩)) ∧ QuadAt w' q (fun b => w.heap.size ≤ b) k sq0 ∧ Below w.heap.size w w')
set_option maxRecDepth 100000 in
theorem quad_New (a : Int) (w : World) : Calls Tryz.prog 47 #[.int .i64 a] w (NewQPost w a) := by
  obtain ⟨b, hb⟩ : ∃ b, rightQ a = b := ⟨_, rfl⟩
  have hq := quad_right a w
  rw [hb] at hq
  have HB := hid hb
  have HQ := hid hq
  clear hb hq
  go_enter Tryz.func47, Tryz.ntmps47
  go_wp2_with fail
  refine HQ.out.mono ?_
  rintro e w2 ⟨rfl, h2⟩
  replace h2 := h2.symm
  subst h2
  cases b with
  | false =>
    go_wp2_with fail
    go_ret
    exact .inl ⟨HB.out, rfl, rfl⟩
  | true =>
    obtain ⟨k, hk, hak⟩ := rightQ_sd HB.out
    have HAK := hid (And.intro hk hak)
    clear hk hak
    go_wp2_with fail
    go_ret
    obtain ⟨hk, hak⟩ := HAK.out
    refine .inr ⟨HB.out, w.heap.size, k, hak, rfl, ⟨?_, ?_, ?_, ?_, hk⟩, Below.new _ _⟩
    · rw [hak]; exact Blk.new w _ _
    · cases k with
      | zero => exact ⟨⟨by decide, by decide⟩, rfl⟩
      | succ k => exact ⟨⟨by decide, by decide⟩, .inl rfl⟩
    · cases k <;> simp [blkS, sq0]
    · intro b hb
      have : blkS k sq0 = [] := by cases k <;> simp [blkS, sq0]
      rw [this] at hb
      simp at hb; subst hb; exact Nat.le_refl _
end Go.Proofs.YtjbnfppnmljbmaaGreat
end
section
/- Contracts of quad's iterators, and of Any. -/
namespace Go.Proofs.YtjbnfppnmljbmaaGreat
open Go.RowKit Go.Deep
open Go.Lib (hid)
set_option linter.unusedVariables false
attribute [local go_sem] Oper.semAt_some

abbrev itQ (bT bR : Nat) : Value := .func (.func 87) #[] #[.pointer (some ⟨bT, 0, none⟩), .pointer (some ⟨bR, 0, none⟩)]
set_option maxRecDepth 100000 in
set_option maxHeartbeats 4000000 in
theorem quad_meets1 (m l n0 B N : Nat) (J Jx : List Tg → World → Prop) (W : World) (bT bR q k : Nat) (F : Nat → Prop) (s : Sq) (rx ry ra rb : Int) (env : QEnv m l n0 B N J Jx W) (hT : Blk W bT #[.pointer (some ⟨q, 0, none⟩)]) (hR : Blk W bR #[.int .i64 rx, .int .i64 ry, .int .i64 ra, .int .i64 rb]) (h : QuadAt W q F k s) (hF : ∀ b ∈ q :: blkS k s, b < n0) (h0 : J [] W) (hN : (metS k s 0 0 (rx, ry, ra, rb)).length ≤ N) :
    Calls Tryz.prog 87 #[.func (.yield l) #[] #[], .pointer (some ⟨bT, 0, none⟩), .pointer (some ⟨bR, 0, none⟩)] W fun e W' => e = .returned (.tuple #[]) ∧ (J (metS k s 0 0 (rx, ry, ra, rb)) W' ∨ ∃ p, p <+: metS k s 0 0 (rx, ry, ra, rb) ∧ Jx p W') := by
  obtain ⟨S, hS⟩ : ∃ S, sd k = S := ⟨_, rfl⟩
  have HS := hid hS
  have HQ := hid h
  have t0 : W.cell? ⟨bT, 0, none⟩ = some (.pointer (some ⟨q, 0, none⟩)) := by rw [hT.cell]; rfl
  obtain ⟨r0, r1, r2, r3⟩ := hR.c4r
  have HLV : Hid (∀ z, Below W.heap.size W z → Calls Tryz.prog 88 #[.pointer (some ⟨q, 1, none⟩), .agg #[.int .i64 0, .int .i64 0, .int .i64 S, .int .i64 S], .agg #[.int .i64 rx, .int .i64 ry, .int .i64 ra, .int .i64 rb], .func (.yield l) #[] #[]] z fun e W' => ∃ b, e = .returned (.bool b) ∧ Hid (J (metS k s 0 0 (rx, ry, ra, rb)) W' ∨ ∃ p, p <+: metS k s 0 0 (rx, ry, ra, rb) ∧ Jx p W')) := hid (fun z hz => by
    have hq := h.below hz
    have := quad_leaves k m l n0 B N J Jx W z s 0 0 rx ry ra rb [] q 1 (rootC k s) env (KeepQ.of_below hz (Nat.le_trans env.n0B env.BW)) hq.sq hq.blk rfl rfl (hF q (by simp)) (fun b hb => hF b (List.mem_cons_of_mem _ hb)) hq.own (env.grow _ _ _ h0 hz) (by simpa using hN)
    rw [hS] at this
    refine this.mono ?_
    rintro e W' (⟨rfl, q1, -⟩ | ⟨rfl, p, q1, q2⟩)
    · exact ⟨true, rfl, hid (.inl (by simpa using q1))⟩
    · exact ⟨false, rfl, hid (.inr ⟨p, q1, by simpa using q2⟩)⟩)
  clear env hT hR h hF h0 hN hS
  refine (callsIn_wide (n := 5)).1 ?_
  refine callsIn_of_wp Tryz.func87 rfl trivial ?_ rfl
  simp only [Tryz.ntmps87, List.size_toArray, List.length_cons, List.length_nil, Nat.reduceAdd, Nat.reduceSub, Array.replicate_succ, Array.replicate_zero, List.push_toArray, List.append_toArray, List.nil_append, List.cons_append]
  replace t0 := fun (z : World) (hz : Below W.heap.size W z) => cellOf_belowR hz t0
  replace r0 := fun (z : World) (hz : Below W.heap.size W z) => cellOf_belowR hz r0
  replace r1 := fun (z : World) (hz : Below W.heap.size W z) => cellOf_belowR hz r1
  replace r2 := fun (z : World) (hz : Below W.heap.size W z) => cellOf_belowR hz r2
  replace r3 := fun (z : World) (hz : Below W.heap.size W z) => cellOf_belowR hz r3
  have hyd := (Below.refl W.heap.size W).drew
  refine wpIn_region_keptY [7] (fun y => Below W.heap.size W y) (by kernel_rfl) (by assumption) (fun hH => ?_)
  refine wpKY.take (i := 0) (v := _) (by simp only [List.getElem?_toArray, List.getElem?_cons_succ, List.getElem?_cons_zero]; rfl) (by kernel_rfl) (by kernel_rfl) (by kernel_rfl) (by kernel_rfl) (by exact fun _ _ _ h => h) (by first | exact Or.inl ⟨by rfl, by intro w hSw; go_simp; try with_reducible rfl⟩ | exact Or.inr ⟨by rfl, rfl⟩) hH ?_
  try simp only [Act.put, List.setIfInBounds_toArray, List.set_cons_zero, List.set_cons_succ]
  refine wpKY.take (i := 1) (v := _) (by simp only [List.getElem?_toArray, List.getElem?_cons_succ, List.getElem?_cons_zero]; rfl) (by kernel_rfl) (by kernel_rfl) (by kernel_rfl) (by kernel_rfl) (by exact fun _ _ _ h => h) (by first | exact Or.inl ⟨by rfl, by intro w hSw; go_simp; try with_reducible rfl⟩ | exact Or.inr ⟨by rfl, rfl⟩) hH ?_
  try simp only [Act.put, List.setIfInBounds_toArray, List.set_cons_zero, List.set_cons_succ]
  refine wpKY.take (i := 2) (v := _) (by simp only [List.getElem?_toArray, List.getElem?_cons_succ, List.getElem?_cons_zero]; rfl) (by kernel_rfl) (by kernel_rfl) (by kernel_rfl) (by kernel_rfl) (by exact fun _ _ _ h => h) (by first | exact Or.inl ⟨by rfl, by intro w hSw; go_simp; try with_reducible rfl⟩ | exact Or.inr ⟨by rfl, rfl⟩) hH ?_
  try simp only [Act.put, List.setIfInBounds_toArray, List.set_cons_zero, List.set_cons_succ]
  refine wpKY.take (i := 3) (v := _) (by simp only [List.getElem?_toArray, List.getElem?_cons_succ, List.getElem?_cons_zero]; rfl) (by kernel_rfl) (by kernel_rfl) (by kernel_rfl) (by kernel_rfl) (by exact fun _ _ _ h => h) (by first | exact Or.inl ⟨by rfl, by intro w hSw; go_simp; try with_reducible rfl⟩ | exact Or.inr ⟨by rfl, rfl⟩) hH ?_
  try simp only [Act.put, List.setIfInBounds_toArray, List.set_cons_zero, List.set_cons_succ]
  refine wpKY.take (i := 5) (v := _) (by simp only [List.getElem?_toArray, List.getElem?_cons_succ, List.getElem?_cons_zero]; rfl) (by kernel_rfl) (by kernel_rfl) (by kernel_rfl) (by kernel_rfl) (by exact fun _ _ _ h => h) (by first | exact Or.inl ⟨by rfl, by intro w hSw; go_simp; try with_reducible rfl⟩ | exact Or.inr ⟨by rfl, rfl⟩) hH ?_
  try simp only [Act.put, List.setIfInBounds_toArray, List.set_cons_zero, List.set_cons_succ]
  refine wpKY.take (i := 6) (v := _) (by simp only [List.getElem?_toArray, List.getElem?_cons_succ, List.getElem?_cons_zero]; rfl) (by kernel_rfl) (by kernel_rfl) (by kernel_rfl) (by kernel_rfl) (by exact fun _ _ _ h => h) (by first | exact Or.inl ⟨by rfl, by intro w hSw; go_simp; try with_reducible rfl⟩ | exact Or.inr ⟨by rfl, rfl⟩) hH ?_
  try simp only [Act.put, List.setIfInBounds_toArray, List.set_cons_zero, List.set_cons_succ]
  refine wpKY.step (i := 4) (by kernel_rfl) (by simp only [List.getElem?_toArray, List.getElem?_cons_succ, List.getElem?_cons_zero]; rfl) (fun K hK => ?_)
  go_simp
  refine ⟨trivial, ?_⟩; refine (callsIn_wide.2 (quad_all _ q F k s (HQ.out.below hyd) S HS.out)).mono ?_; rintro e w3 ⟨rfl, hb3⟩; (have hk3 := Below.next hyd hb3); go_simp
  refine hK.out _ _ (by assumption) (fun hH => ?_)
  clear hK K
  try simp only [Act.put, List.setIfInBounds_toArray, List.set_cons_zero, List.set_cons_succ]
  refine wpKY.late (i := 7) (by kernel_rfl) (by simp only [List.getElem?_toArray, List.getElem?_cons_succ, List.getElem?_cons_zero]; rfl) (by kernel_rfl) (fun K hK => ?_)
  go_simp
  refine ⟨trivial, ?_⟩; refine (callsIn_wide.2 (HLV.out _ hk3)).mono ?_; rintro e W2 ⟨b, rfl, HB⟩; go_simp
  refine hK.out _ _ ?_
  clear hK K
  try simp only [Act.put, List.setIfInBounds_toArray, List.set_cons_zero, List.set_cons_succ]
  refine wpKY.done (by kernel_rfl) ?_ _
  go_end0
  exact ⟨rfl, HB.out⟩
set_option maxRecDepth 100000 in
theorem quad_meets (w : World) (q : Nat) (rx ry ra rb : Int) :
    Calls Tryz.prog 56 #[.pointer (some ⟨q, 0, none⟩), .agg #[.int .i64 rx, .int .i64 ry, .int .i64 ra, .int .i64 rb]] w fun e w' => ∃ bT bR, e = .returned (itQ bT bR) ∧ Blk w' bT #[.pointer (some ⟨q, 0, none⟩)] ∧ Blk w' bR #[.int .i64 rx, .int .i64 ry, .int .i64 ra, .int .i64 rb] ∧ Below w.heap.size w w' := by
  go_enter Tryz.func56, Tryz.ntmps56
  go_wp2_with fail
  go_ret
  refine ⟨w.heap.size, w.heap.size + 1, rfl, (Blk.new w _ _).below (Below.new _ _), ?_, Below.next (Below.new _ _) (Below.new _ _)⟩
  have := Blk.new (w.alloc (.cells #[.pointer (some ⟨q, 0, none⟩)] 72)) #[.int .i64 rx, .int .i64 ry, .int .i64 ra, .int .i64 rb] 25
  simpa using this
theorem stops_meets (bT bR q k : Nat) (F : Nat → Prop) (s : Sq) (n0 : Nat) (rx ry ra rb : Int) (w0 : World) (hn0 : n0 ≤ w0.heap.size)
    (hT : Blk w0 bT #[.pointer (some ⟨q, 0, none⟩)]) (hR : Blk w0 bR #[.int .i64 rx, .int .i64 ry, .int .i64 ra, .int .i64 rb]) (h : QuadAt w0 q F k s) (hF : ∀ b ∈ q :: blkS k s, b < n0) :
    SeqStopsK Fence.wide 4 Tryz.prog 87 #[.pointer (some ⟨bT, 0, none⟩), .pointer (some ⟨bR, 0, none⟩)] (fun x : Tg => #[rV x.1, .int .i64 x.2]) (KeepQ n0 w0.heap.size) (fun ys => ys = metS k s 0 0 (rx, ry, ra, rb)) (fun pre => pre <+: metS k s 0 0 (rx, ry, ra, rb)) (metS k s 0 0 (rx, ry, ra, rb)).length w0 := by
  intro l J Jx W hW hJ _ hY h0
  have env : QEnv 3 l n0 w0.heap.size (metS k s 0 0 (rx, ry, ra, rb)).length J Jx W := ⟨hY, fun pre W1 W2 h hb => hJ pre W1 W2 none h (grown_belowR hb) (fun r e => by cases e), hn0, hW.size⟩
  refine callsIn_wide.2 ((quad_meets1 3 l n0 w0.heap.size _ J Jx W bT bR q k F s rx ry ra rb env (hT.below hW) (hR.below hW) (h.below hW) hF h0 (Nat.le_refl _)).mono ?_)
  rintro e W' ⟨rfl, h | ⟨s2, h2, h3⟩⟩
  · exact ⟨⟨_, rfl⟩, .inl ⟨_, rfl, h⟩⟩
  · exact ⟨⟨_, rfl⟩, .inr ⟨s2, h2, h3⟩⟩
def anyQ (l : List Tg) (v : Int) : Bool := l.any fun t => decide (t.2 = v)
set_option maxRecDepth 100000 in
set_option maxHeartbeats 8000000 in
theorem quad_Any (w : World) (q k : Nat) (F : Nat → Prop) (s : Sq) (rx ry ra rb v : Int) (h : QuadAt w q F k s) :
    Calls Tryz.prog 33 #[.pointer (some ⟨q, 0, none⟩), .agg #[.int .i64 rx, .int .i64 ry, .int .i64 ra, .int .i64 rb], .int .i64 v] w fun e w' => e = .returned (.bool (anyQ (metS k s 0 0 (rx, ry, ra, rb)) v)) ∧ Below w.heap.size w w' := by
  obtain ⟨Y, hY⟩ : ∃ Y, metS k s 0 0 (rx, ry, ra, rb) = Y := ⟨_, rfl⟩
  have HY := hid hY
  rw [hY]
  obtain ⟨qa, hqa⟩ : ∃ b, anyQ Y v = b := ⟨_, rfl⟩
  have HQA := hid hqa
  rw [hqa]
  have HT := hid h
  clear h hY hqa
  refine (callsIn_wide (n := 5)).1 ?_
  refine callsIn_of_wp_marks Tryz.func33 rfl trivial ?_ rfl
  simp only [Tryz.ntmps33, List.size_toArray, List.length_cons, List.length_nil, Nat.reduceAdd, Nat.reduceSub, Array.replicate_succ, Array.replicate_zero, List.push_toArray, List.append_toArray, List.nil_append, List.cons_append]
  gi_wp2_with (refine ⟨trivial, ?_⟩; refine (callsIn_wide.2 (quad_meets _ q rx ry ra rb)).mono ?_; rintro e w1 ⟨bT, bR, rfl, hT, hR, hb⟩)
  obtain ⟨w2, hw2⟩ : ∃ w2, w2 = ((w.alloc (.cells #[.int .i64 rx, .int .i64 ry, .int .i64 ra, .int .i64 rb] 25)).alloc (.cells #[.int .i64 v] 3)).alloc (.cells #[.bool false] 4) := ⟨_, rfl⟩
  rw [← hw2] at hb
  obtain ⟨b6, hb6⟩ : ∃ z, z = w.heap.size + 1 + 1 := ⟨_, rfl⟩
  obtain ⟨b5, hb5⟩ : ∃ z, z = w.heap.size + 1 := ⟨_, rfl⟩
  obtain ⟨b4, hb4⟩ : ∃ z, z = w.heap.size := ⟨_, rfl⟩
  have hz1 : (World.alloc w (.cells #[.int .i64 rx, .int .i64 ry, .int .i64 ra, .int .i64 rb] 25)).heap.size = w.heap.size + 1 := by simp
  have hz2 : (World.alloc (World.alloc w (.cells #[.int .i64 rx, .int .i64 ry, .int .i64 ra, .int .i64 rb] 25)) (.cells #[.int .i64 v] 3)).heap.size = w.heap.size + 1 + 1 := by simp
  try rw [← hb6]
  try rw [← hb5]
  try rw [← hb4]
  have hb2 : Below w.heap.size w w2 := by rw [hw2]; exact Below.next (Below.next (Below.new _ _) (Below.new _ _)) (Below.new _ _)
  have HK5 : Hid (Blk w1 b5 #[.int .i64 v]) := hid ((show Blk w2 b5 #[.int .i64 v] by rw [hw2, hb5, ← hz1]; exact (Blk.new _ _ _).below (Below.new _ _)).below hb)
  have HK6 : Hid (Blk w1 b6 #[.bool false]) := hid ((show Blk w2 b6 #[.bool false] by rw [hw2, hb6, ← hz2]; exact Blk.new _ _ _).below hb)
  have HB1 := hid (Below.next hb2 hb)
  have HZ : Hid (b4 = w.heap.size ∧ b5 = w.heap.size + 1 ∧ b6 = w.heap.size + 2 ∧ b6 < w1.heap.size) := hid (by have := HK6.out.lt; omega)
  have HT1 := hid (HT.out.below HB1.out)
  have HTI := hid (And.intro hT hR)
  clear hw2 hb hb4 hb5 hb6 hz1 hz2 hb2 hT hR
  have hl1 : w.heap.size ≤ w1.heap.size := HB1.out.size
  refine wpIn_rangeFunc_ownH (F := Fence.wide) (n := 5) (α := Tg) rfl (by omega) (gf := 87) (lb := #[.pointer (some ⟨bT, 0, none⟩), .pointer (some ⟨bR, 0, none⟩)]) rfl trivial (enters_of Tryz.func87 (by kernel_rfl) rfl)
    (stops_meets bT bR q k F s w.heap.size rx ry ra rb w1 hl1 HTI.out.1 HTI.out.2 HT1.out (fun b hb => by
      rcases List.mem_cons.1 hb with rfl | hb
      · exact HT.out.blk.lt
      · exact HT.out.sq.lt b hb))
    (fun h k => h.trans k) (fun W l o o' hlo ho hc _ => KeepQ.put hl1 W l o o' hlo ho hc) (Below.refl _ _) (fun _ => rfl)
    (fun pre W => (Blk W b5 #[.int .i64 v] ∧ Blk W b6 #[.bool false] ∧ anyQ pre v = false) ∧ Below w.heap.size w W ∧ w1.heap.size ≤ W.heap.size)
    (fun c pre W => (c = .ret ∧ Blk W b6 #[.bool true] ∧ anyQ pre v = true) ∧ Below w.heap.size w W ∧ w1.heap.size ≤ W.heap.size)
    ?hI ?hIx ?h0
    (fun z a' W => a' = { tmps := #[.pointer (some ⟨q, 0, none⟩), .agg #[.int .i64 rx, .int .i64 ry, .int .i64 ra, .int .i64 rb], .int .i64 v, undef, .pointer (some ⟨b4, 0, none⟩), .pointer (some ⟨b5, 0, none⟩), .pointer (some ⟨b6, 0, none⟩), undef, .int .i64 z.2, .pointer (some ⟨q, 0, none⟩), .agg #[.int .i64 rx, .int .i64 ry, .int .i64 ra, .int .i64 rb], itQ bT bR, rV z.1, .int .i64 z.2, undef, undef, undef], defers := [] })
    ?hAx ?assign ?body ?done ?stop
  case hI =>
    rintro pre W W' row ⟨⟨h1, h2, h3⟩, hb, hz⟩ hg hr
    exact ⟨⟨own_blkR hg hr h1, own_blkR hg hr h2, h3⟩, hb.grown hg hb.size (fun j hj => by have := (hr j hj).1; omega), Nat.le_trans hz hg.size⟩
  case hIx =>
    rintro c pre W W' row ⟨⟨h1, h2, h3⟩, hb, hz⟩ hg hr
    exact ⟨⟨h1, own_blkR hg hr h2, h3⟩, hb.grown hg hb.size (fun j hj => by have := (hr j hj).1; omega), Nat.le_trans hz hg.size⟩
  case h0 => exact ⟨⟨HK5.out, HK6.out, rfl⟩, HB1.out, Nat.le_refl _⟩
  case hAx =>
    rintro z a' u W W' row h1 hg hr
    exact h1
  case assign =>
    rintro l pre ⟨⟨zx, zy, za, zb⟩, zv⟩ W K hI hK
    gi_wp2
    exact hK _ _ ((KeepsOthers.refl _).from _) (KeepQ.refl _ _ _) hI rfl
  case body =>
    rintro l pre ⟨⟨zx, zy, za, zb⟩, zv⟩ a' W hl hrec hI rfl hlen
    have HI2 := hid hI
    have k5 : W.cell? ⟨b5, 0, none⟩ = some (.int .i64 v) := by rw [hI.1.1.cell]; rfl
    have k6 : W.cell? ⟨b6, 0, none⟩ = some (.bool false) := by rw [hI.1.2.1.cell]; rfl
    have f6 : W.frozen? ⟨b6, 0, none⟩ = false := hI.1.2.1.unfrozen 0
    clear hI hlen
    by_cases e4 : zv = v
    · subst e4
      gi_wp2
      have hz := HZ.out
      exact ⟨(KeepsOthers.setCell _ _ _).from _, ⟨rfl, by simpa using HI2.out.1.2.1.set 0 (.bool true), by simp [anyQ]⟩, HI2.out.2.1.setCell (by show _ ≤ b6; omega) _, by have := HI2.out.2.2; simpa using this⟩
    · have HE4 := hid e4
      gi_wp2
      exact ⟨(KeepsOthers.refl _).from _, KeepQ.refl _ _ _, ⟨HI2.out.1.1, HI2.out.1.2.1, by have := HI2.out.1.2.2; unfold anyQ at this ⊢; rw [List.any_append, this]; simp [HE4.out]⟩, HI2.out.2⟩
  case done =>
    rintro D ys W hD rfl ⟨⟨-, h1, h2⟩, hb, hz⟩ hK
    rw [HY.out, HQA.out] at h2
    subst h2
    have k4 : W.cell? ⟨b6, 0, none⟩ = some (.bool false) := by rw [h1.cell]; rfl
    have f4 : W.frozen? ⟨b6, 0, none⟩ = false := h1.unfrozen 0
    gi_wp2
    have hK' := (KeepsOthers.setCell W ⟨b6, 0, none⟩ (.bool false)).same D _ hK rfl
    refine ⟨by simp, .inl ⟨_, _, rfl, run_takeDeferred hK', ?_⟩⟩
    have hc4 := cell_kept (World.cell?_setCell_same' W ⟨b6, 0, none⟩ (.bool false) (by rw [k4]; rfl)) (grownBy_putObj' _ D (.deferred none)) (fun r e => by cases e; exact ⟨_, hK', rfl⟩)
    refine ⟨.bool false, ?_, rfl, (hb.setCell (p := ⟨b6, 0, none⟩) (by have := HZ.out; show _ ≤ b6; omega) _).trans (belowK_b (w := w) (Nat.le_refl _) _ D _ _ (by have := hb.size; have := HB1.out.size; omega) hK' rfl rfl)⟩
    simp [results, Tryz.f33, go_sem, hc4]
  case stop =>
    rintro D c pre W hD hpre ⟨⟨rfl, h2, h3⟩, hb, hz⟩ hK
    rw [HY.out] at hpre
    have hqt : qa = true := by
      rw [← HQA.out]
      unfold anyQ at h3 ⊢
      rw [List.any_eq_true] at h3 ⊢
      obtain ⟨x, h4, h5⟩ := h3
      exact ⟨x, hpre.subset h4, h5⟩
    subst hqt
    have k4 : W.cell? ⟨b6, 0, none⟩ = some (.bool true) := by rw [h2.cell]; rfl
    gi_wp2
    refine ⟨by simp, .inl ⟨_, _, rfl, run_takeDeferred hK, ?_⟩⟩
    have hc4 := cell_kept k4 (grownBy_putObj' _ D (.deferred none)) (fun r e => by cases e; exact ⟨_, hK, rfl⟩)
    refine ⟨.bool true, ?_, rfl, hb.trans (belowK_b (w := w) (Nat.le_refl _) _ D _ _ (by have := hb.size; have := HB1.out.size; omega) hK rfl rfl)⟩
    simp [results, Tryz.f33, go_sem, hc4]
end Go.Proofs.YtjbnfppnmljbmaaGreat
end
section
/- Maps from integers, entry by entry. No program in sight. -/
namespace Go.Proofs.YtjbnfppnmljbmaaGreat
open Go.RowKit
open Go.Lib (hid)
open Go.MapKept
set_option linter.unusedVariables false

section plain
variable {α : Type}
/-- an entry is laid: in its place, or behind all -/
def aput (m : List (Int × α)) (k : Int) (v : α) : List (Int × α) := if (m.lookup k).isSome then m.map (fun p => if p.1 = k then (k, v) else p) else m ++ [(k, v)]
def adel (m : List (Int × α)) (k : Int) : List (Int × α) := m.filter (fun p => p.1 != k)
theorem lookup_none {m : List (Int × α)} {k : Int} (h : ∀ p ∈ m, p.1 ≠ k) : m.lookup k = none := by
  induction m with
  | nil => rfl
  | cons p m ih =>
    have h0 : (k == p.1) = false := by simpa using fun e => h p (by simp) e.symm
    obtain ⟨a, b⟩ := p
    rw [List.lookup_cons, h0]
    exact ih (fun q hq => h q (by simp [hq]))
theorem lookup_none_iff {m : List (Int × α)} {k : Int} : m.lookup k = none ↔ ∀ p ∈ m, p.1 ≠ k := by
  refine ⟨fun h => ?_, lookup_none⟩
  induction m with
  | nil => simp
  | cons p m ih =>
    obtain ⟨a, b⟩ := p
    rw [List.lookup_cons] at h
    cases h0 : (k == a)
    · rw [h0] at h
      intro q hq
      rcases List.mem_cons.1 hq with rfl | hq
      · simpa using fun e : a = k => by simp [e] at h0
      · exact ih h q hq
    · rw [h0] at h; simp at h
theorem lookup_at : ∀ {m : List (Int × α)} {k : Int} {i : Nat} {v : α}, (m.map (·.1)).Nodup → m[i]? = some (k, v) → m.lookup k = some v
  | [], _, _, _, _, h => by simp at h
  | (a, b) :: m, k, i, v, hn, h => by
    rw [List.lookup_cons]
    cases i with
    | zero => simp at h; obtain ⟨rfl, rfl⟩ := h; simp
    | succ i =>
      simp at h
      simp at hn
      have hne : (k == a) = false := by
        simp
        rintro rfl
        exact hn.1 v (List.mem_of_getElem? h)
      rw [hne]
      exact lookup_at hn.2 h
theorem lookup_mem {m : List (Int × α)} {k : Int} {v : α} (h : m.lookup k = some v) : (k, v) ∈ m := by
  induction m with
  | nil => simp at h
  | cons p m ih =>
    obtain ⟨a, b⟩ := p
    rw [List.lookup_cons] at h
    cases h0 : (k == a)
    · rw [h0] at h; simp [ih h]
    · rw [h0] at h
      simp at h h0
      simp [h, h0]
theorem lookup_mem_iff {m : List (Int × α)} (hn : (m.map (·.1)).Nodup) {k : Int} {v : α} : m.lookup k = some v ↔ (k, v) ∈ m :=
  ⟨lookup_mem, fun h => by obtain ⟨i, hi⟩ := List.getElem?_of_mem h; exact lookup_at hn hi⟩
theorem aput_keys (m : List (Int × α)) (k : Int) (v : α) : (aput m k v).map (·.1) = if (m.lookup k).isSome then m.map (·.1) else m.map (·.1) ++ [k] := by
  unfold aput
  split
  · rw [List.map_map]
    apply List.map_congr_left
    intro p _
    show (if p.1 = k then (k, v) else p).1 = p.1
    split
    · rename_i h; exact h.symm
    · rfl
  · simp
theorem aput_nodup {m : List (Int × α)} (hn : (m.map (·.1)).Nodup) (k : Int) (v : α) : ((aput m k v).map (·.1)).Nodup := by
  rw [aput_keys]
  split
  · exact hn
  · rename_i h
    have h := lookup_none_iff.1 (Option.not_isSome_iff_eq_none.1 h)
    rw [List.nodup_append]
    refine ⟨hn, by simp, ?_⟩
    intro a ha b hb
    simp at hb
    subst hb
    obtain ⟨p, hp, rfl⟩ := List.mem_map.1 ha
    exact h p hp
theorem adel_nodup {m : List (Int × α)} (hn : (m.map (·.1)).Nodup) (k : Int) : ((adel m k).map (·.1)).Nodup := (List.filter_sublist.map _).nodup hn
theorem lookup_aput (m : List (Int × α)) (k : Int) (v : α) (j : Int) : (aput m k v).lookup j = if j = k then some v else m.lookup j := by
  unfold aput
  by_cases hs : (m.lookup k).isSome
  · rw [if_pos hs]
    induction m with
    | nil => simp at hs
    | cons p m ih =>
      obtain ⟨a, b⟩ := p
      rw [List.map_cons, List.lookup_cons]
      by_cases ha : a = k
      · subst ha
        simp only [if_true]
        rw [List.lookup_cons]
        by_cases hj : j = a
        · subst hj; simp
        · have hj' : (j == a) = false := by simpa using hj
          simp only [hj', hj, if_false]
          by_cases hs' : (m.lookup a).isSome
          · rw [ih hs', if_neg hj]
          · have := lookup_none_iff.1 (Option.not_isSome_iff_eq_none.1 hs')
            congr 1
            conv => rhs; rw [← List.map_id m]
            apply List.map_congr_left
            intro p hp
            rw [if_neg (this p hp)]; rfl
      · simp only [ha, if_false]
        have hk : (k == a) = false := by simpa using fun e : k = a => ha e.symm
        rw [List.lookup_cons, hk] at hs
        rw [List.lookup_cons]
        cases hj : (j == a)
        · simp only; exact ih hs
        · simp only
          have : j = a := by simpa using hj
          subst this
          rw [if_neg ha]
  · rw [if_neg hs]
    induction m with
    | nil =>
      rw [List.nil_append, List.lookup_cons]
      by_cases hj : j = k
      · subst hj; simp
      · have : (j == k) = false := by simpa using hj
        rw [this, if_neg hj]
    | cons p m ih =>
      obtain ⟨a, b⟩ := p
      rw [List.lookup_cons] at hs
      cases hk : (k == a)
      · rw [hk] at hs
        rw [List.cons_append, List.lookup_cons, List.lookup_cons, ih hs]
        cases hj : (j == a)
        · rfl
        · have : j = a := by simpa using hj
          subst this
          have : ¬ j = k := fun e => by subst e; simp at hk
          simp only [this, if_false]
      · rw [hk] at hs; simp at hs
theorem lookup_adel (m : List (Int × α)) (k : Int) (j : Int) : (adel m k).lookup j = if j = k then none else m.lookup j := by
  induction m with
  | nil => simp [adel]
  | cons p m ih =>
    obtain ⟨a, b⟩ := p
    unfold adel at *
    by_cases ha : a = k
    · subst ha
      rw [List.filter_cons_of_neg (by simp), ih, List.lookup_cons]
      by_cases hj : j = a
      · rw [if_pos hj, if_pos hj]
      · have : (j == a) = false := by simpa using hj
        rw [if_neg hj, if_neg hj, this]
    · rw [List.filter_cons_of_pos (by simpa using ha), List.lookup_cons, List.lookup_cons, ih]
      cases hj : (j == a)
      · rfl
      · have : j = a := by simpa using hj
        subst this
        simp only [ha, if_false]
theorem mem_aput {m : List (Int × α)} {k : Int} {v : α} {p : Int × α} (h : p ∈ aput m k v) : p = (k, v) ∨ (p ∈ m ∧ p.1 ≠ k) := by
  unfold aput at h
  split at h
  · obtain ⟨q, hq, rfl⟩ := List.mem_map.1 h
    by_cases hk : q.1 = k
    · rw [if_pos hk]; exact .inl rfl
    · rw [if_neg hk]; exact .inr ⟨hq, hk⟩
  · rename_i h0
    rcases List.mem_append.1 h with h | h
    · exact .inr ⟨h, lookup_none_iff.1 (Option.not_isSome_iff_eq_none.1 h0) p h⟩
    · exact .inl (by simpa using h)
theorem aput_map {β : Type} (f : α → β) (m : List (Int × α)) (k : Int) (v : α) : (aput m k v).map (fun p => (p.1, f p.2)) = aput (m.map (fun p => (p.1, f p.2))) k (f v) := by
  have hl : ((m.map (fun p => (p.1, f p.2))).lookup k) = (m.lookup k).map f := by
    induction m with
    | nil => rfl
    | cons p m ih =>
      obtain ⟨a, b⟩ := p
      rw [List.map_cons, List.lookup_cons, List.lookup_cons]
      cases (k == a)
      · exact ih
      · rfl
  unfold aput
  rw [hl, Option.isSome_map]
  split
  · rw [List.map_map, List.map_map]
    apply List.map_congr_left
    intro p _
    show ((if p.1 = k then (k, v) else p).1, f (if p.1 = k then (k, v) else p).2) = if p.1 = k then (k, f v) else (p.1, f p.2)
    split <;> rfl
  · simp
theorem lookup_map {β : Type} (f : α → β) (m : List (Int × α)) (k : Int) : ((m.map (fun p => (p.1, f p.2))).lookup k) = (m.lookup k).map f := by
  induction m with
  | nil => rfl
  | cons p m ih =>
    obtain ⟨a, b⟩ := p
    rw [List.map_cons, List.lookup_cons, List.lookup_cons]
    cases (k == a)
    · exact ih
    · rfl
theorem adel_map {β : Type} (f : α → β) (m : List (Int × α)) (k : Int) : (adel m k).map (fun p => (p.1, f p.2)) = adel (m.map (fun p => (p.1, f p.2))) k := by
  unfold adel
  rw [List.filter_map]
  rfl
theorem eraseIdx_adel : ∀ {m : List (Int × α)} {k : Int} {i : Nat} {v : α}, (m.map (·.1)).Nodup → m[i]? = some (k, v) → m.eraseIdx i = adel m k
  | [], _, _, _, _, h => by simp at h
  | (a, b) :: m, k, i, v, hn, h => by
    simp only [List.map_cons, List.nodup_cons] at hn
    unfold adel
    cases i with
    | zero =>
      simp at h
      obtain ⟨rfl, rfl⟩ := h
      rw [List.filter_cons_of_neg (by simp), List.eraseIdx_zero, List.tail_cons]
      symm
      rw [List.filter_eq_self]
      intro p hp
      have : p.1 ≠ a := fun e => hn.1 (e ▸ List.mem_map_of_mem hp)
      simpa using this
    | succ i =>
      simp at h
      have hne : a ≠ k := fun e => hn.1 (by subst e; exact List.mem_map.2 ⟨_, List.mem_of_getElem? h, rfl⟩)
      rw [List.filter_cons_of_pos (by simpa using hne), List.eraseIdx_cons_succ, eraseIdx_adel hn.2 h]
      rfl
theorem modify_aput : ∀ {m : List (Int × α)} {k : Int} {i : Nat} {v0 v : α}, (m.map (·.1)).Nodup → m[i]? = some (k, v0) → m.modify i (fun _ => (k, v)) = m.map (fun p => if p.1 = k then (k, v) else p)
  | [], _, _, _, _, _, h => by simp at h
  | (a, b) :: m, k, i, v0, v, hn, h => by
    simp only [List.map_cons, List.nodup_cons] at hn
    cases i with
    | zero =>
      simp at h
      obtain ⟨rfl, rfl⟩ := h
      rw [List.modify_zero_cons, List.map_cons, if_pos rfl]
      congr 1
      conv => lhs; rw [← List.map_id m]
      apply List.map_congr_left
      intro p hp
      have : p.1 ≠ a := fun e => hn.1 (e ▸ List.mem_map_of_mem hp)
      rw [if_neg this]; rfl
    | succ i =>
      simp at h
      have hne : a ≠ k := fun e => hn.1 (by subst e; exact List.mem_map.2 ⟨_, List.mem_of_getElem? h, rfl⟩)
      rw [List.modify_succ_cons, List.map_cons, if_neg hne, modify_aput hn.2 h]
theorem adel_none {m : List (Int × α)} {k : Int} (h : m.lookup k = none) : adel m k = m := by
  unfold adel
  rw [List.filter_eq_self]
  intro p hp
  simpa using lookup_none_iff.1 h p hp
end plain

theorem nodup_of_map {α β : Type} (f : α → β) {l : List α} (h : (l.map f).Nodup) : l.Nodup := by
  unfold List.Nodup at *
  rw [List.pairwise_map] at h
  exact h.imp (fun hab e => hab (by rw [e]))

theorem map_modify_of {α β : Type} (g : α → β) (f : α → α) (h : β → β) (e : ∀ x, g (f x) = h (g x)) : ∀ (l : List α) (i : Nat), (l.modify i f).map g = (l.map g).modify i h
  | [], i => by simp
  | x :: l, 0 => by simp [List.modify_zero_cons, e]
  | x :: l, i + 1 => by simp [List.modify_succ_cons, map_modify_of g f h e l i]
theorem map_eraseIdx_of {α β : Type} (g : α → β) : ∀ (l : List α) (i : Nat), (l.eraseIdx i).map g = (l.map g).eraseIdx i
  | [], i => by simp
  | x :: l, 0 => by simp
  | x :: l, i + 1 => by simp [map_eraseIdx_of g l i]

/-- block b is a map from integers: its entries, in the order in which they were laid -/
def MapE (w : World) (b : Nat) (m : List (Int × Value)) : Prop :=
  ∃ es clock, w.heap[b]? = some (.map es clock) ∧ Stamped es clock ∧ es.toList.map (fun e => (e.key, e.val)) = m.map (fun p => (Value.int .i64 p.1, p.2))
theorem MapE.lt {w : World} {b : Nat} {m : List (Int × Value)} (h : MapE w b m) : b < w.heap.size := by obtain ⟨es, c, h, -⟩ := h; exact (Array.getElem?_eq_some_iff.1 h).1
theorem MapE.nodup {w : World} {b : Nat} {m : List (Int × Value)} (h : MapE w b m) : (m.map (·.1)).Nodup := by
  obtain ⟨es, c, -, ⟨-, -, h⟩, he⟩ := h
  have e2 : es.toList.map (·.key) = (m.map (·.1)).map (Value.int .i64) := by
    have := congrArg (List.map Prod.fst) he
    rw [List.map_map, List.map_map] at this
    rw [List.map_map]; exact this
  rw [e2] at h
  exact nodup_of_map _ h
theorem MapE.upd {S : Nat → Prop} {w w' : World} {b : Nat} {m : List (Int × Value)} (h : MapE w b m) (hu : Upd S w w') (hn : ¬ S b) : MapE w' b m := by
  obtain ⟨es, c, h, r⟩ := h; exact ⟨es, c, hu.heap h hn, r⟩
theorem MapE.below {w w' : World} {b : Nat} {m : List (Int × Value)} (h : MapE w b m) (hu : Below w.heap.size w w') : MapE w' b m :=
  h.upd (S := fun _ => False) (Upd.of_below hu) (fun x => x)
theorem MapE.new (w : World) : MapE (w.alloc (.map #[] 0)) w.heap.size [] := ⟨#[], 0, heap_alloc_new w _, stamped_empty 0, rfl⟩

theorem MapE.keys {w : World} {b : Nat} {m : List (Int × Value)} {es : Array MapEntry} (he : es.toList.map (fun e => (e.key, e.val)) = m.map (fun p => (Value.int .i64 p.1, p.2))) : ∀ x ∈ es.toList, IsKey (.int .i64) x.key := by
  intro x hx
  have : (x.key, x.val) ∈ m.map (fun p => (Value.int .i64 p.1, p.2)) := by rw [← he]; exact List.mem_map.2 ⟨x, hx, rfl⟩
  obtain ⟨p, -, h⟩ := List.mem_map.1 this
  have h1 := (Prod.mk.inj h).1
  rw [← h1]; rfl

/-- a key is sought -/
theorem MapE.find {m : List (Int × Value)} {es : Array MapEntry} (he : es.toList.map (fun e => (e.key, e.val)) = m.map (fun p => (Value.int .i64 p.1, p.2))) (hn : (m.map (·.1)).Nodup) (k : Int) :
    (Instr.findNow (.int .i64) (.int .i64 k) es.toList 0 = some none ∧ m.lookup k = none ∧ ∀ x ∈ es.toList, x.key ≠ .int .i64 k) ∨
    ∃ j v e, Instr.findNow (.int .i64) (.int .i64 k) es.toList 0 = some (some (j, v)) ∧ m.lookup k = some v ∧ m[j]? = some (k, v) ∧ es[j]? = some e ∧ e.key = .int .i64 k := by
  rcases findNow_spec (d := .int .i64) (k := .int .i64 k) rfl es.toList 0 (MapE.keys (w := default) (b := 0) he) with ⟨h1, h2⟩ | ⟨j, e, h1, h2, h3⟩
  · refine .inl ⟨h1, lookup_none (fun p hp => ?_), h2⟩
    rintro rfl
    have : (Value.int .i64 p.1, p.2) ∈ es.toList.map (fun e => (e.key, e.val)) := by rw [he]; exact List.mem_map.2 ⟨p, hp, rfl⟩
    obtain ⟨x, hx, hh⟩ := List.mem_map.1 this
    exact h2 x hx (Prod.mk.inj hh).1
  · have hj : (m.map (fun p => (Value.int .i64 p.1, p.2)))[j]? = some (e.key, e.val) := by rw [← he, List.getElem?_map, h2]; rfl
    rw [List.getElem?_map] at hj
    cases hm : m[j]? with
    | none => rw [hm] at hj; simp at hj
    | some p =>
      rw [hm] at hj
      obtain ⟨k', v'⟩ := p
      simp [h3] at hj
      obtain ⟨rfl, rfl⟩ := hj
      exact .inr ⟨j, _, e, by simpa using h1, lookup_at hn hm, hm, by simpa using h2, h3⟩

section laws
variable {P : Program} {w : World} {b : Nat} {m : List (Int × Value)} {t kt et : TypeId}
theorem MapE.run_lookup (h : MapE w b m) (ht : P.underlying t = some (.map kt et)) (hk : P.underlying kt = some (.int .i64)) (z : Value) (hz : (zeroValue et).run P w = .ok z w) (k : Int) (ok : Bool) :
    (Instr.lookup t (.map (some b)) (.int .i64 k) ok).run P w = .ok (if ok then .tuple #[(m.lookup k).getD z, .bool (m.lookup k).isSome] else (m.lookup k).getD z) w := by
  have hn := h.nodup
  obtain ⟨es, c, hb, hst, he⟩ := h
  rcases MapE.find he hn k with ⟨h1, h2, -⟩ | ⟨j, v, e, h1, h2, -⟩
  · simp [Instr.lookup, run_underlying ht, Go.MapKept.run_getObj_map hb, run_checkKey (k := .int .i64 k) hk rfl, run_findKey hk h1, Result.andThen, hz, h2]
  · simp [Instr.lookup, run_underlying ht, Go.MapKept.run_getObj_map hb, run_checkKey (k := .int .i64 k) hk rfl, run_findKey hk h1, Result.andThen, h2]
theorem set_upd {o : Obj} (hb : w.heap[b]? = some o) (o' : Obj) : Upd (fun k => k = b) w { w with heap := w.heap.setIfInBounds b o' } :=
  ⟨rfl, rfl, rfl, by simp, fun k _ hk => (heap_set hb).2 k hk⟩
theorem MapE.run_update (h : MapE w b m) (ht : P.underlying t = some (.map kt et)) (hk : P.underlying kt = some (.int .i64)) (k : Int) (v : Value) :
    ∃ w', (Instr.mapUpdate t (.map (some b)) (.int .i64 k) v).run P w = .ok () w' ∧ MapE w' b (aput m k v) ∧ Upd (fun k => k = b) w w' ∧ w'.heap.size = w.heap.size := by
  have hn := h.nodup
  obtain ⟨es, c, hb, hst, he⟩ := h
  rcases MapE.find he hn k with ⟨h1, h2, h3⟩ | ⟨j, v0, e, h1, h2, h4, h5, h6⟩
  · refine ⟨{ w with heap := w.heap.setIfInBounds b (.map (es.push { key := .int .i64 k, val := v, born := c }) (c + 1)) }, ?_, ⟨_, _, (heap_set hb).1, stamped_push hst h3, ?_⟩, set_upd hb _, by simp⟩
    · simp [Instr.mapUpdate, run_underlying ht, Go.MapKept.run_getObj_map hb, run_checkKey (k := .int .i64 k) hk rfl, run_findKey hk h1, Result.andThen, Go.MapKept.run_setObj_map _ hb]
    · unfold aput
      rw [h2]
      simp [he]
  · have hkey : ((es[j]?).map (·.key)).getD (.int .i64 k) = .int .i64 k := by rw [h5]; exact h6
    refine ⟨{ w with heap := w.heap.setIfInBounds b (.map (es.modify j fun e => { e with key := .int .i64 k, val := v }) c) }, ?_, ⟨_, _, (heap_set hb).1, stamped_modify hst j _ (fun _ _ => rfl) (fun e' _ h => by rw [h5] at h; obtain rfl := Option.some.inj h; exact h6.symm), ?_⟩, set_upd hb _, by simp⟩
    · simp [Instr.mapUpdate, run_underlying ht, Go.MapKept.run_getObj_map hb, run_checkKey (k := .int .i64 k) hk rfl, run_findKey hk h1, Result.andThen, h5, h6, run_keyThatStays (d := .int .i64) (k := .int .i64 k) rfl, Go.MapKept.run_setObj_map _ hb]
    · unfold aput
      rw [h2]
      simp only [Option.isSome_some, if_true, Array.toList_modify]
      rw [← modify_aput hn h4, map_modify_of (fun e : MapEntry => (e.key, e.val)) _ (fun _ => (Value.int .i64 k, v)) (fun _ => rfl), he, map_modify_of (fun p : Int × Value => (Value.int .i64 p.1, p.2)) _ (fun _ => (Value.int .i64 k, v)) (fun _ => rfl)]
theorem MapE.run_delete (h : MapE w b m) (ht : P.underlying t = some (.map kt et)) (hk : P.underlying kt = some (.int .i64)) (k : Int) (ty : TypeId) :
    ∃ w', (Builtin.delete_ #[t, kt] ty #[.map (some b), .int .i64 k]).run P w = .ok (.tuple #[]) w' ∧ MapE w' b (adel m k) ∧ Upd (fun k => k = b) w w' ∧ w'.heap.size = w.heap.size := by
  have hn := h.nodup
  obtain ⟨es, c, hb, hst, he⟩ := h
  rcases MapE.find he hn k with ⟨h1, h2, h3⟩ | ⟨j, v0, e, h1, h2, h4, h5, h6⟩
  · refine ⟨{ w with heap := w.heap.setIfInBounds b (.map es c) }, ?_, ⟨_, _, (heap_set hb).1, hst, ?_⟩, set_upd hb _, by simp⟩
    · simp [Builtin.delete_, run_underlying ht, Go.MapKept.run_getObj_map hb, run_checkKey (k := .int .i64 k) hk rfl, run_findKey hk h1, Result.andThen, Go.MapKept.run_setObj_map _ hb]
    · rw [adel_none h2]; exact he
  · refine ⟨{ w with heap := w.heap.setIfInBounds b (.map (es.eraseIdxIfInBounds j) c) }, ?_, ⟨_, _, (heap_set hb).1, stamped_erase hst j, ?_⟩, set_upd hb _, by simp⟩
    · simp [Builtin.delete_, run_underlying ht, Go.MapKept.run_getObj_map hb, run_checkKey (k := .int .i64 k) hk rfl, run_findKey hk h1, Result.andThen, Go.MapKept.run_setObj_map _ hb]
    · have hj : j < es.size := (Array.getElem?_eq_some_iff.1 h5).1
      have e1 : (es.eraseIdxIfInBounds j).toList = es.toList.eraseIdx j := by unfold Array.eraseIdxIfInBounds; rw [dif_pos hj, Array.toList_eraseIdx]
      rw [e1, map_eraseIdx_of, he, ← map_eraseIdx_of, eraseIdx_adel hn h4]
theorem MapE.run_clear (h : MapE w b m) (ht : P.underlying t = some (.map kt et)) (ty : TypeId) :
    ∃ w', (Builtin.clear_ #[t] ty #[.map (some b)]).run P w = .ok (.tuple #[]) w' ∧ MapE w' b [] ∧ Upd (fun k => k = b) w w' ∧ w'.heap.size = w.heap.size := by
  obtain ⟨es, c, hb, hst, he⟩ := h
  refine ⟨{ w with heap := w.heap.setIfInBounds b (.map #[] c) }, ?_, ⟨_, _, (heap_set hb).1, stamped_empty c, rfl⟩, set_upd hb _, by simp⟩
  simp [Builtin.clear_, run_underlying ht, Go.MapKept.run_getObj_map hb, Result.andThen, Go.MapKept.run_setObj_map _ hb]
end laws

section wp
variable {P : Program} (w : World) {ops : Array Oper} {rest : List Oper} {o : Oper} {a : Act} {Q : Exit → Act → World → Prop} {t kt et : TypeId} {b : Nat} {m : List (Int × Value)}
theorem wpList_lookE (hg : o.guard = none) (mo x : Operand) (ok : Bool) (hop : o.op = Op.lookup t mo x ok) (ht : P.underlying t = some (.map kt et)) (hk : P.underlying kt = some (.int .i64)) (z : Value) (hz : (zeroValue et).run P w = .ok z w)
    (hm : a.eval mo = .map (some b)) (h : MapE w b m) (k : Int) (hx : a.eval x = .int .i64 k) (r : Option Value) (hr : m.lookup k = r)
    (hK : wpList P ops Q rest (a.put o.dst (if ok then .tuple #[r.getD z, .bool r.isSome] else r.getD z)) w) : wpList P ops Q (o :: rest) a w := by
  refine wpList_plain hg fun K' hK' => ?_
  have hrun := h.run_lookup ht hk z hz k ok
  rw [hr] at hrun
  unfold Oper.wp
  simp [execOp, hop, hm, hx, hrun, Result.andThen]
  exact hK' _ _ hK
theorem wpList_look1 (hg : o.guard = none) (mo x : Operand) (hop : o.op = Op.lookup t mo x false) (ht : P.underlying t = some (.map kt et)) (hk : P.underlying kt = some (.int .i64)) (z : Value) (hz : ∀ w, (zeroValue et).run P w = .ok z w)
    (hm : a.eval mo = .map (some b)) (h : MapE w b m) (k : Int) (hx : a.eval x = .int .i64 k) (r : Value) (hr : Hid ((m.lookup k).getD z = r))
    (hK : wpList P ops Q rest (a.put o.dst r) w) : wpList P ops Q (o :: rest) a w :=
  wpList_lookE w hg mo x false hop ht hk z (hz w) hm h k hx _ rfl (by simpa [hr.out] using hK)
theorem wpList_look2 (hg : o.guard = none) (mo x : Operand) (hop : o.op = Op.lookup t mo x true) (ht : P.underlying t = some (.map kt et)) (hk : P.underlying kt = some (.int .i64)) (z : Value) (hz : ∀ w, (zeroValue et).run P w = .ok z w)
    (hm : a.eval mo = .map (some b)) (h : MapE w b m) (k : Int) (hx : a.eval x = .int .i64 k) (r : Value) (hr : Hid ((m.lookup k).getD z = r)) (ok : Bool) (hok : Hid ((m.lookup k).isSome = ok))
    (hK : wpList P ops Q rest (a.put o.dst (.tuple #[r, .bool ok])) w) : wpList P ops Q (o :: rest) a w :=
  wpList_lookE w hg mo x true hop ht hk z (hz w) hm h k hx _ rfl (by simpa [hr.out, hok.out] using hK)
theorem wpList_putE (hg : o.guard = none) (mo x y : Operand) (hop : o.op = Op.mapUpdate t mo x y) (ht : P.underlying t = some (.map kt et)) (hk : P.underlying kt = some (.int .i64))
    (hm : a.eval mo = .map (some b)) (h : MapE w b m) (k : Int) (hx : a.eval x = .int .i64 k) (v : Value) (hv : a.eval y = v)
    (hK : ∀ w', MapE w' b (aput m k v) → Upd (fun k => k = b) w w' → w'.heap.size = w.heap.size → wpList P ops Q rest (a.put o.dst (.tuple #[])) w') : wpList P ops Q (o :: rest) a w := by
  refine wpList_plain hg fun K' hK' => ?_
  obtain ⟨w', hrun, h1, h2, h3⟩ := h.run_update (P := P) ht hk k v
  unfold Oper.wp
  simp [execOp, hop, hm, hx, hv, hrun, Result.andThen]
  exact hK' _ _ (hK w' h1 h2 h3)
theorem step_putE {K : Act → World → Prop} {E : Prop} (hg : o.guard = none) (mo x y : Operand) (hop : o.op = Op.mapUpdate t mo x y) (ht : P.underlying t = some (.map kt et)) (hk : P.underlying kt = some (.int .i64))
    (hm : a.eval mo = .map (some b)) (h : MapE w b m) (k : Int) (hx : a.eval x = .int .i64 k) (v : Value) (hv : a.eval y = v)
    (hK : ∀ w', MapE w' b (aput m k v) → Upd (fun k => k = b) w w' → w'.heap.size = w.heap.size → K (a.put o.dst (.tuple #[])) w') : if Region.wanted o (yielded ops a.tmps) = true then Oper.wp P o a w K Q else E := by
  have hw : Region.wanted o (yielded ops a.tmps) = true := by simp [Region.wanted, hg]
  rw [if_pos hw]
  obtain ⟨w', hrun, h1, h2, h3⟩ := h.run_update (P := P) ht hk k v
  unfold Oper.wp
  simp [execOp, hop, hm, hx, hv, hrun, Result.andThen, Oper.upon]
  exact hK w' h1 h2 h3
theorem wpList_delE (hg : o.guard = none) (mo x : Operand) (hop : o.op = Op.call { callee := Callee.builtin Builtin.delete, args := #[mo, x], argTypes := #[t, kt] }) (ht : P.underlying t = some (.map kt et)) (hk : P.underlying kt = some (.int .i64))
    (hm : a.eval mo = .map (some b)) (h : MapE w b m) (k : Int) (hx : a.eval x = .int .i64 k)
    (hK : ∀ w', MapE w' b (adel m k) → Upd (fun k => k = b) w w' → w'.heap.size = w.heap.size → wpList P ops Q rest (a.put o.dst (.tuple #[])) w') : wpList P ops Q (o :: rest) a w := by
  refine wpList_plain hg fun K' hK' => ?_
  obtain ⟨w', hrun, h1, h2, h3⟩ := h.run_delete (P := P) ht hk k o.type
  unfold Oper.wp execOp
  simp only [hop, resolve, invoke, builtin, Sem.run_bind, Sem.run_pure, Result.andThen_ok, List.map_toArray, List.map_cons, List.map_nil, hm, hx, hrun]
  exact hK' _ _ (hK w' h1 h2 h3)
theorem wpList_clearE (hg : o.guard = none) (mo : Operand) (hop : o.op = Op.call { callee := Callee.builtin Builtin.clear, args := #[mo], argTypes := #[t] }) (ht : P.underlying t = some (.map kt et))
    (hm : a.eval mo = .map (some b)) (h : MapE w b m)
    (hK : ∀ w', MapE w' b [] → Upd (fun k => k = b) w w' → w'.heap.size = w.heap.size → wpList P ops Q rest (a.put o.dst (.tuple #[])) w') : wpList P ops Q (o :: rest) a w := by
  refine wpList_plain hg fun K' hK' => ?_
  obtain ⟨w', hrun, h1, h2, h3⟩ := h.run_clear (P := P) ht o.type
  unfold Oper.wp execOp
  simp only [hop, resolve, invoke, builtin, Sem.run_bind, Sem.run_pure, Result.andThen_ok, List.map_toArray, List.map_cons, List.map_nil, hm, hrun]
  exact hK' _ _ (hK w' h1 h2 h3)
end wp
end Go.Proofs.YtjbnfppnmljbmaaGreat
end
