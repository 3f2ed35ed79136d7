/- Joined texts, in this order: QuadNew, QuadIter. Each one's first remark says what it proves; no condition beyond those that its theorems name. -/
import Derived.Test.YtjbnfppnmljbmaaJLawLandStones17
import Derived.Test.YtjbnfppnmljbmaaJLawLandStones11
section
/- Contracts of quad's right, New. -/
namespace Go.Proofs.Ytjbnfppnmljbmaa
open Go.RowKit Go.Deep
open Go.Lib (hid)
set_option linter.unusedVariables false
attribute [local go_sem] Oper.semAt_some

def rightQ (a : Int) : Bool := decide (1 ≤ a) && (decide (a ≤ 256) && decide (bits .and .i64 a (a - 1) = 0))
theorem rightQ_all : ∀ n : Fin 257, 16 ≤ n.val → (rightQ (n.val : Int) = true ↔ (n.val = 16 ∨ n.val = 32 ∨ n.val = 64 ∨ n.val = 128 ∨ n.val = 256)) := by decide +kernel
set_option maxRecDepth 100000 in
theorem quad_right (a : Int) (w : World) : Calls Try.prog 85 #[.int .i64 a] w fun e w' => e = .returned (.bool (rightQ a)) ∧ w' = w := by
  obtain ⟨b, hb⟩ : ∃ b, rightQ a = b := ⟨_, rfl⟩
  have HB := hid hb
  rw [hb]
  clear hb
  go_enter Try.func85, Try.ntmps85
  by_cases h1 : 1 ≤ a
  · by_cases h2 : a ≤ 256
    · have hw : IntKind.i64.wrap (a - 1) = a - 1 := by rw [IntKind.wrap_i64]; omega
      obtain ⟨c, hc⟩ : ∃ c, bits .and .i64 a (a - 1) = c := ⟨_, rfl⟩
      have HBC : Hid ((c == 0) = b) := hid (by
        have := HB.out
        unfold rightQ at this
        rw [decide_eq_true h1, decide_eq_true h2, hc] at this
        rw [← this]; simp [BEq.beq])
      go_wp2_with fail
      rw [HBC.out]
      go_ret
      exact ⟨rfl, rfl⟩
    · have h2' : ¬ a ≤ 256 := h2
      have hbf : b = false := by rw [← HB.out]; unfold rightQ; rw [decide_eq_false h2]; simp
      subst hbf
      go_wp2_with fail
      go_ret
      exact ⟨rfl, rfl⟩
  · have hbf : b = false := by rw [← HB.out]; unfold rightQ; rw [decide_eq_false h1]; simp
    subst hbf
    go_wp2_with fail
    go_ret
    exact ⟨rfl, rfl⟩
theorem rightQ_pow : ∀ n : Fin 257, rightQ (n.val : Int) = true → (n.val = 1 ∨ n.val = 2 ∨ n.val = 4 ∨ n.val = 8 ∨ n.val = 16 ∨ n.val = 32 ∨ n.val = 64 ∨ n.val = 128 ∨ n.val = 256) := by decide +kernel
theorem rightQ_nat {a : Int} (h : rightQ a = true) : ∃ n : Fin 257, a = (n.val : Int) := by
  unfold rightQ at h
  simp only [Bool.and_eq_true, decide_eq_true_eq] at h
  exact ⟨⟨a.toNat, by omega⟩, by simp; omega⟩
theorem rightQ_sd {a : Int} (h : rightQ a = true) : ∃ k, k ≤ 8 ∧ a = sd k := by
  obtain ⟨n, rfl⟩ := rightQ_nat h
  rcases rightQ_pow n h with e | e | e | e | e | e | e | e | e <;> rw [e]
  · exact ⟨0, by omega, rfl⟩
  · exact ⟨1, by omega, rfl⟩
  · exact ⟨2, by omega, rfl⟩
  · exact ⟨3, by omega, rfl⟩
  · exact ⟨4, by omega, rfl⟩
  · exact ⟨5, by omega, rfl⟩
  · exact ⟨6, by omega, rfl⟩
  · exact ⟨7, by omega, rfl⟩
  · exact ⟨8, by omega, rfl⟩
theorem rightQ_16 (a : Int) : (rightQ a = true ∧ 16 ≤ a) ↔ (a = 16 ∨ a = 32 ∨ a = 64 ∨ a = 128 ∨ a = 256) := by
  constructor
  · rintro ⟨h, h16⟩
    obtain ⟨n, rfl⟩ := rightQ_nat h
    have := (rightQ_all n (by omega)).1 h
    omega
  · intro h
    have key : ∀ n : Fin 257, 16 ≤ n.val → (n.val = 16 ∨ n.val = 32 ∨ n.val = 64 ∨ n.val = 128 ∨ n.val = 256) → rightQ (n.val : Int) = true ∧ 16 ≤ (n.val : Int) := fun n h1 h2 => ⟨(rightQ_all n h1).2 h2, by omega⟩
    rcases h with rfl | rfl | rfl | rfl | rfl
    · exact key ⟨16, by omega⟩ (by simp) (by simp)
    · exact key ⟨32, by omega⟩ (by simp) (by simp)
    · exact key ⟨64, by omega⟩ (by simp) (by simp)
    · exact key ⟨128, by omega⟩ (by simp) (by simp)
    · exact key ⟨256, by omega⟩ (by simp) (by simp)
def sq0 : Sq := ⟨0, 0, []⟩
def NewQPost (w : World) (a : Int) (e : Ending) (w' : World) : Prop :=
  (rightQ a = false ∧ e = .returned (.pointer none) ∧ w' = w) ∨ (rightQ a = true ∧ ∃ q k, a = sd k ∧ e = .returned (.pointer (some ⟨q, 0, none⟩)) ∧ QuadAt w' q (fun b => w.heap.size ≤ b) k sq0 ∧ Below w.heap.size w w')
set_option maxRecDepth 100000 in
theorem quad_New (a : Int) (w : World) : Calls Try.prog 63 #[.int .i64 a] w (NewQPost w a) := by
  obtain ⟨b, hb⟩ : ∃ b, rightQ a = b := ⟨_, rfl⟩
  have hq := quad_right a w
  rw [hb] at hq
  have HB := hid hb
  have HQ := hid hq
  clear hb hq
  go_enter Try.func63, Try.ntmps63
  go_wp2_with fail
  refine HQ.out.mono ?_
  rintro e w2 ⟨rfl, h2⟩
  replace h2 := h2.symm
  subst h2
  cases b with
  | false =>
    go_wp2_with fail
    go_ret
    exact .inl ⟨HB.out, rfl, rfl⟩
  | true =>
    obtain ⟨k, hk, hak⟩ := rightQ_sd HB.out
    have HAK := hid (And.intro hk hak)
    clear hk hak
    go_wp2_with fail
    go_ret
    obtain ⟨hk, hak⟩ := HAK.out
    refine .inr ⟨HB.out, w.heap.size, k, hak, rfl, ⟨?_, ?_, ?_, ?_, hk⟩, Below.new _ _⟩
    · rw [hak]; exact Blk.new w _ _
    · cases k with
      | zero => exact ⟨⟨by decide, by decide⟩, rfl⟩
      | succ k => exact ⟨⟨by decide, by decide⟩, .inl rfl⟩
    · cases k <;> simp [blkS, sq0]
    · intro b hb
      have : blkS k sq0 = [] := by cases k <;> simp [blkS, sq0]
      rw [this] at hb
      simp at hb; subst hb; exact Nat.le_refl _
end Go.Proofs.Ytjbnfppnmljbmaa
end
section
/- Contracts of quad's iterators, and of Any. -/
namespace Go.Proofs.Ytjbnfppnmljbmaa
open Go.RowKit Go.Deep
open Go.Lib (hid)
set_option linter.unusedVariables false
attribute [local go_sem] Oper.semAt_some

abbrev itQ (bT bR : Nat) : Value := .func (.func 95) #[] #[.pointer (some ⟨bT, 0, none⟩), .pointer (some ⟨bR, 0, none⟩)]
set_option maxRecDepth 100000 in
set_option maxHeartbeats 4000000 in
theorem quad_meets1 (m l n0 B N : Nat) (J Jx : List Tg → World → Prop) (W : World) (bT bR q k : Nat) (F : Nat → Prop) (s : Sq) (rx ry ra rb : Int) (env : QEnv m l n0 B N J Jx W) (hT : Blk W bT #[.pointer (some ⟨q, 0, none⟩)]) (hR : Blk W bR #[.int .i64 rx, .int .i64 ry, .int .i64 ra, .int .i64 rb]) (h : QuadAt W q F k s) (hF : ∀ b ∈ q :: blkS k s, b < n0) (h0 : J [] W) (hN : (metS k s 0 0 (rx, ry, ra, rb)).length ≤ N) :
    Calls Try.prog 95 #[.func (.yield l) #[] #[], .pointer (some ⟨bT, 0, none⟩), .pointer (some ⟨bR, 0, none⟩)] W fun e W' => e = .returned (.tuple #[]) ∧ (J (metS k s 0 0 (rx, ry, ra, rb)) W' ∨ ∃ p, p <+: metS k s 0 0 (rx, ry, ra, rb) ∧ Jx p W') := by
  obtain ⟨S, hS⟩ : ∃ S, sd k = S := ⟨_, rfl⟩
  have HS := hid hS
  have HQ := hid h
  have t0 : W.cell? ⟨bT, 0, none⟩ = some (.pointer (some ⟨q, 0, none⟩)) := by rw [hT.cell]; rfl
  obtain ⟨r0, r1, r2, r3⟩ := hR.c4r
  have HLV : Hid (∀ z, Below W.heap.size W z → Calls Try.prog 96 #[.pointer (some ⟨q, 1, none⟩), .agg #[.int .i64 0, .int .i64 0, .int .i64 S, .int .i64 S], .agg #[.int .i64 rx, .int .i64 ry, .int .i64 ra, .int .i64 rb], .func (.yield l) #[] #[]] z fun e W' => ∃ b, e = .returned (.bool b) ∧ Hid (J (metS k s 0 0 (rx, ry, ra, rb)) W' ∨ ∃ p, p <+: metS k s 0 0 (rx, ry, ra, rb) ∧ Jx p W')) := hid (fun z hz => by
    have hq := h.below hz
    have := quad_leaves k m l n0 B N J Jx W z s 0 0 rx ry ra rb [] q 1 (rootC k s) env (KeepQ.of_below hz (Nat.le_trans env.n0B env.BW)) hq.sq hq.blk rfl rfl (hF q (by simp)) (fun b hb => hF b (List.mem_cons_of_mem _ hb)) hq.own (env.grow _ _ _ h0 hz) (by simpa using hN)
    rw [hS] at this
    refine this.mono ?_
    rintro e W' (⟨rfl, q1, -⟩ | ⟨rfl, p, q1, q2⟩)
    · exact ⟨true, rfl, hid (.inl (by simpa using q1))⟩
    · exact ⟨false, rfl, hid (.inr ⟨p, q1, by simpa using q2⟩)⟩)
  clear env hT hR h hF h0 hN hS
  refine (callsIn_wide (n := 5)).1 ?_
  refine callsIn_of_wp Try.func95 rfl trivial ?_ rfl
  simp only [Try.ntmps95, List.size_toArray, List.length_cons, List.length_nil, Nat.reduceAdd, Nat.reduceSub, Array.replicate_succ, Array.replicate_zero, List.push_toArray, List.append_toArray, List.nil_append, List.cons_append]
  replace t0 := fun (z : World) (hz : Below W.heap.size W z) => cellOf_belowR hz t0
  replace r0 := fun (z : World) (hz : Below W.heap.size W z) => cellOf_belowR hz r0
  replace r1 := fun (z : World) (hz : Below W.heap.size W z) => cellOf_belowR hz r1
  replace r2 := fun (z : World) (hz : Below W.heap.size W z) => cellOf_belowR hz r2
  replace r3 := fun (z : World) (hz : Below W.heap.size W z) => cellOf_belowR hz r3
  have hyd := (Below.refl W.heap.size W).drew
  refine wpIn_region_keptY [7] (fun y => Below W.heap.size W y) (by kernel_rfl) (by assumption) (fun hH => ?_)
  refine wpKY.take (i := 0) (v := _) (by simp only [List.getElem?_toArray, List.getElem?_cons_succ, List.getElem?_cons_zero]; rfl) (by kernel_rfl) (by kernel_rfl) (by kernel_rfl) (by kernel_rfl) (by exact fun _ _ _ h => h) (by first | exact Or.inl ⟨by rfl, by intro w hSw; go_simp; try with_reducible rfl⟩ | exact Or.inr ⟨by rfl, rfl⟩) hH ?_
  try simp only [Act.put, List.setIfInBounds_toArray, List.set_cons_zero, List.set_cons_succ]
  refine wpKY.take (i := 1) (v := _) (by simp only [List.getElem?_toArray, List.getElem?_cons_succ, List.getElem?_cons_zero]; rfl) (by kernel_rfl) (by kernel_rfl) (by kernel_rfl) (by kernel_rfl) (by exact fun _ _ _ h => h) (by first | exact Or.inl ⟨by rfl, by intro w hSw; go_simp; try with_reducible rfl⟩ | exact Or.inr ⟨by rfl, rfl⟩) hH ?_
  try simp only [Act.put, List.setIfInBounds_toArray, List.set_cons_zero, List.set_cons_succ]
  refine wpKY.take (i := 2) (v := _) (by simp only [List.getElem?_toArray, List.getElem?_cons_succ, List.getElem?_cons_zero]; rfl) (by kernel_rfl) (by kernel_rfl) (by kernel_rfl) (by kernel_rfl) (by exact fun _ _ _ h => h) (by first | exact Or.inl ⟨by rfl, by intro w hSw; go_simp; try with_reducible rfl⟩ | exact Or.inr ⟨by rfl, rfl⟩) hH ?_
  try simp only [Act.put, List.setIfInBounds_toArray, List.set_cons_zero, List.set_cons_succ]
  refine wpKY.take (i := 3) (v := _) (by simp only [List.getElem?_toArray, List.getElem?_cons_succ, List.getElem?_cons_zero]; rfl) (by kernel_rfl) (by kernel_rfl) (by kernel_rfl) (by kernel_rfl) (by exact fun _ _ _ h => h) (by first | exact Or.inl ⟨by rfl, by intro w hSw; go_simp; try with_reducible rfl⟩ | exact Or.inr ⟨by rfl, rfl⟩) hH ?_
  try simp only [Act.put, List.setIfInBounds_toArray, List.set_cons_zero, List.set_cons_succ]
  refine wpKY.take (i := 5) (v := _) (by simp only [List.getElem?_toArray, List.getElem?_cons_succ, List.getElem?_cons_zero]; rfl) (by kernel_rfl) (by kernel_rfl) (by kernel_rfl) (by kernel_rfl) (by exact fun _ _ _ h => h) (by first | exact Or.inl ⟨by rfl, by intro w hSw; go_simp; try with_reducible rfl⟩ | exact Or.inr ⟨by rfl, rfl⟩) hH ?_
  try simp only [Act.put, List.setIfInBounds_toArray, List.set_cons_zero, List.set_cons_succ]
  refine wpKY.take (i := 6) (v := _) (by simp only [List.getElem?_toArray, List.getElem?_cons_succ, List.getElem?_cons_zero]; rfl) (by kernel_rfl) (by kernel_rfl) (by kernel_rfl) (by kernel_rfl) (by exact fun _ _ _ h => h) (by first | exact Or.inl ⟨by rfl, by intro w hSw; go_simp; try with_reducible rfl⟩ | exact Or.inr ⟨by rfl, rfl⟩) hH ?_
  try simp only [Act.put, List.setIfInBounds_toArray, List.set_cons_zero, List.set_cons_succ]
  refine wpKY.step (i := 4) (by kernel_rfl) (by simp only [List.getElem?_toArray, List.getElem?_cons_succ, List.getElem?_cons_zero]; rfl) (fun K hK => ?_)
  go_simp
  refine ⟨trivial, ?_⟩; refine (callsIn_wide.2 (quad_all _ q F k s (HQ.out.below hyd) S HS.out)).mono ?_; rintro e w3 ⟨rfl, hb3⟩; (have hk3 := Below.next hyd hb3); go_simp
  refine hK.out _ _ (by assumption) (fun hH => ?_)
  clear hK K
  try simp only [Act.put, List.setIfInBounds_toArray, List.set_cons_zero, List.set_cons_succ]
  refine wpKY.late (i := 7) (by kernel_rfl) (by simp only [List.getElem?_toArray, List.getElem?_cons_succ, List.getElem?_cons_zero]; rfl) (by kernel_rfl) (fun K hK => ?_)
  go_simp
  refine ⟨trivial, ?_⟩; refine (callsIn_wide.2 (HLV.out _ hk3)).mono ?_; rintro e W2 ⟨b, rfl, HB⟩; go_simp
  refine hK.out _ _ ?_
  clear hK K
  try simp only [Act.put, List.setIfInBounds_toArray, List.set_cons_zero, List.set_cons_succ]
  refine wpKY.done (by kernel_rfl) ?_ _
  go_end0
  exact ⟨rfl, HB.out⟩
set_option maxRecDepth 100000 in
theorem quad_meets (w : World) (q : Nat) (rx ry ra rb : Int) :
    Calls Try.prog 83 #[.pointer (some ⟨q, 0, none⟩), .agg #[.int .i64 rx, .int .i64 ry, .int .i64 ra, .int .i64 rb]] w fun e w' => ∃ bT bR, e = .returned (itQ bT bR) ∧ Blk w' bT #[.pointer (some ⟨q, 0, none⟩)] ∧ Blk w' bR #[.int .i64 rx, .int .i64 ry, .int .i64 ra, .int .i64 rb] ∧ Below w.heap.size w w' := by
  go_enter Try.func83, Try.ntmps83
  go_wp2_with fail
  go_ret
  refine ⟨w.heap.size, w.heap.size + 1, rfl, (Blk.new w _ _).below (Below.new _ _), ?_, Below.next (Below.new _ _) (Below.new _ _)⟩
  have := Blk.new (w.alloc (.cells #[.pointer (some ⟨q, 0, none⟩)] 84)) #[.int .i64 rx, .int .i64 ry, .int .i64 ra, .int .i64 rb] 33
  simpa using this
theorem stops_meets (bT bR q k : Nat) (F : Nat → Prop) (s : Sq) (n0 : Nat) (rx ry ra rb : Int) (w0 : World) (hn0 : n0 ≤ w0.heap.size)
    (hT : Blk w0 bT #[.pointer (some ⟨q, 0, none⟩)]) (hR : Blk w0 bR #[.int .i64 rx, .int .i64 ry, .int .i64 ra, .int .i64 rb]) (h : QuadAt w0 q F k s) (hF : ∀ b ∈ q :: blkS k s, b < n0) :
    SeqStopsK Fence.wide 4 Try.prog 95 #[.pointer (some ⟨bT, 0, none⟩), .pointer (some ⟨bR, 0, none⟩)] (fun x : Tg => #[rV x.1, .int .i64 x.2]) (KeepQ n0 w0.heap.size) (fun ys => ys = metS k s 0 0 (rx, ry, ra, rb)) (fun pre => pre <+: metS k s 0 0 (rx, ry, ra, rb)) (metS k s 0 0 (rx, ry, ra, rb)).length w0 := by
  intro l J Jx W hW hJ _ hY h0
  have env : QEnv 3 l n0 w0.heap.size (metS k s 0 0 (rx, ry, ra, rb)).length J Jx W := ⟨hY, fun pre W1 W2 h hb => hJ pre W1 W2 none h (grown_belowR hb) (fun r e => by cases e), hn0, hW.size⟩
  refine callsIn_wide.2 ((quad_meets1 3 l n0 w0.heap.size _ J Jx W bT bR q k F s rx ry ra rb env (hT.below hW) (hR.below hW) (h.below hW) hF h0 (Nat.le_refl _)).mono ?_)
  rintro e W' ⟨rfl, h | ⟨s2, h2, h3⟩⟩
  · exact ⟨⟨_, rfl⟩, .inl ⟨_, rfl, h⟩⟩
  · exact ⟨⟨_, rfl⟩, .inr ⟨s2, h2, h3⟩⟩
def anyQ (l : List Tg) (v : Int) : Bool := l.any fun t => decide (t.2 = v)
set_option maxRecDepth 100000 in
set_option maxHeartbeats 8000000 in
theorem quad_Any (w : World) (q k : Nat) (F : Nat → Prop) (s : Sq) (rx ry ra rb v : Int) (h : QuadAt w q F k s) :
    Calls Try.prog 88 #[.pointer (some ⟨q, 0, none⟩), .agg #[.int .i64 rx, .int .i64 ry, .int .i64 ra, .int .i64 rb], .int .i64 v] w fun e w' => e = .returned (.bool (anyQ (metS k s 0 0 (rx, ry, ra, rb)) v)) ∧ Below w.heap.size w w' := by
  obtain ⟨Y, hY⟩ : ∃ Y, metS k s 0 0 (rx, ry, ra, rb) = Y := ⟨_, rfl⟩
  have HY := hid hY
  rw [hY]
  obtain ⟨qa, hqa⟩ : ∃ b, anyQ Y v = b := ⟨_, rfl⟩
  have HQA := hid hqa
  rw [hqa]
  have HT := hid h
  clear h hY hqa
  refine (callsIn_wide (n := 5)).1 ?_
  refine callsIn_of_wp_marks Try.func88 rfl trivial ?_ rfl
  simp only [Try.ntmps88, List.size_toArray, List.length_cons, List.length_nil, Nat.reduceAdd, Nat.reduceSub, Array.replicate_succ, Array.replicate_zero, List.push_toArray, List.append_toArray, List.nil_append, List.cons_append]
  gi_wp2_with (refine ⟨trivial, ?_⟩; refine (callsIn_wide.2 (quad_meets _ q rx ry ra rb)).mono ?_; rintro e w1 ⟨bT, bR, rfl, hT, hR, hb⟩)
  obtain ⟨w2, hw2⟩ : ∃ w2, w2 = ((w.alloc (.cells #[.int .i64 rx, .int .i64 ry, .int .i64 ra, .int .i64 rb] 33)).alloc (.cells #[.int .i64 v] 3)).alloc (.cells #[.bool false] 4) := ⟨_, rfl⟩
  rw [← hw2] at hb
  obtain ⟨b6, hb6⟩ : ∃ z, z = w.heap.size + 1 + 1 := ⟨_, rfl⟩
  obtain ⟨b5, hb5⟩ : ∃ z, z = w.heap.size + 1 := ⟨_, rfl⟩
  obtain ⟨b4, hb4⟩ : ∃ z, z = w.heap.size := ⟨_, rfl⟩
  have hz1 : (World.alloc w (.cells #[.int .i64 rx, .int .i64 ry, .int .i64 ra, .int .i64 rb] 33)).heap.size = w.heap.size + 1 := by simp
  have hz2 : (World.alloc (World.alloc w (.cells #[.int .i64 rx, .int .i64 ry, .int .i64 ra, .int .i64 rb] 33)) (.cells #[.int .i64 v] 3)).heap.size = w.heap.size + 1 + 1 := by simp
  try rw [← hb6]
  try rw [← hb5]
  try rw [← hb4]
  have hb2 : Below w.heap.size w w2 := by rw [hw2]; exact Below.next (Below.next (Below.new _ _) (Below.new _ _)) (Below.new _ _)
  have HK5 : Hid (Blk w1 b5 #[.int .i64 v]) := hid ((show Blk w2 b5 #[.int .i64 v] by rw [hw2, hb5, ← hz1]; exact (Blk.new _ _ _).below (Below.new _ _)).below hb)
  have HK6 : Hid (Blk w1 b6 #[.bool false]) := hid ((show Blk w2 b6 #[.bool false] by rw [hw2, hb6, ← hz2]; exact Blk.new _ _ _).below hb)
  have HB1 := hid (Below.next hb2 hb)
  have HZ : Hid (b4 = w.heap.size ∧ b5 = w.heap.size + 1 ∧ b6 = w.heap.size + 2 ∧ b6 < w1.heap.size) := hid (by have := HK6.out.lt; omega)
  have HT1 := hid (HT.out.below HB1.out)
  have HTI := hid (And.intro hT hR)
  clear hw2 hb hb4 hb5 hb6 hz1 hz2 hb2 hT hR
  have hl1 : w.heap.size ≤ w1.heap.size := HB1.out.size
  refine wpIn_rangeFunc_ownH (F := Fence.wide) (n := 5) (α := Tg) rfl (by omega) (gf := 95) (lb := #[.pointer (some ⟨bT, 0, none⟩), .pointer (some ⟨bR, 0, none⟩)]) rfl trivial (enters_of Try.func95 (by kernel_rfl) rfl)
    (stops_meets bT bR q k F s w.heap.size rx ry ra rb w1 hl1 HTI.out.1 HTI.out.2 HT1.out (fun b hb => by
      rcases List.mem_cons.1 hb with rfl | hb
      · exact HT.out.blk.lt
      · exact HT.out.sq.lt b hb))
    (fun h k => h.trans k) (fun W l o o' hlo ho hc _ => KeepQ.put hl1 W l o o' hlo ho hc) (Below.refl _ _) (fun _ => rfl)
    (fun pre W => (Blk W b5 #[.int .i64 v] ∧ Blk W b6 #[.bool false] ∧ anyQ pre v = false) ∧ Below w.heap.size w W ∧ w1.heap.size ≤ W.heap.size)
    (fun c pre W => (c = .ret ∧ Blk W b6 #[.bool true] ∧ anyQ pre v = true) ∧ Below w.heap.size w W ∧ w1.heap.size ≤ W.heap.size)
    ?hI ?hIx ?h0
    (fun z a' W => a' = { tmps := #[.pointer (some ⟨q, 0, none⟩), .agg #[.int .i64 rx, .int .i64 ry, .int .i64 ra, .int .i64 rb], .int .i64 v, undef, .pointer (some ⟨b4, 0, none⟩), .pointer (some ⟨b5, 0, none⟩), .pointer (some ⟨b6, 0, none⟩), undef, .int .i64 z.2, .pointer (some ⟨q, 0, none⟩), .agg #[.int .i64 rx, .int .i64 ry, .int .i64 ra, .int .i64 rb], itQ bT bR, rV z.1, .int .i64 z.2, undef, undef, undef], defers := [] })
    ?hAx ?assign ?body ?done ?stop
  case hI =>
    rintro pre W W' row ⟨⟨h1, h2, h3⟩, hb, hz⟩ hg hr
    exact ⟨⟨own_blkR hg hr h1, own_blkR hg hr h2, h3⟩, hb.grown hg hb.size (fun j hj => by have := (hr j hj).1; omega), Nat.le_trans hz hg.size⟩
  case hIx =>
    rintro c pre W W' row ⟨⟨h1, h2, h3⟩, hb, hz⟩ hg hr
    exact ⟨⟨h1, own_blkR hg hr h2, h3⟩, hb.grown hg hb.size (fun j hj => by have := (hr j hj).1; omega), Nat.le_trans hz hg.size⟩
  case h0 => exact ⟨⟨HK5.out, HK6.out, rfl⟩, HB1.out, Nat.le_refl _⟩
  case hAx =>
    rintro z a' u W W' row h1 hg hr
    exact h1
  case assign =>
    rintro l pre ⟨⟨zx, zy, za, zb⟩, zv⟩ W K hI hK
    gi_wp2
    exact hK _ _ ((KeepsOthers.refl _).from _) (KeepQ.refl _ _ _) hI rfl
  case body =>
    rintro l pre ⟨⟨zx, zy, za, zb⟩, zv⟩ a' W hl hrec hI rfl hlen
    have HI2 := hid hI
    have k5 : W.cell? ⟨b5, 0, none⟩ = some (.int .i64 v) := by rw [hI.1.1.cell]; rfl
    have k6 : W.cell? ⟨b6, 0, none⟩ = some (.bool false) := by rw [hI.1.2.1.cell]; rfl
    have f6 : W.frozen? ⟨b6, 0, none⟩ = false := hI.1.2.1.unfrozen 0
    clear hI hlen
    by_cases e4 : zv = v
    · subst e4
      gi_wp2
      have hz := HZ.out
      exact ⟨(KeepsOthers.setCell _ _ _).from _, ⟨rfl, by simpa using HI2.out.1.2.1.set 0 (.bool true), by simp [anyQ]⟩, HI2.out.2.1.setCell (by show _ ≤ b6; omega) _, by have := HI2.out.2.2; simpa using this⟩
    · have HE4 := hid e4
      gi_wp2
      exact ⟨(KeepsOthers.refl _).from _, KeepQ.refl _ _ _, ⟨HI2.out.1.1, HI2.out.1.2.1, by have := HI2.out.1.2.2; unfold anyQ at this ⊢; rw [List.any_append, this]; simp [HE4.out]⟩, HI2.out.2⟩
  case done =>
    rintro D ys W hD rfl ⟨⟨-, h1, h2⟩, hb, hz⟩ hK
    rw [HY.out, HQA.out] at h2
    subst h2
    have k4 : W.cell? ⟨b6, 0, none⟩ = some (.bool false) := by rw [h1.cell]; rfl
    have f4 : W.frozen? ⟨b6, 0, none⟩ = false := h1.unfrozen 0
    gi_wp2
    have hK' := (KeepsOthers.setCell W ⟨b6, 0, none⟩ (.bool false)).same D _ hK rfl
    refine ⟨by simp, .inl ⟨_, _, rfl, run_takeDeferred hK', ?_⟩⟩
    have hc4 := cell_kept (World.cell?_setCell_same' W ⟨b6, 0, none⟩ (.bool false) (by rw [k4]; rfl)) (grownBy_putObj' _ D (.deferred none)) (fun r e => by cases e; exact ⟨_, hK', rfl⟩)
    refine ⟨.bool false, ?_, rfl, (hb.setCell (p := ⟨b6, 0, none⟩) (by have := HZ.out; show _ ≤ b6; omega) _).trans (belowK_b (w := w) (Nat.le_refl _) _ D _ _ (by have := hb.size; have := HB1.out.size; omega) hK' rfl rfl)⟩
    simp [results, Try.f88, go_sem, hc4]
  case stop =>
    rintro D c pre W hD hpre ⟨⟨rfl, h2, h3⟩, hb, hz⟩ hK
    rw [HY.out] at hpre
    have hqt : qa = true := by
      rw [← HQA.out]
      unfold anyQ at h3 ⊢
      rw [List.any_eq_true] at h3 ⊢
      obtain ⟨x, h4, h5⟩ := h3
      exact ⟨x, hpre.subset h4, h5⟩
    subst hqt
    have k4 : W.cell? ⟨b6, 0, none⟩ = some (.bool true) := by rw [h2.cell]; rfl
    gi_wp2
    refine ⟨by simp, .inl ⟨_, _, rfl, run_takeDeferred hK, ?_⟩⟩
    have hc4 := cell_kept k4 (grownBy_putObj' _ D (.deferred none)) (fun r e => by cases e; exact ⟨_, hK, rfl⟩)
    refine ⟨.bool true, ?_, rfl, hb.trans (belowK_b (w := w) (Nat.le_refl _) _ D _ _ (by have := hb.size; have := HB1.out.size; omega) hK rfl rfl)⟩
    simp [results, Try.f88, go_sem, hc4]
end Go.Proofs.Ytjbnfppnmljbmaa
end
