/- Joined texts, in this order: QuadSeq, QuadLeaves, QuadObj. Each one's first remark says what it proves; no condition beyond those that its theorems name. -/
import Derived.Test.YtjbnfppnmljbmaaGreatJLawLandFinds16
import Derived.Test.YtjbnfppnmljbmaaGreatJLawLandFinds09
section
/- Iterators over a quadtree: what a round keeps. -/
namespace Go.Proofs.YtjbnfppnmljbmaaGreat
open Go.RowKit
open Go.Lib (hid)
set_option linter.unusedVariables false

/-- what a round keeps: all that lay below n0, and all cells that were laid since B -/
structure KeepQ (n0 B : Nat) (W W' : World) : Prop where
  os : W'.os = W.os
  tape : W'.tape = W.tape
  output : W'.output = W.output
  size : W.heap.size ≤ W'.heap.size
  low : ∀ k, k < n0 → W'.heap[k]? = W.heap[k]?
  cells : ∀ (k : Nat) (o : Obj), B ≤ k → W.heap[k]? = some o → o.isCells = true → W'.heap[k]? = some o
theorem KeepQ.refl (n0 B : Nat) (W : World) : KeepQ n0 B W W := ⟨rfl, rfl, rfl, Nat.le_refl _, fun _ _ => rfl, fun _ _ _ h _ => h⟩
theorem KeepQ.trans {n0 B : Nat} {X Y Z : World} (h : KeepQ n0 B X Y) (k : KeepQ n0 B Y Z) : KeepQ n0 B X Z :=
  ⟨k.os.trans h.os, k.tape.trans h.tape, k.output.trans h.output, Nat.le_trans h.size k.size, fun i hi => (k.low i hi).trans (h.low i hi), fun i o hB hi ho => k.cells i o hB (h.cells i o hB hi ho) ho⟩
theorem KeepQ.put {n0 B : Nat} (hn : n0 ≤ B) (W : World) (l : Nat) (o o' : Obj) (hl : B ≤ l) (h : W.heap[l]? = some o) (hc : o.isCells = false) : KeepQ n0 B W (W.putObj l o') :=
  ⟨rfl, rfl, rfl, by simp, fun k hk => World.putObj_heap_other (by omega), fun k o2 _ hk ho => by
    by_cases e : k = l
    · subst e; rw [h] at hk; cases hk; rw [hc] at ho; cases ho
    · exact (World.putObj_heap_other e).trans hk⟩
theorem KeepQ.of_upd {n0 B : Nat} {S : Nat → Prop} {W W' : World} (h : Upd S W W') (hn : n0 ≤ W.heap.size) (hS : ∀ k, k < W.heap.size → S k → n0 ≤ k ∧ k < B) : KeepQ n0 B W W' :=
  ⟨h.os, h.tape, h.output, h.size, fun k hk => h.block k (by omega) (fun q => by have := (hS k (by omega) q).1; omega), fun k o hB hk _ => by
    have hl := (Array.getElem?_eq_some_iff.1 hk).1
    rw [h.block k hl (fun q => by have := (hS k hl q).2; omega)]; exact hk⟩
theorem KeepQ.of_below {n0 B : Nat} {W W' : World} (h : Below W.heap.size W W') (hn : n0 ≤ W.heap.size) : KeepQ n0 B W W' := .of_upd (Upd.of_below (S := fun _ => False) h) hn (fun _ _ q => q.elim)
theorem KeepQ.upd {n0 B : Nat} {W W' : World} (h : KeepQ n0 B W W') : Upd (fun k => n0 ≤ k) W W' := ⟨h.os, h.tape, h.output, h.size, fun k _ hk => h.low k (by omega)⟩
theorem KeepQ.blk {n0 B : Nat} {W W' : World} (h : KeepQ n0 B W W') {g : Nat} {cs : Array Value} (hg : B ≤ g) (hk : Blk W g cs) : Blk W' g cs := by
  obtain ⟨e, hk⟩ := hk; exact ⟨e, h.cells g _ hg hk rfl⟩
theorem KeepQ.blkLow {n0 B : Nat} {W W' : World} (h : KeepQ n0 B W W') {g : Nat} {cs : Array Value} (hg : g < n0) (hk : Blk W g cs) : Blk W' g cs := by
  obtain ⟨e, hk⟩ := hk; exact ⟨e, (h.low g hg).trans hk⟩
theorem SqAt.keep {n0 B : Nat} {W W' : World} (h : KeepQ n0 B W W') {k : Nat} {s : Sq} (hs : SqAt k W s) (hl : ∀ q ∈ blkS k s, q < n0) : SqAt k W' s :=
  hs.upd h.upd (fun q hq z => by have := hl q hq; omega)
def LeafPost (n0 B : Nat) (J Jx : List Tg → World → Prop) (W : World) (pre Y : List Tg) (e : Ending) (W' : World) : Prop :=
  (e = .returned (.bool true) ∧ J (pre ++ Y) W' ∧ KeepQ n0 B W W') ∨ (e = .returned (.bool false) ∧ ∃ s, s <+: Y ∧ Jx (pre ++ s) W')
structure QEnv (m l n0 B N : Nat) (J Jx : List Tg → World → Prop) (W0 : World) : Prop where
  yld : ∀ pre x W1, J pre W1 → pre.length < N → YieldAt Fence.wide m Tryz.prog l #[rV x.1, .int .i64 x.2] W1 fun e W' => (e = .returned (.bool true) ∧ J (pre ++ [x]) W' ∧ KeepQ n0 B W1 W') ∨ (e = .returned (.bool false) ∧ Jx (pre ++ [x]) W')
  grow : ∀ pre W1 W2, J pre W1 → Below W1.heap.size W1 W2 → J pre W2
  n0B : n0 ≤ B
  BW : B ≤ W0.heap.size
/-- the leaves that meet r -/
def mS (r : R4) (q : R4) : Bool := decide (MeetsR q r)
def metS (k : Nat) (s : Sq) (X Y : Int) (r : R4) : List Tg := flR (mS r) (lvS k s X Y)
theorem metS_none {k : Nat} {s : Sq} {X Y : Int} {r : R4} (h : OwnOk k X Y) (hm : ¬ MeetsR (ownR k X Y) r) : metS k s X Y r = [] := by
  unfold metS flR
  rw [List.filter_eq_nil_iff]
  intro t ht q
  have hin := lv_in k s X Y h t ht
  have := of_decide_eq_true q
  exact hm (this.mono hin)
theorem metS_leaf {k : Nat} {s : Sq} {X Y : Int} {r : R4} (hs : s.ks = []) (hm : MeetsR (ownR k X Y) r) : metS k s X Y r = [(ownR k X Y, s.v)] := by
  unfold metS
  rw [lv_leaf X Y hs]
  have : mS r (ownR k X Y) = true := decide_eq_true hm
  simp [flR, this]
def metK (k : Nat) (s : Sq) (X Y : Int) (r : R4) (i : Nat) : List Tg := (List.range i).flatMap fun i => metS k (s.ks.getD i default) (quX X (sd k) i) (quY Y (sd k) i) r
theorem metK_zero (k : Nat) (s : Sq) (X Y : Int) (r : R4) : metK k s X Y r 0 = [] := rfl
theorem metK_succ (k : Nat) (s : Sq) (X Y : Int) (r : R4) (i : Nat) : metK k s X Y r (i + 1) = metK k s X Y r i ++ metS k (s.ks.getD i default) (quX X (sd k) i) (quY Y (sd k) i) r := by
  unfold metK; rw [List.range_succ, List.flatMap_append]; simp
theorem flR_flatMap {β : Type} (t : R4 → Bool) (f : β → List Tg) : ∀ l : List β, flR t (l.flatMap f) = l.flatMap fun b => flR t (f b)
  | [] => rfl
  | b :: l => by rw [List.flatMap_cons, List.flatMap_cons, flR_append, flR_flatMap t f l]
theorem metS_node {k : Nat} {s : Sq} {X Y : Int} {r : R4} (hs : s.ks ≠ []) : metS (k + 1) s X Y r = metK k s X Y r 4 := by
  unfold metS metK
  conv => lhs; unfold lvS
  rw [if_neg hs, flR_flatMap]
  rfl
theorem metK_pre {k : Nat} {s : Sq} {X Y : Int} {r : R4} {i : Nat} (hi : i ≤ 4) : metK k s X Y r i <+: metK k s X Y r 4 := by
  have key : ∀ n i, i ≤ n → metK k s X Y r i <+: metK k s X Y r n := by
    intro n
    induction n with
    | zero => intro i hi; obtain rfl : i = 0 := by omega
              exact List.prefix_refl _
    | succ n ih =>
      intro i hi
      rcases Nat.lt_or_ge n i with q | q
      · obtain rfl : i = n + 1 := by omega
        exact List.prefix_refl _
      · rw [metK_succ]; exact (ih i q).trans (List.prefix_append _ _)
  exact key 4 i hi
end Go.Proofs.YtjbnfppnmljbmaaGreat
end
section
/- Contract of quad's leaves. -/
namespace Go.Proofs.YtjbnfppnmljbmaaGreat
open Go.RowKit Go.Deep
open Go.Lib (hid)
set_option linter.unusedVariables false
attribute [local go_sem] Oper.semAt_some

def LvSpec (k : Nat) : Prop := ∀ (m l n0 B N : Nat) (J Jx : List Tg → World → Prop) (W0 W : World) (s : Sq) (X Y rx ry ra rb : Int) (pre : List Tg) (b0 off : Nat) (cs : Array Value), QEnv m l n0 B N J Jx W0 → KeepQ n0 B W0 W → SqAt k W s → Blk W b0 cs → cs[off]? = some (c0S s) → cs[off + 1]? = some (.int .u8 s.v) → b0 < n0 → (∀ q ∈ blkS k s, q < n0) → OwnOk k X Y → J pre W → pre.length + (metS k s X Y (rx, ry, ra, rb)).length ≤ N →
  Calls Tryz.prog 88 #[.pointer (some ⟨b0, off, none⟩), .agg #[.int .i64 X, .int .i64 Y, .int .i64 (sd k), .int .i64 (sd k)], .agg #[.int .i64 rx, .int .i64 ry, .int .i64 ra, .int .i64 rb], .func (.yield l) #[] #[]] W (LeafPost n0 B J Jx W pre (metS k s X Y (rx, ry, ra, rb)))
def LvR (n0 B g5 g6 : Nat) (J : List Tg → World → Prop) (W : World) (pre : List Tg) (k : Nat) (s : Sq) (X Y S : Int) (r : R4) (v32 : Value) (wr : World) : Prop :=
  ∃ i : Nat, v32 = .int .i64 (i : Int) ∧ i ≤ 4 ∧ Hid (J (pre ++ metK k s X Y r i) wr ∧ KeepQ n0 B W wr) ∧ Hid (Blk wr g5 #[.int .i64 X, .int .i64 Y, .int .i64 S, .int .i64 S] ∧ Blk wr g6 #[.int .i64 r.1, .int .i64 r.2.1, .int .i64 r.2.2.1, .int .i64 r.2.2.2])
set_option maxRecDepth 100000 in
set_option maxHeartbeats 8000000 in
theorem leaves_walk (k : Nat) (ih : ∀ k', k = k' + 1 → LvSpec k') : LvSpec k := by
  intro m l n0 B N J Jx W0 W s X Y rx ry ra rb pre b0 off cs env hk0 hs hb h0 h1 hb0 hlow ho hj hN
  obtain ⟨S, hS⟩ : ∃ S, sd k = S := ⟨_, rfl⟩
  obtain ⟨sv, hsv⟩ : ∃ u, s.v = u := ⟨_, rfl⟩
  rw [hS]
  rw [hsv] at h1
  have HE := hid env
  have HK0 := hid hk0
  have HS := hid hs
  have HP := hid hb
  have HC := hid (And.intro h0 h1)
  have HLOW := hid (And.intro hb0 hlow)
  have HOW := hid ho
  have HJ := hid hj
  have HNN := hid hN
  have HSD := hid hS
  have HSV := hid hsv
  have HIH := hid ih
  have HSB : Hid (ByteI sv) := hid (by rw [← hsv]; exact hs.byte)
  clear env hk0 hs hb h0 h1 hb0 hlow ho hj hN hS hsv ih
  refine (callsIn_wide (n := m + 5)).1 ?_
  refine callsIn_of_wp Tryz.func88 rfl trivial ?_ rfl
  simp only [Tryz.ntmps88, List.size_toArray, List.length_cons, List.length_nil, Nat.reduceAdd, Nat.reduceSub, Array.replicate_succ, Array.replicate_zero, List.push_toArray, List.append_toArray, List.nil_append, List.cons_append]
  gi_wp2
  generalize hW : World.alloc (World.alloc W _) _ = w1
  obtain ⟨g5, hg5⟩ : ∃ b, b = W.heap.size := ⟨_, rfl⟩
  obtain ⟨g6, hg6⟩ : ∃ b, b = W.heap.size + 1 := ⟨_, rfl⟩
  have hz : (World.alloc W (.cells #[.int .i64 X, .int .i64 Y, .int .i64 S, .int .i64 S] 25)).heap.size = W.heap.size + 1 := by simp
  try rw [hz]
  try rw [← hg6]
  try rw [← hg5]
  have hb : Below W.heap.size W w1 := by rw [← hW]; exact Below.next (Below.new _ _) (Below.new _ _)
  have HQ1 : Hid (Blk w1 g5 #[.int .i64 X, .int .i64 Y, .int .i64 S, .int .i64 S] ∧ Blk w1 g6 #[.int .i64 rx, .int .i64 ry, .int .i64 ra, .int .i64 rb]) := hid ⟨by rw [← hW, hg5]; exact (Blk.new W _ _).below (Below.new _ _), by rw [← hW, hg6, ← hz]; exact Blk.new _ _ _⟩
  have HB1 := hid hb
  have HG : Hid (B ≤ g5 ∧ B ≤ g6 ∧ n0 ≤ W.heap.size) := hid (by have h1 := HK0.out.size; have h2 := HE.out.BW; have h3 := HE.out.n0B; omega)
  have HS1 := hid (HS.out.below hb)
  have HP1 := hid (HP.out.below hb)
  clear hW hg5 hg6 hz hb
  refine ⟨trivial, ?_⟩
  refine (callsIn_wide.2 (rect_Meets4 X Y S S rx ry ra rb w1)).mono ?_
  rintro e w2 ⟨rfl, hb⟩
  have HB2 := hid (Below.next HB1.out hb)
  have HQ2 := hid (And.intro (HQ1.out.1.below hb) (HQ1.out.2.below hb))
  have HS2 := hid (HS1.out.below hb)
  have HP2 := hid (HP1.out.below hb)
  have HJ2 : Hid (J pre w2 ∧ KeepQ n0 B W w2) := hid ⟨HE.out.grow _ _ _ HJ.out (Below.next HB1.out hb), KeepQ.of_below (Below.next HB1.out hb) HG.out.2.2⟩
  clear hb
  by_cases hm : MeetsR (X, Y, S, S) (rx, ry, ra, rb)
  case neg =>
    have hdm : decide (MeetsR (X, Y, S, S) (rx, ry, ra, rb)) = false := decide_eq_false hm
    rw [hdm]
    have HPO : Hid (LeafPost n0 B J Jx W pre (metS k s X Y (rx, ry, ra, rb)) (.returned (.bool true)) w2) := hid (by
      rw [metS_none HOW.out (by unfold ownR; rw [HSD.out]; exact hm)]
      exact .inl ⟨rfl, by rw [List.append_nil]; exact HJ2.out.1, HJ2.out.2⟩)
    clear hm hdm
    gi_wp2
    refine bodyPost_ret (results_tmp rfl _ _ _) rfl ?_
    exact HPO.out
  have hdm : decide (MeetsR (X, Y, S, S) (rx, ry, ra, rb)) = true := decide_eq_true hm
  rw [hdm]
  have HMT : Hid (MeetsR (ownR k X Y) (rx, ry, ra, rb)) := hid (by unfold ownR; rw [HSD.out]; exact hm)
  clear hm hdm
  have c0 : w2.cell? ⟨b0, off, none⟩ = some (c0S s) := by rw [HP2.out.cell]; exact HC.out.1
  have c1 : w2.cell? ⟨b0, off + 1, none⟩ = some (.int .u8 sv) := by rw [HP2.out.cell]; exact HC.out.2
  obtain ⟨a0, a1, a2, a3⟩ := HQ2.out.1.c4r
  by_cases hlf : s.ks = []
  · rw [c0S_leaf hlf] at c0
    have HX : Hid (metS k s X Y (rx, ry, ra, rb) = [((X, Y, S, S), sv)]) := hid (by rw [metS_leaf hlf HMT.out, HSV.out]; unfold ownR; rw [HSD.out])
    have HLT : Hid (pre.length < N) := hid (by have h1 := HNN.out; rw [HX.out] at h1; simp at h1; omega)
    clear hlf
    gi_wp2
    obtain ⟨fn, tmps, assign, body, hy, hR⟩ := yieldAt_any (m' := m + 5 - 1) (HE.out.yld _ ((X, Y, S, S), sv) w2.drew (HE.out.grow _ _ _ HJ2.out.1 (Below.refl w2.heap.size w2).drew) HLT.out)
    simp only [rV] at hy
    have hR2 := hR.mono (R' := fun e W' => ∃ b, e = .returned (.bool b) ∧ Hid ((b = true ∧ J (pre ++ metS k s X Y (rx, ry, ra, rb)) W' ∧ KeepQ n0 B w2.drew W') ∨ (b = false ∧ Jx (pre ++ metS k s X Y (rx, ry, ra, rb)) W'))) (fun e W' h => by
      rw [HX.out]
      rcases h with ⟨e1, h1, h2⟩ | ⟨e1, h1⟩
      · exact ⟨true, e1, hid (.inl ⟨rfl, h1, h2⟩)⟩
      · exact ⟨false, e1, hid (.inr ⟨rfl, h1⟩)⟩)
    have HY2 := hid hR2
    have hws : IntKind.i64.wrap sv = sv := by rw [IntKind.wrap_i64]; have h1 := HSB.out.1; have h2 := HSB.out.2; omega
    clear hR hR2
    refine wpIn_region_keptY [7, 8] (fun y => y = w2.drew) (by kernel_rfl) (by rfl) (fun hH => ?_)
    refine wpKY.take (i := 0) (v := _) (by simp only [List.getElem?_toArray, List.getElem?_cons_succ, List.getElem?_cons_zero]; rfl) (by kernel_rfl) (by kernel_rfl) (by kernel_rfl) (by kernel_rfl) (by exact fun _ _ _ h => h) (by first | exact Or.inl ⟨by rfl, by intro w hSw; go_simp; try with_reducible rfl⟩ | exact Or.inr ⟨by rfl, rfl⟩) hH ?_
    try simp only [Act.put, List.setIfInBounds_toArray, List.set_cons_zero, List.set_cons_succ]
    refine wpKY.take (i := 1) (v := _) (by simp only [List.getElem?_toArray, List.getElem?_cons_succ, List.getElem?_cons_zero]; rfl) (by kernel_rfl) (by kernel_rfl) (by kernel_rfl) (by kernel_rfl) (by exact fun _ _ _ h => h) (by first | exact Or.inl ⟨by rfl, by intro w hSw; go_simp; try with_reducible rfl⟩ | exact Or.inr ⟨by rfl, rfl⟩) hH ?_
    try simp only [Act.put, List.setIfInBounds_toArray, List.set_cons_zero, List.set_cons_succ]
    refine wpKY.take (i := 2) (v := _) (by simp only [List.getElem?_toArray, List.getElem?_cons_succ, List.getElem?_cons_zero]; rfl) (by kernel_rfl) (by kernel_rfl) (by kernel_rfl) (by kernel_rfl) (by exact fun _ _ _ h => h) (by first | exact Or.inl ⟨by rfl, by intro w hSw; go_simp; try with_reducible rfl⟩ | exact Or.inr ⟨by rfl, rfl⟩) hH ?_
    try simp only [Act.put, List.setIfInBounds_toArray, List.set_cons_zero, List.set_cons_succ]
    refine wpKY.take (i := 3) (v := _) (by simp only [List.getElem?_toArray, List.getElem?_cons_succ, List.getElem?_cons_zero]; rfl) (by kernel_rfl) (by kernel_rfl) (by kernel_rfl) (by kernel_rfl) (by exact fun _ _ _ h => h) (by first | exact Or.inl ⟨by rfl, by intro w hSw; go_simp; try with_reducible rfl⟩ | exact Or.inr ⟨by rfl, rfl⟩) hH ?_
    try simp only [Act.put, List.setIfInBounds_toArray, List.set_cons_zero, List.set_cons_succ]
    refine wpKY.take (i := 4) (v := _) (by simp only [List.getElem?_toArray, List.getElem?_cons_succ, List.getElem?_cons_zero]; rfl) (by kernel_rfl) (by kernel_rfl) (by kernel_rfl) (by kernel_rfl) (by exact fun _ _ _ h => h) (by first | exact Or.inl ⟨by rfl, by intro w hSw; go_simp; try with_reducible rfl⟩ | exact Or.inr ⟨by rfl, rfl⟩) hH ?_
    try simp only [Act.put, List.setIfInBounds_toArray, List.set_cons_zero, List.set_cons_succ]
    refine wpKY.take (i := 5) (v := _) (by simp only [List.getElem?_toArray, List.getElem?_cons_succ, List.getElem?_cons_zero]; rfl) (by kernel_rfl) (by kernel_rfl) (by kernel_rfl) (by kernel_rfl) (by exact fun _ _ _ h => h) (by first | exact Or.inl ⟨by rfl, by intro w hSw; go_simp; try with_reducible rfl⟩ | exact Or.inr ⟨by rfl, rfl⟩) hH ?_
    try simp only [Act.put, List.setIfInBounds_toArray, List.set_cons_zero, List.set_cons_succ]
    refine wpKY.take (i := 6) (v := _) (by simp only [List.getElem?_toArray, List.getElem?_cons_succ, List.getElem?_cons_zero]; rfl) (by kernel_rfl) (by kernel_rfl) (by kernel_rfl) (by kernel_rfl) (by exact fun _ _ _ h => h) (by first | exact Or.inl ⟨by rfl, by intro w hSw; go_simp; try with_reducible rfl⟩ | exact Or.inr ⟨by rfl, rfl⟩) hH ?_
    try simp only [Act.put, List.setIfInBounds_toArray, List.set_cons_zero, List.set_cons_succ]
    refine wpKY.late (i := 7) (by kernel_rfl) (by simp only [List.getElem?_toArray, List.getElem?_cons_succ, List.getElem?_cons_zero]; rfl) (by kernel_rfl) (fun K hK => ?_)
    go_simp
    refine HY2.out.mono ?_; rintro e W3 ⟨b, rfl, HB3⟩; go_simp
    refine hK.out _ _ ?_
    clear hK K
    try simp only [Act.put, List.setIfInBounds_toArray, List.set_cons_zero, List.set_cons_succ]
    refine wpKY.late (i := 8) (by kernel_rfl) (by simp only [List.getElem?_toArray, List.getElem?_cons_succ, List.getElem?_cons_zero]; rfl) (by kernel_rfl) (fun K hK => ?_)
    go_simp
    refine hK.out _ _ ?_
    clear hK K
    try simp only [Act.put, List.setIfInBounds_toArray, List.set_cons_zero, List.set_cons_succ]
    refine wpKY.done (by kernel_rfl) ?_ _
    have HPO : Hid (LeafPost n0 B J Jx W pre (metS k s X Y (rx, ry, ra, rb)) (.returned (.bool b)) W3) := hid (by
      rcases HB3.out with ⟨rfl, q1, q2⟩ | ⟨rfl, q1⟩
      · exact .inl ⟨rfl, q1, (HJ2.out.2.trans (KeepQ.of_below (Below.refl w2.heap.size w2).drew (by have := HG.out.2.2; have := HB2.out.size; omega))).trans q2⟩
      · exact .inr ⟨rfl, _, List.prefix_refl _, q1⟩)
    clear hy hH c0 c1 a0 a1 a2 a3
    gi_wp2
    refine bodyPost_ret (results_tmp rfl _ _ _) rfl ?_
    exact HPO.out
  · obtain ⟨k', hk'⟩ : ∃ k', k = k' + 1 := by
      cases k with
      | zero => exact absurd HS.out.2 hlf
      | succ k' => exact ⟨k', rfl⟩
    have HLF := hid hlf
    rw [c0S_node hlf] at c0
    have HK := hid hk'
    have HOQ : Hid (OwnOk (k' + 1) X Y) := hid (by rw [← hk']; exact HOW.out)
    have HSDq : Hid (2 * sd k' = S) := hid (by rw [← HSD.out, hk', sd_succ])
    have HME : Hid (metS k s X Y (rx, ry, ra, rb) = metK k' s X Y (rx, ry, ra, rb) 4) := hid (by rw [hk']; exact metS_node hlf)
    have hqua := fun (wz : World) => rect_QuartersS X Y (sd k') S HSDq.out wz (sd_pos k') HOQ.out.1 (by have := HOQ.out.2.1; rw [sd_succ, HSDq.out] at this; exact this) HOQ.out.2.2.1 (by have := HOQ.out.2.2.2; rw [sd_succ, HSDq.out] at this; exact this)
    have HQUA := hid hqua
    have HKID : Hid (∀ wz, KeepQ n0 B W wz → s.ks.length = 4 ∧ Blk wz s.b (s.ks.flatMap cellS).toArray ∧ (∀ m ∈ s.ks, SqAt k' wz m) ∧ s.b < n0 ∧ ∀ q ∈ s.ks.flatMap (blkS k'), q < n0) := hid (fun wz hz => by
      have h1 := HS.out.keep hz HLOW.out.2
      rw [HK.out] at h1
      have h2 := HLOW.out.2
      rw [HK.out, blkS_node HLF.out] at h2
      obtain ⟨-, h3 | ⟨h3, h4, h5⟩⟩ := h1
      · exact absurd h3 HLF.out
      · exact ⟨h3, h4, h5, h2 _ (by simp), fun q hq => h2 q (List.mem_cons_of_mem _ hq)⟩)
    clear hlf hk' hqua
    gi_wp2_with (refine ⟨trivial, ?_⟩; refine (callsIn_wide.2 (HQUA.out _)).mono ?_; rintro e w3 ⟨rfl, hb⟩)
    have HL3 : Hid (LvR n0 B g5 g6 J W pre k' s X Y S (rx, ry, ra, rb) (.int .i64 0) w3) := hid ⟨0, rfl, by omega, hid ⟨by rw [metK_zero, List.append_nil]; exact HE.out.grow _ _ _ HJ2.out.1 hb, HJ2.out.2.trans (KeepQ.of_below hb (by have := HG.out.2.2; have := HB2.out.size; omega))⟩, hid ⟨HQ2.out.1.below hb, HQ2.out.2.below hb⟩⟩
    clear hb c0 c1 a0 a1 a2 a3
    gi_loopw [32] (fun v32 wr => LvR n0 B g5 g6 J W pre k' s X Y S (rx, ry, ra, rb) v32 wr) (fun v32 _ => 4 - (intOf v32).toNat)
    case atStart => exact HL3.out
    case round =>
      clear HL3
      obtain ⟨i, rfl, hi, HR, HQ⟩ := hrel
      by_cases hlt : i < 4
      · have i1 : (i : Int) < 4 := by omega
        have i0 : (0 : Int) ≤ (i : Int) := by omega
        have i2 : (i : Int).toNat = i := by omega
        obtain ⟨x1, hx1⟩ : ∃ z, quX X (sd k') i = z := ⟨_, rfl⟩
        obtain ⟨y1, hy1⟩ : ∃ z, quY Y (sd k') i = z := ⟨_, rfl⟩
        obtain ⟨h1, hh1⟩ : ∃ z, sd k' = z := ⟨_, rfl⟩
        have hih := HIH.out k' HK.out m l n0 B N J Jx W0
        have hPF : metK k' s X Y (rx, ry, ra, rb) (i + 1) <+: metS k s X Y (rx, ry, ra, rb) := by rw [HME.out]; exact metK_pre hlt
        have HPF := hid hPF
        have HNX : Hid (∀ wz, KeepQ n0 B W wz → J (pre ++ metK k' s X Y (rx, ry, ra, rb) i) wz → Calls Tryz.prog 88 #[.pointer (some ⟨s.b, i * 2, none⟩), .agg #[.int .i64 x1, .int .i64 y1, .int .i64 h1, .int .i64 h1], .agg #[.int .i64 rx, .int .i64 ry, .int .i64 ra, .int .i64 rb], .func (.yield l) #[] #[]] wz (LeafPost n0 B J Jx wz (pre ++ metK k' s X Y (rx, ry, ra, rb) i) (metS k' (s.ks.getD i default) (quX X (sd k') i) (quY Y (sd k') i) (rx, ry, ra, rb)))) := hid (fun wz hz hjz => by
          obtain ⟨z1, z2, z3, z4, z5⟩ := HKID.out wz hz
          have hmm : s.ks.getD i default ∈ s.ks := by
            rw [List.getD_eq_getElem?_getD, List.getElem?_eq_getElem (by rw [z1]; exact hlt)]; simp
          have := hih wz (s.ks.getD i default) (quX X (sd k') i) (quY Y (sd k') i) rx ry ra rb (pre ++ metK k' s X Y (rx, ry, ra, rb) i) s.b (i * 2) _ HE.out (HK0.out.trans hz) (z3 _ hmm) z2 (kid_cells z1 hlt).1 (kid_cells z1 hlt).2 z4 (fun q hq => z5 q (List.mem_flatMap.2 ⟨_, hmm, hq⟩)) (HOQ.out.qu hlt) hjz (by
            have e1 := hPF.length_le
            rw [metK_succ, List.length_append] at e1
            have e2 := HNN.out
            rw [List.length_append]; omega)
          rw [hx1, hy1, hh1] at this
          rw [← hx1, ← hy1, ← hh1] at this ⊢
          exact this)
        have hidx : ∀ wz : World, (Instr.index 144 (quArr X Y (sd k')) (.int .i64 (i : Int))).run Tryz.prog wz = .ok (.agg #[.int .i64 x1, .int .i64 y1, .int .i64 h1, .int .i64 h1]) wz := fun wz => by rw [idx_quArr _ _ _ wz i hlt, hx1, hy1, hh1]
        clear hih hx1 hy1 hh1 hPF
        gi_wp2
        obtain ⟨w5, hw5⟩ : ∃ w5, w5 = wr.alloc (.cells #[.int .i64 x1, .int .i64 y1, .int .i64 h1, .int .i64 h1] 25) := ⟨_, rfl⟩
        rw [← hw5]
        have hb5 : Below wr.heap.size wr w5 := by rw [hw5]; exact Below.new _ _
        obtain ⟨bb, hbb⟩ : ∃ bb, bb = wr.heap.size := ⟨_, rfl⟩
        rw [← hbb]
        have hO5 : Blk w5 bb #[.int .i64 x1, .int .i64 y1, .int .i64 h1, .int .i64 h1] := by rw [hw5, hbb]; exact Blk.new _ _ _
        have hzW := HR.out.2.size
        have HR5 : Hid (J (pre ++ metK k' s X Y (rx, ry, ra, rb) i) w5.drew ∧ KeepQ n0 B W w5.drew) := hid ⟨HE.out.grow _ _ _ HR.out.1 hb5.drew, HR.out.2.trans (KeepQ.of_below hb5.drew (by have := HG.out.2.2; omega))⟩
        have HQ5 := hid (And.intro (HQ.out.1.below hb5) (HQ.out.2.below hb5))
        have hp0 : w5.cell? ⟨b0, off, none⟩ = some (.pointer (some ⟨s.b, 0, none⟩)) := by
          have h2 := (HR.out.2.trans (KeepQ.of_below hb5 (by have := HG.out.2.2; omega))).blkLow HLOW.out.1 HP.out
          rw [h2.cell, HC.out.1, c0S_node HLF.out]
        obtain ⟨y0, y2, y3, y4⟩ := hO5.c4r
        obtain ⟨r0, r1, r2, r3⟩ := HQ5.out.2.c4r
        have HBB : Hid (B ≤ bb) := hid (by have h1 := HK0.out.size; have h2 := HE.out.BW; omega)
        clear hw5 hb5 hbb hO5 hidx hzW
        replace hp0 := fun (y : World) (hy : y = w5.drew) => (show y.cell? ⟨b0, off, none⟩ = some (.pointer (some ⟨s.b, 0, none⟩)) by rw [hy]; exact hp0)
        replace y0 := fun (y : World) (hy : y = w5.drew) => (show y.cell? ⟨bb, 0, none⟩ = some (.int .i64 x1) by rw [hy]; exact y0)
        replace y2 := fun (y : World) (hy : y = w5.drew) => (show y.cell? ⟨bb, 1, none⟩ = some (.int .i64 y1) by rw [hy]; exact y2)
        replace y3 := fun (y : World) (hy : y = w5.drew) => (show y.cell? ⟨bb, 2, none⟩ = some (.int .i64 h1) by rw [hy]; exact y3)
        replace y4 := fun (y : World) (hy : y = w5.drew) => (show y.cell? ⟨bb, 3, none⟩ = some (.int .i64 h1) by rw [hy]; exact y4)
        replace r0 := fun (y : World) (hy : y = w5.drew) => (show y.cell? ⟨g6, 0, none⟩ = some (.int .i64 rx) by rw [hy]; exact r0)
        replace r1 := fun (y : World) (hy : y = w5.drew) => (show y.cell? ⟨g6, 1, none⟩ = some (.int .i64 ry) by rw [hy]; exact r1)
        replace r2 := fun (y : World) (hy : y = w5.drew) => (show y.cell? ⟨g6, 2, none⟩ = some (.int .i64 ra) by rw [hy]; exact r2)
        replace r3 := fun (y : World) (hy : y = w5.drew) => (show y.cell? ⟨g6, 3, none⟩ = some (.int .i64 rb) by rw [hy]; exact r3)
        have HCL : Hid (CallsIn Fence.wide (m + 5 - 1) Tryz.prog 88 #[.pointer (some ⟨s.b, i * 2, none⟩), .agg #[.int .i64 x1, .int .i64 y1, .int .i64 h1, .int .i64 h1], .agg #[.int .i64 rx, .int .i64 ry, .int .i64 ra, .int .i64 rb], .func (.yield l) #[] #[]] w5.drew (fun e w6 => ∃ b, e = .returned (.bool b) ∧ Hid ((b = true ∧ J (pre ++ metK k' s X Y (rx, ry, ra, rb) (i + 1)) w6 ∧ KeepQ n0 B w5.drew w6) ∨ (b = false ∧ ∃ p, p <+: metS k s X Y (rx, ry, ra, rb) ∧ Jx (pre ++ p) w6)))) := hid (callsIn_wide.2 ((HNX.out w5.drew HR5.out.2 HR5.out.1).mono (by
          rintro e w6 (⟨rfl, q1, q2⟩ | ⟨rfl, p, q1, q2⟩)
          · exact ⟨true, rfl, hid (.inl ⟨rfl, by rw [metK_succ, ← List.append_assoc]; exact q1, q2⟩)⟩
          · refine ⟨false, rfl, hid (.inr ⟨rfl, metK k' s X Y (rx, ry, ra, rb) i ++ p, ?_, by rw [← List.append_assoc]; exact q2⟩)⟩
            refine List.IsPrefix.trans ?_ HPF.out
            rw [metK_succ]
            exact (List.prefix_append_right_inj _).2 q1)))
        refine wpIn_region_keptY [10, 11] (fun y => y = w5.drew) (by kernel_rfl) (by rfl) (fun hH => ?_)
        refine wpKY.take (i := 0) (v := _) (by simp only [List.getElem?_toArray, List.getElem?_cons_succ, List.getElem?_cons_zero]; rfl) (by kernel_rfl) (by kernel_rfl) (by kernel_rfl) (by kernel_rfl) (by exact fun _ _ _ h => h) (by first | exact Or.inl ⟨by rfl, by intro w hSw; go_simp; try with_reducible rfl⟩ | exact Or.inr ⟨by rfl, rfl⟩) hH ?_
        try simp only [Act.put, List.setIfInBounds_toArray, List.set_cons_zero, List.set_cons_succ]
        refine wpKY.take (i := 1) (v := _) (by simp only [List.getElem?_toArray, List.getElem?_cons_succ, List.getElem?_cons_zero]; rfl) (by kernel_rfl) (by kernel_rfl) (by kernel_rfl) (by kernel_rfl) (by exact fun _ _ _ h => h) (by first | exact Or.inl ⟨by rfl, by intro w hSw; go_simp; try with_reducible rfl⟩ | exact Or.inr ⟨by rfl, rfl⟩) hH ?_
        try simp only [Act.put, List.setIfInBounds_toArray, List.set_cons_zero, List.set_cons_succ]
        refine wpKY.take (i := 2) (v := _) (by simp only [List.getElem?_toArray, List.getElem?_cons_succ, List.getElem?_cons_zero]; rfl) (by kernel_rfl) (by kernel_rfl) (by kernel_rfl) (by kernel_rfl) (by exact fun _ _ _ h => h) (by first | exact Or.inl ⟨by rfl, by intro w hSw; go_simp; try with_reducible rfl⟩ | exact Or.inr ⟨by rfl, rfl⟩) hH ?_
        try simp only [Act.put, List.setIfInBounds_toArray, List.set_cons_zero, List.set_cons_succ]
        refine wpKY.take (i := 3) (v := _) (by simp only [List.getElem?_toArray, List.getElem?_cons_succ, List.getElem?_cons_zero]; rfl) (by kernel_rfl) (by kernel_rfl) (by kernel_rfl) (by kernel_rfl) (by exact fun _ _ _ h => h) (by first | exact Or.inl ⟨by rfl, by intro w hSw; go_simp; try with_reducible rfl⟩ | exact Or.inr ⟨by rfl, rfl⟩) hH ?_
        try simp only [Act.put, List.setIfInBounds_toArray, List.set_cons_zero, List.set_cons_succ]
        refine wpKY.take (i := 4) (v := _) (by simp only [List.getElem?_toArray, List.getElem?_cons_succ, List.getElem?_cons_zero]; rfl) (by kernel_rfl) (by kernel_rfl) (by kernel_rfl) (by kernel_rfl) (by exact fun _ _ _ h => h) (by first | exact Or.inl ⟨by rfl, by intro w hSw; go_simp; try with_reducible rfl⟩ | exact Or.inr ⟨by rfl, rfl⟩) hH ?_
        try simp only [Act.put, List.setIfInBounds_toArray, List.set_cons_zero, List.set_cons_succ]
        refine wpKY.take (i := 5) (v := _) (by simp only [List.getElem?_toArray, List.getElem?_cons_succ, List.getElem?_cons_zero]; rfl) (by kernel_rfl) (by kernel_rfl) (by kernel_rfl) (by kernel_rfl) (by exact fun _ _ _ h => h) (by first | exact Or.inl ⟨by rfl, by intro w hSw; go_simp; try with_reducible rfl⟩ | exact Or.inr ⟨by rfl, rfl⟩) hH ?_
        try simp only [Act.put, List.setIfInBounds_toArray, List.set_cons_zero, List.set_cons_succ]
        refine wpKY.take (i := 6) (v := _) (by simp only [List.getElem?_toArray, List.getElem?_cons_succ, List.getElem?_cons_zero]; rfl) (by kernel_rfl) (by kernel_rfl) (by kernel_rfl) (by kernel_rfl) (by exact fun _ _ _ h => h) (by first | exact Or.inl ⟨by rfl, by intro w hSw; go_simp; try with_reducible rfl⟩ | exact Or.inr ⟨by rfl, rfl⟩) hH ?_
        try simp only [Act.put, List.setIfInBounds_toArray, List.set_cons_zero, List.set_cons_succ]
        refine wpKY.take (i := 7) (v := _) (by simp only [List.getElem?_toArray, List.getElem?_cons_succ, List.getElem?_cons_zero]; rfl) (by kernel_rfl) (by kernel_rfl) (by kernel_rfl) (by kernel_rfl) (by exact fun _ _ _ h => h) (by first | exact Or.inl ⟨by rfl, by intro w hSw; go_simp; try with_reducible rfl⟩ | exact Or.inr ⟨by rfl, rfl⟩) hH ?_
        try simp only [Act.put, List.setIfInBounds_toArray, List.set_cons_zero, List.set_cons_succ]
        refine wpKY.take (i := 8) (v := _) (by simp only [List.getElem?_toArray, List.getElem?_cons_succ, List.getElem?_cons_zero]; rfl) (by kernel_rfl) (by kernel_rfl) (by kernel_rfl) (by kernel_rfl) (by exact fun _ _ _ h => h) (by first | exact Or.inl ⟨by rfl, by intro w hSw; go_simp; try with_reducible rfl⟩ | exact Or.inr ⟨by rfl, rfl⟩) hH ?_
        try simp only [Act.put, List.setIfInBounds_toArray, List.set_cons_zero, List.set_cons_succ]
        refine wpKY.take (i := 9) (v := _) (by simp only [List.getElem?_toArray, List.getElem?_cons_succ, List.getElem?_cons_zero]; rfl) (by kernel_rfl) (by kernel_rfl) (by kernel_rfl) (by kernel_rfl) (by exact fun _ _ _ h => h) (by first | exact Or.inl ⟨by rfl, by intro w hSw; go_simp; try with_reducible rfl⟩ | exact Or.inr ⟨by rfl, rfl⟩) hH ?_
        try simp only [Act.put, List.setIfInBounds_toArray, List.set_cons_zero, List.set_cons_succ]
        refine wpKY.late (i := 10) (by kernel_rfl) (by simp only [List.getElem?_toArray, List.getElem?_cons_succ, List.getElem?_cons_zero]; rfl) (by kernel_rfl) (fun K hK => ?_)
        go_simp
        refine ⟨trivial, ?_⟩; refine HCL.out.mono ?_; rintro e w6 ⟨b, rfl, HB6⟩; go_simp
        refine hK.out _ _ ?_
        clear hK K
        try simp only [Act.put, List.setIfInBounds_toArray, List.set_cons_zero, List.set_cons_succ]
        refine wpKY.late (i := 11) (by kernel_rfl) (by simp only [List.getElem?_toArray, List.getElem?_cons_succ, List.getElem?_cons_zero]; rfl) (by kernel_rfl) (fun K hK => ?_)
        go_simp
        refine hK.out _ _ ?_
        clear hK K
        try simp only [Act.put, List.setIfInBounds_toArray, List.set_cons_zero, List.set_cons_succ]
        refine wpKY.done (by kernel_rfl) ?_ _
        clear hp0 y0 y2 y3 y4 r0 r1 r2 r3 hH
        cases b with
        | false =>
          have HPO : Hid (LeafPost n0 B J Jx W pre (metS k s X Y (rx, ry, ra, rb)) (.returned (.bool false)) w6) := hid (by
            rcases HB6.out with ⟨q, -⟩ | ⟨-, p, q1, q2⟩
            · cases q
            · exact .inr ⟨rfl, p, q1, q2⟩)
          gi_wp2
          refine bodyPost_ret (results_tmp rfl _ _ _) rfl ?_
          exact HPO.out
        | true =>
          have HR6 : Hid (J (pre ++ metK k' s X Y (rx, ry, ra, rb) (i + 1)) w6 ∧ KeepQ n0 B W w6) := hid (by
            rcases HB6.out with ⟨-, q1, q2⟩ | ⟨q, -⟩
            · exact ⟨q1, HR5.out.2.trans q2⟩
            · cases q)
          have HQ6 : Hid (Blk w6 g5 #[.int .i64 X, .int .i64 Y, .int .i64 S, .int .i64 S] ∧ Blk w6 g6 #[.int .i64 rx, .int .i64 ry, .int .i64 ra, .int .i64 rb]) := hid (by
            rcases HB6.out with ⟨-, q1, q2⟩ | ⟨q, -⟩
            · exact ⟨q2.blk HG.out.1 (HQ5.out.1.below (Below.refl _ _).drew), q2.blk HG.out.2.1 (HQ5.out.2.below (Below.refl _ _).drew)⟩
            · cases q)
          gi_wp2
          go_roundw
          case rel => exact ⟨i + 1, by go_num, by omega, HR6, HQ6⟩
          case measure => simp [intOf]; omega
      · obtain rfl : i = 4 := by omega
        have HPO : Hid (LeafPost n0 B J Jx W pre (metS k s X Y (rx, ry, ra, rb)) (.returned (.bool true)) wr) := hid (by
          rw [HME.out]
          exact .inl ⟨rfl, HR.out.1, HR.out.2⟩)
        gi_wp2
        refine bodyPost_ret (results_tmp rfl _ _ _) rfl ?_
        exact HPO.out
theorem quad_leaves : ∀ k, LvSpec k
  | 0 => leaves_walk 0 (fun k' e => by omega)
  | k + 1 => leaves_walk (k + 1) (fun k' e => by
    obtain rfl : k = k' := by omega
    exact quad_leaves k)
end Go.Proofs.YtjbnfppnmljbmaaGreat
end
section
/- Contracts of quad's New, Side, all, Set. -/
namespace Go.Proofs.YtjbnfppnmljbmaaGreat
open Go.RowKit Go.Deep
open Go.Lib (hid)
set_option linter.unusedVariables false
attribute [local go_sem] Oper.semAt_some

def rootC (k : Nat) (s : Sq) : Array Value := #[.int .i64 (sd k), c0S s, .int .u8 s.v]
structure QuadAt (w : World) (q : Nat) (F : Nat → Prop) (k : Nat) (s : Sq) : Prop where
  blk : Blk w q (rootC k s)
  sq : SqAt k w s
  nd : (q :: blkS k s).Nodup
  fr : ∀ b ∈ q :: blkS k s, F b
  le : k ≤ 8
theorem QuadAt.upd {S : Nat → Prop} {w w' : World} {q : Nat} {F : Nat → Prop} {k : Nat} {s : Sq} (h : QuadAt w q F k s) (hu : Upd S w w') (hS : ∀ b, S b → ¬ F b) : QuadAt w' q F k s :=
  ⟨h.blk.upd hu (fun z => hS q z (h.fr q (by simp))), h.sq.upd hu (fun b hb z => hS b z (h.fr b (List.mem_cons_of_mem _ hb))), h.nd, h.fr, h.le⟩
theorem QuadAt.below {w w' : World} {q : Nat} {F : Nat → Prop} {k : Nat} {s : Sq} (h : QuadAt w q F k s) (hb : Below w.heap.size w w') : QuadAt w' q F k s := h.upd (S := fun _ => False) (Upd.of_below hb) (fun _ z => z.elim)
theorem QuadAt.weaken {w : World} {q : Nat} {F G : Nat → Prop} {k : Nat} {s : Sq} (h : QuadAt w q F k s) (hG : ∀ b, F b → b < w.heap.size → G b) : QuadAt w q G k s :=
  ⟨h.blk, h.sq, h.nd, fun b hb => hG b (h.fr b hb) (by
    rcases List.mem_cons.1 hb with rfl | hb
    · exact h.blk.lt
    · exact h.sq.lt b hb), h.le⟩
theorem sd_le {k : Nat} (h : k ≤ 8) : sd k ≤ 256 := by
  unfold sd
  have : 2 ^ k ≤ 2 ^ 8 := Nat.pow_le_pow_right (by omega) h
  have e : (2 : Nat) ^ 8 = 256 := by decide
  omega
theorem QuadAt.own {w : World} {q : Nat} {F : Nat → Prop} {k : Nat} {s : Sq} (h : QuadAt w q F k s) : OwnOk k 0 0 := by
  have := sd_le h.le
  unfold OwnOk; omega
theorem QuadAt.c3 {w : World} {q : Nat} {F : Nat → Prop} {k : Nat} {s : Sq} (h : QuadAt w q F k s) : w.cell? ⟨q, 0, none⟩ = some (.int .i64 (sd k)) ∧ w.cell? ⟨q, 1, none⟩ = some (c0S s) ∧ w.cell? ⟨q, 2, none⟩ = some (.int .u8 s.v) :=
  ⟨by rw [h.blk.cell]; rfl, by rw [h.blk.cell]; rfl, by rw [h.blk.cell]; rfl⟩
set_option maxRecDepth 100000 in
theorem quad_Side (w : World) (q : Nat) (F : Nat → Prop) (k : Nat) (s : Sq) (h : QuadAt w q F k s) (S : Int) (hS : sd k = S) : Calls Tryz.prog 64 #[.pointer (some ⟨q, 0, none⟩)] w fun e w' => e = .returned (.int .i64 S) ∧ w' = w := by
  obtain ⟨c0, -, -⟩ := h.c3
  rw [hS] at c0
  clear h hS
  go_enter Tryz.func64, Tryz.ntmps64
  go_wp2_with fail
  go_ret
  exact ⟨rfl, rfl⟩
set_option maxRecDepth 100000 in
theorem quad_all (w : World) (q : Nat) (F : Nat → Prop) (k : Nat) (s : Sq) (h : QuadAt w q F k s) (S : Int) (hS : sd k = S) : Calls Tryz.prog 69 #[.pointer (some ⟨q, 0, none⟩)] w fun e w' => e = .returned (.agg #[.int .i64 0, .int .i64 0, .int .i64 S, .int .i64 S]) ∧ Below w.heap.size w w' := by
  obtain ⟨c0, -, -⟩ := h.c3
  rw [hS] at c0
  have HQ : Hid (q < w.heap.size) := hid h.blk.lt
  clear h hS
  go_enter Tryz.func69, Tryz.ntmps69
  go_upto_region 1 with fail
  obtain ⟨w1, hw1⟩ : ∃ w1, w1 = w.alloc (.cells #[.int .i64 0, .int .i64 0, .int .i64 0, .int .i64 0] 25) := ⟨_, rfl⟩
  rw [← hw1]
  obtain ⟨g, hg⟩ : ∃ g, g = w.heap.size := ⟨_, rfl⟩
  rw [← hg]
  have hb1 : Below w.heap.size w w1 := by rw [hw1]; exact Below.new _ _
  have hblk8 : Blk w1 g #[.int .i64 0, .int .i64 0, .int .i64 0, .int .i64 0] := by rw [hw1, hg]; exact Blk.new _ _ _
  have HB1 := hid hb1
  have HG := hid hg
  replace c0 := cellOf_belowR hb1 c0
  clear hw1 hg hb1
  replace c0 := fun (z : World) (hz : Below w1.heap.size w1 z) => cellOf_belowR hz c0
  have hyd := (Below.refl w1.heap.size w1).drew
  refine wp_region_kept [9] (fun z => Below w1.heap.size w1 z) (by kernel_rfl) (by assumption) (fun hH => ?_)
  refine wpK.take (i := 0) (v := _) (by simp only [List.getElem?_toArray, List.getElem?_cons_succ, List.getElem?_cons_zero]; rfl) (by kernel_rfl) (by kernel_rfl) (by kernel_rfl) (by kernel_rfl) (by kernel_rfl) (by exact fun _ _ _ h => h) (by first | exact Or.inl ⟨by rfl, by intro w hSw; go_simp; try with_reducible rfl⟩ | exact Or.inr ⟨by rfl, rfl⟩) hH ?_
  try simp only [Act.put, List.setIfInBounds_toArray, List.set_cons_zero, List.set_cons_succ]
  refine wpK.take (i := 1) (v := _) (by simp only [List.getElem?_toArray, List.getElem?_cons_succ, List.getElem?_cons_zero]; rfl) (by kernel_rfl) (by kernel_rfl) (by kernel_rfl) (by kernel_rfl) (by kernel_rfl) (by exact fun _ _ _ h => h) (by first | exact Or.inl ⟨by rfl, by intro w hSw; go_simp; try with_reducible rfl⟩ | exact Or.inr ⟨by rfl, rfl⟩) hH ?_
  try simp only [Act.put, List.setIfInBounds_toArray, List.set_cons_zero, List.set_cons_succ]
  refine wpK.take (i := 2) (v := _) (by simp only [List.getElem?_toArray, List.getElem?_cons_succ, List.getElem?_cons_zero]; rfl) (by kernel_rfl) (by kernel_rfl) (by kernel_rfl) (by kernel_rfl) (by kernel_rfl) (by exact fun _ _ _ h => h) (by first | exact Or.inl ⟨by rfl, by intro w hSw; go_simp; try with_reducible rfl⟩ | exact Or.inr ⟨by rfl, rfl⟩) hH ?_
  try simp only [Act.put, List.setIfInBounds_toArray, List.set_cons_zero, List.set_cons_succ]
  refine wpK.take (i := 3) (v := _) (by simp only [List.getElem?_toArray, List.getElem?_cons_succ, List.getElem?_cons_zero]; rfl) (by kernel_rfl) (by kernel_rfl) (by kernel_rfl) (by kernel_rfl) (by kernel_rfl) (by exact fun _ _ _ h => h) (by first | exact Or.inl ⟨by rfl, by intro w hSw; go_simp; try with_reducible rfl⟩ | exact Or.inr ⟨by rfl, rfl⟩) hH ?_
  try simp only [Act.put, List.setIfInBounds_toArray, List.set_cons_zero, List.set_cons_succ]
  refine wpK.take (i := 4) (v := _) (by simp only [List.getElem?_toArray, List.getElem?_cons_succ, List.getElem?_cons_zero]; rfl) (by kernel_rfl) (by kernel_rfl) (by kernel_rfl) (by kernel_rfl) (by kernel_rfl) (by exact fun _ _ _ h => h) (by first | exact Or.inl ⟨by rfl, by intro w hSw; go_simp; try with_reducible rfl⟩ | exact Or.inr ⟨by rfl, rfl⟩) hH ?_
  try simp only [Act.put, List.setIfInBounds_toArray, List.set_cons_zero, List.set_cons_succ]
  refine wpK.take (i := 5) (v := _) (by simp only [List.getElem?_toArray, List.getElem?_cons_succ, List.getElem?_cons_zero]; rfl) (by kernel_rfl) (by kernel_rfl) (by kernel_rfl) (by kernel_rfl) (by kernel_rfl) (by exact fun _ _ _ h => h) (by first | exact Or.inl ⟨by rfl, by intro w hSw; go_simp; try with_reducible rfl⟩ | exact Or.inr ⟨by rfl, rfl⟩) hH ?_
  try simp only [Act.put, List.setIfInBounds_toArray, List.set_cons_zero, List.set_cons_succ]
  refine wpK.take (i := 6) (v := _) (by simp only [List.getElem?_toArray, List.getElem?_cons_succ, List.getElem?_cons_zero]; rfl) (by kernel_rfl) (by kernel_rfl) (by kernel_rfl) (by kernel_rfl) (by kernel_rfl) (by exact fun _ _ _ h => h) (by first | exact Or.inl ⟨by rfl, by intro w hSw; go_simp; try with_reducible rfl⟩ | exact Or.inr ⟨by rfl, rfl⟩) hH ?_
  try simp only [Act.put, List.setIfInBounds_toArray, List.set_cons_zero, List.set_cons_succ]
  refine wpK.take (i := 7) (v := _) (by simp only [List.getElem?_toArray, List.getElem?_cons_succ, List.getElem?_cons_zero]; rfl) (by kernel_rfl) (by kernel_rfl) (by kernel_rfl) (by kernel_rfl) (by kernel_rfl) (by exact fun _ _ _ h => h) (by first | exact Or.inl ⟨by rfl, by intro w hSw; go_simp; try with_reducible rfl⟩ | exact Or.inr ⟨by rfl, rfl⟩) hH ?_
  try simp only [Act.put, List.setIfInBounds_toArray, List.set_cons_zero, List.set_cons_succ]
  refine wpK.take (i := 8) (v := _) (by simp only [List.getElem?_toArray, List.getElem?_cons_succ, List.getElem?_cons_zero]; rfl) (by kernel_rfl) (by kernel_rfl) (by kernel_rfl) (by kernel_rfl) (by kernel_rfl) (by exact fun _ _ _ h => h) (by first | exact Or.inl ⟨by rfl, by intro w hSw; go_simp; try with_reducible rfl⟩ | exact Or.inr ⟨by rfl, rfl⟩) hH ?_
  try simp only [Act.put, List.setIfInBounds_toArray, List.set_cons_zero, List.set_cons_succ]
  refine wpK.late (i := 9) (by kernel_rfl) (by simp only [List.getElem?_toArray, List.getElem?_cons_succ, List.getElem?_cons_zero]; rfl) (by kernel_rfl) (fun K hK => ?_)
  (obtain ⟨p0, p1, p2, p3⟩ := hblk8.c4r); (obtain ⟨f0, f1, f2, f3⟩ := hblk8.f4r); (obtain ⟨wz, hwz, hkz, huz⟩ := set4r hblk8 (.int .i64 0) (.int .i64 0) (.int .i64 S) (.int .i64 S)); (have HBZ : Hid (Below w.heap.size w wz) := hid (HB1.out.trans (huz.below HB1.out.size (fun k _ q => by rw [q]; have := HG.out; omega)))); (have HWZ := hid hwz); (have HKZ := hid hkz); clear hwz hkz huz; go_simp; (try rw [← HWZ.out])
  refine hK.out _ _ ?_
  clear hK K
  try simp only [Act.put, List.setIfInBounds_toArray, List.set_cons_zero, List.set_cons_succ]
  refine wpK.done (by kernel_rfl) ?_ _
  clear c0 hyd hH
  obtain ⟨z0, z1, z2, z3⟩ := HKZ.out.c4r
  go_wp2_with fail
  refine bodyPost_ret (results_cell1 rfl _ _ _ rfl (by go_simp; rfl)) rfl ?_
  exact ⟨rfl, HBZ.out.drew⟩
def allR (k : Nat) : R4 := ownR k 0 0
def SetQPost (w : World) (q : Nat) (F : Nat → Prop) (k : Nat) (s : Sq) (r : R4) (e : Ending) (w' : World) : Prop :=
  (InR r (allR k) ∧ ∃ (s' : Sq) (F' : Nat → Prop), e = .returned (.int .i64 0) ∧ QuadAt w' q F' k s' ∧ Upd F w w' ∧ (∀ b, F' b → F b ∨ w.heap.size ≤ b) ∧ SetOk k s s' 0 0 r 1) ∨
  (¬ InR r (allR k) ∧ e = .returned (.int .i64 11) ∧ Below w.heap.size w w')
set_option maxRecDepth 100000 in
set_option maxHeartbeats 4000000 in
theorem quad_Set (w : World) (q : Nat) (F : Nat → Prop) (k : Nat) (s : Sq) (rx ry ra rb : Int) (h : QuadAt w q F k s) :
    Calls Tryz.prog 48 #[.pointer (some ⟨q, 0, none⟩), .agg #[.int .i64 rx, .int .i64 ry, .int .i64 ra, .int .i64 rb], .int .i64 1] w (SetQPost w q F k s (rx, ry, ra, rb)) := by
  obtain ⟨S, hS⟩ : ∃ S, sd k = S := ⟨_, rfl⟩
  have HS := hid hS
  have HQ := hid h
  clear h hS
  go_enter Tryz.func48, Tryz.ntmps48
  go_upto_region 1 with fail
  obtain ⟨w1, hw1⟩ : ∃ w1, w1 = w.alloc (.cells #[.int .i64 rx, .int .i64 ry, .int .i64 ra, .int .i64 rb] 25) := ⟨_, rfl⟩
  rw [← hw1]
  obtain ⟨g, hg⟩ : ∃ g, g = w.heap.size := ⟨_, rfl⟩
  rw [← hg]
  have hb1 : Below w.heap.size w w1 := by rw [hw1]; exact Below.new _ _
  have hX : Blk w1 g #[.int .i64 rx, .int .i64 ry, .int .i64 ra, .int .i64 rb] := by rw [hw1, hg]; exact Blk.new _ _ _
  have HX := hid hX
  have HB1 := hid hb1
  have HG := hid hg
  obtain ⟨e0, e1, e2, e3⟩ := hX.c4r
  clear hw1 hg hb1 hX
  replace e0 := fun (z : World) (hz : Below w1.heap.size w1 z) => cellOf_belowR hz e0
  replace e1 := fun (z : World) (hz : Below w1.heap.size w1 z) => cellOf_belowR hz e1
  replace e2 := fun (z : World) (hz : Below w1.heap.size w1 z) => cellOf_belowR hz e2
  replace e3 := fun (z : World) (hz : Below w1.heap.size w1 z) => cellOf_belowR hz e3
  have hyd := (Below.refl w1.heap.size w1).drew
  obtain ⟨qi, hqi⟩ : ∃ b, decide (InR (rx, ry, ra, rb) (0, 0, S, S)) = b := ⟨_, rfl⟩
  have HIN : Hid (∀ z, Calls Tryz.prog 36 #[.agg #[.int .i64 rx, .int .i64 ry, .int .i64 ra, .int .i64 rb], .agg #[.int .i64 0, .int .i64 0, .int .i64 S, .int .i64 S]] z fun e w' => e = .returned (.bool qi) ∧ Below z.heap.size z w') := hid (fun z => by
    have := rect_In4 rx ry ra rb 0 0 S S z
    rw [hqi] at this; exact this)
  have HQI := hid hqi
  clear hqi
  cases qi with
  | false =>
    have HNI : Hid (¬ InR (rx, ry, ra, rb) (allR k)) := hid (by have := of_decide_eq_false HQI.out; unfold allR ownR; rw [HS.out]; exact this)
    refine wp_region_kept [] (fun z => Below w1.heap.size w1 z) (by kernel_rfl) (by assumption) (fun hH => ?_)
    refine wpK.take (i := 0) (v := _) (by simp only [List.getElem?_toArray, List.getElem?_cons_succ, List.getElem?_cons_zero]; rfl) (by kernel_rfl) (by kernel_rfl) (by kernel_rfl) (by kernel_rfl) (by kernel_rfl) (by exact fun _ _ _ h => h) (by first | exact Or.inl ⟨by rfl, by intro w hSw; go_simp; try with_reducible rfl⟩ | exact Or.inr ⟨by rfl, rfl⟩) hH ?_
    try simp only [Act.put, List.setIfInBounds_toArray, List.set_cons_zero, List.set_cons_succ]
    refine wpK.take (i := 1) (v := _) (by simp only [List.getElem?_toArray, List.getElem?_cons_succ, List.getElem?_cons_zero]; rfl) (by kernel_rfl) (by kernel_rfl) (by kernel_rfl) (by kernel_rfl) (by kernel_rfl) (by exact fun _ _ _ h => h) (by first | exact Or.inl ⟨by rfl, by intro w hSw; go_simp; try with_reducible rfl⟩ | exact Or.inr ⟨by rfl, rfl⟩) hH ?_
    try simp only [Act.put, List.setIfInBounds_toArray, List.set_cons_zero, List.set_cons_succ]
    refine wpK.step (i := 2) (by kernel_rfl) (by simp only [List.getElem?_toArray, List.getElem?_cons_succ, List.getElem?_cons_zero]; rfl) (fun K hK => ?_)
    go_simp
    (refine (quad_all _ q F k s ((HQ.out.below HB1.out).below hyd) S HS.out).mono ?_); rintro e w3 ⟨rfl, hb3⟩; (have hk3 := Below.next hyd hb3); go_simp
    refine hK.out _ _ (by assumption) (fun hH => ?_)
    clear hK K
    try simp only [Act.put, List.setIfInBounds_toArray, List.set_cons_zero, List.set_cons_succ]
    refine wpK.step (i := 3) (by kernel_rfl) (by simp only [List.getElem?_toArray, List.getElem?_cons_succ, List.getElem?_cons_zero]; rfl) (fun K hK => ?_)
    go_simp
    (refine (HIN.out _).mono ?_); rintro e w4 ⟨rfl, hb4⟩; (have hk4 := Below.next hk3 hb4); go_simp
    refine hK.out _ _ (by assumption) (fun hH => ?_)
    clear hK K
    try simp only [Act.put, List.setIfInBounds_toArray, List.set_cons_zero, List.set_cons_succ]
    refine wpK.take (i := 4) (v := _) (by simp only [List.getElem?_toArray, List.getElem?_cons_succ, List.getElem?_cons_zero]; rfl) (by kernel_rfl) (by kernel_rfl) (by kernel_rfl) (by kernel_rfl) (by kernel_rfl) (by exact fun _ _ _ h => h) (by first | exact Or.inl ⟨by rfl, by intro w hSw; go_simp; try with_reducible rfl⟩ | exact Or.inr ⟨by rfl, rfl⟩) hH ?_
    try simp only [Act.put, List.setIfInBounds_toArray, List.set_cons_zero, List.set_cons_succ]
    refine wpK.take (i := 5) (v := _) (by simp only [List.getElem?_toArray, List.getElem?_cons_succ, List.getElem?_cons_zero]; rfl) (by kernel_rfl) (by kernel_rfl) (by kernel_rfl) (by kernel_rfl) (by kernel_rfl) (by exact fun _ _ _ h => h) (by first | exact Or.inl ⟨by rfl, by intro w hSw; go_simp; try with_reducible rfl⟩ | exact Or.inr ⟨by rfl, rfl⟩) hH ?_
    try simp only [Act.put, List.setIfInBounds_toArray, List.set_cons_zero, List.set_cons_succ]
    refine wpK.take (i := 6) (v := _) (by simp only [List.getElem?_toArray, List.getElem?_cons_succ, List.getElem?_cons_zero]; rfl) (by kernel_rfl) (by kernel_rfl) (by kernel_rfl) (by kernel_rfl) (by kernel_rfl) (by exact fun _ _ _ h => h) (by first | exact Or.inl ⟨by rfl, by intro w hSw; go_simp; try with_reducible rfl⟩ | exact Or.inr ⟨by rfl, rfl⟩) hH ?_
    try simp only [Act.put, List.setIfInBounds_toArray, List.set_cons_zero, List.set_cons_succ]
    refine wpK.take (i := 7) (v := _) (by simp only [List.getElem?_toArray, List.getElem?_cons_succ, List.getElem?_cons_zero]; rfl) (by kernel_rfl) (by kernel_rfl) (by kernel_rfl) (by kernel_rfl) (by kernel_rfl) (by exact fun _ _ _ h => h) (by first | exact Or.inl ⟨by rfl, by intro w hSw; go_simp; try with_reducible rfl⟩ | exact Or.inr ⟨by rfl, rfl⟩) hH ?_
    try simp only [Act.put, List.setIfInBounds_toArray, List.set_cons_zero, List.set_cons_succ]
    refine wpK.take (i := 8) (v := _) (by simp only [List.getElem?_toArray, List.getElem?_cons_succ, List.getElem?_cons_zero]; rfl) (by kernel_rfl) (by kernel_rfl) (by kernel_rfl) (by kernel_rfl) (by kernel_rfl) (by exact fun _ _ _ h => h) (by first | exact Or.inl ⟨by rfl, by intro w hSw; go_simp; try with_reducible rfl⟩ | exact Or.inr ⟨by rfl, rfl⟩) hH ?_
    try simp only [Act.put, List.setIfInBounds_toArray, List.set_cons_zero, List.set_cons_succ]
    refine wpK.take (i := 9) (v := _) (by simp only [List.getElem?_toArray, List.getElem?_cons_succ, List.getElem?_cons_zero]; rfl) (by kernel_rfl) (by kernel_rfl) (by kernel_rfl) (by kernel_rfl) (by kernel_rfl) (by exact fun _ _ _ h => h) (by first | exact Or.inl ⟨by rfl, by intro w hSw; go_simp; try with_reducible rfl⟩ | exact Or.inr ⟨by rfl, rfl⟩) hH ?_
    try simp only [Act.put, List.setIfInBounds_toArray, List.set_cons_zero, List.set_cons_succ]
    refine wpK.take (i := 10) (v := _) (by simp only [List.getElem?_toArray, List.getElem?_cons_succ, List.getElem?_cons_zero]; rfl) (by kernel_rfl) (by kernel_rfl) (by kernel_rfl) (by kernel_rfl) (by kernel_rfl) (by exact fun _ _ _ h => h) (by first | exact Or.inl ⟨by rfl, by intro w hSw; go_simp; try with_reducible rfl⟩ | exact Or.inr ⟨by rfl, rfl⟩) hH ?_
    try simp only [Act.put, List.setIfInBounds_toArray, List.set_cons_zero, List.set_cons_succ]
    refine wpK.take (i := 11) (v := _) (by simp only [List.getElem?_toArray, List.getElem?_cons_succ, List.getElem?_cons_zero]; rfl) (by kernel_rfl) (by kernel_rfl) (by kernel_rfl) (by kernel_rfl) (by kernel_rfl) (by exact fun _ _ _ h => h) (by first | exact Or.inl ⟨by rfl, by intro w hSw; go_simp; try with_reducible rfl⟩ | exact Or.inr ⟨by rfl, rfl⟩) hH ?_
    try simp only [Act.put, List.setIfInBounds_toArray, List.set_cons_zero, List.set_cons_succ]
    refine wpK.take (i := 12) (v := _) (by simp only [List.getElem?_toArray, List.getElem?_cons_succ, List.getElem?_cons_zero]; rfl) (by kernel_rfl) (by kernel_rfl) (by kernel_rfl) (by kernel_rfl) (by kernel_rfl) (by exact fun _ _ _ h => h) (by first | exact Or.inl ⟨by rfl, by intro w hSw; go_simp; try with_reducible rfl⟩ | exact Or.inr ⟨by rfl, rfl⟩) hH ?_
    try simp only [Act.put, List.setIfInBounds_toArray, List.set_cons_zero, List.set_cons_succ]
    refine wpK.done (by kernel_rfl) ?_ _
    have HZ := hid (Below.next HB1.out hk4)
    clear e0 e1 e2 e3 hyd hH hk3 hk4 hb3 hb4
    go_wp2_with fail
    go_ret
    exact .inr ⟨HNI.out, rfl, HZ.out⟩
  | true =>
    have HIR : Hid (InR (rx, ry, ra, rb) (allR k)) := hid (by have := of_decide_eq_true HQI.out; unfold allR ownR; rw [HS.out]; exact this)
    refine wp_region_kept [] (fun z => Below w1.heap.size w1 z) (by kernel_rfl) (by assumption) (fun hH => ?_)
    refine wpK.take (i := 0) (v := _) (by simp only [List.getElem?_toArray, List.getElem?_cons_succ, List.getElem?_cons_zero]; rfl) (by kernel_rfl) (by kernel_rfl) (by kernel_rfl) (by kernel_rfl) (by kernel_rfl) (by exact fun _ _ _ h => h) (by first | exact Or.inl ⟨by rfl, by intro w hSw; go_simp; try with_reducible rfl⟩ | exact Or.inr ⟨by rfl, rfl⟩) hH ?_
    try simp only [Act.put, List.setIfInBounds_toArray, List.set_cons_zero, List.set_cons_succ]
    refine wpK.take (i := 1) (v := _) (by simp only [List.getElem?_toArray, List.getElem?_cons_succ, List.getElem?_cons_zero]; rfl) (by kernel_rfl) (by kernel_rfl) (by kernel_rfl) (by kernel_rfl) (by kernel_rfl) (by exact fun _ _ _ h => h) (by first | exact Or.inl ⟨by rfl, by intro w hSw; go_simp; try with_reducible rfl⟩ | exact Or.inr ⟨by rfl, rfl⟩) hH ?_
    try simp only [Act.put, List.setIfInBounds_toArray, List.set_cons_zero, List.set_cons_succ]
    refine wpK.step (i := 2) (by kernel_rfl) (by simp only [List.getElem?_toArray, List.getElem?_cons_succ, List.getElem?_cons_zero]; rfl) (fun K hK => ?_)
    go_simp
    (refine (quad_all _ q F k s ((HQ.out.below HB1.out).below hyd) S HS.out).mono ?_); rintro e w3 ⟨rfl, hb3⟩; (have hk3 := Below.next hyd hb3); go_simp
    refine hK.out _ _ (by assumption) (fun hH => ?_)
    clear hK K
    try simp only [Act.put, List.setIfInBounds_toArray, List.set_cons_zero, List.set_cons_succ]
    refine wpK.step (i := 3) (by kernel_rfl) (by simp only [List.getElem?_toArray, List.getElem?_cons_succ, List.getElem?_cons_zero]; rfl) (fun K hK => ?_)
    go_simp
    (refine (HIN.out _).mono ?_); rintro e w4 ⟨rfl, hb4⟩; (have hk4 := Below.next hk3 hb4); go_simp
    refine hK.out _ _ (by assumption) (fun hH => ?_)
    clear hK K
    try simp only [Act.put, List.setIfInBounds_toArray, List.set_cons_zero, List.set_cons_succ]
    refine wpK.take (i := 4) (v := _) (by simp only [List.getElem?_toArray, List.getElem?_cons_succ, List.getElem?_cons_zero]; rfl) (by kernel_rfl) (by kernel_rfl) (by kernel_rfl) (by kernel_rfl) (by kernel_rfl) (by exact fun _ _ _ h => h) (by first | exact Or.inl ⟨by rfl, by intro w hSw; go_simp; try with_reducible rfl⟩ | exact Or.inr ⟨by rfl, rfl⟩) hH ?_
    try simp only [Act.put, List.setIfInBounds_toArray, List.set_cons_zero, List.set_cons_succ]
    refine wpK.take (i := 5) (v := _) (by simp only [List.getElem?_toArray, List.getElem?_cons_succ, List.getElem?_cons_zero]; rfl) (by kernel_rfl) (by kernel_rfl) (by kernel_rfl) (by kernel_rfl) (by kernel_rfl) (by exact fun _ _ _ h => h) (by first | exact Or.inl ⟨by rfl, by intro w hSw; go_simp; try with_reducible rfl⟩ | exact Or.inr ⟨by rfl, rfl⟩) hH ?_
    try simp only [Act.put, List.setIfInBounds_toArray, List.set_cons_zero, List.set_cons_succ]
    refine wpK.take (i := 6) (v := _) (by simp only [List.getElem?_toArray, List.getElem?_cons_succ, List.getElem?_cons_zero]; rfl) (by kernel_rfl) (by kernel_rfl) (by kernel_rfl) (by kernel_rfl) (by kernel_rfl) (by exact fun _ _ _ h => h) (by first | exact Or.inl ⟨by rfl, by intro w hSw; go_simp; try with_reducible rfl⟩ | exact Or.inr ⟨by rfl, rfl⟩) hH ?_
    try simp only [Act.put, List.setIfInBounds_toArray, List.set_cons_zero, List.set_cons_succ]
    refine wpK.take (i := 7) (v := _) (by simp only [List.getElem?_toArray, List.getElem?_cons_succ, List.getElem?_cons_zero]; rfl) (by kernel_rfl) (by kernel_rfl) (by kernel_rfl) (by kernel_rfl) (by kernel_rfl) (by exact fun _ _ _ h => h) (by first | exact Or.inl ⟨by rfl, by intro w hSw; go_simp; try with_reducible rfl⟩ | exact Or.inr ⟨by rfl, rfl⟩) hH ?_
    try simp only [Act.put, List.setIfInBounds_toArray, List.set_cons_zero, List.set_cons_succ]
    refine wpK.take (i := 8) (v := _) (by simp only [List.getElem?_toArray, List.getElem?_cons_succ, List.getElem?_cons_zero]; rfl) (by kernel_rfl) (by kernel_rfl) (by kernel_rfl) (by kernel_rfl) (by kernel_rfl) (by exact fun _ _ _ h => h) (by first | exact Or.inl ⟨by rfl, by intro w hSw; go_simp; try with_reducible rfl⟩ | exact Or.inr ⟨by rfl, rfl⟩) hH ?_
    try simp only [Act.put, List.setIfInBounds_toArray, List.set_cons_zero, List.set_cons_succ]
    refine wpK.take (i := 9) (v := _) (by simp only [List.getElem?_toArray, List.getElem?_cons_succ, List.getElem?_cons_zero]; rfl) (by kernel_rfl) (by kernel_rfl) (by kernel_rfl) (by kernel_rfl) (by kernel_rfl) (by exact fun _ _ _ h => h) (by first | exact Or.inl ⟨by rfl, by intro w hSw; go_simp; try with_reducible rfl⟩ | exact Or.inr ⟨by rfl, rfl⟩) hH ?_
    try simp only [Act.put, List.setIfInBounds_toArray, List.set_cons_zero, List.set_cons_succ]
    refine wpK.take (i := 10) (v := _) (by simp only [List.getElem?_toArray, List.getElem?_cons_succ, List.getElem?_cons_zero]; rfl) (by kernel_rfl) (by kernel_rfl) (by kernel_rfl) (by kernel_rfl) (by kernel_rfl) (by exact fun _ _ _ h => h) (by first | exact Or.inl ⟨by rfl, by intro w hSw; go_simp; try with_reducible rfl⟩ | exact Or.inr ⟨by rfl, rfl⟩) hH ?_
    try simp only [Act.put, List.setIfInBounds_toArray, List.set_cons_zero, List.set_cons_succ]
    refine wpK.take (i := 11) (v := _) (by simp only [List.getElem?_toArray, List.getElem?_cons_succ, List.getElem?_cons_zero]; rfl) (by kernel_rfl) (by kernel_rfl) (by kernel_rfl) (by kernel_rfl) (by kernel_rfl) (by exact fun _ _ _ h => h) (by first | exact Or.inl ⟨by rfl, by intro w hSw; go_simp; try with_reducible rfl⟩ | exact Or.inr ⟨by rfl, rfl⟩) hH ?_
    try simp only [Act.put, List.setIfInBounds_toArray, List.set_cons_zero, List.set_cons_succ]
    refine wpK.take (i := 12) (v := _) (by simp only [List.getElem?_toArray, List.getElem?_cons_succ, List.getElem?_cons_zero]; rfl) (by kernel_rfl) (by kernel_rfl) (by kernel_rfl) (by kernel_rfl) (by kernel_rfl) (by exact fun _ _ _ h => h) (by first | exact Or.inl ⟨by rfl, by intro w hSw; go_simp; try with_reducible rfl⟩ | exact Or.inr ⟨by rfl, rfl⟩) hH ?_
    try simp only [Act.put, List.setIfInBounds_toArray, List.set_cons_zero, List.set_cons_succ]
    refine wpK.done (by kernel_rfl) ?_ _
    have HK4 := hid hk4
    have HQ4 := hid ((HQ.out.below HB1.out).below hk4)
    have hX4 : Blk w4 g #[.int .i64 rx, .int .i64 ry, .int .i64 ra, .int .i64 rb] := HX.out.below hk4
    have HB4 := hid (Below.next HB1.out hk4)
    clear e0 e1 e2 e3 hyd hH hk3 hk4 hb3 hb4
    obtain ⟨e0, e1, e2, e3⟩ := hX4.c4r
    go_upto_region 3 with fail
    clear hX4
    obtain ⟨U, hU⟩ : ∃ U : Nat → Prop, U = fun b => b = q ∨ b ∈ blkS k s := ⟨_, rfl⟩
    have HU := hid hU
    have hgU : ¬ U g := by
      rw [hU]
      have h1 := HG.out
      rintro (z | z)
      · have := HQ.out.blk.lt; omega
      · have := HQ.out.sq.lt g z; omega
    replace e0 := fun (z : World) (hz : Upd U w4 z) => hz.cell e0 hgU
    replace e1 := fun (z : World) (hz : Upd U w4 z) => hz.cell e1 hgU
    replace e2 := fun (z : World) (hz : Upd U w4 z) => hz.cell e2 hgU
    replace e3 := fun (z : World) (hz : Upd U w4 z) => hz.cell e3 hgU
    have hyb := (Below.refl w4.heap.size w4).drew
    have hyd : Upd U w4 w4.drew := Upd.of_below hyb
    clear hgU hU
    have HST : Hid (∀ z, Below w4.heap.size w4 z → Calls Tryz.prog 70 #[.pointer (some ⟨q, 1, none⟩), .agg #[.int .i64 0, .int .i64 0, .int .i64 S, .int .i64 S], .agg #[.int .i64 rx, .int .i64 ry, .int .i64 ra, .int .i64 rb], .int .u8 1] z (SetPost k z q 1 (rootC k s) s 0 0 (rx, ry, ra, rb) 1)) := hid (fun z hz => by
      have hq := HQ4.out.below hz
      have := quad_set k s 0 0 rx ry ra rb 1 z q 1 (rootC k s) hq.sq hq.blk rfl rfl hq.nd hq.own ⟨by omega, by omega⟩
      rw [HS.out] at this; exact this)
    refine wp_region_kept [] (fun z => Upd U w4 z) (by kernel_rfl) (by assumption) (fun hH => ?_)
    refine wpK.take (i := 0) (v := _) (by simp only [List.getElem?_toArray, List.getElem?_cons_succ, List.getElem?_cons_zero]; rfl) (by kernel_rfl) (by kernel_rfl) (by kernel_rfl) (by kernel_rfl) (by kernel_rfl) (by exact fun _ _ _ h => h) (by first | exact Or.inl ⟨by rfl, by intro w hSw; go_simp; try with_reducible rfl⟩ | exact Or.inr ⟨by rfl, rfl⟩) hH ?_
    try simp only [Act.put, List.setIfInBounds_toArray, List.set_cons_zero, List.set_cons_succ]
    refine wpK.take (i := 1) (v := _) (by simp only [List.getElem?_toArray, List.getElem?_cons_succ, List.getElem?_cons_zero]; rfl) (by kernel_rfl) (by kernel_rfl) (by kernel_rfl) (by kernel_rfl) (by kernel_rfl) (by exact fun _ _ _ h => h) (by first | exact Or.inl ⟨by rfl, by intro w hSw; go_simp; try with_reducible rfl⟩ | exact Or.inr ⟨by rfl, rfl⟩) hH ?_
    try simp only [Act.put, List.setIfInBounds_toArray, List.set_cons_zero, List.set_cons_succ]
    refine wpK.take (i := 2) (v := _) (by simp only [List.getElem?_toArray, List.getElem?_cons_succ, List.getElem?_cons_zero]; rfl) (by kernel_rfl) (by kernel_rfl) (by kernel_rfl) (by kernel_rfl) (by kernel_rfl) (by exact fun _ _ _ h => h) (by first | exact Or.inl ⟨by rfl, by intro w hSw; go_simp; try with_reducible rfl⟩ | exact Or.inr ⟨by rfl, rfl⟩) hH ?_
    try simp only [Act.put, List.setIfInBounds_toArray, List.set_cons_zero, List.set_cons_succ]
    refine wpK.take (i := 3) (v := _) (by simp only [List.getElem?_toArray, List.getElem?_cons_succ, List.getElem?_cons_zero]; rfl) (by kernel_rfl) (by kernel_rfl) (by kernel_rfl) (by kernel_rfl) (by kernel_rfl) (by exact fun _ _ _ h => h) (by first | exact Or.inl ⟨by rfl, by intro w hSw; go_simp; try with_reducible rfl⟩ | exact Or.inr ⟨by rfl, rfl⟩) hH ?_
    try simp only [Act.put, List.setIfInBounds_toArray, List.set_cons_zero, List.set_cons_succ]
    refine wpK.take (i := 5) (v := _) (by simp only [List.getElem?_toArray, List.getElem?_cons_succ, List.getElem?_cons_zero]; rfl) (by kernel_rfl) (by kernel_rfl) (by kernel_rfl) (by kernel_rfl) (by kernel_rfl) (by exact fun _ _ _ h => h) (by first | exact Or.inl ⟨by rfl, by intro w hSw; go_simp; try with_reducible rfl⟩ | exact Or.inr ⟨by rfl, rfl⟩) hH ?_
    try simp only [Act.put, List.setIfInBounds_toArray, List.set_cons_zero, List.set_cons_succ]
    refine wpK.take (i := 6) (v := _) (by simp only [List.getElem?_toArray, List.getElem?_cons_succ, List.getElem?_cons_zero]; rfl) (by kernel_rfl) (by kernel_rfl) (by kernel_rfl) (by kernel_rfl) (by kernel_rfl) (by exact fun _ _ _ h => h) (by first | exact Or.inl ⟨by rfl, by intro w hSw; go_simp; try with_reducible rfl⟩ | exact Or.inr ⟨by rfl, rfl⟩) hH ?_
    try simp only [Act.put, List.setIfInBounds_toArray, List.set_cons_zero, List.set_cons_succ]
    refine wpK.take (i := 7) (v := _) (by simp only [List.getElem?_toArray, List.getElem?_cons_succ, List.getElem?_cons_zero]; rfl) (by kernel_rfl) (by kernel_rfl) (by kernel_rfl) (by kernel_rfl) (by kernel_rfl) (by exact fun _ _ _ h => h) (by first | exact Or.inl ⟨by rfl, by intro w hSw; go_simp; try with_reducible rfl⟩ | exact Or.inr ⟨by rfl, rfl⟩) hH ?_
    try simp only [Act.put, List.setIfInBounds_toArray, List.set_cons_zero, List.set_cons_succ]
    refine wpK.step (i := 4) (by kernel_rfl) (by simp only [List.getElem?_toArray, List.getElem?_cons_succ, List.getElem?_cons_zero]; rfl) (fun K hK => ?_)
    go_simp
    (refine (quad_all _ q F k s (HQ4.out.below hyb) S HS.out).mono ?_); rintro e w5 ⟨rfl, hb5⟩; (have hkb := Below.next hyb hb5); (have hk5 : Upd U w4 w5 := Upd.of_below hkb); go_simp
    refine hK.out _ _ (by assumption) (fun hH => ?_)
    clear hK K
    try simp only [Act.put, List.setIfInBounds_toArray, List.set_cons_zero, List.set_cons_succ]
    refine wpK.step (i := 8) (by kernel_rfl) (by simp only [List.getElem?_toArray, List.getElem?_cons_succ, List.getElem?_cons_zero]; rfl) (fun K hK => ?_)
    go_simp
    (refine (HST.out _ hkb).mono ?_); rintro e w6 ⟨s', rfl, hs1, hs2, hs3, hs4, hs5, hs6⟩; (have HK5 := hid hkb); (have hk6 : Upd U w4 w6 := (Upd.of_below hkb).trans hs5 (fun b _ z => by rw [HU.out]; exact z)); (have HSS := hid (And.intro hs1 (And.intro hs2 (And.intro hs3 (And.intro hs4 (And.intro hs5 hs6)))))); clear hs1 hs2 hs3 hs4 hs5 hs6; go_simp
    refine hK.out _ _ (by assumption) (fun hH => ?_)
    clear hK K
    try simp only [Act.put, List.setIfInBounds_toArray, List.set_cons_zero, List.set_cons_succ]
    refine wpK.done (by kernel_rfl) ?_ _
    clear e0 e1 e2 e3 hyd hyb hH hk5 hkb hb5 hk6
    go_wp2_with fail
    go_ret
    obtain ⟨hs1, hs2, hs3, hs4, hs5, hs6⟩ := HSS.out
    have hq5 := (HQ4.out.below HK5.out)
    have hz4 := (Below.next HB4.out HK5.out)
    have hzs := hz4.size
    refine .inl ⟨HIR.out, s', fun b => b ∈ q :: blkS k s', rfl, ⟨by simpa [rootC, set2] using hs2, hs1, hs3, fun b hb => hb, HQ.out.le⟩, ?_, fun b hb => ?_, hs6⟩
    · refine (Upd.of_below hz4).trans hs5 (fun b _ z => ?_)
      rcases z with z | z
      · rw [z]; exact HQ.out.fr q (by simp)
      · exact HQ.out.fr b (List.mem_cons_of_mem _ z)
    · rcases List.mem_cons.1 hb with rfl | hb
      · exact .inl (HQ.out.fr _ (by simp))
      · rcases hs4 b hb with z | z
        · exact .inl (HQ.out.fr b (List.mem_cons_of_mem _ z))
        · exact .inr (by omega)
end Go.Proofs.YtjbnfppnmljbmaaGreat
end
