/- Joined texts, in this order: RtIter, RtIter2, RegionW. Each one's first remark says what it proves; no condition beyond those that its theorems name. -/
import Derived.Test.YtjbnfppnmljbmaaJLawRtreeBounds12
import Derived.Test.YtjbnfppnmljbmaaJLawRtreeBounds03
import Derived.OrdersIn
import Derived.RangeFuncCalls
section
/- Rtree's iterators: Meets, At, All. -/
namespace Go.Proofs.Ytjbnfppnmljbmaa
open Go.RowKit
open Go.Lib (hid)
set_option linter.unusedVariables false
attribute [local go_sem] Oper.semAt_some

/-- a test on rectangles, as a function value -/
structure TestAt (n0 B g : Nat) (ba lb : Array Value) (t : R4 → Bool) (W0 : World) : Prop where
  tst : ∀ W', KeepR n0 B W0 W' → ∀ r, Calls Try.prog g (ba ++ #[rV r] ++ lb) W' fun e W2 => e = .returned (.bool (t r)) ∧ Below W'.heap.size W' W2
  eg : ∀ args w, (callFunc g args).run Try.prog w = .ok (.enter g args) w
  mono : ∀ a b, InR a b → t a = true → t b = true
abbrev itV (bT bI : Nat) : Value := .func (.func 76) #[] #[.pointer (some ⟨bT, 0, none⟩), .pointer (some ⟨bI, 0, none⟩)]
set_option maxRecDepth 100000 in
set_option maxHeartbeats 1000000 in
theorem rt_where1 (m l g : Nat) (ba lb : Array Value) (n0 B : Nat) (t : R4 → Bool) (J Jx : List Tg → World → Prop) (W : World) (bT bI s d : Nat) (n : Nd) (cnt : Int)
    (env : WalkEnv m l g ba lb n0 B (flR t (thgN (d + 1) n)).length t J Jx W) (hT : Blk W bT #[.pointer (some ⟨s, 0, none⟩)]) (hI : Blk W bI #[.func (.func g) ba lb]) (ht : TreeAt W s d n cnt) (hl : ∀ k ∈ blkN (d + 1) n, k < n0) (h0 : J [] W) (hd : d ≤ 1000) :
    Calls Try.prog 76 #[.func (.yield l) #[] #[], .pointer (some ⟨bT, 0, none⟩), .pointer (some ⟨bI, 0, none⟩)] W fun e W' => e = .returned (.tuple #[]) ∧ (J (flR t (thgN (d + 1) n)) W' ∨ ∃ s, s <+: flR t (thgN (d + 1) n) ∧ Jx s W') := by
  have hwalk := walk_all d m l g ba lb n0 B _ t J Jx W W.drew n [] env (KeepR.of_below (Below.refl W.heap.size W).drew (Nat.le_trans env.n0B env.BW)) (ht.node.below (Below.refl W.heap.size W).drew) hl ht.sh (env.grow _ _ _ h0 (Below.refl W.heap.size W).drew) (by simp) hd
  have hb := ht.blk
  unfold ptrN at hb hwalk
  obtain ⟨p, hp⟩ : ∃ p, n.p = p := ⟨_, rfl⟩
  rw [hp] at hb hwalk
  have c0 : W.cell? ⟨s, 0, none⟩ = some (.pointer (some ⟨p, 0, none⟩)) := by rw [hb.cell]; rfl
  have t0 : W.cell? ⟨bT, 0, none⟩ = some (.pointer (some ⟨s, 0, none⟩)) := by rw [hT.cell]; rfl
  have i0 : W.cell? ⟨bI, 0, none⟩ = some (.func (.func g) ba lb) := by rw [hI.cell]; rfl
  have HW := hid (hwalk.mono (R' := fun e W' => ∃ b : Bool, e = .returned (.bool b) ∧ Hid (J (flR t (thgN (d + 1) n)) W' ∨ ∃ s, s <+: flR t (thgN (d + 1) n) ∧ Jx s W')) (fun e W' h => by
    rcases h with ⟨e1, h1, -⟩ | ⟨e1, s2, h2, h3⟩
    · exact ⟨true, e1, hid (.inl h1)⟩
    · exact ⟨false, e1, hid (.inr ⟨s2, h2, h3⟩)⟩))
  clear env hT hI ht hl h0 hd hb hp hwalk
  refine (callsIn_wide (n := 5)).1 ?_
  refine callsIn_of_wp Try.func76 rfl trivial ?_ rfl
  simp only [Try.ntmps76, List.size_toArray, List.length_cons, List.length_nil, Nat.reduceAdd, Nat.reduceSub, Array.replicate_succ, Array.replicate_zero, List.push_toArray, List.append_toArray, List.nil_append, List.cons_append]
  refine wpIn_region_keptY [6] (fun y => y = W.drew) (by kernel_rfl) (by rfl) (fun hH => ?_)
  refine wpKY.take (i := 0) (v := _) (by simp only [List.getElem?_toArray, List.getElem?_cons_succ, List.getElem?_cons_zero]; rfl) (by kernel_rfl) (by kernel_rfl) (by kernel_rfl) (by kernel_rfl) (by exact fun _ _ _ h => h) (by first | exact Or.inl ⟨by rfl, by intro w hSw; go_simp; try with_reducible rfl⟩ | exact Or.inr ⟨by rfl, rfl⟩) hH ?_
  try simp only [Act.put, List.setIfInBounds_toArray, List.set_cons_zero, List.set_cons_succ]
  refine wpKY.take (i := 1) (v := _) (by simp only [List.getElem?_toArray, List.getElem?_cons_succ, List.getElem?_cons_zero]; rfl) (by kernel_rfl) (by kernel_rfl) (by kernel_rfl) (by kernel_rfl) (by exact fun _ _ _ h => h) (by first | exact Or.inl ⟨by rfl, by intro w hSw; go_simp; try with_reducible rfl⟩ | exact Or.inr ⟨by rfl, rfl⟩) hH ?_
  try simp only [Act.put, List.setIfInBounds_toArray, List.set_cons_zero, List.set_cons_succ]
  refine wpKY.take (i := 2) (v := _) (by simp only [List.getElem?_toArray, List.getElem?_cons_succ, List.getElem?_cons_zero]; rfl) (by kernel_rfl) (by kernel_rfl) (by kernel_rfl) (by kernel_rfl) (by exact fun _ _ _ h => h) (by first | exact Or.inl ⟨by rfl, by intro w hSw; go_simp; try with_reducible rfl⟩ | exact Or.inr ⟨by rfl, rfl⟩) hH ?_
  try simp only [Act.put, List.setIfInBounds_toArray, List.set_cons_zero, List.set_cons_succ]
  refine wpKY.take (i := 3) (v := _) (by simp only [List.getElem?_toArray, List.getElem?_cons_succ, List.getElem?_cons_zero]; rfl) (by kernel_rfl) (by kernel_rfl) (by kernel_rfl) (by kernel_rfl) (by exact fun _ _ _ h => h) (by first | exact Or.inl ⟨by rfl, by intro w hSw; go_simp; try with_reducible rfl⟩ | exact Or.inr ⟨by rfl, rfl⟩) hH ?_
  try simp only [Act.put, List.setIfInBounds_toArray, List.set_cons_zero, List.set_cons_succ]
  refine wpKY.take (i := 4) (v := _) (by simp only [List.getElem?_toArray, List.getElem?_cons_succ, List.getElem?_cons_zero]; rfl) (by kernel_rfl) (by kernel_rfl) (by kernel_rfl) (by kernel_rfl) (by exact fun _ _ _ h => h) (by first | exact Or.inl ⟨by rfl, by intro w hSw; go_simp; try with_reducible rfl⟩ | exact Or.inr ⟨by rfl, rfl⟩) hH ?_
  try simp only [Act.put, List.setIfInBounds_toArray, List.set_cons_zero, List.set_cons_succ]
  refine wpKY.take (i := 5) (v := _) (by simp only [List.getElem?_toArray, List.getElem?_cons_succ, List.getElem?_cons_zero]; rfl) (by kernel_rfl) (by kernel_rfl) (by kernel_rfl) (by kernel_rfl) (by exact fun _ _ _ h => h) (by first | exact Or.inl ⟨by rfl, by intro w hSw; go_simp; try with_reducible rfl⟩ | exact Or.inr ⟨by rfl, rfl⟩) hH ?_
  try simp only [Act.put, List.setIfInBounds_toArray, List.set_cons_zero, List.set_cons_succ]
  refine wpKY.late (i := 6) (by kernel_rfl) (by simp only [List.getElem?_toArray, List.getElem?_cons_succ, List.getElem?_cons_zero]; rfl) (by kernel_rfl) (fun K hK => ?_)
  go_simp
  refine ⟨trivial, ?_⟩; refine (callsIn_wide.2 HW.out).mono ?_; rintro e W2 ⟨b, rfl, HB⟩; go_simp
  refine hK.out _ _ ?_
  clear hK K
  try simp only [Act.put, List.setIfInBounds_toArray, List.set_cons_zero, List.set_cons_succ]
  refine wpKY.done (by kernel_rfl) ?_ _
  go_end0
  exact ⟨rfl, HB.out⟩
set_option maxRecDepth 100000 in
theorem rt_where (w : World) (s g : Nat) (ba lb : Array Value) :
    Calls Try.prog 51 #[.pointer (some ⟨s, 0, none⟩), .func (.func g) ba lb] w fun e w' => ∃ bT bI, e = .returned (itV bT bI) ∧ Blk w' bT #[.pointer (some ⟨s, 0, none⟩)] ∧ Blk w' bI #[.func (.func g) ba lb] ∧ Below w.heap.size w w' := by
  go_enter Try.func51, Try.ntmps51
  go_wp2_with fail
  go_ret
  refine ⟨w.heap.size, w.heap.size + 1, rfl, (Blk.new w _ _).below (Below.new _ _), ?_, Below.next (Below.new _ _) (Below.new _ _)⟩
  have := Blk.new (w.alloc (.cells #[.pointer (some ⟨s, 0, none⟩)] 37)) #[.func (.func g) ba lb] 55
  simpa using this
/-- the iterator stops, or comes to its end -/
theorem stops_where (bT bI s d g : Nat) (n : Nd) (cnt : Int) (n0 : Nat) (ba lb : Array Value) (t : R4 → Bool) (w0 : World) (hn0 : n0 ≤ w0.heap.size)
    (hT : Blk w0 bT #[.pointer (some ⟨s, 0, none⟩)]) (hI : Blk w0 bI #[.func (.func g) ba lb]) (ht : TreeAt w0 s d n cnt) (hl : ∀ k ∈ blkN (d + 1) n, k < n0) (hd : d ≤ 1000) (hte : TestAt n0 w0.heap.size g ba lb t w0) :
    SeqStopsK Fence.wide 4 Try.prog 76 #[.pointer (some ⟨bT, 0, none⟩), .pointer (some ⟨bI, 0, none⟩)] (fun x : Tg => #[rV x.1, .int .i64 x.2]) (KeepR n0 w0.heap.size) (fun ys => ys = flR t (thgN (d + 1) n)) (fun pre => pre <+: flR t (thgN (d + 1) n)) (flR t (thgN (d + 1) n)).length w0 := by
  intro l J Jx W hW hJ _ hY h0
  have env : WalkEnv 3 l g ba lb n0 w0.heap.size (flR t (thgN (d + 1) n)).length t J Jx W := ⟨hY, fun W' hk r => hte.tst W' ((KeepR.of_below hW hn0).trans hk) r, hte.eg, hte.mono, fun pre W1 W2 h hb => hJ pre W1 W2 none h (grown_belowR hb) (fun r e => by cases e), hn0, hW.size⟩
  refine callsIn_wide.2 ((rt_where1 3 l g ba lb n0 w0.heap.size t J Jx W bT bI s d n cnt env (hT.below hW) (hI.below hW) (ht.below hW) hl h0 hd).mono ?_)
  rintro e W' ⟨rfl, h | ⟨s2, h2, h3⟩⟩
  · exact ⟨⟨_, rfl⟩, .inl ⟨_, rfl, h⟩⟩
  · exact ⟨⟨_, rfl⟩, .inr ⟨s2, h2, h3⟩⟩
set_option maxRecDepth 100000 in
theorem rt_All (w : World) (s : Nat) : Calls Try.prog 21 #[.pointer (some ⟨s, 0, none⟩)] w fun e w' => ∃ bT bI, e = .returned (itV bT bI) ∧ Blk w' bT #[.pointer (some ⟨s, 0, none⟩)] ∧ Blk w' bI #[.func (.func 52) #[] #[]] ∧ Below w.heap.size w w' := by
  go_enter Try.func21, Try.ntmps21
  go_wp2_with fail
  refine (rt_where w s 52 #[] #[]).mono ?_
  rintro e w1 ⟨bT, bI, rfl, h1, h2, hb⟩
  have HQ := hid (And.intro h1 (And.intro h2 hb))
  clear h1 h2 hb
  go_wp2_with fail
  go_ret
  exact ⟨bT, bI, rfl, HQ.out.1, HQ.out.2.1, HQ.out.2.2⟩
theorem test_All (n0 B : Nat) (W0 : World) : TestAt n0 B 52 #[] #[] rightR W0 :=
  ⟨fun W' _ r => by simpa using rect_Right r _ (hid rfl) W', fun args w => by simp [callFunc, go_sem]; kernel_rfl, fun a b h _ => (rightR_iff b).2 h.2.1⟩
end Go.Proofs.Ytjbnfppnmljbmaa
end
section
/- Rtree's iterators Meets and At. -/
namespace Go.Proofs.Ytjbnfppnmljbmaa
open Go.RowKit
open Go.Lib (hid)
set_option linter.unusedVariables false
attribute [local go_sem] Oper.semAt_some

def tMeets (r : R4) (q : R4) : Bool := decide (MeetsR r q)
def tHolds (x y : Int) (q : R4) : Bool := decide (HoldsR q x y)
set_option maxRecDepth 100000 in
theorem rt_Meets4 (w : World) (s : Nat) (x y a b : Int) : Calls Try.prog 26 #[.pointer (some ⟨s, 0, none⟩), .agg #[.int .i64 x, .int .i64 y, .int .i64 a, .int .i64 b]] w fun e w' => ∃ bT bI, e = .returned (itV bT bI) ∧ Blk w' bT #[.pointer (some ⟨s, 0, none⟩)] ∧ Blk w' bI #[.func (.func 54) #[.agg #[.int .i64 x, .int .i64 y, .int .i64 a, .int .i64 b]] #[]] ∧ Below w.heap.size w w' := by
  go_enter Try.func26, Try.ntmps26
  go_upto_region 1 with fail
  obtain ⟨w1, hw⟩ : ∃ w1, w1 = w.alloc (.cells #[.int .i64 x, .int .i64 y, .int .i64 a, .int .i64 b] 33) := ⟨_, rfl⟩
  rw [← hw]
  obtain ⟨g, hg⟩ : ∃ g, g = w.heap.size := ⟨_, rfl⟩
  rw [← hg]
  have hb : Below w.heap.size w w1 := by rw [hw]; exact Below.new _ _
  have HX : Hid (Blk w1 g #[.int .i64 x, .int .i64 y, .int .i64 a, .int .i64 b]) := hid (by rw [hw, hg]; exact Blk.new _ _ _)
  have HB := hid hb
  obtain ⟨c0, c1, c2, c3⟩ := HX.out.c4r
  clear hw hg hb
  go_wp2_with fail
  refine (rt_where w1 s 54 #[.agg #[.int .i64 x, .int .i64 y, .int .i64 a, .int .i64 b]] #[]).mono ?_
  rintro e w2 ⟨bT, bI, rfl, h1, h2, hb⟩
  have HQ := hid (And.intro h1 (And.intro h2 (Below.next HB.out hb)))
  clear h1 h2 hb c0 c1 c2 c3
  go_wp2_with fail
  go_ret
  exact ⟨bT, bI, rfl, HQ.out.1, HQ.out.2.1, HQ.out.2.2⟩
theorem test_Meets (n0 B : Nat) (W0 : World) (x y a b : Int) : TestAt n0 B 54 #[.agg #[.int .i64 x, .int .i64 y, .int .i64 a, .int .i64 b]] #[] (tMeets (x, y, a, b)) W0 :=
  ⟨fun W' _ r => by
    have := rect_Meets4 x y a b r.1 r.2.1 r.2.2.1 r.2.2.2 W'
    simpa [rV, tMeets] using this, fun args w => by simp [callFunc, go_sem]; kernel_rfl, fun p q h k => decide_eq_true (meetsR_symm.1 ((meetsR_symm.1 (of_decide_eq_true k)).mono h))⟩
set_option maxRecDepth 100000 in
theorem rt_At1 (w : World) (bx bY : Nat) (px py : Int) (r : R4) (hx : Blk w bx #[.int .i64 px]) (hy : Blk w bY #[.int .i64 py]) :
    Calls Try.prog 58 #[rV r, .pointer (some ⟨bx, 0, none⟩), .pointer (some ⟨bY, 0, none⟩)] w fun e w' => e = .returned (.bool (tHolds px py r)) ∧ Below w.heap.size w w' := by
  obtain ⟨x, y, a, b⟩ := r
  unfold tHolds
  simp only [rV]
  have HX := hid hx
  have HY := hid hy
  clear hx hy
  go_enter Try.func58, Try.ntmps58
  go_upto_region 1 with fail
  obtain ⟨w1, hw⟩ : ∃ w1, w1 = w.alloc (.cells #[.int .i64 x, .int .i64 y, .int .i64 a, .int .i64 b] 33) := ⟨_, rfl⟩
  rw [← hw]
  obtain ⟨g, hg⟩ : ∃ g, g = w.heap.size := ⟨_, rfl⟩
  rw [← hg]
  have hb : Below w.heap.size w w1 := by rw [hw]; exact Below.new _ _
  have HG : Hid (Blk w1 g #[.int .i64 x, .int .i64 y, .int .i64 a, .int .i64 b]) := hid (by rw [hw, hg]; exact Blk.new _ _ _)
  have HB := hid hb
  obtain ⟨c0, c1, c2, c3⟩ := HG.out.c4r
  have d0 : w1.cell? ⟨bx, 0, none⟩ = some (.int .i64 px) := by rw [(HX.out.below hb).cell]; rfl
  have d1 : w1.cell? ⟨bY, 0, none⟩ = some (.int .i64 py) := by rw [(HY.out.below hb).cell]; rfl
  clear hw hg hb
  go_wp2_with fail
  refine (rect_Holds4 x y a b px py w1).mono ?_
  rintro e w2 ⟨rfl, hb⟩
  have HB2 := hid (Below.next HB.out hb)
  clear hb c0 c1 c2 c3 d0 d1
  go_wp2_with fail
  go_ret
  exact ⟨rfl, HB2.out⟩
set_option maxRecDepth 100000 in
theorem rt_At (w : World) (s : Nat) (px py : Int) : Calls Try.prog 33 #[.pointer (some ⟨s, 0, none⟩), .int .i64 px, .int .i64 py] w fun e w' => ∃ bT bI bx bY, e = .returned (itV bT bI) ∧ Blk w' bT #[.pointer (some ⟨s, 0, none⟩)] ∧ Blk w' bI #[.func (.func 58) #[] #[.pointer (some ⟨bx, 0, none⟩), .pointer (some ⟨bY, 0, none⟩)]] ∧ Blk w' bx #[.int .i64 px] ∧ Blk w' bY #[.int .i64 py] ∧ Below w.heap.size w w' := by
  go_enter Try.func33, Try.ntmps33
  go_upto_region 1 with fail
  generalize hW : World.alloc (World.alloc w _) _ = w1
  obtain ⟨g, hg⟩ : ∃ g, g = w.heap.size := ⟨_, rfl⟩
  obtain ⟨go, hgo⟩ : ∃ go, go = w.heap.size + 1 := ⟨_, rfl⟩
  have hz : (World.alloc w (.cells #[.int .i64 px] 3)).heap.size = w.heap.size + 1 := by simp
  try rw [hz]
  try rw [← hgo]
  try rw [← hg]
  have hb : Below w.heap.size w w1 := by rw [← hW]; exact Below.next (Below.new _ _) (Below.new _ _)
  have HX : Hid (Blk w1 g #[.int .i64 px]) := hid (by rw [← hW, hg]; exact (Blk.new w _ _).below (Below.new _ _))
  have HO : Hid (Blk w1 go #[.int .i64 py]) := hid (by rw [← hW, hgo, ← hz]; exact Blk.new _ _ _)
  have HB := hid hb
  clear hW hg hgo hz hb
  go_wp2_with fail
  refine (rt_where w1 s 58 #[] #[.pointer (some ⟨g, 0, none⟩), .pointer (some ⟨go, 0, none⟩)]).mono ?_
  rintro e w2 ⟨bT, bI, rfl, h1, h2, hb⟩
  have HQ := hid (And.intro h1 (And.intro h2 (And.intro (HX.out.below hb) (And.intro (HO.out.below hb) (Below.next HB.out hb)))))
  clear h1 h2 hb
  go_wp2_with fail
  go_ret
  exact ⟨bT, bI, g, go, rfl, HQ.out⟩
theorem KeepR.blkLow {n0 B : Nat} {W W' : World} (h : KeepR n0 B W W') {g : Nat} {cs : Array Value} (hg : g < n0) (hk : Blk W g cs) : Blk W' g cs := by
  obtain ⟨e, hk⟩ := hk; exact ⟨e, (h.low g hg).trans hk⟩
theorem test_At (n0 B : Nat) (W0 : World) (px py : Int) (bx bY : Nat) (hx : Blk W0 bx #[.int .i64 px]) (hy : Blk W0 bY #[.int .i64 py]) (h1 : bx < n0) (h2 : bY < n0) : TestAt n0 B 58 #[] #[.pointer (some ⟨bx, 0, none⟩), .pointer (some ⟨bY, 0, none⟩)] (tHolds px py) W0 :=
  ⟨fun W' hk r => by
    have := rt_At1 W' bx bY px py r (hk.blkLow h1 hx) (hk.blkLow h2 hy)
    simpa using this, fun args w => by simp [callFunc, go_sem]; kernel_rfl, fun p q h k => decide_eq_true ((of_decide_eq_true k).mono h)⟩
end Go.Proofs.Ytjbnfppnmljbmaa
end
section
/- A region inside a round of a range over a function, in the wide fence: it is walked as the same region outside, if it defers nothing. No program in sight. -/
namespace Go.Proofs.Ytjbnfppnmljbmaa
set_option linter.unusedVariables false
section
variable {P : Program} {ops : Array Oper} {Q : Exit → Act → World → Prop} {md : Region.Mode} {S : World → Prop} {ex : List Nat}
def noDefer (ops : Array Oper) : Bool := ops.all fun o => match o.op with | .defer _ => false | _ => true
theorem noDefer_spec (h : noDefer ops = true) {i : Nat} {o : Oper} (ho : ops[i]? = some o) (c) : o.op ≠ .defer c := by
  obtain ⟨hi, rfl⟩ := Array.getElem?_eq_some_iff.1 ho
  have := (Array.all_eq_true.1 h) i hi
  intro e
  rw [e] at this
  cases this
theorem wpOpIn_of {l n i : Nat} (hlo : ¬ LetsOut Q) (hnd : noDefer ops = true) {K : Act → World → Prop} {a : Act} {w : World} (h : wpOp P ops Q i K a w) : wpOpIn (Fence.wide.inRound l) n P ops Q i K a w := by
  unfold wpOp at h
  unfold wpOpIn
  cases ho : ops[i]? with
  | none => simpa [ho] using h
  | some o =>
    simp only [ho] at h ⊢
    split
    · rename_i hw
      simp only [hw, if_true] at h
      replace h := h.resolve_right (fun q => hlo q.2)
      unfold Oper.wpIn
      refine ⟨fun _ _ => trivial, ?_⟩
      rw [Oper.semAt_eq _ _ _ (noDefer_spec hnd ho)]
      unfold Oper.wp at h
      generalize (execOp a.eval o).run P w = r at h ⊢
      cases r with
      | ok x w' =>
        cases x <;> simp only [Oper.upon, Oper.uponIn] at h ⊢
        case value => exact h
        case skip => exact h
        case defer => exact h
        case enter f args => exact ⟨(fun h => by cases h), CallsIn.inRound l (callsIn_wide.2 h)⟩
        case row row args =>
          refine ⟨(fun h => by cases h), fun c cs _ => ?_⟩
          obtain ⟨v, w', r, s⟩ := h c cs
          exact ⟨v, w', r, stepsIn_wide.2 s⟩
      | halt x w' => cases x <;> simp only [Oper.upon, Oper.uponIn] at h ⊢ <;> exact h
    · rename_i hw
      simp only [hw] at h
      exact ⟨fun _ _ => trivial, h⟩
theorem wpAnyIn_of {l n : Nat} (hlo : ¬ LetsOut Q) (hnd : noDefer ops = true) : ∀ (m : Nat) (ls : Array Bool) (a : Act) (w : World), wpAny P md ops Q m ls a w → wpAnyIn (Fence.wide.inRound l) n P md ops Q m ls a w
  | 0, _, _, _, h => h
  | m + 1, _, _, _, h => ⟨h.1, fun i hi => wpOpIn_mono (fun a' w' k => wpAnyIn_of hlo hnd m _ a' w' k) (wpOpIn_of hlo hnd (h.2 i hi))⟩
theorem wpIn_region_kept {l n : Nat} (ex : List Nat) (S : World → Prop) {id : Nat} {a : Act} {w : World} (hm : P.follows .mixedOrders = true) (hS : S w.drew) (h : S w.drew → wpK P .any ops Q ex S ops.size (Array.replicate ops.size false) a w.drew)
    (hnd : noDefer ops = true := by kernel_rfl) (hlo : ¬ LetsOut Q := by (rintro ⟨_, _, h⟩; exact h)) : (Code.region id ops true).wpIn (Fence.wide.inRound l) n P Q a w :=
  wpIn_region_any hm (wpAnyIn_of hlo hnd _ _ _ _ (wpK.any _ _ _ _ (h hS)))
end
end Go.Proofs.Ytjbnfppnmljbmaa
end
