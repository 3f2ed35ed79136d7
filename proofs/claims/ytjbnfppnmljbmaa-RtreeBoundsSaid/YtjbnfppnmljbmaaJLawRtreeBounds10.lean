/- Joined texts, in this order: RtPut, RtSeq. Each one's first remark says what it proves; no condition beyond those that its theorems name. -/
import Derived.Test.YtjbnfppnmljbmaaJLawRtreeBounds09
import Derived.RangeFuncNested
import Derived.RangeFuncBound
import Derived.RangeFuncCalls
import Derived.RangeFuncLeaves
import Derived.Shelf.Abstract
import Derived.Shelf.RegionOpen
import Derived.OwnWalkIn
import Derived.TacticsInMore
import Derived.LoopNIn
import Derived.LoopIn
import Derived.Maps.OwnIn
import Derived.Stop.RegionWithIn
import Derived.WalkArith
section
/- Contract of rtree's put. -/
namespace Go.Proofs.Ytjbnfppnmljbmaa
open Go.RowKit
open Go.Lib (hid)
set_option linter.unusedVariables false

/-- a tree in memory: its own block, its root of depth d + 1 -/
structure TreeAt (w : World) (s d : Nat) (n : Nd) (cnt : Int) : Prop where
  blk : Blk w s #[ptrN n, .int .i64 cnt]
  node : NodeAt (d + 1) w n
  nd : (s :: blkN (d + 1) n).Nodup
  sh : Shape1 d n
theorem TreeAt.lt {w : World} {s d : Nat} {n : Nd} {cnt : Int} (h : TreeAt w s d n cnt) : ∀ k ∈ s :: blkN (d + 1) n, k < w.heap.size := fun k hk => by
  rcases List.mem_cons.1 hk with rfl | hk
  · exact h.blk.lt
  · exact h.node.lt k hk
theorem TreeAt.upd {S : Nat → Prop} {w w' : World} {s d : Nat} {n : Nd} {cnt : Int} (h : TreeAt w s d n cnt) (hu : Upd S w w') (hS : ∀ k ∈ s :: blkN (d + 1) n, ¬ S k) : TreeAt w' s d n cnt :=
  ⟨h.blk.upd hu (hS s (by simp)), h.node.upd hu (fun k hk => hS k (by simp [hk])), h.nd, h.sh⟩
theorem TreeAt.below {w w' : World} {s d : Nat} {n : Nd} {cnt : Int} (h : TreeAt w s d n cnt) (hb : Below w.heap.size w w') : TreeAt w' s d n cnt := h.upd (S := fun _ => False) (Upd.of_below hb) (fun _ _ q => q)
/-- what put leaves -/
structure PutOk (w w' : World) (s d : Nat) (n : Nd) (cnt : Int) (P : Nat → Prop) (T : List Tg) (d' : Nat) (n' : Nd) : Prop where
  tree : TreeAt w' s d' n' cnt
  dep : d ≤ d' ∧ d' ≤ d + 1
  fr : ∀ k ∈ blkN (d' + 1) n', P k ∨ w.heap.size ≤ k
  th : (thgN (d' + 1) n').Perm T
  cnt1 : 1 ≤ n'.ks.length
  cnt2 : n.ks.length ≤ n'.ks.length ∨ 2 ≤ n'.ks.length
  up : d < d' → 2 ≤ n'.ks.length
  upd : Upd (fun k => k = s ∨ P k) w w'
def PutPost (d e s : Nat) (n x : Nd) (cnt : Int) (w : World) (ed : Ending) (w' : World) : Prop :=
  ed = .returned (.tuple #[]) ∧ ∃ d' n', PutOk w w' s d n cnt (AddP d e n x) (thgN (d + 1) n ++ thgN e x) d' n'
theorem lit_ptr2 (p q : Nat) (W : World) : (Instr.buildSlice 91 2 #[(0, .pointer (some ⟨p, 0, none⟩)), (1, .pointer (some ⟨q, 0, none⟩))]).run Try.prog W = .ok (.slice (some ⟨W.heap.size, 0, none⟩) 2 2) (W.alloc (.cells #[.pointer (some ⟨p, 0, none⟩), .pointer (some ⟨q, 0, none⟩)] 90)) := by kernel_rfl
set_option maxRecDepth 100000 in
set_option maxHeartbeats 4000000 in
theorem rt_put (d e s : Nat) (n x : Nd) (cnt : Int) (w : World) (he : e ≤ d) (hd : d ≤ 1000) (ht : TreeAt w s d n cnt) (hx : NodeAt e w x) (hnd : (s :: (blkN (d + 1) n ++ blkN e x)).Nodup) (h1 : e < d → 1 ≤ n.ks.length) (hxs : ShapeN e x) :
    Calls Try.prog 70 #[.pointer (some ⟨s, 0, none⟩), ptrN x] w (PutPost d e s n x cnt w) := by
  obtain ⟨hn1, hn2⟩ := List.nodup_cons.1 hnd
  have hadd := rt_add d e n x w he hd ht.node hx hn2 ht.sh h1 hxs
  obtain ⟨p, hp⟩ : ∃ z, n.p = z := ⟨_, rfl⟩
  obtain ⟨q, hq⟩ : ∃ z, x.p = z := ⟨_, rfl⟩
  unfold ptrN at hadd ⊢
  rw [hp, hq] at hadd
  rw [hq]
  have HADD := hid hadd
  have HT := hid ht
  have HP := hid hp
  have HS : Hid (∀ k, AddP d e n x k → k ≠ s) := hid (fun k hk e0 => hn1 (by rw [← e0]; simp only [List.mem_append]; exact hk))
  have hb := ht.blk
  unfold ptrN at hb
  rw [hp] at hb
  have HB := hid hb
  obtain ⟨c0, c1, -, -⟩ := hb.c2
  have HD := hid hd
  clear hadd hn1 hn2 hnd hx hxs h1 he hd ht hp hq hb
  go_enter Try.func70, Try.ntmps70
  go_wp2_with fail
  refine HADD.out.mono ?_
  rintro e1 w1 ⟨n', o, rfl, ha⟩
  have HA := hid ha
  have hb1 : Blk w1 s #[.pointer (some ⟨p, 0, none⟩), .int .i64 cnt] := HB.out.upd ha.upd (fun z => HS.out s z rfl)
  have HB1 := hid hb1
  obtain ⟨vo, hvo⟩ : ∃ vo, optP o = vo := ⟨_, rfl⟩
  rw [hvo]
  clear ha c0 c1
  cases o with
  | none =>
    obtain rfl : vo = .pointer none := hvo.symm
    have HR : Hid (PutPost d e s n x cnt w (.returned (.tuple #[])) w1) := hid (by
      have hnd := HA.out.nd
      have hth := HA.out.th
      have hfr := HA.out.fr
      simp only [Option.toList_none, List.flatMap_nil, List.append_nil] at hnd hth hfr
      refine ⟨rfl, d, n', ⟨?_, HA.out.at', ?_, HA.out.sh⟩, ⟨Nat.le_refl _, Nat.le_succ _⟩, hfr, hth, HA.out.cnt1, HA.out.cnt, fun z => absurd z (Nat.lt_irrefl _), HA.out.upd.mono (fun k _ z => .inr z)⟩
      · have e2 : ptrN n' = .pointer (some ⟨p, 0, none⟩) := by unfold ptrN; rw [HA.out.p, HP.out]
        rw [e2]; exact HB1.out
      · rw [List.nodup_cons]
        refine ⟨fun z => ?_, hnd⟩
        rcases hfr s z with y | y
        · exact HS.out s y rfl
        · have := HB.out.lt; omega)
    clear hvo hb1
    go_wp2_with fail
    go_end0
    exact HR.out
  | some y =>
    obtain ⟨py, hpy⟩ : ∃ z, y.p = z := ⟨_, rfl⟩
    have HPY := hid hpy
    obtain rfl : vo = .pointer (some ⟨py, 0, none⟩) := by rw [← hvo, ← hpy]; rfl
    have hnb : Blk w1 p (cells7 n'.r n'.kv n'.v ((d + 1 : Nat) : Int)) := by
      have := HA.out.at'.blk
      rw [HA.out.p, HP.out] at this
      exact this
    have c0 : ∀ z, Below w1.heap.size w1 z → z.cell? ⟨s, 0, none⟩ = some (.pointer (some ⟨p, 0, none⟩)) := fun z hz => by rw [(HB1.out.below hz).cell]; rfl
    have hc6 := hnb.c7.2.2.2
    obtain ⟨D, hD⟩ : ∃ D : Int, ((d + 1 : Nat) : Int) = D := ⟨_, rfl⟩
    rw [hD] at hc6
    have HDD := hid hD
    have c6 : ∀ z, Below w1.heap.size w1 z → z.cell? ⟨p, 6, none⟩ = some (.int .i64 D) := fun z hz => cellOf_belowR hz hc6
    have hwD : IntKind.i64.wrap (D + 1) = D + 1 := by rw [IntKind.wrap_i64]; have := HD.out; omega
    clear hvo hpy hnb hc6 hD hb1
    go_upto_region 2 with fail
    have hyd := (Below.refl w1.heap.size w1).drew
    refine wp_region_kept [17, 18, 19] (fun z => Below w1.heap.size w1 z) (by kernel_rfl) (by assumption) (fun hH => ?_)
    refine wpK.take (i := 0) (v := _) (by simp only [List.getElem?_toArray, List.getElem?_cons_succ, List.getElem?_cons_zero]; rfl) (by kernel_rfl) (by kernel_rfl) (by kernel_rfl) (by kernel_rfl) (by kernel_rfl) (by exact fun _ _ _ h => h) (by first | exact Or.inl ⟨by rfl, by intro w hSw; go_simp; try with_reducible rfl⟩ | exact Or.inr ⟨by rfl, rfl⟩) hH ?_
    try simp only [Act.put, List.setIfInBounds_toArray, List.set_cons_zero, List.set_cons_succ]
    refine wpK.take (i := 1) (v := _) (by simp only [List.getElem?_toArray, List.getElem?_cons_succ, List.getElem?_cons_zero]; rfl) (by kernel_rfl) (by kernel_rfl) (by kernel_rfl) (by kernel_rfl) (by kernel_rfl) (by exact fun _ _ _ h => h) (by first | exact Or.inl ⟨by rfl, by intro w hSw; go_simp; try with_reducible rfl⟩ | exact Or.inr ⟨by rfl, rfl⟩) hH ?_
    try simp only [Act.put, List.setIfInBounds_toArray, List.set_cons_zero, List.set_cons_succ]
    refine wpK.take (i := 2) (v := _) (by simp only [List.getElem?_toArray, List.getElem?_cons_succ, List.getElem?_cons_zero]; rfl) (by kernel_rfl) (by kernel_rfl) (by kernel_rfl) (by kernel_rfl) (by kernel_rfl) (by exact fun _ _ _ h => h) (by first | exact Or.inl ⟨by rfl, by intro w hSw; go_simp; try with_reducible rfl⟩ | exact Or.inr ⟨by rfl, rfl⟩) hH ?_
    try simp only [Act.put, List.setIfInBounds_toArray, List.set_cons_zero, List.set_cons_succ]
    refine wpK.take (i := 3) (v := _) (by simp only [List.getElem?_toArray, List.getElem?_cons_succ, List.getElem?_cons_zero]; rfl) (by kernel_rfl) (by kernel_rfl) (by kernel_rfl) (by kernel_rfl) (by kernel_rfl) (by exact fun _ _ _ h => h) (by first | exact Or.inl ⟨by rfl, by intro w hSw; go_simp; try with_reducible rfl⟩ | exact Or.inr ⟨by rfl, rfl⟩) hH ?_
    try simp only [Act.put, List.setIfInBounds_toArray, List.set_cons_zero, List.set_cons_succ]
    refine wpK.take (i := 4) (v := _) (by simp only [List.getElem?_toArray, List.getElem?_cons_succ, List.getElem?_cons_zero]; rfl) (by kernel_rfl) (by kernel_rfl) (by kernel_rfl) (by kernel_rfl) (by kernel_rfl) (by exact fun _ _ _ h => h) (by first | exact Or.inl ⟨by rfl, by intro w hSw; go_simp; try with_reducible rfl⟩ | exact Or.inr ⟨by rfl, rfl⟩) hH ?_
    try simp only [Act.put, List.setIfInBounds_toArray, List.set_cons_zero, List.set_cons_succ]
    refine wpK.take (i := 5) (v := _) (by simp only [List.getElem?_toArray, List.getElem?_cons_succ, List.getElem?_cons_zero]; rfl) (by kernel_rfl) (by kernel_rfl) (by kernel_rfl) (by kernel_rfl) (by kernel_rfl) (by exact fun _ _ _ h => h) (by first | exact Or.inl ⟨by rfl, by intro w hSw; go_simp; try with_reducible rfl⟩ | exact Or.inr ⟨by rfl, rfl⟩) hH ?_
    try simp only [Act.put, List.setIfInBounds_toArray, List.set_cons_zero, List.set_cons_succ]
    refine wpK.take (i := 7) (v := _) (by simp only [List.getElem?_toArray, List.getElem?_cons_succ, List.getElem?_cons_zero]; rfl) (by kernel_rfl) (by kernel_rfl) (by kernel_rfl) (by kernel_rfl) (by kernel_rfl) (by exact fun _ _ _ h => h) (by first | exact Or.inl ⟨by rfl, by intro w hSw; go_simp; try with_reducible rfl⟩ | exact Or.inr ⟨by rfl, rfl⟩) hH ?_
    try simp only [Act.put, List.setIfInBounds_toArray, List.set_cons_zero, List.set_cons_succ]
    refine wpK.take (i := 8) (v := _) (by simp only [List.getElem?_toArray, List.getElem?_cons_succ, List.getElem?_cons_zero]; rfl) (by kernel_rfl) (by kernel_rfl) (by kernel_rfl) (by kernel_rfl) (by kernel_rfl) (by exact fun _ _ _ h => h) (by first | exact Or.inl ⟨by rfl, by intro w hSw; go_simp; try with_reducible rfl⟩ | exact Or.inr ⟨by rfl, rfl⟩) hH ?_
    try simp only [Act.put, List.setIfInBounds_toArray, List.set_cons_zero, List.set_cons_succ]
    refine wpK.take (i := 9) (v := _) (by simp only [List.getElem?_toArray, List.getElem?_cons_succ, List.getElem?_cons_zero]; rfl) (by kernel_rfl) (by kernel_rfl) (by kernel_rfl) (by kernel_rfl) (by kernel_rfl) (by exact fun _ _ _ h => h) (by first | exact Or.inl ⟨by rfl, by intro w hSw; go_simp; try with_reducible rfl⟩ | exact Or.inr ⟨by rfl, rfl⟩) hH ?_
    try simp only [Act.put, List.setIfInBounds_toArray, List.set_cons_zero, List.set_cons_succ]
    refine wpK.take (i := 10) (v := _) (by simp only [List.getElem?_toArray, List.getElem?_cons_succ, List.getElem?_cons_zero]; rfl) (by kernel_rfl) (by kernel_rfl) (by kernel_rfl) (by kernel_rfl) (by kernel_rfl) (by exact fun _ _ _ h => h) (by first | exact Or.inl ⟨by rfl, by intro w hSw; go_simp; try with_reducible rfl⟩ | exact Or.inr ⟨by rfl, rfl⟩) hH ?_
    try simp only [Act.put, List.setIfInBounds_toArray, List.set_cons_zero, List.set_cons_succ]
    refine wpK.take (i := 11) (v := _) (by simp only [List.getElem?_toArray, List.getElem?_cons_succ, List.getElem?_cons_zero]; rfl) (by kernel_rfl) (by kernel_rfl) (by kernel_rfl) (by kernel_rfl) (by kernel_rfl) (by exact fun _ _ _ h => h) (by first | exact Or.inl ⟨by rfl, by intro w hSw; go_simp; try with_reducible rfl⟩ | exact Or.inr ⟨by rfl, rfl⟩) hH ?_
    try simp only [Act.put, List.setIfInBounds_toArray, List.set_cons_zero, List.set_cons_succ]
    refine wpK.take (i := 12) (v := _) (by simp only [List.getElem?_toArray, List.getElem?_cons_succ, List.getElem?_cons_zero]; rfl) (by kernel_rfl) (by kernel_rfl) (by kernel_rfl) (by kernel_rfl) (by kernel_rfl) (by exact fun _ _ _ h => h) (by first | exact Or.inl ⟨by rfl, by intro w hSw; go_simp; try with_reducible rfl⟩ | exact Or.inr ⟨by rfl, rfl⟩) hH ?_
    try simp only [Act.put, List.setIfInBounds_toArray, List.set_cons_zero, List.set_cons_succ]
    refine wpK.take (i := 13) (v := _) (by simp only [List.getElem?_toArray, List.getElem?_cons_succ, List.getElem?_cons_zero]; rfl) (by kernel_rfl) (by kernel_rfl) (by kernel_rfl) (by kernel_rfl) (by kernel_rfl) (by exact fun _ _ _ h => h) (by first | exact Or.inl ⟨by rfl, by intro w hSw; go_simp; try with_reducible rfl⟩ | exact Or.inr ⟨by rfl, rfl⟩) hH ?_
    try simp only [Act.put, List.setIfInBounds_toArray, List.set_cons_zero, List.set_cons_succ]
    refine wpK.take (i := 14) (v := _) (by simp only [List.getElem?_toArray, List.getElem?_cons_succ, List.getElem?_cons_zero]; rfl) (by kernel_rfl) (by kernel_rfl) (by kernel_rfl) (by kernel_rfl) (by kernel_rfl) (by exact fun _ _ _ h => h) (by first | exact Or.inl ⟨by rfl, by intro w hSw; go_simp; try with_reducible rfl⟩ | exact Or.inr ⟨by rfl, rfl⟩) hH ?_
    try simp only [Act.put, List.setIfInBounds_toArray, List.set_cons_zero, List.set_cons_succ]
    refine wpK.step (i := 6) (by kernel_rfl) (by simp only [List.getElem?_toArray, List.getElem?_cons_succ, List.getElem?_cons_zero]; rfl) (fun K hK => ?_)
    refine step_lit (us := #[.pointer (some ⟨p, 0, none⟩), .pointer (some ⟨py, 0, none⟩)]) (e := 90) (size := 1) (ps := #[(0, .pointer (some ⟨p, 0, none⟩)), (1, .pointer (some ⟨py, 0, none⟩))]) rfl rfl (by simp only [List.map_toArray, List.map_cons, List.map_nil]; rfl) (lit_ptr2 p py _) rfl (by omega) ?_; intro g1 w4 hg1 hb4 hz4 ho4; (have hk4 : Below w1.heap.size w1 w4 := Below.next hH hb4)
    refine hK.out _ _ (by assumption) (fun hH => ?_)
    clear hK K
    try simp only [Act.put, List.setIfInBounds_toArray, List.set_cons_zero, List.set_cons_succ]
    refine wpK.take (i := 15) (v := _) (by simp only [List.getElem?_toArray, List.getElem?_cons_succ, List.getElem?_cons_zero]; rfl) (by kernel_rfl) (by kernel_rfl) (by kernel_rfl) (by kernel_rfl) (by kernel_rfl) (by exact fun _ _ _ h => h) (by first | exact Or.inl ⟨by rfl, by intro w hSw; go_simp; try with_reducible rfl⟩ | exact Or.inr ⟨by rfl, rfl⟩) hH ?_
    try simp only [Act.put, List.setIfInBounds_toArray, List.set_cons_zero, List.set_cons_succ]
    refine wpK.step (i := 16) (by kernel_rfl) (by simp only [List.getElem?_toArray, List.getElem?_cons_succ, List.getElem?_cons_zero]; rfl) (fun K hK => ?_)
    go_simp
    (first | refine K_alloc (K := K) ?_ | refine K_allocD (K := K) ?_); intro g8 w8 hg8 hs8 hb8 hblk8; (have HG8 := hid hg8); (have hk8 : Below w1.heap.size w1 w8 := Below.next hk4 hb8); (have q0 : w8.cell? ⟨s, 0, none⟩ = some (.pointer (some ⟨p, 0, none⟩)) := by rw [(HB1.out.below hk8).cell]; rfl); (have f0 : w8.frozen? ⟨s, 0, none⟩ = false := (HB1.out.below hk8).unfrozen 0)
    refine hK.out _ _ (by assumption) (fun hH => ?_)
    clear hK K
    try simp only [Act.put, List.setIfInBounds_toArray, List.set_cons_zero, List.set_cons_succ]
    refine wpK.late (i := 17) (by kernel_rfl) (by simp only [List.getElem?_toArray, List.getElem?_cons_succ, List.getElem?_cons_zero]; rfl) (by kernel_rfl) (fun K hK => ?_)
    go_simp
    refine hK.out _ _ ?_
    clear hK K
    try simp only [Act.put, List.setIfInBounds_toArray, List.set_cons_zero, List.set_cons_succ]
    refine wpK.late (i := 18) (by kernel_rfl) (by simp only [List.getElem?_toArray, List.getElem?_cons_succ, List.getElem?_cons_zero]; rfl) (by kernel_rfl) (fun K hK => ?_)
    go_simp
    refine hK.out _ _ ?_
    clear hK K
    try simp only [Act.put, List.setIfInBounds_toArray, List.set_cons_zero, List.set_cons_succ]
    refine wpK.late (i := 19) (by kernel_rfl) (by simp only [List.getElem?_toArray, List.getElem?_cons_succ, List.getElem?_cons_zero]; rfl) (by kernel_rfl) (fun K hK => ?_)
    go_simp
    refine hK.out _ _ ?_
    clear hK K
    try simp only [Act.put, List.setIfInBounds_toArray, List.set_cons_zero, List.set_cons_succ]
    refine wpK.done (by kernel_rfl) ?_ _
    have e8 : g8 = g1 + 1 := by omega
    rw [← e8]
    obtain ⟨w9, hw9⟩ : ∃ w9, w9 = w8.setCell ⟨s, 0, none⟩ (.pointer (some ⟨g8, 0, none⟩)) := ⟨_, rfl⟩
    rw [← hw9]
    have hu9 : Upd (fun k => k = s) w8 w9 := by rw [hw9]; exact Upd.setCell w8 s 0 _
    have HU9 := hid hu9
    have HK8 := hid hk8
    have HS9 : Hid (Blk w9 s #[.pointer (some ⟨g8, 0, none⟩), .int .i64 cnt]) := hid (by rw [hw9]; simpa using (HB1.out.below hk8).set 0 (.pointer (some ⟨g8, 0, none⟩)))
    have HSZ : Hid (s < w1.heap.size ∧ w1.heap.size ≤ g1 ∧ g1 < g8 ∧ g8 < w8.heap.size) := hid (by
      have h1 : w1.drew.heap.size = w1.heap.size := rfl
      have := HB1.out.lt
      omega)
    have HG9 : Hid (Blk w9 g8 (cells7 zR (.slice (some ⟨g1, 0, none⟩) 2 2) 0 (D + 1))) := hid (by
      have h1 : Blk w8 g8 (cells7 zR (.slice (some ⟨g1, 0, none⟩) 2 2) 0 (D + 1)) := hblk8
      exact h1.upd hu9 (fun z => by have := HSZ.out; omega))
    have hpn : ptrN n' = .pointer (some ⟨p, 0, none⟩) := by unfold ptrN; rw [HA.out.p, HP.out]
    have hpy : ptrN y = .pointer (some ⟨py, 0, none⟩) := by unfold ptrN; rw [HPY.out]
    have HO9 : Hid (w9.ownsRow 0 90 1 (.slice (some ⟨g1, 0, none⟩) 2 2) 2 [ptrN n', ptrN y]) := hid (by
      rw [hpn, hpy]
      exact owns_base0 (hu9.owns (owns_below ho4 hb8) (fun k hk z => by have e0 : g1 = k := Option.some.inj hk; have := HSZ.out; omega)) (Nat.zero_le _))
    have HTW := hid (HA.out.two y rfl)
    have hnl : ∀ k ∈ blkN (d + 1) n' ++ blkN (d + 1) y, k < w1.heap.size ∧ k ≠ s := fun k hk => by
      refine ⟨?_, fun z => ?_⟩
      · rcases List.mem_append.1 hk with hk | hk
        · exact HA.out.at'.lt k hk
        · exact HTW.out.1.lt k hk
      · rcases HA.out.fr k (by simpa using hk) with y2 | y2
        · exact HS.out k y2 z
        · have := HB.out.lt; omega
    have HNL := hid hnl
    have HN9 : Hid (NodeAt (d + 1) w9 n') := hid ((HA.out.at'.below hk8).upd hu9 (fun k hk => (hnl k (List.mem_append_left _ hk)).2))
    have HY9 : Hid (NodeAt (d + 1) w9 y) := hid ((HTW.out.1.below hk8).upd hu9 (fun k hk => (hnl k (List.mem_append_right _ hk)).2))
    have hfit := rt_fit [n', y] (some ⟨g1, 0, none⟩) 2 2 g8 zR 0 (D + 1) w9 HG9.out (slN_of HO9.out (by
      intro k hk
      simp only [List.mem_cons, List.not_mem_nil, or_false] at hk
      rcases hk with rfl | rfl
      · exact HN9.out.rat
      · exact HY9.out.rat)) (by omega)
    have HFIT := hid hfit
    have q1 : w9.cell? ⟨s, 0, none⟩ = some (.pointer (some ⟨g8, 0, none⟩)) := by rw [HS9.out.cell]; rfl
    clear hfit hw9 hu9 hpn hpy hnl hyd hH hk8 hk4 hb8 hb4 hz4 ho4 hblk8 hs8 hg8 hg1 e8 q0 f0 c0 c6 hwD
    go_wp2_with fail
    refine HFIT.out.mono ?_
    rintro e2 w10 ⟨rfl, hb10, hu10⟩
    have HR : Hid (PutPost d e s n x cnt w (.returned (.tuple #[])) w10) := hid (by
      have z := HSZ.out
      have hz1 := HA.out.upd.size
      have hz8 := HK8.out.size
      have hnd := HA.out.nd
      have hth := HA.out.th
      have hfr := HA.out.fr
      simp only [Option.toList_some, List.flatMap_cons, List.flatMap_nil, List.append_nil] at hnd hth hfr
      have hk2 : 2 ≤ n'.ks.length ∨ n'.ks.length < 2 := by omega
      have e2 : blkF (d + 1) [n', y] = blkN (d + 1) n' ++ blkN (d + 1) y := by simp [blkF]
      have ht2 : thgN (d + 1 + 1) ⟨g8, boundR ([n', y].map (·.r)), .slice (some ⟨g1, 0, none⟩) 2 2, 0, [n', y]⟩ = thgN (d + 1) n' ++ thgN (d + 1) y := by simp [thgN]
      have hb2 : blkN (d + 1 + 1) ⟨g8, boundR ([n', y].map (·.r)), .slice (some ⟨g1, 0, none⟩) 2 2, 0, [n', y]⟩ = g8 :: g1 :: (blkN (d + 1) n' ++ blkN (d + 1) y) := by rw [blkN_succ]; simp only [e2]; rfl
      have hn2 : 2 ≤ n'.ks.length := HA.out.two2 (by simp)
      refine ⟨rfl, d + 1, ⟨g8, boundR ([n', y].map (·.r)), .slice (some ⟨g1, 0, none⟩) 2 2, 0, [n', y]⟩, ⟨?_, ⟨?_, ?_, ?_⟩, ?_, ?_⟩, ⟨Nat.le_succ _, Nat.le_refl _⟩, ?_, ?_, by simp, .inr (by simp), fun _ => by simp, ?_⟩
      · exact HS9.out.upd hu10 (fun q => by omega)
      · have e3 : ((d + 1 + 1 : Nat) : Int) = D + 1 := by have := HDD.out; omega
        show Blk w10 g8 (cells7 _ _ _ ((d + 1 + 1 : Nat) : Int))
        rw [e3]; exact hb10
      · exact hu10.owns HO9.out (fun k hk q => by have e0 : g1 = k := Option.some.inj hk; omega)
      · intro k hk
        simp only [List.mem_cons, List.not_mem_nil, or_false] at hk
        rcases hk with rfl | rfl
        · exact HN9.out.upd hu10 (fun j hj q => by have := (HNL.out j (List.mem_append_left _ hj)).1; omega)
        · exact HY9.out.upd hu10 (fun j hj q => by have := (HNL.out j (List.mem_append_right _ hj)).1; omega)
      · rw [hb2]
        simp only [List.nodup_cons, List.mem_cons, not_or]
        exact ⟨⟨by omega, by omega, fun q => (HNL.out s q).2 rfl⟩, ⟨by omega, fun q => by have := (HNL.out g8 q).1; omega⟩, fun q => by have := (HNL.out g1 q).1; omega, hnd⟩
      · exact ⟨by simp, rfl, fun k hk => by
          simp only [List.mem_cons, List.not_mem_nil, or_false] at hk
          rcases hk with rfl | rfl
          · exact HA.out.sh.two hn2
          · exact HTW.out.2⟩
      · intro k hk
        rw [hb2] at hk
        simp only [List.mem_cons] at hk
        rcases hk with rfl | rfl | hk
        · right; omega
        · right; omega
        · exact hfr k hk
      · rw [ht2]; exact hth
      · have h1 : Upd (fun k => k = s ∨ AddP d e n x k) w w1 := HA.out.upd.mono (fun k _ z => .inr z)
        have h2 := h1.trans (Upd.of_below (S := fun k => k = s ∨ AddP d e n x k) HK8.out) (fun _ _ q => q)
        have h3 := h2.trans HU9.out (fun k _ q => .inl q)
        exact h3.trans hu10 (fun k hk q => by omega))
    clear hb10 hu10 q1
    go_wp2_with fail
    go_end0
    exact HR.out
end Go.Proofs.Ytjbnfppnmljbmaa
end
section
/- Iterators over a tree: what a round keeps. -/
namespace Go.Proofs.Ytjbnfppnmljbmaa
open Go.RowKit
open Go.Lib (hid)
set_option linter.unusedVariables false

/-- what a round keeps: all that lay below n0 -/
structure KeepR (n0 B : Nat) (W W' : World) : Prop where
  os : W'.os = W.os
  tape : W'.tape = W.tape
  output : W'.output = W.output
  size : W.heap.size ≤ W'.heap.size
  low : ∀ k, k < n0 → W'.heap[k]? = W.heap[k]?
theorem KeepR.refl (n0 B : Nat) (W : World) : KeepR n0 B W W := ⟨rfl, rfl, rfl, Nat.le_refl _, fun _ _ => rfl⟩
theorem KeepR.trans {n0 B : Nat} {X Y Z : World} (h : KeepR n0 B X Y) (k : KeepR n0 B Y Z) : KeepR n0 B X Z :=
  ⟨k.os.trans h.os, k.tape.trans h.tape, k.output.trans h.output, Nat.le_trans h.size k.size, fun i hi => (k.low i hi).trans (h.low i hi)⟩
theorem KeepR.put {n0 B : Nat} (hn : n0 ≤ B) (W : World) (l : Nat) (o o' : Obj) (hl : B ≤ l) (h : W.heap[l]? = some o) (hc : o.isCells = false) : KeepR n0 B W (W.putObj l o') :=
  ⟨rfl, rfl, rfl, by simp, fun k hk => World.putObj_heap_other (by omega)⟩
theorem KeepR.of_upd {n0 B : Nat} {S : Nat → Prop} {W W' : World} (h : Upd S W W') (hn : n0 ≤ W.heap.size) (hS : ∀ k, k < W.heap.size → S k → n0 ≤ k) : KeepR n0 B W W' :=
  ⟨h.os, h.tape, h.output, h.size, fun k hk => h.block k (by omega) (fun q => by have := hS k (by omega) q; omega)⟩
theorem KeepR.of_below {n0 B : Nat} {W W' : World} (h : Below W.heap.size W W') (hn : n0 ≤ W.heap.size) : KeepR n0 B W W' := .of_upd (Upd.of_below (S := fun _ => False) h) hn (fun _ _ q => q.elim)
theorem KeepR.upd {n0 B : Nat} {W W' : World} (h : KeepR n0 B W W') : Upd (fun k => n0 ≤ k) W W' := ⟨h.os, h.tape, h.output, h.size, fun k _ hk => h.low k (by omega)⟩
theorem grown_belowR {W W' : World} (h : Below W.heap.size W W') : W.grownBy W' none := ⟨h.os, h.tape, h.output, h.size, fun k hk _ => h.block k hk⟩
theorem yieldAt_any {m m' : Nat} {P : Program} {l : Nat} {args : Array Value} {W : World} {R : Ending → World → Prop} (h : YieldAt Fence.wide m P l args W R) : YieldAt Fence.wide m' P l args W R := by
  obtain ⟨fn, tmps, assign, body, h1, h2, h3⟩ := h
  exact ⟨fn, tmps, assign, body, h1, h2, fun c cs _ => h3 c cs (room_wide _)⟩
/-- the things that a test lets by -/
def flR (t : R4 → Bool) (l : List Tg) : List Tg := l.filter (fun x => t x.1)
theorem flR_append (t : R4 → Bool) (a b : List Tg) : flR t (a ++ b) = flR t a ++ flR t b := List.filter_append _ _
end Go.Proofs.Ytjbnfppnmljbmaa
end
