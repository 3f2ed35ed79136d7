/- Joined texts, in this order: RtPut, RtSeq, RegionY. Each one's first remark says what it proves; no condition beyond those that its theorems name. -/
import Derived.Test.YtjbnfppnmljbmaaJLawLandMany09
import Derived.RangeFuncNested
import Derived.RangeFuncBound
import Derived.RangeFuncCalls
import Derived.RangeFuncLeaves
import Derived.Shelf.Abstract
import Derived.Shelf.RegionOpen
import Derived.OwnWalkIn
import Derived.TacticsInMore
import Derived.LoopNIn
import Derived.LoopIn
import Derived.Maps.OwnIn
import Derived.Stop.RegionWithIn
import Derived.WalkArith
import Derived.Test.YtjbnfppnmljbmaaJLawLandMany02
import Derived.OrdersIn
section
/- Contract of rtree's put. -/
namespace Go.Proofs.Ytjbnfppnmljbmaa
open Go.RowKit
open Go.Lib (hid)
set_option linter.unusedVariables false

/-- a tree in memory: its own block, its root of depth d + 1 -/
structure TreeAt (w : World) (s d : Nat) (n : Nd) (cnt : Int) : Prop where
  blk : Blk w s #[ptrN n, .int .i64 cnt]
  node : NodeAt (d + 1) w n
  nd : (s :: blkN (d + 1) n).Nodup
  sh : Shape1 d n
theorem TreeAt.lt {w : World} {s d : Nat} {n : Nd} {cnt : Int} (h : TreeAt w s d n cnt) : ∀ k ∈ s :: blkN (d + 1) n, k < w.heap.size := fun k hk => by
  rcases List.mem_cons.1 hk with rfl | hk
  · exact h.blk.lt
  · exact h.node.lt k hk
theorem TreeAt.upd {S : Nat → Prop} {w w' : World} {s d : Nat} {n : Nd} {cnt : Int} (h : TreeAt w s d n cnt) (hu : Upd S w w') (hS : ∀ k ∈ s :: blkN (d + 1) n, ¬ S k) : TreeAt w' s d n cnt :=
  ⟨h.blk.upd hu (hS s (by simp)), h.node.upd hu (fun k hk => hS k (by simp [hk])), h.nd, h.sh⟩
theorem TreeAt.below {w w' : World} {s d : Nat} {n : Nd} {cnt : Int} (h : TreeAt w s d n cnt) (hb : Below w.heap.size w w') : TreeAt w' s d n cnt := h.upd (S := fun _ => False) (Upd.of_below hb) (fun _ _ q => q)
/-- what put leaves -/
structure PutOk (w w' : World) (s d : Nat) (n : Nd) (cnt : Int) (P : Nat → Prop) (T : List Tg) (d' : Nat) (n' : Nd) : Prop where
  tree : TreeAt w' s d' n' cnt
  dep : d ≤ d' ∧ d' ≤ d + 1
  fr : ∀ k ∈ blkN (d' + 1) n', P k ∨ w.heap.size ≤ k
  th : (thgN (d' + 1) n').Perm T
  cnt1 : 1 ≤ n'.ks.length
  cnt2 : n.ks.length ≤ n'.ks.length ∨ 2 ≤ n'.ks.length
  up : d < d' → 2 ≤ n'.ks.length
  upd : Upd (fun k => k = s ∨ P k) w w'
def PutPost (d e s : Nat) (n x : Nd) (cnt : Int) (w : World) (ed : Ending) (w' : World) : Prop :=
  ed = .returned (.tuple #[]) ∧ ∃ d' n', PutOk w w' s d n cnt (AddP d e n x) (thgN (d + 1) n ++ thgN e x) d' n'
theorem lit_ptr2 (p q : Nat) (W : World) : (Instr.buildSlice 91 2 #[(0, .pointer (some ⟨p, 0, none⟩)), (1, .pointer (some ⟨q, 0, none⟩))]).run Try.prog W = .ok (.slice (some ⟨W.heap.size, 0, none⟩) 2 2) (W.alloc (.cells #[.pointer (some ⟨p, 0, none⟩), .pointer (some ⟨q, 0, none⟩)] 90)) := by kernel_rfl
set_option maxRecDepth 100000 in
set_option maxHeartbeats 4000000 in
theorem rt_put (d e s : Nat) (n x : Nd) (cnt : Int) (w : World) (he : e ≤ d) (hd : d ≤ 1000) (ht : TreeAt w s d n cnt) (hx : NodeAt e w x) (hnd : (s :: (blkN (d + 1) n ++ blkN e x)).Nodup) (h1 : e < d → 1 ≤ n.ks.length) (hxs : ShapeN e x) :
    Calls Try.prog 70 #[.pointer (some ⟨s, 0, none⟩), ptrN x] w (PutPost d e s n x cnt w) := by
  obtain ⟨hn1, hn2⟩ := List.nodup_cons.1 hnd
  have hadd := rt_add d e n x w he hd ht.node hx hn2 ht.sh h1 hxs
  obtain ⟨p, hp⟩ : ∃ z, n.p = z := ⟨_, rfl⟩
  obtain ⟨q, hq⟩ : ∃ z, x.p = z := ⟨_, rfl⟩
  unfold ptrN at hadd ⊢
  rw [hp, hq] at hadd
  rw [hq]
  have HADD := hid hadd
  have HT := hid ht
  have HP := hid hp
  have HS : Hid (∀ k, AddP d e n x k → k ≠ s) := hid (fun k hk e0 => hn1 (by rw [← e0]; simp only [List.mem_append]; exact hk))
  have hb := ht.blk
  unfold ptrN at hb
  rw [hp] at hb
  have HB := hid hb
  obtain ⟨c0, c1, -, -⟩ := hb.c2
  have HD := hid hd
  clear hadd hn1 hn2 hnd hx hxs h1 he hd ht hp hq hb
  go_enter Try.func70, Try.ntmps70
  go_wp2_with fail
  refine HADD.out.mono ?_
  rintro e1 w1 ⟨n', o, rfl, ha⟩
  have HA := hid ha
  have hb1 : Blk w1 s #[.pointer (some ⟨p, 0, none⟩), .int .i64 cnt] := HB.out.upd ha.upd (fun z => HS.out s z rfl)
  have HB1 := hid hb1
  obtain ⟨vo, hvo⟩ : ∃ vo, optP o = vo := ⟨_, rfl⟩
  rw [hvo]
  clear ha c0 c1
  cases o with
  | none =>
    obtain rfl : vo = .pointer none := hvo.symm
    have HR : Hid (PutPost d e s n x cnt w (.returned (.tuple #[])) w1) := hid (by
      have hnd := HA.out.nd
      have hth := HA.out.th
      have hfr := HA.out.fr
      simp only [Option.toList_none, List.flatMap_nil, List.append_nil] at hnd hth hfr
      refine ⟨rfl, d, n', ⟨?_, HA.out.at', ?_, HA.out.sh⟩, ⟨Nat.le_refl _, Nat.le_succ _⟩, hfr, hth, HA.out.cnt1, HA.out.cnt, fun z => absurd z (Nat.lt_irrefl _), HA.out.upd.mono (fun k _ z => .inr z)⟩
      · have e2 : ptrN n' = .pointer (some ⟨p, 0, none⟩) := by unfold ptrN; rw [HA.out.p, HP.out]
        rw [e2]; exact HB1.out
      · rw [List.nodup_cons]
        refine ⟨fun z => ?_, hnd⟩
        rcases hfr s z with y | y
        · exact HS.out s y rfl
        · have := HB.out.lt; omega)
    clear hvo hb1
    go_wp2_with fail
    go_end0
    exact HR.out
  | some y =>
    obtain ⟨py, hpy⟩ : ∃ z, y.p = z := ⟨_, rfl⟩
    have HPY := hid hpy
    obtain rfl : vo = .pointer (some ⟨py, 0, none⟩) := by rw [← hvo, ← hpy]; rfl
    have hnb : Blk w1 p (cells7 n'.r n'.kv n'.v ((d + 1 : Nat) : Int)) := by
      have := HA.out.at'.blk
      rw [HA.out.p, HP.out] at this
      exact this
    have c0 : ∀ z, Below w1.heap.size w1 z → z.cell? ⟨s, 0, none⟩ = some (.pointer (some ⟨p, 0, none⟩)) := fun z hz => by rw [(HB1.out.below hz).cell]; rfl
    have hc6 := hnb.c7.2.2.2
    obtain ⟨D, hD⟩ : ∃ D : Int, ((d + 1 : Nat) : Int) = D := ⟨_, rfl⟩
    rw [hD] at hc6
    have HDD := hid hD
    have c6 : ∀ z, Below w1.heap.size w1 z → z.cell? ⟨p, 6, none⟩ = some (.int .i64 D) := fun z hz => cellOf_belowR hz hc6
    have hwD : IntKind.i64.wrap (D + 1) = D + 1 := by rw [IntKind.wrap_i64]; have := HD.out; omega
    clear hvo hpy hnb hc6 hD hb1
    go_upto_region 2 with fail
    have hyd := (Below.refl w1.heap.size w1).drew
    refine wp_region_kept [17, 18, 19] (fun z => Below w1.heap.size w1 z) (by kernel_rfl) (by assumption) (fun hH => ?_)
    refine wpK.take (i := 0) (v := _) (by simp only [List.getElem?_toArray, List.getElem?_cons_succ, List.getElem?_cons_zero]; rfl) (by kernel_rfl) (by kernel_rfl) (by kernel_rfl) (by kernel_rfl) (by kernel_rfl) (by exact fun _ _ _ h => h) (by first | exact Or.inl ⟨by rfl, by intro w hSw; go_simp; try with_reducible rfl⟩ | exact Or.inr ⟨by rfl, rfl⟩) hH ?_
    try simp only [Act.put, List.setIfInBounds_toArray, List.set_cons_zero, List.set_cons_succ]
    refine wpK.take (i := 1) (v := _) (by simp only [List.getElem?_toArray, List.getElem?_cons_succ, List.getElem?_cons_zero]; rfl) (by kernel_rfl) (by kernel_rfl) (by kernel_rfl) (by kernel_rfl) (by kernel_rfl) (by exact fun _ _ _ h => h) (by first | exact Or.inl ⟨by rfl, by intro w hSw; go_simp; try with_reducible rfl⟩ | exact Or.inr ⟨by rfl, rfl⟩) hH ?_
    try simp only [Act.put, List.setIfInBounds_toArray, List.set_cons_zero, List.set_cons_succ]
    refine wpK.take (i := 2) (v := _) (by simp only [List.getElem?_toArray, List.getElem?_cons_succ, List.getElem?_cons_zero]; rfl) (by kernel_rfl) (by kernel_rfl) (by kernel_rfl) (by kernel_rfl) (by kernel_rfl) (by exact fun _ _ _ h => h) (by first | exact Or.inl ⟨by rfl, by intro w hSw; go_simp; try with_reducible rfl⟩ | exact Or.inr ⟨by rfl, rfl⟩) hH ?_
    try simp only [Act.put, List.setIfInBounds_toArray, List.set_cons_zero, List.set_cons_succ]
    refine wpK.take (i := 3) (v := _) (by simp only [List.getElem?_toArray, List.getElem?_cons_succ, List.getElem?_cons_zero]; rfl) (by kernel_rfl) (by kernel_rfl) (by kernel_rfl) (by kernel_rfl) (by kernel_rfl) (by exact fun _ _ _ h => h) (by first | exact Or.inl ⟨by rfl, by intro w hSw; go_simp; try with_reducible rfl⟩ | exact Or.inr ⟨by rfl, rfl⟩) hH ?_
    try simp only [Act.put, List.setIfInBounds_toArray, List.set_cons_zero, List.set_cons_succ]
    refine wpK.take (i := 4) (v := _) (by simp only [List.getElem?_toArray, List.getElem?_cons_succ, List.getElem?_cons_zero]; rfl) (by kernel_rfl) (by kernel_rfl) (by kernel_rfl) (by kernel_rfl) (by kernel_rfl) (by exact fun _ _ _ h => h) (by first | exact Or.inl ⟨by rfl, by intro w hSw; go_simp; try with_reducible rfl⟩ | exact Or.inr ⟨by rfl, rfl⟩) hH ?_
    try simp only [Act.put, List.setIfInBounds_toArray, List.set_cons_zero, List.set_cons_succ]
    refine wpK.take (i := 5) (v := _) (by simp only [List.getElem?_toArray, List.getElem?_cons_succ, List.getElem?_cons_zero]; rfl) (by kernel_rfl) (by kernel_rfl) (by kernel_rfl) (by kernel_rfl) (by kernel_rfl) (by exact fun _ _ _ h => h) (by first | exact Or.inl ⟨by rfl, by intro w hSw; go_simp; try with_reducible rfl⟩ | exact Or.inr ⟨by rfl, rfl⟩) hH ?_
    try simp only [Act.put, List.setIfInBounds_toArray, List.set_cons_zero, List.set_cons_succ]
    refine wpK.take (i := 7) (v := _) (by simp only [List.getElem?_toArray, List.getElem?_cons_succ, List.getElem?_cons_zero]; rfl) (by kernel_rfl) (by kernel_rfl) (by kernel_rfl) (by kernel_rfl) (by kernel_rfl) (by exact fun _ _ _ h => h) (by first | exact Or.inl ⟨by rfl, by intro w hSw; go_simp; try with_reducible rfl⟩ | exact Or.inr ⟨by rfl, rfl⟩) hH ?_
    try simp only [Act.put, List.setIfInBounds_toArray, List.set_cons_zero, List.set_cons_succ]
    refine wpK.take (i := 8) (v := _) (by simp only [List.getElem?_toArray, List.getElem?_cons_succ, List.getElem?_cons_zero]; rfl) (by kernel_rfl) (by kernel_rfl) (by kernel_rfl) (by kernel_rfl) (by kernel_rfl) (by exact fun _ _ _ h => h) (by first | exact Or.inl ⟨by rfl, by intro w hSw; go_simp; try with_reducible rfl⟩ | exact Or.inr ⟨by rfl, rfl⟩) hH ?_
    try simp only [Act.put, List.setIfInBounds_toArray, List.set_cons_zero, List.set_cons_succ]
    refine wpK.take (i := 9) (v := _) (by simp only [List.getElem?_toArray, List.getElem?_cons_succ, List.getElem?_cons_zero]; rfl) (by kernel_rfl) (by kernel_rfl) (by kernel_rfl) (by kernel_rfl) (by kernel_rfl) (by exact fun _ _ _ h => h) (by first | exact Or.inl ⟨by rfl, by intro w hSw; go_simp; try with_reducible rfl⟩ | exact Or.inr ⟨by rfl, rfl⟩) hH ?_
    try simp only [Act.put, List.setIfInBounds_toArray, List.set_cons_zero, List.set_cons_succ]
    refine wpK.take (i := 10) (v := _) (by simp only [List.getElem?_toArray, List.getElem?_cons_succ, List.getElem?_cons_zero]; rfl) (by kernel_rfl) (by kernel_rfl) (by kernel_rfl) (by kernel_rfl) (by kernel_rfl) (by exact fun _ _ _ h => h) (by first | exact Or.inl ⟨by rfl, by intro w hSw; go_simp; try with_reducible rfl⟩ | exact Or.inr ⟨by rfl, rfl⟩) hH ?_
    try simp only [Act.put, List.setIfInBounds_toArray, List.set_cons_zero, List.set_cons_succ]
    refine wpK.take (i := 11) (v := _) (by simp only [List.getElem?_toArray, List.getElem?_cons_succ, List.getElem?_cons_zero]; rfl) (by kernel_rfl) (by kernel_rfl) (by kernel_rfl) (by kernel_rfl) (by kernel_rfl) (by exact fun _ _ _ h => h) (by first | exact Or.inl ⟨by rfl, by intro w hSw; go_simp; try with_reducible rfl⟩ | exact Or.inr ⟨by rfl, rfl⟩) hH ?_
    try simp only [Act.put, List.setIfInBounds_toArray, List.set_cons_zero, List.set_cons_succ]
    refine wpK.take (i := 12) (v := _) (by simp only [List.getElem?_toArray, List.getElem?_cons_succ, List.getElem?_cons_zero]; rfl) (by kernel_rfl) (by kernel_rfl) (by kernel_rfl) (by kernel_rfl) (by kernel_rfl) (by exact fun _ _ _ h => h) (by first | exact Or.inl ⟨by rfl, by intro w hSw; go_simp; try with_reducible rfl⟩ | exact Or.inr ⟨by rfl, rfl⟩) hH ?_
    try simp only [Act.put, List.setIfInBounds_toArray, List.set_cons_zero, List.set_cons_succ]
    refine wpK.take (i := 13) (v := _) (by simp only [List.getElem?_toArray, List.getElem?_cons_succ, List.getElem?_cons_zero]; rfl) (by kernel_rfl) (by kernel_rfl) (by kernel_rfl) (by kernel_rfl) (by kernel_rfl) (by exact fun _ _ _ h => h) (by first | exact Or.inl ⟨by rfl, by intro w hSw; go_simp; try with_reducible rfl⟩ | exact Or.inr ⟨by rfl, rfl⟩) hH ?_
    try simp only [Act.put, List.setIfInBounds_toArray, List.set_cons_zero, List.set_cons_succ]
    refine wpK.take (i := 14) (v := _) (by simp only [List.getElem?_toArray, List.getElem?_cons_succ, List.getElem?_cons_zero]; rfl) (by kernel_rfl) (by kernel_rfl) (by kernel_rfl) (by kernel_rfl) (by kernel_rfl) (by exact fun _ _ _ h => h) (by first | exact Or.inl ⟨by rfl, by intro w hSw; go_simp; try with_reducible rfl⟩ | exact Or.inr ⟨by rfl, rfl⟩) hH ?_
    try simp only [Act.put, List.setIfInBounds_toArray, List.set_cons_zero, List.set_cons_succ]
    refine wpK.step (i := 6) (by kernel_rfl) (by simp only [List.getElem?_toArray, List.getElem?_cons_succ, List.getElem?_cons_zero]; rfl) (fun K hK => ?_)
    refine step_lit (us := #[.pointer (some ⟨p, 0, none⟩), .pointer (some ⟨py, 0, none⟩)]) (e := 90) (size := 1) (ps := #[(0, .pointer (some ⟨p, 0, none⟩)), (1, .pointer (some ⟨py, 0, none⟩))]) rfl rfl (by simp only [List.map_toArray, List.map_cons, List.map_nil]; rfl) (lit_ptr2 p py _) rfl (by omega) ?_; intro g1 w4 hg1 hb4 hz4 ho4; (have hk4 : Below w1.heap.size w1 w4 := Below.next hH hb4)
    refine hK.out _ _ (by assumption) (fun hH => ?_)
    clear hK K
    try simp only [Act.put, List.setIfInBounds_toArray, List.set_cons_zero, List.set_cons_succ]
    refine wpK.take (i := 15) (v := _) (by simp only [List.getElem?_toArray, List.getElem?_cons_succ, List.getElem?_cons_zero]; rfl) (by kernel_rfl) (by kernel_rfl) (by kernel_rfl) (by kernel_rfl) (by kernel_rfl) (by exact fun _ _ _ h => h) (by first | exact Or.inl ⟨by rfl, by intro w hSw; go_simp; try with_reducible rfl⟩ | exact Or.inr ⟨by rfl, rfl⟩) hH ?_
    try simp only [Act.put, List.setIfInBounds_toArray, List.set_cons_zero, List.set_cons_succ]
    refine wpK.step (i := 16) (by kernel_rfl) (by simp only [List.getElem?_toArray, List.getElem?_cons_succ, List.getElem?_cons_zero]; rfl) (fun K hK => ?_)
    go_simp
    (first | refine K_alloc (K := K) ?_ | refine K_allocD (K := K) ?_); intro g8 w8 hg8 hs8 hb8 hblk8; (have HG8 := hid hg8); (have hk8 : Below w1.heap.size w1 w8 := Below.next hk4 hb8); (have q0 : w8.cell? ⟨s, 0, none⟩ = some (.pointer (some ⟨p, 0, none⟩)) := by rw [(HB1.out.below hk8).cell]; rfl); (have f0 : w8.frozen? ⟨s, 0, none⟩ = false := (HB1.out.below hk8).unfrozen 0)
    refine hK.out _ _ (by assumption) (fun hH => ?_)
    clear hK K
    try simp only [Act.put, List.setIfInBounds_toArray, List.set_cons_zero, List.set_cons_succ]
    refine wpK.late (i := 17) (by kernel_rfl) (by simp only [List.getElem?_toArray, List.getElem?_cons_succ, List.getElem?_cons_zero]; rfl) (by kernel_rfl) (fun K hK => ?_)
    go_simp
    refine hK.out _ _ ?_
    clear hK K
    try simp only [Act.put, List.setIfInBounds_toArray, List.set_cons_zero, List.set_cons_succ]
    refine wpK.late (i := 18) (by kernel_rfl) (by simp only [List.getElem?_toArray, List.getElem?_cons_succ, List.getElem?_cons_zero]; rfl) (by kernel_rfl) (fun K hK => ?_)
    go_simp
    refine hK.out _ _ ?_
    clear hK K
    try simp only [Act.put, List.setIfInBounds_toArray, List.set_cons_zero, List.set_cons_succ]
    refine wpK.late (i := 19) (by kernel_rfl) (by simp only [List.getElem?_toArray, List.getElem?_cons_succ, List.getElem?_cons_zero]; rfl) (by kernel_rfl) (fun K hK => ?_)
    go_simp
    refine hK.out _ _ ?_
    clear hK K
    try simp only [Act.put, List.setIfInBounds_toArray, List.set_cons_zero, List.set_cons_succ]
    refine wpK.done (by kernel_rfl) ?_ _
    have e8 : g8 = g1 + 1 := by omega
    rw [← e8]
    obtain ⟨w9, hw9⟩ : ∃ w9, w9 = w8.setCell ⟨s, 0, none⟩ (.pointer (some ⟨g8, 0, none⟩)) := ⟨_, rfl⟩
    rw [← hw9]
    have hu9 : Upd (fun k => k = s) w8 w9 := by rw [hw9]; exact Upd.setCell w8 s 0 _
    have HU9 := hid hu9
    have HK8 := hid hk8
    have HS9 : Hid (Blk w9 s #[.pointer (some ⟨g8, 0, none⟩), .int .i64 cnt]) := hid (by rw [hw9]; simpa using (HB1.out.below hk8).set 0 (.pointer (some ⟨g8, 0, none⟩)))
    have HSZ : Hid (s < w1.heap.size ∧ w1.heap.size ≤ g1 ∧ g1 < g8 ∧ g8 < w8.heap.size) := hid (by
      have h1 : w1.drew.heap.size = w1.heap.size := rfl
      have := HB1.out.lt
      omega)
    have HG9 : Hid (Blk w9 g8 (cells7 zR (.slice (some ⟨g1, 0, none⟩) 2 2) 0 (D + 1))) := hid (by
      have h1 : Blk w8 g8 (cells7 zR (.slice (some ⟨g1, 0, none⟩) 2 2) 0 (D + 1)) := hblk8
      exact h1.upd hu9 (fun z => by have := HSZ.out; omega))
    have hpn : ptrN n' = .pointer (some ⟨p, 0, none⟩) := by unfold ptrN; rw [HA.out.p, HP.out]
    have hpy : ptrN y = .pointer (some ⟨py, 0, none⟩) := by unfold ptrN; rw [HPY.out]
    have HO9 : Hid (w9.ownsRow 0 90 1 (.slice (some ⟨g1, 0, none⟩) 2 2) 2 [ptrN n', ptrN y]) := hid (by
      rw [hpn, hpy]
      exact owns_base0 (hu9.owns (owns_below ho4 hb8) (fun k hk z => by have e0 : g1 = k := Option.some.inj hk; have := HSZ.out; omega)) (Nat.zero_le _))
    have HTW := hid (HA.out.two y rfl)
    have hnl : ∀ k ∈ blkN (d + 1) n' ++ blkN (d + 1) y, k < w1.heap.size ∧ k ≠ s := fun k hk => by
      refine ⟨?_, fun z => ?_⟩
      · rcases List.mem_append.1 hk with hk | hk
        · exact HA.out.at'.lt k hk
        · exact HTW.out.1.lt k hk
      · rcases HA.out.fr k (by simpa using hk) with y2 | y2
        · exact HS.out k y2 z
        · have := HB.out.lt; omega
    have HNL := hid hnl
    have HN9 : Hid (NodeAt (d + 1) w9 n') := hid ((HA.out.at'.below hk8).upd hu9 (fun k hk => (hnl k (List.mem_append_left _ hk)).2))
    have HY9 : Hid (NodeAt (d + 1) w9 y) := hid ((HTW.out.1.below hk8).upd hu9 (fun k hk => (hnl k (List.mem_append_right _ hk)).2))
    have hfit := rt_fit [n', y] (some ⟨g1, 0, none⟩) 2 2 g8 zR 0 (D + 1) w9 HG9.out (slN_of HO9.out (by
      intro k hk
      simp only [List.mem_cons, List.not_mem_nil, or_false] at hk
      rcases hk with rfl | rfl
      · exact HN9.out.rat
      · exact HY9.out.rat)) (by omega)
    have HFIT := hid hfit
    have q1 : w9.cell? ⟨s, 0, none⟩ = some (.pointer (some ⟨g8, 0, none⟩)) := by rw [HS9.out.cell]; rfl
    clear hfit hw9 hu9 hpn hpy hnl hyd hH hk8 hk4 hb8 hb4 hz4 ho4 hblk8 hs8 hg8 hg1 e8 q0 f0 c0 c6 hwD
    go_wp2_with fail
    refine HFIT.out.mono ?_
    rintro e2 w10 ⟨rfl, hb10, hu10⟩
    have HR : Hid (PutPost d e s n x cnt w (.returned (.tuple #[])) w10) := hid (by
      have z := HSZ.out
      have hz1 := HA.out.upd.size
      have hz8 := HK8.out.size
      have hnd := HA.out.nd
      have hth := HA.out.th
      have hfr := HA.out.fr
      simp only [Option.toList_some, List.flatMap_cons, List.flatMap_nil, List.append_nil] at hnd hth hfr
      have hk2 : 2 ≤ n'.ks.length ∨ n'.ks.length < 2 := by omega
      have e2 : blkF (d + 1) [n', y] = blkN (d + 1) n' ++ blkN (d + 1) y := by simp [blkF]
      have ht2 : thgN (d + 1 + 1) ⟨g8, boundR ([n', y].map (·.r)), .slice (some ⟨g1, 0, none⟩) 2 2, 0, [n', y]⟩ = thgN (d + 1) n' ++ thgN (d + 1) y := by simp [thgN]
      have hb2 : blkN (d + 1 + 1) ⟨g8, boundR ([n', y].map (·.r)), .slice (some ⟨g1, 0, none⟩) 2 2, 0, [n', y]⟩ = g8 :: g1 :: (blkN (d + 1) n' ++ blkN (d + 1) y) := by rw [blkN_succ]; simp only [e2]; rfl
      have hn2 : 2 ≤ n'.ks.length := HA.out.two2 (by simp)
      refine ⟨rfl, d + 1, ⟨g8, boundR ([n', y].map (·.r)), .slice (some ⟨g1, 0, none⟩) 2 2, 0, [n', y]⟩, ⟨?_, ⟨?_, ?_, ?_⟩, ?_, ?_⟩, ⟨Nat.le_succ _, Nat.le_refl _⟩, ?_, ?_, by simp, .inr (by simp), fun _ => by simp, ?_⟩
      · exact HS9.out.upd hu10 (fun q => by omega)
      · have e3 : ((d + 1 + 1 : Nat) : Int) = D + 1 := by have := HDD.out; omega
        show Blk w10 g8 (cells7 _ _ _ ((d + 1 + 1 : Nat) : Int))
        rw [e3]; exact hb10
      · exact hu10.owns HO9.out (fun k hk q => by have e0 : g1 = k := Option.some.inj hk; omega)
      · intro k hk
        simp only [List.mem_cons, List.not_mem_nil, or_false] at hk
        rcases hk with rfl | rfl
        · exact HN9.out.upd hu10 (fun j hj q => by have := (HNL.out j (List.mem_append_left _ hj)).1; omega)
        · exact HY9.out.upd hu10 (fun j hj q => by have := (HNL.out j (List.mem_append_right _ hj)).1; omega)
      · rw [hb2]
        simp only [List.nodup_cons, List.mem_cons, not_or]
        exact ⟨⟨by omega, by omega, fun q => (HNL.out s q).2 rfl⟩, ⟨by omega, fun q => by have := (HNL.out g8 q).1; omega⟩, fun q => by have := (HNL.out g1 q).1; omega, hnd⟩
      · exact ⟨by simp, rfl, fun k hk => by
          simp only [List.mem_cons, List.not_mem_nil, or_false] at hk
          rcases hk with rfl | rfl
          · exact HA.out.sh.two hn2
          · exact HTW.out.2⟩
      · intro k hk
        rw [hb2] at hk
        simp only [List.mem_cons] at hk
        rcases hk with rfl | rfl | hk
        · right; omega
        · right; omega
        · exact hfr k hk
      · rw [ht2]; exact hth
      · have h1 : Upd (fun k => k = s ∨ AddP d e n x k) w w1 := HA.out.upd.mono (fun k _ z => .inr z)
        have h2 := h1.trans (Upd.of_below (S := fun k => k = s ∨ AddP d e n x k) HK8.out) (fun _ _ q => q)
        have h3 := h2.trans HU9.out (fun k _ q => .inl q)
        exact h3.trans hu10 (fun k hk q => by omega))
    clear hb10 hu10 q1
    go_wp2_with fail
    go_end0
    exact HR.out
end Go.Proofs.Ytjbnfppnmljbmaa
end
section
/- Iterators over a tree: what a round keeps. -/
namespace Go.Proofs.Ytjbnfppnmljbmaa
open Go.RowKit
open Go.Lib (hid)
set_option linter.unusedVariables false

/-- what a round keeps: all that lay below n0 -/
structure KeepR (n0 B : Nat) (W W' : World) : Prop where
  os : W'.os = W.os
  tape : W'.tape = W.tape
  output : W'.output = W.output
  size : W.heap.size ≤ W'.heap.size
  low : ∀ k, k < n0 → W'.heap[k]? = W.heap[k]?
theorem KeepR.refl (n0 B : Nat) (W : World) : KeepR n0 B W W := ⟨rfl, rfl, rfl, Nat.le_refl _, fun _ _ => rfl⟩
theorem KeepR.trans {n0 B : Nat} {X Y Z : World} (h : KeepR n0 B X Y) (k : KeepR n0 B Y Z) : KeepR n0 B X Z :=
  ⟨k.os.trans h.os, k.tape.trans h.tape, k.output.trans h.output, Nat.le_trans h.size k.size, fun i hi => (k.low i hi).trans (h.low i hi)⟩
theorem KeepR.put {n0 B : Nat} (hn : n0 ≤ B) (W : World) (l : Nat) (o o' : Obj) (hl : B ≤ l) (h : W.heap[l]? = some o) (hc : o.isCells = false) : KeepR n0 B W (W.putObj l o') :=
  ⟨rfl, rfl, rfl, by simp, fun k hk => World.putObj_heap_other (by omega)⟩
theorem KeepR.of_upd {n0 B : Nat} {S : Nat → Prop} {W W' : World} (h : Upd S W W') (hn : n0 ≤ W.heap.size) (hS : ∀ k, k < W.heap.size → S k → n0 ≤ k) : KeepR n0 B W W' :=
  ⟨h.os, h.tape, h.output, h.size, fun k hk => h.block k (by omega) (fun q => by have := hS k (by omega) q; omega)⟩
theorem KeepR.of_below {n0 B : Nat} {W W' : World} (h : Below W.heap.size W W') (hn : n0 ≤ W.heap.size) : KeepR n0 B W W' := .of_upd (Upd.of_below (S := fun _ => False) h) hn (fun _ _ q => q.elim)
theorem KeepR.upd {n0 B : Nat} {W W' : World} (h : KeepR n0 B W W') : Upd (fun k => n0 ≤ k) W W' := ⟨h.os, h.tape, h.output, h.size, fun k _ hk => h.low k (by omega)⟩
theorem grown_belowR {W W' : World} (h : Below W.heap.size W W') : W.grownBy W' none := ⟨h.os, h.tape, h.output, h.size, fun k hk _ => h.block k hk⟩
theorem yieldAt_any {m m' : Nat} {P : Program} {l : Nat} {args : Array Value} {W : World} {R : Ending → World → Prop} (h : YieldAt Fence.wide m P l args W R) : YieldAt Fence.wide m' P l args W R := by
  obtain ⟨fn, tmps, assign, body, h1, h2, h3⟩ := h
  exact ⟨fn, tmps, assign, body, h1, h2, fun c cs _ => h3 c cs (room_wide _)⟩
/-- the things that a test lets by -/
def flR (t : R4 → Bool) (l : List Tg) : List Tg := l.filter (fun x => t x.1)
theorem flR_append (t : R4 → Bool) (a b : List Tg) : flR t (a ++ b) = flR t a ++ flR t b := List.filter_append _ _
end Go.Proofs.Ytjbnfppnmljbmaa
end
section
/- A region that draws its order, inside the wide fence: reads are taken first while S holds; the operations of 'ex' wait for all others. No program in sight. -/
namespace Go.Proofs.Ytjbnfppnmljbmaa
set_option linter.unusedVariables false
section
variable {P : Program} {ops : Array Oper} {Q : Exit → Act → World → Prop} {md : Region.Mode} {S : World → Prop} {ex : List Nat} {m : Nat}

theorem YieldsIf.wpOpIn {i : Nat} {o : Oper} {v : Value} {a : Act} (hi : ops[i]? = some o) (hy : YieldsIf P ops S o v a)
    {K : Act → World → Prop} {w : World} (hS : S w) (h : K (a.put o.dst v) w) : wpOpIn Fence.wide m P ops Q i K a w := by
  unfold Go.wpOpIn
  simp only [hi]
  rcases hy with ⟨hw, hv⟩ | ⟨hw, rfl⟩
  · have hro : Fence.wide.round = none := rfl
    simp only [hw, if_true, Oper.wpIn, hro, Oper.semAt_none, hv w hS, Oper.uponIn]
    exact ⟨fun _ _ => trivial, h⟩
  · simp only [hw, Bool.false_eq_true, if_false]; exact ⟨fun _ _ => trivial, h⟩
theorem wpOpIn_putIf {j : Nat} {oi oj : Oper} {v : Value} (hj : ops[j]? = some oj) (hap : oi.apart ops oj = true)
    (hsi : ∀ cs b, oi.op ≠ .select cs b) (hsj : ∀ cs b, oj.op ≠ .select cs b)
    (hQ : ∀ c a w, Q (.panic c) (a.put oi.dst v) w → Q (.panic c) a w) {K : Act → World → Prop} {a : Act} {w : World}
    (hy : YieldsIf P ops S oi v a) (h : wpOpIn Fence.wide m P ops Q j K (a.put oi.dst v) w) :
    wpOpIn Fence.wide m P ops Q j (fun a' w' => YieldsIf P ops S oi v a' ∧ K (a'.put oi.dst v) w') a w := by
  have hro : Fence.wide.round = none := rfl
  obtain ⟨h1, h2, h3⟩ := Oper.apart_spec hap
  have keep : ∀ (a : Act), YieldsIf P ops S oi v a → ∀ u, YieldsIf P ops S oi v (a.put oj.dst u) := fun a hy u =>
    hy.of_same (execOp_put oi hsi a oj.dst u h3) (wanted_put oi a oj.dst u h3)
  have keepD : ∀ d, YieldsIf P ops S oi v { a with defers := d :: a.defers } := fun d => hy.of_same rfl rfl
  unfold wpOpIn at *
  simp only [hj] at *
  rw [wanted_put oj a oi.dst v h1] at h
  split
  · rename_i hw
    simp only [hw, if_true] at h
    unfold Oper.wpIn at *
    refine ⟨fun _ _ => trivial, ?_⟩
    have h := h.2
    rw [hro, Oper.semAt_none, execOp_put oj hsj a oi.dst v h1] at h
    rw [hro, Oper.semAt_none]
    generalize (execOp a.eval oj).run P w = r at *
    cases r with
    | ok x w' =>
      cases x <;> simp only [Oper.uponIn] at h ⊢
      case value u => exact ⟨keep a hy u, by rw [← Act.put_comm a v u h2]; exact h⟩
      case skip => exact ⟨keep a hy _, by rw [← Act.put_comm a v undef h2]; exact h⟩
      case defer d =>
        refine ⟨keep _ (keepD d) _, ?_⟩
        rw [← Act.put_comm _ v undef h2, ← Act.put_defers]
        exact h
      case enter f args =>
        refine ⟨h.1, CallsIn.mono h.2 fun e w'' he => ?_⟩
        cases e with
        | returned u => exact ⟨keep a hy u, by rw [← Act.put_comm a v u h2]; exact he⟩
        | panicked c => exact hQ _ _ _ he
        | outgrown => exact he
      case row row args => exact ⟨h.1, RowsIn.mono h.2 fun u w'' he => ⟨keep a hy u, by rw [← Act.put_comm a v u h2]; exact he⟩⟩
      case round l f tmps assign body =>
        refine ⟨h.1, RoundIn.mono h.2 fun e w'' he => ?_⟩
        cases e with
        | returned u => exact ⟨keep a hy u, by rw [← Act.put_comm a v u h2]; exact he⟩
        | panicked c => exact hQ _ _ _ he
        | outgrown => exact he
    | halt x w' =>
      cases x <;> simp only [Oper.uponIn] at h ⊢
      case panic u => exact hQ _ _ _ h
  · rename_i hw
    simp only [hw] at h
    exact ⟨fun _ _ => trivial, keep a hy _, by rw [← Act.put_comm a v undef h2]; exact h.2⟩
/-- whatever is listed has all that it waits for listed -/
def closedL (md : Region.Mode) (ops : Array Oper) (l : Array Bool) : Bool :=
  (List.range ops.size).all fun k => !(l.getD k false) || ((ops[k]?.map fun o => o.after.all fun e => !(Region.binds md e) || l.getD e.on false).getD false)
/-- j waits for i, through others too -/
def waitsL (md : Region.Mode) (ops : Array Oper) : Nat → Nat → Nat → Bool
  | 0, _, _ => false
  | f + 1, j, i => (ops[j]?.map fun o => o.after.any fun e => Region.binds md e && (e.on == i || waitsL md ops f e.on i)).getD false
def lateW (md : Region.Mode) (ops : Array Oper) (ex : List Nat) (l : Array Bool) (i : Nat) : Bool := closedL md ops l && ex.all fun j => waitsL md ops ops.size j i
def ClosedP (md : Region.Mode) (ops : Array Oper) (l : Array Bool) : Prop := ∀ k, k < ops.size → l.getD k false = true → ∃ o, ops[k]? = some o ∧ ∀ e ∈ o.after, Region.binds md e = true → l.getD e.on false = true
theorem closedL_spec {l : Array Bool} (h : closedL md ops l = true) : ClosedP md ops l := by
  intro k hk hl
  have h1 := List.all_eq_true.1 h k (List.mem_range.2 hk)
  rw [hl] at h1
  cases ho : ops[k]? with
  | none => rw [ho] at h1; simp at h1
  | some o =>
    rw [ho] at h1
    simp only [Bool.not_true, Bool.false_or, Option.map_some, Option.getD_some, Array.all_eq_true] at h1
    refine ⟨o, rfl, fun e he hb => ?_⟩
    obtain ⟨q, hq, rfl⟩ := Array.mem_iff_getElem.1 he
    have := h1 q hq
    rw [hb] at this
    simpa using this
theorem ClosedP.set {l : Array Bool} (h : ClosedP md ops l) {j : Nat} (hj : j ∈ Region.ready md ops l) : ClosedP md ops (l.setIfInBounds j true) := by
  intro k hk hl
  by_cases e : j = k
  · subst e
    obtain ⟨-, o, ho, hall⟩ := mem_ready.1 hj
    exact ⟨o, ho, fun e he hb => getD_set_true (hall e he hb)⟩
  · rw [getD_set_ne false e] at hl
    obtain ⟨o, ho, hall⟩ := h k hk hl
    exact ⟨o, ho, fun e he hb => getD_set_true (hall e he hb)⟩
theorem waits_listed {l : Array Bool} (hc : ClosedP md ops l) {i : Nat} : ∀ (f j : Nat), (∃ o, ops[j]? = some o ∧ ∀ e ∈ o.after, Region.binds md e = true → l.getD e.on false = true) → waitsL md ops f j i = true → l.getD i false = true
  | 0, _, _, h => by cases h
  | f + 1, j, ⟨o, ho, hall⟩, h => by
    unfold waitsL at h
    rw [ho] at h
    simp only [Option.map_some, Option.getD_some, Array.any_eq_true] at h
    obtain ⟨q, hq, hb⟩ := h
    rw [Bool.and_eq_true, Bool.or_eq_true] at hb
    have hl := hall _ (Array.getElem_mem hq) hb.1
    rcases hb.2 with e | e
    · rw [beq_iff_eq] at e
      rw [e] at hl; exact hl
    · have hsz : (o.after[q]).on < ops.size := by
        rcases Nat.lt_or_ge (o.after[q]).on ops.size with z | z
        · exact z
        · exfalso
          cases f with
          | zero => cases e
          | succ f => unfold waitsL at e; rw [Array.getElem?_eq_none z] at e; cases e
      exact waits_listed hc f _ (hc _ hsz hl) e
def wpKY (m : Nat) (P : Program) (md : Region.Mode) (ops : Array Oper) (Q : Exit → Act → World → Prop) (ex : List Nat) (S : World → Prop) : Nat → Array Bool → Act → World → Prop
  | 0, l, a, w => Region.ready md ops l = [] ∧ Q .normal a w
  | n + 1, l, a, w => (Region.ready md ops l = [] → Q .normal a w) ∧ ∀ i ∈ Region.ready md ops l, wpOpIn Fence.wide m P ops Q i (fun a' w' => (i ∈ ex ∨ S w') ∧ wpKY m P md ops Q ex S n (l.setIfInBounds i true) a' w') a w
theorem wpKY.any : ∀ (n : Nat) (l : Array Bool) (a : Act) (w : World), wpKY m P md ops Q ex S n l a w → wpAnyIn Fence.wide m P md ops Q n l a w
  | 0, _, _, _, h => h
  | n + 1, _, _, _, h => ⟨h.1, fun i hi => wpOpIn_mono (fun a' w' k => wpKY.any n _ a' w' k.2) (h.2 i hi)⟩
theorem wpKY.first {i : Nat} (hw : ∀ j ∈ ex, waitsL md ops ops.size j i = true) {oi : Oper} {v : Value} (hi : ops[i]? = some oi) (hsel : ∀ (j : Nat) (o : Oper) cs b, ops[j]? = some o → o.op ≠ .select cs b)
    (hQ : ∀ c a w, Q (.panic c) (a.put oi.dst v) w → Q (.panic c) a w) : ∀ (n : Nat) (l : Array Bool) (a : Act) (w : World), ClosedP md ops l →
      (∀ j oj, ops[j]? = some oj → j ≠ i → l.getD j true = false → (∀ e ∈ oj.after, Region.binds md e = true → e.on ≠ i) → oi.apart ops oj = true) →
      i ∈ Region.ready md ops l → YieldsIf P ops S oi v a → S w → wpKY m P md ops Q ex S n (l.setIfInBounds i true) (a.put oi.dst v) w → wpKY m P md ops Q ex S (n + 1) l a w := by
  have hno : ∀ (l : Array Bool) (j : Nat), ClosedP md ops l → i ∈ Region.ready md ops l → j ∈ Region.ready md ops l → j ∉ ex := by
    intro l j hc hir hjr hje
    have h1 := waits_listed hc ops.size j (mem_ready.1 hjr).2 (hw j hje)
    have h0 := (mem_ready.1 hir).1
    rcases Nat.lt_or_ge i l.size with h' | h'
    · simp [h'] at h0 h1; rw [h0] at h1; cases h1
    · simp [Array.getElem?_eq_none h'] at h1
  intro n
  induction n with
  | zero =>
    intro l a w hc hfree hr hy hS H
    refine ⟨fun h => (by rw [h] at hr; cases hr), fun j hj => ?_⟩
    by_cases hji : j = i
    · subst hji; exact YieldsIf.wpOpIn hi hy hS ⟨.inr hS, H⟩
    · have := ready_mono hj hji
      rw [H.1] at this
      cases this
  | succ n ih =>
    intro l a w hc hfree hr hy hS H
    refine ⟨fun h => (by rw [h] at hr; cases hr), fun j hj => ?_⟩
    by_cases hji : j = i
    · subst hji; exact YieldsIf.wpOpIn hi hy hS ⟨.inr hS, H⟩
    · have hjx := hno l j hc hr hj
      obtain ⟨hjun, oj, hoj, hall⟩ := mem_ready.1 hj
      have hnot : ∀ e ∈ oj.after, Region.binds md e = true → e.on ≠ i := fun e he hb heq => by
        have h1 := hall e he hb
        have h0 := (mem_ready.1 hr).1
        rw [heq] at h1
        rcases Nat.lt_or_ge i l.size with h' | h'
        · simp [h'] at h0 h1; rw [h0] at h1; cases h1
        · simp [Array.getElem?_eq_none h'] at h1
      have h2 := wpOpIn_putIf hoj (hfree j oj hoj hji hjun hnot) (fun cs b => hsel i oi cs b hi) (fun cs b => hsel j oj cs b hoj) hQ hy (H.2 j (ready_mono hj hji))
      refine wpOpIn_mono (fun a' w' k => ?_) h2
      have hS' : S w' := k.2.1.resolve_left hjx
      refine ⟨.inr hS', ih _ a' w' (hc.set hj) (fun m om hm hmi hun hno' => ?_) (ready_mono hr (Ne.symm hji)) k.1 hS' (by rw [Array.setIfInBounds_comm _ _ hji]; exact k.2.2)⟩
      refine hfree m om hm hmi ?_ hno'
      by_cases hjm : j = m
      · subst hjm; exact hjun
      · rw [getD_set_ne true hjm] at hun; exact hun
theorem wpKY.take {i : Nat} {oi : Oper} {v : Value} {n : Nat} {l : Array Bool} {a : Act} {w : World} (hi : ops[i]? = some oi) (hex : lateW md ops ex l i = true)
    (hs : Region.noSelect ops = true) (hf : Region.free md ops l i = true) (hr : (Region.ready md ops l).contains i = true)
    (hQ : ∀ c a w, Q (.panic c) (a.put oi.dst v) w → Q (.panic c) a w) (hy : YieldsIf P ops S oi v a) (hS : S w)
    (h : wpKY m P md ops Q ex S n (l.setIfInBounds i true) (a.put oi.dst v) w) : wpKY m P md ops Q ex S (n + 1) l a w := by
  rw [lateW, Bool.and_eq_true, List.all_eq_true] at hex
  exact wpKY.first hex.2 hi (Region.noSelect_spec hs) hQ n l a w (closedL_spec hex.1) (Region.free_spec hi hf) (by simpa using hr) hy hS h
theorem wpKY.step {i : Nat} {oi : Oper} {n : Nat} {l : Array Bool} {a : Act} {w : World} (hr : Region.ready md ops l = [i]) (ho : ops[i]? = some oi)
    (h : ∀ K' : Act → World → Prop, Shut (∀ a w, S w → (S w → wpKY m P md ops Q ex S n (l.setIfInBounds i true) a w) → K' a w) → if Region.wanted oi (yielded ops a.tmps) = true then Oper.wpIn Fence.wide m P oi a w K' Q else (∀ f, oi.about P w a.eval = some f → Fence.wide.fn f) ∧ K' (a.put oi.dst undef) w) :
    wpKY m P md ops Q ex S (n + 1) l a w := by
  refine ⟨fun h0 => (by rw [hr] at h0; cases h0), fun j hj => ?_⟩
  rw [hr] at hj
  obtain rfl := List.mem_singleton.1 hj
  exact wpOpIn_step ho (fun K' hK => h K' (fun a w hS hW => hK a w ⟨.inr hS, hW hS⟩))
theorem wpKY.late {i : Nat} {oi : Oper} {n : Nat} {l : Array Bool} {a : Act} {w : World} (hr : Region.ready md ops l = [i]) (ho : ops[i]? = some oi) (hin : ex.contains i = true)
    (h : ∀ K' : Act → World → Prop, Shut (∀ a w, wpKY m P md ops Q ex S n (l.setIfInBounds i true) a w → K' a w) → if Region.wanted oi (yielded ops a.tmps) = true then Oper.wpIn Fence.wide m P oi a w K' Q else (∀ f, oi.about P w a.eval = some f → Fence.wide.fn f) ∧ K' (a.put oi.dst undef) w) :
    wpKY m P md ops Q ex S (n + 1) l a w := by
  refine ⟨fun h0 => (by rw [hr] at h0; cases h0), fun j hj => ?_⟩
  rw [hr] at hj
  obtain rfl := List.mem_singleton.1 hj
  exact wpOpIn_step ho (fun K' hK => h K' (fun a w hW => hK a w ⟨.inl (by simpa using hin), hW⟩))
theorem wpKY.done {l : Array Bool} {a : Act} {w : World} (hr : Region.ready md ops l = []) (h : Q .normal a w) : ∀ n, wpKY m P md ops Q ex S n l a w
  | 0 => ⟨hr, h⟩
  | _ + 1 => ⟨fun _ => h, by rw [hr]; simp⟩
theorem wpIn_region_keptY (ex : List Nat) (S : World → Prop) {id : Nat} {a : Act} {w : World} (hm : P.follows .mixedOrders = true) (hS : S w.drew)
    (h : S w.drew → wpKY m P .any ops Q ex S ops.size (Array.replicate ops.size false) a w.drew) : (Code.region id ops true).wpIn Fence.wide m P Q a w :=
  wpIn_region_any hm (wpKY.any _ _ _ _ (h hS))
end
end Go.Proofs.Ytjbnfppnmljbmaa
end
