/- Joined texts, in this order: StallPut. Each one's first remark says what it proves; no condition beyond those that its theorems name. -/
import Derived.Test.YtajfjgekcjkedaaJLawStallRestores09
section
/- Contracts of the package stall: Put, Sell, Collect, Goods. -/
namespace Go.Proofs.Ytajfjgekcjkedaa
open Go.RowKit
open Go.Lib (hid)
set_option linter.unusedVariables false

set_option maxRecDepth 100000 in
set_option maxHeartbeats 2000000 in
theorem stall_PutYes {s : Nat} {F : Nat → Prop} {X : StX} (w : World) (h : StallIs w s F X) (k t p : Int) (hE : putE X k t p = 0) (ht63 : t ≤ 9223372036854775807) :
    Calls Try.prog 10 #[.pointer (some ⟨s, 0, none⟩), .int .i64 k, .int .i64 t, .int .i64 p] w (StPost w s F ⟨X.tills, insK kG X.goods (k, t, p)⟩ (.int .i64 0)) := by
  obtain ⟨b1, b2, R, A, hp, hr, hi⟩ := h
  obtain ⟨c0, c1⟩ := hp.cells
  have HP := hid hp
  have HM1 := hid hp.m1
  have HM2 := hid hp.m2
  obtain ⟨v2, hv2⟩ := look_getD A t
  have H2 := hid hv2
  clear hv2
  cases ht : X.tills.lookup k with
  | none => rw [putE_none ht] at hE; omega
  | some g =>
    rw [putE_some ht] at hE
    have h1 : ¬ t < 1 := fun q => by rw [if_pos q] at hE; omega
    rw [if_neg h1] at hE
    have h2 : ¬ (p < 1 ∨ 1099511627776 < p) := fun q => by rw [if_pos q] at hE; omega
    rw [if_neg h2] at hE
    have h3 : fdX X.goods t = none := by
      cases hf : fdX X.goods t with
      | none => rfl
      | some g => rw [hf] at hE; simp at hE
    rw [h3, if_neg (by simp)] at hE
    have h16 : (ofX X.goods k).length < 16 := by
      rcases Nat.lt_or_ge (ofX X.goods k).length 16 with q | q
      · exact q
      · rw [if_pos q] at hE; omega
    have hp1 : ¬ p < 1 := fun q => h2 (.inl q)
    have hp2 : p ≤ 1099511627776 := Int.not_lt.1 (fun q => h2 (.inr q))
    have hINV := hi.put (k := k) (t := t) (p := p) (by rw [ht]; rfl) ⟨by omega, ht63⟩ ⟨by omega, hp2⟩ h3 h16
    have HIN := hid hINV
    obtain ⟨R1, r, R2, e, hrk, htill, hgs⟩ := hp.at hr ht
    have hnA : A.lookup t = none := by rw [hr.r2, h3]; rfl
    have H3 : Hid (((atV A).lookup t).isSome = false) := hid (by rw [lookA, hnA]; rfl)
    have H1 : Hid (((R.map RowG.ptr).lookup k).getD (.pointer none) = .pointer (some ⟨r.p, 0, none⟩)) := hid (by rw [← hrk, hp.look e]; rfl)
    have hrow := hp.row r (by rw [e]; simp)
    have HRW := hid hrow
    have hs : SortK (fun p : Int × Int => p.1) r.gs := by rw [hgs]; exact ofX_sorted hi.g1 k
    obtain ⟨i, hpos⟩ : ∃ i, posK (fun p : Int × Int => p.1) r.gs t = i := ⟨_, rfl⟩
    have hpi : i ≤ r.gs.length := by rw [← hpos]; exact posK_le _ _ _
    have HREL : Hid (∀ v : Value, StRel ((R1 ++ (⟨r.h, r.p, v, r.till, r.gs.take i ++ (t, p) :: r.gs.drop i⟩ : RowG) :: R2).map RowG.core) (aput A t k) ⟨X.tills, insK kG X.goods (k, t, p)⟩) := hid (by
      intro v
      have h1 := hr
      rw [e, List.map_append, List.map_cons] at h1
      have e2 : r.core = (k, r.till, r.gs) := by unfold RowG.core; rw [hrk]
      have hn : ((R1.map RowG.core ++ (k, r.till, r.gs) :: R2.map RowG.core).map (·.1)).Nodup := by
        have := hp.nodup
        rw [← core_keys, e, List.map_append, List.map_cons] at this
        rw [e2] at this; exact this
      rw [e2] at h1
      have h2 := (h1.put hn hi (p := p) h3).2
      have h3 : insK (fun p : Int × Int => p.1) r.gs (t, p) = r.gs.take i ++ (t, p) :: r.gs.drop i := by rw [insK_split]; simp only; rw [hpos]
      rw [List.map_append, List.map_cons]
      show StRel (R1.map RowG.core ++ (r.h, r.till, r.gs.take i ++ (t, p) :: r.gs.drop i) :: R2.map RowG.core) _ _
      rw [← h3, hrk]; exact h2)
    have HE := hid e
    have HS := hid hs
    have HPOS := hid hpos
    have HL : Hid (i ≤ r.gs.length ∧ r.gs.length ≤ 16) := hid ⟨hpi, by rw [hgs]; exact Nat.le_of_lt h16⟩
    have HRK := hid hrk
    have h16i : ¬ (16 : Int) ≤ (r.gs.length : Int) := by rw [hgs]; omega
    have HGR := hid (goldR_true (n := p) (by omega))
    obtain ⟨-, -, d2⟩ := hrow.cells
    obtain ⟨ar, cr, hv, -⟩ := ownsRow.rd hrow.own
    rw [hv] at d2
    have HV := hid hv
    clear hp hr hi ht hE h2 h3 h16 hINV hnA hrow hs hpos hpi hgs htill e hrk hv
    go_enter Try.func10, Try.ntmps10
    go_wp2_with (first | (at_lookup; refine wpList_look2 _ rfl _ _ rfl Try.underlying65 Try.underlying3 (.int .i64 0) zero_int23 rfl HM2.out t rfl _ H2 _ H3 ?_) | (at_lookup; refine wpList_look1 _ rfl _ _ rfl Try.underlying64 Try.underlying3 _ zero_rowp rfl HM1.out k rfl _ H1 ?_))
    refine (gold_Right p w).mono ?_
    rintro e w1 ⟨rfl, rfl⟩
    rw [HGR.out]
    go_upto_region 14 with fail
    generalize hw1 : World.alloc w _ = w1
    obtain ⟨bx, hbx⟩ : ∃ bx, bx = w.heap.size := ⟨_, rfl⟩
    rw [← hbx]
    have hb1 : Below w.heap.size w w1 := by rw [← hw1]; exact Below.new _ _
    have HK1 : Hid (Blk w1 bx #[.int .i64 t, .int .i64 p]) := hid (by rw [← hw1, hbx]; exact Blk.new w _ _)
    have HB1 := hid hb1
    have HRW1 := hid (HRW.out.upd0 hb1)
    have HBX : Hid (r.v.ownBlock ≠ some bx) := hid (fun q => by have := HRW.out.lt bx (.inr q); omega)
    clear hw1 hb1 hbx d2 c0 c1
    have e0 : ∀ y, Below w1.heap.size w1 y → y.cell? ⟨r.p, 2, none⟩ = some (.slice ar r.gs.length cr) := fun y hy => by rw [(HRW1.out.upd0 hy).cells.2.2, HV.out]
    have e1 : ∀ y, Below w1.heap.size w1 y → y.cell? ⟨bx, 0, none⟩ = some (.int .i64 t) := fun y hy => by rw [(HK1.out.below hy).cell]; rfl
    have e2 : ∀ y, Below w1.heap.size w1 y → y.cell? ⟨bx, 1, none⟩ = some (.int .i64 p) := fun y hy => by rw [(HK1.out.below hy).cell]; rfl
    have hyd := (Below.refl w1.heap.size w1).drew
    refine wp_region_kept [10] (fun y => Below w1.heap.size w1 y) (by kernel_rfl) (by assumption) (fun hH => ?_)
    refine wpK.take (i := 0) (v := _) (by simp only [List.getElem?_toArray, List.getElem?_cons_succ, List.getElem?_cons_zero]; rfl) (by kernel_rfl) (by kernel_rfl) (by kernel_rfl) (by kernel_rfl) (by kernel_rfl) (by exact fun _ _ _ h => h) (by first | exact Or.inl ⟨by rfl, by intro w hSw; go_simp; try with_reducible rfl⟩ | exact Or.inr ⟨by rfl, rfl⟩) hH ?_
    try simp only [Act.put, List.setIfInBounds_toArray, List.set_cons_zero, List.set_cons_succ]
    refine wpK.take (i := 1) (v := _) (by simp only [List.getElem?_toArray, List.getElem?_cons_succ, List.getElem?_cons_zero]; rfl) (by kernel_rfl) (by kernel_rfl) (by kernel_rfl) (by kernel_rfl) (by kernel_rfl) (by exact fun _ _ _ h => h) (by first | exact Or.inl ⟨by rfl, by intro w hSw; go_simp; try with_reducible rfl⟩ | exact Or.inr ⟨by rfl, rfl⟩) hH ?_
    try simp only [Act.put, List.setIfInBounds_toArray, List.set_cons_zero, List.set_cons_succ]
    refine wpK.take (i := 2) (v := _) (by simp only [List.getElem?_toArray, List.getElem?_cons_succ, List.getElem?_cons_zero]; rfl) (by kernel_rfl) (by kernel_rfl) (by kernel_rfl) (by kernel_rfl) (by kernel_rfl) (by exact fun _ _ _ h => h) (by first | exact Or.inl ⟨by rfl, by intro w hSw; go_simp; try with_reducible rfl⟩ | exact Or.inr ⟨by rfl, rfl⟩) hH ?_
    try simp only [Act.put, List.setIfInBounds_toArray, List.set_cons_zero, List.set_cons_succ]
    refine wpK.take (i := 3) (v := _) (by simp only [List.getElem?_toArray, List.getElem?_cons_succ, List.getElem?_cons_zero]; rfl) (by kernel_rfl) (by kernel_rfl) (by kernel_rfl) (by kernel_rfl) (by kernel_rfl) (by exact fun _ _ _ h => h) (by first | exact Or.inl ⟨by rfl, by intro w hSw; go_simp; try with_reducible rfl⟩ | exact Or.inr ⟨by rfl, rfl⟩) hH ?_
    try simp only [Act.put, List.setIfInBounds_toArray, List.set_cons_zero, List.set_cons_succ]
    refine wpK.take (i := 4) (v := _) (by simp only [List.getElem?_toArray, List.getElem?_cons_succ, List.getElem?_cons_zero]; rfl) (by kernel_rfl) (by kernel_rfl) (by kernel_rfl) (by kernel_rfl) (by kernel_rfl) (by exact fun _ _ _ h => h) (by first | exact Or.inl ⟨by rfl, by intro w hSw; go_simp; try with_reducible rfl⟩ | exact Or.inr ⟨by rfl, rfl⟩) hH ?_
    try simp only [Act.put, List.setIfInBounds_toArray, List.set_cons_zero, List.set_cons_succ]
    refine wpK.step (i := 5) (by kernel_rfl) (by simp only [List.getElem?_toArray, List.getElem?_cons_succ, List.getElem?_cons_zero]; rfl) (fun K hK => ?_)
    go_simp
    (refine (sl_Bsf r.gs _ (t, p) _ (by rw [← HV.out]; exact (HRW1.out.upd0 hyd).own.slp) HS.out (by have := HL.out.2; omega) i HPOS).mono ?_); rintro e wA ⟨u, rfl, hbA⟩; (have hbB := Below.next hyd hbA); go_simp
    refine hK.out _ _ (by assumption) (fun hH => ?_)
    clear hK K
    try simp only [Act.put, List.setIfInBounds_toArray, List.set_cons_zero, List.set_cons_succ]
    refine wpK.take (i := 6) (v := _) (by simp only [List.getElem?_toArray, List.getElem?_cons_succ, List.getElem?_cons_zero]; rfl) (by kernel_rfl) (by kernel_rfl) (by kernel_rfl) (by kernel_rfl) (by kernel_rfl) (by exact fun _ _ _ h => h) (by first | exact Or.inl ⟨by rfl, by intro w hSw; go_simp; try with_reducible rfl⟩ | exact Or.inr ⟨by rfl, rfl⟩) hH ?_
    try simp only [Act.put, List.setIfInBounds_toArray, List.set_cons_zero, List.set_cons_succ]
    refine wpK.take (i := 7) (v := _) (by simp only [List.getElem?_toArray, List.getElem?_cons_succ, List.getElem?_cons_zero]; rfl) (by kernel_rfl) (by kernel_rfl) (by kernel_rfl) (by kernel_rfl) (by kernel_rfl) (by exact fun _ _ _ h => h) (by first | exact Or.inl ⟨by rfl, by intro w hSw; go_simp; try with_reducible rfl⟩ | exact Or.inr ⟨by rfl, rfl⟩) hH ?_
    try simp only [Act.put, List.setIfInBounds_toArray, List.set_cons_zero, List.set_cons_succ]
    refine wpK.take (i := 8) (v := _) (by simp only [List.getElem?_toArray, List.getElem?_cons_succ, List.getElem?_cons_zero]; rfl) (by kernel_rfl) (by kernel_rfl) (by kernel_rfl) (by kernel_rfl) (by kernel_rfl) (by exact fun _ _ _ h => h) (by first | exact Or.inl ⟨by rfl, by intro w hSw; go_simp; try with_reducible rfl⟩ | exact Or.inr ⟨by rfl, rfl⟩) hH ?_
    try simp only [Act.put, List.setIfInBounds_toArray, List.set_cons_zero, List.set_cons_succ]
    refine wpK.take (i := 9) (v := _) (by simp only [List.getElem?_toArray, List.getElem?_cons_succ, List.getElem?_cons_zero]; rfl) (by kernel_rfl) (by kernel_rfl) (by kernel_rfl) (by kernel_rfl) (by kernel_rfl) (by exact fun _ _ _ h => h) (by first | exact Or.inl ⟨by rfl, by intro w hSw; go_simp; try with_reducible rfl⟩ | exact Or.inr ⟨by rfl, rfl⟩) hH ?_
    try simp only [Act.put, List.setIfInBounds_toArray, List.set_cons_zero, List.set_cons_succ]
    refine wpK.late (i := 10) (by kernel_rfl) (by simp only [List.getElem?_toArray, List.getElem?_cons_succ, List.getElem?_cons_zero]; rfl) (by kernel_rfl) (fun K hK => ?_)
    go_simp
    refine hK.out _ _ ?_
    clear hK K
    try simp only [Act.put, List.setIfInBounds_toArray, List.set_cons_zero, List.set_cons_succ]
    refine wpK.done (by kernel_rfl) ?_ _
    have HKA := hid (HK1.out.below hbB)
    have HBA := hid (Below.next HB1.out hbB)
    have HRWA := hid (HRW1.out.upd0 hbB)
    clear e0 e1 e2 hyd hbA hbB hH HK1 HRW1
    go_upto_region 15 with fail
    have e0 : ∀ y, Upd (fun k => r.v.ownBlock = some k) wA y → y.cell? ⟨r.p, 2, none⟩ = some (.slice ar r.gs.length cr) := fun y hy => by rw [(HRWA.out.blk.upd hy HRWA.out.ne).cell, HV.out]; rfl
    have e1 : ∀ y, Upd (fun k => r.v.ownBlock = some k) wA y → y.cell? ⟨bx, 0, none⟩ = some (.int .i64 t) := fun y hy => by rw [(HKA.out.upd hy HBX.out).cell]; rfl
    have e2 : ∀ y, Upd (fun k => r.v.ownBlock = some k) wA y → y.cell? ⟨bx, 1, none⟩ = some (.int .i64 p) := fun y hy => by rw [(HKA.out.upd hy HBX.out).cell]; rfl
    have hyb := (Below.refl wA.heap.size wA).drew
    have hyd : Upd (fun k => r.v.ownBlock = some k) wA wA.drew := Upd.of_below hyb
    refine wp_region_kept [9, 10, 11] (fun y => Upd (fun k => r.v.ownBlock = some k) wA y) (by kernel_rfl) (by assumption) (fun hH => ?_)
    refine wpK.take (i := 0) (v := _) (by simp only [List.getElem?_toArray, List.getElem?_cons_succ, List.getElem?_cons_zero]; rfl) (by kernel_rfl) (by kernel_rfl) (by kernel_rfl) (by kernel_rfl) (by kernel_rfl) (by exact fun _ _ _ h => h) (by first | exact Or.inl ⟨by rfl, by intro w hSw; go_simp; try with_reducible rfl⟩ | exact Or.inr ⟨by rfl, rfl⟩) hH ?_
    try simp only [Act.put, List.setIfInBounds_toArray, List.set_cons_zero, List.set_cons_succ]
    refine wpK.take (i := 1) (v := _) (by simp only [List.getElem?_toArray, List.getElem?_cons_succ, List.getElem?_cons_zero]; rfl) (by kernel_rfl) (by kernel_rfl) (by kernel_rfl) (by kernel_rfl) (by kernel_rfl) (by exact fun _ _ _ h => h) (by first | exact Or.inl ⟨by rfl, by intro w hSw; go_simp; try with_reducible rfl⟩ | exact Or.inr ⟨by rfl, rfl⟩) hH ?_
    try simp only [Act.put, List.setIfInBounds_toArray, List.set_cons_zero, List.set_cons_succ]
    refine wpK.take (i := 2) (v := _) (by simp only [List.getElem?_toArray, List.getElem?_cons_succ, List.getElem?_cons_zero]; rfl) (by kernel_rfl) (by kernel_rfl) (by kernel_rfl) (by kernel_rfl) (by kernel_rfl) (by exact fun _ _ _ h => h) (by first | exact Or.inl ⟨by rfl, by intro w hSw; go_simp; try with_reducible rfl⟩ | exact Or.inr ⟨by rfl, rfl⟩) hH ?_
    try simp only [Act.put, List.setIfInBounds_toArray, List.set_cons_zero, List.set_cons_succ]
    refine wpK.take (i := 3) (v := _) (by simp only [List.getElem?_toArray, List.getElem?_cons_succ, List.getElem?_cons_zero]; rfl) (by kernel_rfl) (by kernel_rfl) (by kernel_rfl) (by kernel_rfl) (by kernel_rfl) (by exact fun _ _ _ h => h) (by first | exact Or.inl ⟨by rfl, by intro w hSw; go_simp; try with_reducible rfl⟩ | exact Or.inr ⟨by rfl, rfl⟩) hH ?_
    try simp only [Act.put, List.setIfInBounds_toArray, List.set_cons_zero, List.set_cons_succ]
    refine wpK.take (i := 4) (v := _) (by simp only [List.getElem?_toArray, List.getElem?_cons_succ, List.getElem?_cons_zero]; rfl) (by kernel_rfl) (by kernel_rfl) (by kernel_rfl) (by kernel_rfl) (by kernel_rfl) (by exact fun _ _ _ h => h) (by first | exact Or.inl ⟨by rfl, by intro w hSw; go_simp; try with_reducible rfl⟩ | exact Or.inr ⟨by rfl, rfl⟩) hH ?_
    try simp only [Act.put, List.setIfInBounds_toArray, List.set_cons_zero, List.set_cons_succ]
    refine wpK.take (i := 5) (v := _) (by simp only [List.getElem?_toArray, List.getElem?_cons_succ, List.getElem?_cons_zero]; rfl) (by kernel_rfl) (by kernel_rfl) (by kernel_rfl) (by kernel_rfl) (by kernel_rfl) (by exact fun _ _ _ h => h) (by first | exact Or.inl ⟨by rfl, by intro w hSw; go_simp; try with_reducible rfl⟩ | exact Or.inr ⟨by rfl, rfl⟩) hH ?_
    try simp only [Act.put, List.setIfInBounds_toArray, List.set_cons_zero, List.set_cons_succ]
    refine wpK.take (i := 6) (v := _) (by simp only [List.getElem?_toArray, List.getElem?_cons_succ, List.getElem?_cons_zero]; rfl) (by kernel_rfl) (by kernel_rfl) (by kernel_rfl) (by kernel_rfl) (by kernel_rfl) (by exact fun _ _ _ h => h) (by first | exact Or.inl ⟨by rfl, by intro w hSw; go_simp; try with_reducible rfl⟩ | exact Or.inr ⟨by rfl, rfl⟩) hH ?_
    try simp only [Act.put, List.setIfInBounds_toArray, List.set_cons_zero, List.set_cons_succ]
    refine wpK.step (i := 7) (by kernel_rfl) (by simp only [List.getElem?_toArray, List.getElem?_cons_succ, List.getElem?_cons_zero]; rfl) (fun K hK => ?_)
    refine step_lit (us := #[.int .i64 t, .int .i64 p]) (e := 51) (size := 2) (ps := #[(0, .agg #[.int .i64 t, .int .i64 p])]) rfl rfl (by simp only [List.map_toArray, List.map_cons, List.map_nil]; rfl) (lit_good t p _) rfl (by omega) ?_; intro bp wB hbp hbB hzB hoB; (have hkB := Below.next hyb hbB); (have hkU : Upd (fun k => r.v.ownBlock = some k) wA wB := Upd.of_below hkB)
    refine hK.out _ _ (by assumption) (fun hH => ?_)
    clear hK K
    try simp only [Act.put, List.setIfInBounds_toArray, List.set_cons_zero, List.set_cons_succ]
    refine wpK.step (i := 8) (by kernel_rfl) (by simp only [List.getElem?_toArray, List.getElem?_cons_succ, List.getElem?_cons_zero]; rfl) (fun K hK => ?_)
    go_simp
    (refine (sl_InsG r.gs _ (t, p) bp wB (by rw [← HV.out]; exact (HRWA.out.upd0 hkB).own) (by have := HL.out.2; omega) (owns_blk1 hoB) (by rw [← HV.out]; intro q; have h1 := (HRWA.out.lt bp (.inr q)); have h2 := hbp; simp at h2; omega) i HL.out.1).mono ?_); rintro e wC ⟨vC, rfl, hoC, huC, hgC⟩; (obtain ⟨aC, cC, hvC, -⟩ := ownsRow.rd hoC); (obtain ⟨N, hN⟩ : ∃ N, N = (r.gs.take i ++ (t, p) :: r.gs.drop i).length := ⟨_, rfl⟩); (rw [← hN] at hvC); subst hvC; (clear hN); (have huC2 : Upd (fun k => r.v.ownBlock = some k) wB wC := by rw [HV.out]; exact huC); (have hgC2 : GoesTo wB r.v (.slice aC N cC) := by rw [HV.out]; exact hgC); (have hkU2 := hkU.trans huC2 (fun _ _ q => q)); (have hkC := (HRWA.out.upd0 hkB).blk.upd huC2 (HRWA.out.upd0 hkB).ne); (have fC : wC.frozen? ⟨r.p, 2, none⟩ = false := hkC.unfrozen 2); (have dC : wC.cell? ⟨r.p, 2, none⟩ = some r.v := by rw [hkC.cell]; rfl); go_simp
    refine hK.out _ _ (by assumption) (fun hH => ?_)
    clear hK K
    try simp only [Act.put, List.setIfInBounds_toArray, List.set_cons_zero, List.set_cons_succ]
    refine wpK.late (i := 9) (by kernel_rfl) (by simp only [List.getElem?_toArray, List.getElem?_cons_succ, List.getElem?_cons_zero]; rfl) (by kernel_rfl) (fun K hK => ?_)
    go_simp
    refine hK.out _ _ ?_
    clear hK K
    try simp only [Act.put, List.setIfInBounds_toArray, List.set_cons_zero, List.set_cons_succ]
    refine wpK.late (i := 10) (by kernel_rfl) (by simp only [List.getElem?_toArray, List.getElem?_cons_succ, List.getElem?_cons_zero]; rfl) (by kernel_rfl) (fun K hK => ?_)
    go_simp
    refine hK.out _ _ ?_
    clear hK K
    try simp only [Act.put, List.setIfInBounds_toArray, List.set_cons_zero, List.set_cons_succ]
    refine wpK.late (i := 11) (by kernel_rfl) (by simp only [List.getElem?_toArray, List.getElem?_cons_succ, List.getElem?_cons_zero]; rfl) (by kernel_rfl) (fun K hK => ?_)
    go_simp
    refine hK.out _ _ ?_
    clear hK K
    try simp only [Act.put, List.setIfInBounds_toArray, List.set_cons_zero, List.set_cons_succ]
    refine wpK.done (by kernel_rfl) ?_ _
    have HPUT := hid ((HRWA.out.upd0 hkB).put huC2 hoC hgC2)
    have HG := hid hgC2
    have HBB := hid (Below.next HBA.out hkB)
    clear hoC huC hgC huC2 hgC2 hkC fC dC e0 e1 e2 hyd hyb hkU hkU2 hbp hbB hzB hoB hkB hH
    generalize World.setCell wC _ _ = w3 at HPUT
    have HPB := hid (HP.out.below HBB.out)
    have HP3 := hid (StParts.turn (r := r) (r' := ⟨r.h, r.p, .slice aC N cC, r.till, r.gs.take i ++ (t, p) :: r.gs.drop i⟩) (by have := HPB.out; rw [HE.out] at this; exact this) HPUT.out.2 rfl rfl HPUT.out.1 HG.out)
    obtain ⟨-, c1⟩ := HP3.out.cells
    have HM3 := hid HP3.out.m2
    go_wp2_with (with_reducible refine wpList_putE _ rfl (.tmp 79) (.tmp 80) (.tmp 81) rfl Try.underlying65 Try.underlying3 rfl HM3.out t rfl (.int .i64 k) rfl ?_; intro w4 hm4 hu4 hz4)
    have HQ : Hid (StPost w s F ⟨X.tills, insK kG X.goods (k, t, p)⟩ (.int .i64 0) (.returned (.int .i64 0)) w4) := hid (by
      rw [← atV_put] at hm4
      have hz := HBB.out.size
      refine ⟨rfl, ⟨b1, b2, _, _, (HP3.out.turnA hu4 hm4).weaken (fun j q _ => ?_), HREL.out _, HIN.out⟩, ?_⟩
      · rcases q with q | q
        · exact .inl q
        · exact .inr (by omega)
      · have u1 : Upd F w wB := Upd.of_below HBB.out
        have u2 : Upd F w w3 := u1.trans HPUT.out.2 (fun j _ q => (HP.out.feet r (by rw [HE.out]; simp) j q).1)
        exact u2.trans hu4 (fun j _ q => by rw [q]; exact HP.out.f2))
    clear hm4 hu4 hz4
    go_wp2
    go_ret
    exact HQ.out
theorem stall_Put {s : Nat} {F : Nat → Prop} {X : StX} (w : World) (h : StallIs w s F X) (k t p : Int) (ht63 : t ≤ 9223372036854775807) :
    Calls Try.prog 10 #[.pointer (some ⟨s, 0, none⟩), .int .i64 k, .int .i64 t, .int .i64 p] w (StPost w s F (putX X k t p) (.int .i64 (putE X k t p))) := by
  by_cases hE : putE X k t p = 0
  · rw [putX_yes hE, hE]
    exact stall_PutYes w h k t p hE ht63
  · rw [putX_no hE]
    refine (stall_PutNo w h k t p _ (hid rfl) hE).mono ?_
    rintro e w' ⟨rfl, rfl⟩
    exact StPost.same h
/-- a till has turned -/
theorem StParts.till {w : World} {s : Nat} {F : Nat → Prop} {b1 b2 : Nat} {R R1 R2 : List RowG} {r : RowG} {A : List (Int × Int)} {X : StX} (h : StParts w s F b1 b2 R A) (hr : StRel (R.map RowG.core) A X) (hi : XInv X) (e : R = R1 ++ r :: R2) {g : Int} (hg : 0 ≤ g ∧ g ≤ 1099511627776) :
    StPost w s F (setX X r.h g) (.tuple #[]) (.returned (.tuple #[])) (w.setCell ⟨r.p, 1, none⟩ (.int .i64 g)) := by
  have hrow := h.row r (by rw [e]; simp)
  have hs := Upd.setCell w r.p 1 (.int .i64 g)
  have hrow' : RowAt (w.setCell ⟨r.p, 1, none⟩ (.int .i64 g)) ⟨r.h, r.p, r.v, g, r.gs⟩ :=
    ⟨by simpa using hrow.blk.set 1 (.int .i64 g), hs.owns hrow.own (fun k hk q => hrow.ne (by rw [← q]; exact hk)), hrow.ne⟩
  subst e
  have hP := h.turn (r' := ⟨r.h, r.p, r.v, g, r.gs⟩) (hs.mono (fun k _ q => (.inl q : Feet r k))) rfl rfl hrow' (fun k hk => .inl hk)
  have hn : ((R1.map RowG.core ++ (r.h, r.till, r.gs) :: R2.map RowG.core).map (·.1)).Nodup := by
    have := h.nodup
    rw [← core_keys, List.map_append, List.map_cons] at this
    exact this
  rw [List.map_append, List.map_cons] at hr
  have h2 := (StRel.set hr hn g).2
  refine ⟨rfl, ⟨b1, b2, _, A, hP, ?_, hi.set r.h hg⟩, hs.mono (fun k _ q => (h.feet r (by simp) k (.inl q)).1)⟩
  rw [List.map_append, List.map_cons]
  exact h2
theorem StPost.trans {w w1 w2 w3 : World} {s : Nat} {F : Nat → Prop} {X1 X2 : StX} {r1 r2 : Value} {e1 e2 : Ending} (hb : Below w.heap.size w w1) (h1 : StPost w1 s F X1 r1 e1 w2) (h2 : StPost w2 s (fun k => F k ∨ w1.heap.size ≤ k) X2 r2 e2 w3) : StPost w s F X2 r2 e2 w3 := by
  obtain ⟨-, -, u1⟩ := h1
  obtain ⟨rfl, s2, u2⟩ := h2
  have z1 := hb.size
  have z2 := u1.size
  refine ⟨rfl, s2.weaken (fun k q _ => ?_), ?_⟩
  · rcases q with (q | q) | q
    · exact .inl q
    · exact .inr (by omega)
    · exact .inr (by omega)
  · exact ((Upd.of_below (S := F) hb).trans u1 (fun _ _ q => q)).trans u2 (fun k hk q => by
      rcases q with q | q
      · exact q
      · omega)
theorem StPost.re {w w' : World} {s : Nat} {F : Nat → Prop} {X : StX} {r r2 : Value} {e : Ending} (h : StPost w s F X r e w') : StPost w s F X r2 (.returned r2) w' := ⟨rfl, h.2.1, h.2.2⟩
def sellV (q : StX × Int × Int × Int) : Value := .tuple #[.int .i64 q.2.1, .int .i64 q.2.2.1, .int .i64 q.2.2.2]
set_option maxRecDepth 100000 in
set_option maxHeartbeats 1000000 in
theorem stall_Sell {s : Nat} {F : Nat → Prop} {X : StX} (w : World) (h : StallIs w s F X) (t : Int) :
    Calls Try.prog 12 #[.pointer (some ⟨s, 0, none⟩), .int .i64 t] w (StPost w s F (sellX X t).1 (sellV (sellX X t))) := by
  have H := hid h
  have HPR := hid (stall_Price w h t)
  obtain ⟨b1, b2, R, A, hp, hr, hi⟩ := h
  cases hf : fdX X.goods t with
  | none =>
    have e1 : priceE X t = (0, 0, 14) := by unfold priceE; rw [hf]
    have e2 : sellX X t = (X, 0, 0, 14) := by unfold sellX; rw [hf]
    rw [e2]
    rw [e1] at HPR
    clear hp hr hi hf e1 e2
    go_enter Try.func12, Try.ntmps12
    go_wp2_with fail
    refine HPR.out.mono ?_
    rintro e w1 ⟨rfl, hb⟩
    have HB := hid hb
    clear hb
    go_wp2_with fail
    go_ret3
    exact StPost.below H.out HB.out
  | some q =>
    have hgt := ((fdX_some hi.g1).1 hf).2
    have hmem := ((fdX_some hi.g1).1 hf).1
    obtain ⟨k, t', p⟩ := q
    simp only at hgt
    subst hgt
    have e1 : priceE X t' = (k, p, 0) := by unfold priceE; rw [hf]
    rw [e1] at HPR
    obtain ⟨R1, r, R2, i, e, rfl, htill, -, -, -, -, -, -⟩ := hp.find hr hi hf
    have hpr := (hi.g2 _ hmem).2
    simp only at hpr
    have htl := hi.t2 (r.h, r.till) (lookup_mem htill)
    simp only at htl
    have hT : tillX X r.h = r.till := by unfold tillX; rw [htill]; rfl
    have H1 : Hid (((R.map RowG.ptr).lookup r.h).getD (.pointer none) = .pointer (some ⟨r.p, 0, none⟩)) := hid (by rw [hp.look e]; rfl)
    have HP := hid hp
    have HRE := hid hr
    have HIN := hid hi
    have HE := hid e
    have HRW := hid (hp.row r (by rw [e]; simp))
    have hgr : addE r.till p = if 1099511627776 < r.till + p then 15 else 0 := by
      unfold addE; rw [goldR_true (by omega), goldR_true (by omega)]; simp
    by_cases hbig : 1099511627776 < r.till + p
    · have e2 : sellX X t' = (X, 0, 0, 15) := by unfold sellX; rw [hf]; simp only; rw [if_pos (by rw [hT]; exact hbig)]
      rw [e2]
      rw [if_pos hbig] at hgr
      have HGR := hid hgr
      have HGV := hid (show addV r.till p = 0 by unfold addV; rw [hgr]; rfl)
      clear hp hr hi hf e1 e2 hmem hpr htl hT hgr htill e
      go_enter Try.func12, Try.ntmps12
      go_wp2_with fail
      refine HPR.out.mono ?_
      rintro e w1 ⟨rfl, hb⟩
      have HB := hid hb
      have HM1 := hid (HP.out.m1.below hb)
      obtain ⟨c0, -⟩ := (HP.out.below hb).cells
      obtain ⟨-, d1, -⟩ := (HRW.out.upd0 hb).cells
      clear hb
      go_wp2_with (at_lookup; refine wpList_look1 _ rfl _ _ rfl Try.underlying64 Try.underlying3 _ zero_rowp rfl HM1.out r.h rfl _ H1 ?_)
      refine (gold_Add r.till p w1).mono ?_
      rintro e w2 ⟨rfl, rfl⟩
      rw [HGR.out, HGV.out]
      go_wp2_with fail
      go_ret3
      exact StPost.below H.out HB.out
    · have e2 : sellX X t' = (setX (takeX X t') r.h (r.till + p), r.h, p, 0) := by unfold sellX; rw [hf]; simp only; rw [if_neg (by rw [hT]; exact hbig), hT]
      rw [e2]
      rw [if_neg hbig] at hgr
      obtain ⟨T, hTT⟩ : ∃ T, r.till + p = T := ⟨_, rfl⟩
      have HGR := hid hgr
      have HGV := hid (show addV r.till p = T by unfold addV; rw [hgr, if_pos rfl, hTT])
      rw [hTT]
      have HT : Hid (0 ≤ T ∧ T ≤ 1099511627776) := hid (by omega)
      have HTE := hid (show takeE (setX X r.h T) t' = 0 from takeE_some (X := setX X r.h T) hf)
      clear hp hr hi hf e1 e2 hmem hpr htl hT hgr htill e hTT
      go_enter Try.func12, Try.ntmps12
      go_wp2_with fail
      refine HPR.out.mono ?_
      rintro e w1 ⟨rfl, hb⟩
      have HB := hid hb
      have HP1 := hid (HP.out.below hb)
      have HM1 := hid HP1.out.m1
      obtain ⟨c0, -⟩ := HP1.out.cells
      obtain ⟨-, d1, -⟩ := (HRW.out.upd0 hb).cells
      have f1 : w1.frozen? ⟨r.p, 1, none⟩ = false := (HRW.out.upd0 hb).blk.unfrozen 1
      have HS := hid (HP1.out.till HRE.out HIN.out HE.out (g := T) HT.out)
      clear hb
      go_wp2_with (at_lookup; refine wpList_look1 _ rfl _ _ rfl Try.underlying64 Try.underlying3 _ zero_rowp rfl HM1.out r.h rfl _ H1 ?_)
      refine (gold_Add r.till p w1).mono ?_
      rintro e w2 ⟨rfl, rfl⟩
      rw [HGR.out, HGV.out]
      go_upto_region 9 with fail
      generalize World.setCell w1 _ _ = w2 at HS
      clear d1 f1 c0
      go_wp2_with fail
      refine (stall_Take w2 HS.out.2.1 t').mono ?_
      intro e w3 hq
      rw [HTE.out, if_pos rfl] at hq
      obtain ⟨rfl, hq2⟩ := id hq
      have HQ := hid (StPost.re (r2 := sellV (setX (takeX X t') r.h T, r.h, p, 0)) (StPost.trans HB.out HS.out hq))
      clear hq hq2
      go_wp2_with fail
      go_ret3
      exact HQ.out
theorem stall_Collect {s : Nat} {F : Nat → Prop} {X : StX} (w : World) (h : StallIs w s F X) (k : Int) :
    Calls Try.prog 13 #[.pointer (some ⟨s, 0, none⟩), .int .i64 k] w (StPost w s F (setX X k 0) (.tuple #[.int .i64 (tillX X k), .int .i64 (tillE X k)])) := by
  have H := hid h
  have HTI := fun g E hg hE => stall_Till w h k g E hg hE
  obtain ⟨b1, b2, R, A, hp, hr, hi⟩ := h
  cases ht : X.tills.lookup k with
  | none =>
    have e1 : tillX X k = 0 := by unfold tillX; rw [ht]; rfl
    have e2 : tillE X k = 14 := by unfold tillE; rw [ht]; rfl
    have e3 : setX X k 0 = X := by
      unfold setX setT
      have : X.tills.map (fun p => if p.1 = k then (k, (0 : Int)) else p) = X.tills := by
        conv => rhs; rw [← List.map_id X.tills]
        apply List.map_congr_left
        intro p hp
        rw [if_neg (lookup_none_iff.1 ht p hp)]; rfl
      rw [this]
    rw [e1, e2, e3]
    have HT := hid (HTI 0 14 (hid e1) (hid e2))
    clear hp hr hi ht e1 e2 e3 HTI
    go_enter Try.func13, Try.ntmps13
    go_wp2_with fail
    refine HT.out.mono ?_
    rintro e w1 ⟨rfl, rfl⟩
    go_wp2_with fail
    go_ret2
    exact StPost.same H.out
  | some g =>
    obtain ⟨R1, r, R2, e, rfl, rfl, -⟩ := hp.at hr ht
    have e1 : tillX X r.h = r.till := by unfold tillX; rw [ht]; rfl
    have e2 : tillE X r.h = 0 := by unfold tillE; rw [ht]; rfl
    rw [e1, e2]
    have HT := hid (HTI r.till 0 (hid e1) (hid e2))
    have H1 : Hid (((R.map RowG.ptr).lookup r.h).getD (.pointer none) = .pointer (some ⟨r.p, 0, none⟩)) := hid (by rw [hp.look e]; rfl)
    have HM1 := hid hp.m1
    obtain ⟨c0, -⟩ := hp.cells
    have hrow := hp.row r (by rw [e]; simp)
    obtain ⟨-, d1, -⟩ := hrow.cells
    have f1 : w.frozen? ⟨r.p, 1, none⟩ = false := hrow.blk.unfrozen 1
    have HS := hid (hp.till hr hi e (g := 0) ⟨by omega, by omega⟩)
    clear hp hr hi ht e1 e2 HTI e hrow
    go_enter Try.func13, Try.ntmps13
    go_wp2_with fail
    refine HT.out.mono ?_
    rintro e w1 ⟨rfl, rfl⟩
    go_wp2_with (at_lookup; refine wpList_look1 _ rfl _ _ rfl Try.underlying64 Try.underlying3 _ zero_rowp rfl HM1.out r.h rfl _ H1 ?_)
    go_ret2
    exact HS.out.re
def goodsV (X : StX) (k : Int) : List (Int × Int) := if (X.tills.lookup k).isSome then ofX X.goods k else []
theorem stall_Goods {s : Nat} {F : Nat → Prop} {X : StX} (w : World) (h : StallIs w s F X) (k : Int) :
    Calls Try.prog 22 #[.pointer (some ⟨s, 0, none⟩), .int .i64 k] w fun e w' => ∃ v, e = .returned v ∧ w'.ownsRow w.heap.size 51 2 v (goodsV X k).length (pv (goodsV X k)) ∧ Below w.heap.size w w' := by
  have H := hid h
  obtain ⟨b1, b2, R, A, hp, hr, hi⟩ := h
  cases ht : X.tills.lookup k with
  | none =>
    have e1 : goodsV X k = [] := by unfold goodsV; rw [ht]; rfl
    rw [e1]
    have HB := hid (show (X.tills.lookup k).isSome = false by rw [ht]; rfl)
    clear hp hr hi ht e1
    go_enter Try.func22, Try.ntmps22
    go_wp2_with fail
    refine (stall_Has w H.out k false HB).mono ?_
    rintro e w1 ⟨rfl, rfl⟩
    go_wp2_with fail
    go_ret
    exact ⟨_, rfl, World.ownsRow_nil _ _ _ _, Below.refl _ _⟩
  | some g =>
    obtain ⟨R1, r, R2, e, rfl, rfl, hgs⟩ := hp.at hr ht
    have e1 : goodsV X r.h = r.gs := by unfold goodsV; rw [ht, hgs]; rfl
    rw [e1]
    have HB := hid (show (X.tills.lookup r.h).isSome = true by rw [ht]; rfl)
    have H1 : Hid (((R.map RowG.ptr).lookup r.h).getD (.pointer none) = .pointer (some ⟨r.p, 0, none⟩)) := hid (by rw [hp.look e]; rfl)
    have HM1 := hid hp.m1
    obtain ⟨c0, -⟩ := hp.cells
    have hrow := hp.row r (by rw [e]; simp)
    obtain ⟨-, -, d2⟩ := hrow.cells
    obtain ⟨a, c, hv, -, -, hrd, hac⟩ := ownsRow.rd hrow.own
    rw [hv] at d2
    have HRD := hid hrd
    have HAC := hid hac
    have hl : r.gs.length ≤ 16 := by rw [hgs]; exact hi.g3 r.h
    clear hp hr hi ht e1 e hrow hgs hv hrd hac
    go_enter Try.func22, Try.ntmps22
    go_wp2_with fail
    refine (stall_Has w H.out r.h true HB).mono ?_
    rintro e w1 ⟨rfl, rfl⟩
    go_wp2_with (at_lookup; refine wpList_look1 _ rfl _ _ rfl Try.underlying64 Try.underlying3 _ zero_rowp rfl HM1.out r.h rfl _ H1 ?_)
    refine (sl_CloneG r.gs a c w HRD.out (by omega) (fun _ h => HAC.out h)).mono ?_
    rintro e w1 ⟨v, rfl, ho, hb⟩
    have HO := hid ho
    have HBB := hid hb
    clear ho hb
    go_wp2_with fail
    go_ret
    exact ⟨_, rfl, HO.out, HBB.out⟩
end Go.Proofs.Ytajfjgekcjkedaa
end
