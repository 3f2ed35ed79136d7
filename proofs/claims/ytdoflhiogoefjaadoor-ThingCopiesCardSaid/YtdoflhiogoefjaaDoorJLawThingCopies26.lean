/- Joined texts, in this order: ThingCopy. Each one's first remark says what it proves; no condition beyond those that its theorems name. -/
import Derived.Test.YtdoflhiogoefjaaDoorJLawThingCopies23
import Derived.Test.YtdoflhiogoefjaaDoorJLawThingCopies14
import Derived.Test.YtdoflhiogoefjaaDoorJLawThingCopies25
section
/- Contract of things' Copy. -/
namespace Go.Proofs.YtdoflhiogoefjaaDoor
open Go.RowKit Go.ChangeShapes Go.WideShapes Go.Deep Go.Joins
open Go.Lib (hid)
set_option linter.unusedVariables false

/-- what of the places is copied so far: map c2 with rows R'; left are still to come -/
def CopyT (w : World) (r b c2 : Nat) (R : List PRow) (vs : List (P3 × Value)) (wr : World) : Prop :=
  ∃ (left : List (P3 × Value)) (R' : List PRow), MP.RangeE wr r b vs left ∧ MP.MapP wr c2 (R'.map PRow.key) ∧
    (∀ q ∈ R', ownI0 wr q.v q.l ∧ ∀ k, q.v.ownBlock = some k → w.heap.size ≤ k ∧ k ≠ c2 ∧ k ≠ r) ∧ (∀ q ∈ R', ∀ p ∈ R', q.p ≠ p.p → ∀ k, q.v.ownBlock = some k → p.v.ownBlock ≠ some k) ∧
    (∀ p, (R'.map PRow.core).lookup p = if p ∈ left.map (·.1) then none else (R.map PRow.core).lookup p) ∧ Below w.heap.size w wr
def ThCopyPost (w : World) (X : ThX) (e : Ending) (w' : World) : Prop :=
  ∃ s' F', e = .returned (.pointer (some ⟨s', 0, none⟩)) ∧ ThingIs w' s' F' X ∧ (∀ k, F' k → w.heap.size ≤ k) ∧ Below w.heap.size w w'
set_option maxRecDepth 100000 in
set_option maxHeartbeats 4000000 in
theorem thing_Copy {s : Nat} {F : Nat → Prop} {X : ThX} (w : World) (h : ThingIs w s F X) (hl : X.L.length ≤ 900) :
    Calls Tryd.prog 27 #[.pointer (some ⟨s, 0, none⟩)] w (ThCopyPost w X) := by
  have hmm := @run_makeMap Tryd.prog
  obtain ⟨⟨b1, b2, M, R, hp, hr, hs⟩, hi⟩ := h
  have HP := hid hp
  have HRL := hid hr
  have HS := hid hs
  have HI := hid hi
  have HL9 := hid hl
  have HEX : Hid (∀ q ∈ R, ∃ a2 c2, q.v = .slice a2 q.l.length c2 ∧ ownI0 w q.v q.l ∧ q.l.length ≤ 900) := hid (fun q hm => by
    have ho := hp.row q hm
    obtain ⟨a2, c2, e, -⟩ := ownsRow.rd ho
    refine ⟨a2, c2, e, ho, ?_⟩
    have hn : ((R.map PRow.core).map (·.1)).Nodup := by
      have := hp.m2.nodup
      rw [List.map_map] at this ⊢
      exact this
    have h1 : (R.map PRow.core).lookup q.p = some q.l := (MP.lookup_mem_iff hn).2 (List.mem_map_of_mem (f := PRow.core) hm)
    rw [hr.r2] at h1
    by_cases e0 : inT X.L q.p = []
    · rw [if_pos e0] at h1; cases h1
    · rw [if_neg e0] at h1
      obtain h2 := Option.some.inj h1
      have := inT_len X.L q.p
      rw [h2] at this; omega)
  obtain ⟨vs, hvs⟩ : ∃ vs, vs = R.map PRow.key := ⟨_, rfl⟩
  have hmap := hp.m2
  rw [← hvs] at hmap
  have HBW : Hid (b2 < w.heap.size) := hid hmap.lt
  have HMAP := hid hmap
  have HFORM : Hid (∀ (k : P3) (v : Value), vs.lookup k = some v → ∃ q ∈ R, v = q.v ∧ k = q.p) := hid (fun k v hk => by
    rw [hvs] at hk
    obtain ⟨q, hm, e⟩ := List.mem_map.1 (MP.lookup_mem hk)
    obtain ⟨rfl, rfl⟩ := Prod.mk.inj e
    exact ⟨q, hm, rfl, rfl⟩)
  have HKEYS : Hid (vs.map (·.1) = (R.map PRow.core).map (·.1)) := hid (by rw [hvs, List.map_map, List.map_map]; rfl)
  have HSTART : Hid (∀ p, ((([] : List PRow).map PRow.core).lookup p : Option (List Int)) = if p ∈ vs.map (·.1) then none else (R.map PRow.core).lookup p) := hid (by
    intro p
    by_cases hk : p ∈ vs.map (·.1)
    · rw [if_pos hk]; rfl
    · rw [if_neg hk]
      symm
      rw [HKEYS.out] at hk
      exact MP.lookup_none_iff.2 (fun q hq e => hk (e ▸ List.mem_map_of_mem (f := fun x : P3 × List Int => x.1) hq)))
  clear hp hr hs hi hl hvs hmap
  go_enter Tryd.func27, Tryd.ntmps27
  go_upto_region 2 with fail
  obtain ⟨w1, hw1⟩ : ∃ w1, w1 = w.alloc (.map #[] 0) := ⟨_, rfl⟩
  rw [← hw1]
  obtain ⟨c2, hc2⟩ : ∃ b, b = w.heap.size := ⟨_, rfl⟩
  rw [← hc2]
  have hb1 : Below w.heap.size w w1 := by rw [hw1]; exact Below.new _ _
  have HC1 : Hid (MP.MapP w1 c2 []) := hid (by rw [hw1, hc2]; exact MP.MapP.new _)
  have HB1 := hid hb1
  have HM1 := hid (HMAP.out.below hb1)
  have HZC : Hid (c2 = w.heap.size ∧ c2 < w1.heap.size) := hid ⟨hc2, HC1.out.lt⟩
  obtain ⟨-, d1, -⟩ := (HP.out.upd (S := fun _ => False) (Upd.of_below hb1) (fun _ q => q.elim)).cells
  clear hw1 hc2 hb1
  go_wp2_with (at_range; refine MP.wpList_rangeE _ rfl _ rfl Tryd.underlying69 rfl HM1.out ?_; intro w2 hr2 hb2 hs2)
  go_frame
  have HR2 := hid hr2
  have HB2 := hid (Below.next HB1.out hb2)
  have HC2 : Hid (MP.MapP w2 c2 (([] : List PRow).map PRow.key)) := hid (HC1.out.below hb2)
  have HRW : Hid (w.heap.size ≤ w1.heap.size) := hid HB1.out.size
  clear hr2 hb2 hs2 d1
  obtain ⟨r, hr⟩ : ∃ r, r = w1.heap.size := ⟨_, rfl⟩
  rw [← hr] at HR2 HRW ⊢
  have HZR : Hid (c2 < r) := hid (by have := HZC.out; omega)
  clear hr
  go_loopw [4, 5] (fun _ _ wr => CopyT w r b2 c2 R vs wr) (fun _ _ wr => MP.rangeN wr r b2)
  case atStart => exact ⟨vs, [], HR2.out, HC2.out, by simp, by simp, HSTART.out, HB2.out⟩
  case round =>
    clear HR2 HC2 HB2 HSTART
    obtain ⟨left, R', hrg, hmp, hrow, hfar, hof, hbr⟩ := hrel
    have HR := hid hrg
    have HMP := hid hmp
    have HROW := hid hrow
    have HFAR := hid hfar
    have HOF := hid hof
    have HB := hid hbr
    have HLEN := hid hrg.len
    clear hrg hmp hrow hfar hof hbr
    by_cases hl0 : left = []
    · subst hl0
      have HPB := hid (HP.out.upd (S := fun _ => False) (Upd.of_below HB.out) (fun _ q => q.elim))
      obtain ⟨es, clock, hmh, hst, hes⟩ := HPB.out.m1
      have HES := hid (And.intro hst hes)
      have HMC : Hid (∀ y, Below wr.heap.size wr y → y.heap[b1]? = some (.map es clock)) := hid (fun y hy => (hy.block b1 HPB.out.m1.lt).trans hmh)
      obtain ⟨e0_, -, e2_⟩ := HPB.out.cells
      have e0 : ∀ y, Below wr.heap.size wr y → y.cell? ⟨s, 0, none⟩ = some (.map (some b1)) := fun y hy => by rw [(HPB.out.blk.below hy).cell]; rfl
      have e2 : ∀ y, Below wr.heap.size wr y → y.cell? ⟨s, 2, none⟩ = some (.int .i64 X.nx) := fun y hy => by rw [(HPB.out.blk.below hy).cell]; rfl
      clear hmh hst hes e0_ e2_
      go_upto_region 4 with (at_next; refine MP.wpList_nextE _ rfl _ rfl rfl HR.out (fun _ => ?_) (fun k v w' hin => absurd hin (by simp)))
      go_upto_region 6 with fail
      have hyd := (Below.refl wr.heap.size wr).drew
      refine wp_region_kept [12] (fun y => Below wr.heap.size wr y) (by kernel_rfl) (by assumption) (fun hH => ?_)
      refine wpK.take (i := 0) (v := _) (by simp only [List.getElem?_toArray, List.getElem?_cons_succ, List.getElem?_cons_zero]; rfl) (by kernel_rfl) (by kernel_rfl) (by kernel_rfl) (by kernel_rfl) (by kernel_rfl) (by exact fun _ _ _ h => h) (by first | exact Or.inl ⟨by rfl, by intro w hSw; go_simp; try with_reducible rfl⟩ | exact Or.inr ⟨by rfl, rfl⟩) hH ?_
      try simp only [Act.put, List.setIfInBounds_toArray, List.set_cons_zero, List.set_cons_succ]
      refine wpK.take (i := 1) (v := _) (by simp only [List.getElem?_toArray, List.getElem?_cons_succ, List.getElem?_cons_zero]; rfl) (by kernel_rfl) (by kernel_rfl) (by kernel_rfl) (by kernel_rfl) (by kernel_rfl) (by exact fun _ _ _ h => h) (by first | exact Or.inl ⟨by rfl, by intro w hSw; go_simp; try with_reducible rfl⟩ | exact Or.inr ⟨by rfl, rfl⟩) hH ?_
      try simp only [Act.put, List.setIfInBounds_toArray, List.set_cons_zero, List.set_cons_succ]
      refine wpK.take (i := 2) (v := _) (by simp only [List.getElem?_toArray, List.getElem?_cons_succ, List.getElem?_cons_zero]; rfl) (by kernel_rfl) (by kernel_rfl) (by kernel_rfl) (by kernel_rfl) (by kernel_rfl) (by exact fun _ _ _ h => h) (by first | exact Or.inl ⟨by rfl, by intro w hSw; go_simp; try with_reducible rfl⟩ | exact Or.inr ⟨by rfl, rfl⟩) hH ?_
      try simp only [Act.put, List.setIfInBounds_toArray, List.set_cons_zero, List.set_cons_succ]
      refine wpK.take (i := 3) (v := _) (by simp only [List.getElem?_toArray, List.getElem?_cons_succ, List.getElem?_cons_zero]; rfl) (by kernel_rfl) (by kernel_rfl) (by kernel_rfl) (by kernel_rfl) (by kernel_rfl) (by exact fun _ _ _ h => h) (by first | exact Or.inl ⟨by rfl, by intro w hSw; go_simp; try with_reducible rfl⟩ | exact Or.inr ⟨by rfl, rfl⟩) hH ?_
      try simp only [Act.put, List.setIfInBounds_toArray, List.set_cons_zero, List.set_cons_succ]
      refine wpK.take (i := 5) (v := _) (by simp only [List.getElem?_toArray, List.getElem?_cons_succ, List.getElem?_cons_zero]; rfl) (by kernel_rfl) (by kernel_rfl) (by kernel_rfl) (by kernel_rfl) (by kernel_rfl) (by exact fun _ _ _ h => h) (by first | exact Or.inl ⟨by rfl, by intro w hSw; go_simp; try with_reducible rfl⟩ | exact Or.inr ⟨by rfl, rfl⟩) hH ?_
      try simp only [Act.put, List.setIfInBounds_toArray, List.set_cons_zero, List.set_cons_succ]
      refine wpK.take (i := 6) (v := _) (by simp only [List.getElem?_toArray, List.getElem?_cons_succ, List.getElem?_cons_zero]; rfl) (by kernel_rfl) (by kernel_rfl) (by kernel_rfl) (by kernel_rfl) (by kernel_rfl) (by exact fun _ _ _ h => h) (by first | exact Or.inl ⟨by rfl, by intro w hSw; go_simp; try with_reducible rfl⟩ | exact Or.inr ⟨by rfl, rfl⟩) hH ?_
      try simp only [Act.put, List.setIfInBounds_toArray, List.set_cons_zero, List.set_cons_succ]
      refine wpK.take (i := 7) (v := _) (by simp only [List.getElem?_toArray, List.getElem?_cons_succ, List.getElem?_cons_zero]; rfl) (by kernel_rfl) (by kernel_rfl) (by kernel_rfl) (by kernel_rfl) (by kernel_rfl) (by exact fun _ _ _ h => h) (by first | exact Or.inl ⟨by rfl, by intro w hSw; go_simp; try with_reducible rfl⟩ | exact Or.inr ⟨by rfl, rfl⟩) hH ?_
      try simp only [Act.put, List.setIfInBounds_toArray, List.set_cons_zero, List.set_cons_succ]
      refine wpK.take (i := 8) (v := _) (by simp only [List.getElem?_toArray, List.getElem?_cons_succ, List.getElem?_cons_zero]; rfl) (by kernel_rfl) (by kernel_rfl) (by kernel_rfl) (by kernel_rfl) (by kernel_rfl) (by exact fun _ _ _ h => h) (by first | exact Or.inl ⟨by rfl, by intro w hSw; go_simp; try with_reducible rfl⟩ | exact Or.inr ⟨by rfl, rfl⟩) hH ?_
      try simp only [Act.put, List.setIfInBounds_toArray, List.set_cons_zero, List.set_cons_succ]
      refine wpK.take (i := 9) (v := _) (by simp only [List.getElem?_toArray, List.getElem?_cons_succ, List.getElem?_cons_zero]; rfl) (by kernel_rfl) (by kernel_rfl) (by kernel_rfl) (by kernel_rfl) (by kernel_rfl) (by exact fun _ _ _ h => h) (by first | exact Or.inl ⟨by rfl, by intro w hSw; go_simp; try with_reducible rfl⟩ | exact Or.inr ⟨by rfl, rfl⟩) hH ?_
      try simp only [Act.put, List.setIfInBounds_toArray, List.set_cons_zero, List.set_cons_succ]
      refine wpK.step (i := 4) (by kernel_rfl) (by simp only [List.getElem?_toArray, List.getElem?_cons_succ, List.getElem?_cons_zero]; rfl) (fun K hK => ?_)
      go_simp
      (refine (AnyW.maps_Clone (Tryd.lays_SlLaysW_n5_44) b1 es clock _ (HMC.out _ hH)).mono ?_); rintro e w4 ⟨rfl, hw4⟩; (have hb4 : Below wr.heap.size wr w4 := by rw [hw4]; exact Below.next hH (Below.new _ _)); (have HME : Hid (MapE w4 wr.heap.size (M.map thKV)) := hid ⟨es, clock, by rw [hw4]; exact heap_alloc_new wr.drew _, HES.out.1, HES.out.2⟩); clear hw4; go_simp
      refine hK.out _ _ (by assumption) (fun hH => ?_)
      clear hK K
      try simp only [Act.put, List.setIfInBounds_toArray, List.set_cons_zero, List.set_cons_succ]
      refine wpK.take (i := 10) (v := _) (by simp only [List.getElem?_toArray, List.getElem?_cons_succ, List.getElem?_cons_zero]; rfl) (by kernel_rfl) (by kernel_rfl) (by kernel_rfl) (by kernel_rfl) (by kernel_rfl) (by exact fun _ _ _ h => h) (by first | exact Or.inl ⟨by rfl, by intro w hSw; go_simp; try with_reducible rfl⟩ | exact Or.inr ⟨by rfl, rfl⟩) hH ?_
      try simp only [Act.put, List.setIfInBounds_toArray, List.set_cons_zero, List.set_cons_succ]
      refine wpK.step (i := 11) (by kernel_rfl) (by simp only [List.getElem?_toArray, List.getElem?_cons_succ, List.getElem?_cons_zero]; rfl) (fun K hK => ?_)
      go_simp
      (first | refine K_alloc (K := K) ?_ | refine K_allocD (K := K) ?_); intro g8 w8 hg8 hs8 hb8 hblk8; (have HG8 := hid hg8); (have hk8 : Below wr.heap.size wr w8 := Below.next hb4 hb8)
      refine hK.out _ _ (by assumption) (fun hH => ?_)
      clear hK K
      try simp only [Act.put, List.setIfInBounds_toArray, List.set_cons_zero, List.set_cons_succ]
      refine wpK.late (i := 12) (by kernel_rfl) (by simp only [List.getElem?_toArray, List.getElem?_cons_succ, List.getElem?_cons_zero]; rfl) (by kernel_rfl) (fun K hK => ?_)
      go_simp
      refine hK.out _ _ ?_
      clear hK K
      try simp only [Act.put, List.setIfInBounds_toArray, List.set_cons_zero, List.set_cons_succ]
      refine wpK.done (by kernel_rfl) ?_ _
      have HPOST : Hid (ThCopyPost w X (.returned (.pointer (some ⟨g8, 0, none⟩))) w8) := hid (by
        have z1 := HME.out.lt
        have z2 := HB.out.size
        have z3 := HMP.out.lt
        refine ⟨g8, fun k => w.heap.size ≤ k, rfl, ⟨⟨wr.heap.size, c2, M, R', ⟨hblk8, HME.out.below hb8, HMP.out.below hk8, by show _ ≤ g8; omega, z2, by have := HZC.out; show _ ≤ c2; omega, by omega, by omega, by omega, fun q hq => owns_below (HROW.out q hq).1 hk8, fun q hq k hk => ?_, HFAR.out⟩, ⟨HRL.out.r1, fun p => ?_⟩, HS.out⟩, HI.out⟩, fun k q => q, Below.next HB.out hk8⟩
        · have h1 := (HROW.out q hq).2 k hk
          have h2 := ((HROW.out q hq).1.lt k hk).2
          exact ⟨h1.1, by omega, by omega, h1.2.1⟩
        · have h1 := HOF.out p
          simp only [List.map_nil, List.not_mem_nil, if_false] at h1
          rw [h1]; exact HRL.out.r2 p)
      clear hyd hH hb4 hs8 hg8 hb8 hblk8 hk8 e0 e2
      go_wp2_with fail
      go_ret
      exact (by have h := HPOST.out; rw [HG8.out] at h; exact h)
    · go_upto_region 5 with (at_next; refine MP.wpList_nextE _ rfl _ rfl rfl HR.out (fun h0 => absurd h0 hl0) (fun k v w' hin hlk hr' hu' hs' hen => ?_); (obtain ⟨⟨⟨pk, ph, ps⟩, qv, ql⟩, hm, rfl, rfl⟩ := HFORM.out k v hlk); (have HIN := hid hin); (have HR3 := hid hr'); (have HU3 := hid hu'); (obtain ⟨a2, c2_, hv, hown, hq9⟩ := HEX.out _ hm); (have HM := hid hm); (simp only at hv hown hq9); (subst hv); (have HOWN := hid hown); (have HQ9 := hid hq9); (simp only [MP.encP] at hen); clear hin hlk hr' hu' hs' hown hq9 hm)
      obtain ⟨w5, hw5⟩ : ∃ w5, w5 = w'.alloc (.cells #[.int .i64 pk, .int .i64 ph, .int .i64 ps] 23) := ⟨_, rfl⟩
      rw [← hw5]
      obtain ⟨b5, hb5⟩ : ∃ b, b = w'.heap.size := ⟨_, rfl⟩
      rw [← hb5]
      have hbl5 : Below w'.heap.size w' w5 := by rw [hw5]; exact Below.new _ _
      have HX5 : Hid (Blk w5 b5 #[.int .i64 pk, .int .i64 ph, .int .i64 ps]) := hid (by rw [hw5, hb5]; exact Blk.new _ _ _)
      have HU5 := hid (HU3.out.trans (Upd.of_below (S := fun j => j = r) hbl5) (fun _ _ q => q))
      have HR5 := hid (HR3.out.upd (S := fun _ => False) (Upd.of_below hbl5) (fun q => q) (fun q => q))
      have HB5 := hid (HB.out.trans (HU5.out.below HB.out.size (fun k _ q => by have := HRW.out; omega)))
      have HMP5 := hid (HMP.out.upd HU5.out (fun q => by have := HZR.out; omega))
      have HROW5 : Hid (∀ q ∈ R', ownI0 w5 q.v q.l) := hid (fun q hq => HU5.out.owns (HROW.out q hq).1 (fun k hk z => ((HROW.out q hq).2 k hk).2.2 z))
      have HOWN5 := hid (owns_below HOWN.out HB5.out)
      have HZ5 := hid (And.intro HU3.out.size hbl5.size)
      clear hw5 hb5 hbl5 hen
      have k0 : ∀ y, Below w5.heap.size w5 y → y.cell? ⟨b5, 0, none⟩ = some (.int .i64 pk) := fun y hy => by rw [(HX5.out.below hy).cell]; rfl
      have k1 : ∀ y, Below w5.heap.size w5 y → y.cell? ⟨b5, 1, none⟩ = some (.int .i64 ph) := fun y hy => by rw [(HX5.out.below hy).cell]; rfl
      have k2 : ∀ y, Below w5.heap.size w5 y → y.cell? ⟨b5, 2, none⟩ = some (.int .i64 ps) := fun y hy => by rw [(HX5.out.below hy).cell]; rfl
      have hyd := (Below.refl w5.heap.size w5).drew
      refine wp_region_kept [4] (fun y => Below w5.heap.size w5 y) (by kernel_rfl) (by assumption) (fun hH => ?_)
      refine wpK.take (i := 0) (v := _) (by simp only [List.getElem?_toArray, List.getElem?_cons_succ, List.getElem?_cons_zero]; rfl) (by kernel_rfl) (by kernel_rfl) (by kernel_rfl) (by kernel_rfl) (by kernel_rfl) (by exact fun _ _ _ h => h) (by first | exact Or.inl ⟨by rfl, by intro w hSw; go_simp; try with_reducible rfl⟩ | exact Or.inr ⟨by rfl, rfl⟩) hH ?_
      try simp only [Act.put, List.setIfInBounds_toArray, List.set_cons_zero, List.set_cons_succ]
      refine wpK.take (i := 1) (v := _) (by simp only [List.getElem?_toArray, List.getElem?_cons_succ, List.getElem?_cons_zero]; rfl) (by kernel_rfl) (by kernel_rfl) (by kernel_rfl) (by kernel_rfl) (by kernel_rfl) (by exact fun _ _ _ h => h) (by first | exact Or.inl ⟨by rfl, by intro w hSw; go_simp; try with_reducible rfl⟩ | exact Or.inr ⟨by rfl, rfl⟩) hH ?_
      try simp only [Act.put, List.setIfInBounds_toArray, List.set_cons_zero, List.set_cons_succ]
      refine wpK.take (i := 2) (v := _) (by simp only [List.getElem?_toArray, List.getElem?_cons_succ, List.getElem?_cons_zero]; rfl) (by kernel_rfl) (by kernel_rfl) (by kernel_rfl) (by kernel_rfl) (by kernel_rfl) (by exact fun _ _ _ h => h) (by first | exact Or.inl ⟨by rfl, by intro w hSw; go_simp; try with_reducible rfl⟩ | exact Or.inr ⟨by rfl, rfl⟩) hH ?_
      try simp only [Act.put, List.setIfInBounds_toArray, List.set_cons_zero, List.set_cons_succ]
      refine wpK.step (i := 3) (by kernel_rfl) (by simp only [List.getElem?_toArray, List.getElem?_cons_succ, List.getElem?_cons_zero]; rfl) (fun K hK => ?_)
      go_simp
      (refine (sl_CloneI ql (.slice a2 ql.length c2_) _ (SlI.of_own (owns_below HOWN5.out hH)) (by have := HQ9.out; omega)).mono ?_); rintro e w6 ⟨v6, rfl, ho6, hb6⟩; (have hk6 : Below w5.heap.size w5 w6 := Below.next hH hb6); (have HO6 := hid ho6); (obtain ⟨a6, c6, hva6, -⟩ := ownsRow.rd ho6); (subst hva6); clear ho6; go_simp
      refine hK.out _ _ (by assumption) (fun hH => ?_)
      clear hK K
      try simp only [Act.put, List.setIfInBounds_toArray, List.set_cons_zero, List.set_cons_succ]
      refine wpK.late (i := 4) (by kernel_rfl) (by simp only [List.getElem?_toArray, List.getElem?_cons_succ, List.getElem?_cons_zero]; rfl) (by kernel_rfl) (fun K hK => ?_)
      refine MP.step_putE _ rfl _ _ _ rfl Tryd.underlying69 placeKey rfl (HMP5.out.below hk6) (pk, ph, ps) rfl (.slice a6 ql.length c6) rfl ?_; intro w7 hm7 hu7 hz7
      refine hK.out _ _ ?_
      clear hK K
      try simp only [Act.put, List.setIfInBounds_toArray, List.set_cons_zero, List.set_cons_succ]
      refine wpK.done (by kernel_rfl) ?_ _
      have HK6 := hid hk6
      have HM7 : Hid (MP.MapP w7 c2 ((putRow R' ⟨(pk, ph, ps), .slice a6 ql.length c6, ql⟩).map PRow.key)) := hid (by rw [putRow_key]; exact hm7)
      have HU7 := hid hu7
      have HNEW : Hid (∀ k, (Value.slice a6 ql.length c6).ownBlock = some k → w5.heap.size ≤ k ∧ k < w6.heap.size) := hid (fun k hk => HO6.out.lt k hk)
      clear hm7 hu7 hz7 hyd hH hk6 hb6 k0 k1 k2
      have HC2 := hid HMP5.out.lt
      have HREL : Hid (CopyT w r b2 c2 R vs w7) := hid (by
        have hu := (Upd.of_below (S := fun k => k = c2) HK6.out).trans HU7.out (fun _ _ q => q)
        have z1 := HC2.out
        have z2 := HB5.out.size
        have z3 := HZC.out
        have z4 := HZR.out
        refine ⟨MP.adel left (pk, ph, ps), _, HR5.out.upd hu (fun q => by omega) (fun q => by have := HBW.out; omega), HM7.out, fun q hq => ?_, fun q hq p hp hne k hk hk2 => ?_, fun p => ?_, (Below.next HB5.out HK6.out).trans (HU7.out.below (Nat.le_trans z2 HK6.out.size) (fun k _ q => by omega))⟩
        · rcases putRow_mem hq with rfl | ⟨hq, hn⟩
          · refine ⟨HU7.out.owns (owns_base21 HO6.out (Nat.zero_le _)) (fun k hk z => by have := HNEW.out k hk; omega), fun k hk => ?_⟩
            have := HNEW.out k hk
            have := HR5.out.lt
            exact ⟨by omega, by omega, by omega⟩
          · exact ⟨hu.owns (HROW5.out q hq) (fun k hk z => ((HROW.out q hq).2 k hk).2.1 z), (HROW.out q hq).2⟩
        · rcases putRow_mem hq with rfl | ⟨hq, hn⟩
          · rcases putRow_mem hp with rfl | ⟨hp, hn2⟩
            · exact hne rfl
            · have := HNEW.out k hk
              have := (HROW5.out p hp).lt k hk2
              omega
          · rcases putRow_mem hp with rfl | ⟨hp, hn2⟩
            · have := HNEW.out k hk2
              have := (HROW5.out q hq).lt k hk
              omega
            · exact HFAR.out q hq p hp hne k hk hk2
        · rw [putRow_core, MP.lookup_aput]
          by_cases e : p = (pk, ph, ps)
          · subst e
            rw [if_pos rfl, if_neg (by rw [MP.keys_adel]; exact fun z => z.2 rfl)]
            have hn : ((R.map PRow.core).map (·.1)).Nodup := by
              have := HP.out.m2.nodup
              rw [List.map_map] at this ⊢
              exact this
            exact ((MP.lookup_mem_iff hn).2 (List.mem_map_of_mem (f := PRow.core) HM.out)).symm
          · rw [if_neg e, HOF.out p]
            by_cases z : p ∈ left.map (·.1)
            · rw [if_pos z, if_pos (by rw [MP.keys_adel]; exact ⟨z, e⟩)]
            · rw [if_neg z, if_neg (by rw [MP.keys_adel]; exact fun y => z y.1)])
      have HLN : Hid (MP.rangeN w7 r b2 < left.length) := hid (by
        have hu := (Upd.of_below (S := fun k => k = c2) HK6.out).trans HU7.out (fun _ _ q => q)
        have := (HR5.out.upd hu (fun q => by have := HZR.out; omega) (fun q => by have := HBW.out; have := HZC.out; omega)).len
        rw [this]; exact MP.adel_len HIN.out)
      go_wp2
      go_simp
      go_roundw
      case rel => exact HREL.out
      case measure => rw [HLEN.out]; exact HLN.out
end Go.Proofs.YtdoflhiogoefjaaDoor
end
