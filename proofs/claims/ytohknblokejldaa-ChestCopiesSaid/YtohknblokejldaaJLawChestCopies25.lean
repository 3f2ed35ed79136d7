/- Joined texts, in this order: ChestCopy. Each one's first remark says what it proves; no condition beyond those that its theorems name. -/
import Derived.Test.YtohknblokejldaaJLawChestCopies24
section
/- Contract of chest.Copy; the law ChestCopies, walked. -/
namespace Go.Proofs.Ytohknblokejldaa
open Go.RowKit Go.ChangeShapes Go.WideShapes Go.Deep Go.Joins
open Go.Lib (hid)
set_option linter.unusedVariables false

def CopyL (w : World) (g1 r b : Nat) (m : List (Int × List Int)) (vs : List (Int × Value)) (wr : World) : Prop :=
  ∃ (left : List (Int × Value)) (m' : List (Int × List Int)), RangeE wr r b vs left ∧ ChestIs wr g1 (fun k => w.heap.size ≤ k ∧ k ≠ r) m' ∧ ChInv m' ∧ (∀ h, chOf m' h = if h ∈ left.map (·.1) then [] else chOf m h) ∧ Below w.heap.size w wr
def CopyPost (w : World) (m : List (Int × List Int)) (e : Ending) (w' : World) : Prop :=
  ∃ g' F' m', e = .returned (.pointer (some ⟨g', 0, none⟩)) ∧ ChestIs w' g' F' m' ∧ (∀ h, chOf m' h = chOf m h) ∧ ChInv m' ∧ (∀ j, F' j → w.heap.size ≤ j) ∧ Below w.heap.size w w'
set_option maxRecDepth 100000 in
set_option maxHeartbeats 2000000 in
theorem chest_Copy (g : Nat) (F : Nat → Prop) (m : List (Int × List Int)) (w : World) (h : ChestIs w g F m) (hi : ChInv m) (hl : ∀ k, (chOf m k).length ≤ 1000) :
    Calls Try.prog 33 #[.pointer (some ⟨g, 0, none⟩)] w (CopyPost w m) := by
  have hnd := ChIs.nodup h
  have HC := hid h
  obtain ⟨b, M, hp⟩ := h
  obtain ⟨vs, hvs⟩ : ∃ vs, vs = (M.map fun p => (p.1, p.2.1)) := ⟨_, rfl⟩
  have hmap := hp.map
  rw [← hvs] at hmap
  have hbw : b < w.heap.size := hmap.lt
  have HMAP : Hid (∀ x, Below w.heap.size w x → x.cell? ⟨g, 0, none⟩ = some (.map (some b)) ∧ MapE x b vs) := hid (fun x hx => ⟨by rw [(hp.blk.below hx).cell]; rfl, hmap.below hx⟩)
  have HFORM : Hid (∀ k v, vs.lookup k = some v → ∃ a c, v = .slice a (chOf m k).length c ∧ SlI w (.slice a (chOf m k).length c) (chOf m k)) := hid (by
    intro k v hk
    obtain ⟨v', h1, h2, ⟨a, c, h3⟩, -⟩ := hp.look k
    rw [← hvs, hk] at h1
    simp at h1
    refine ⟨a, c, h1.trans h3, ?_⟩
    rw [h3] at h2
    exact SlI.of_own h2)
  have hkeys : vs.map (·.1) = m.map (·.1) := by rw [hvs]; exact hp.keys
  have HKEY : Hid (∀ k, k ∈ vs.map (·.1) → 1 ≤ k ∧ k ≤ 9223372036854775807 ∧ chOf m k ≠ []) := hid (by
    intro k hk
    rw [hkeys] at hk
    obtain ⟨p, hpm, rfl⟩ := List.mem_map.1 hk
    have h2 : chOf m p.1 = p.2 := by unfold chOf; rw [(lookup_mem_iff hnd).2 (by exact hpm)]; rfl
    rw [h2]
    exact hi p hpm)
  have HSTART : Hid (∀ h, chOf ([] : List (Int × List Int)) h = if h ∈ vs.map (·.1) then [] else chOf m h) := hid (by
    intro h
    by_cases hk : h ∈ vs.map (·.1)
    · rw [if_pos hk]; rfl
    · rw [if_neg hk]
      rw [hkeys] at hk
      show [] = chOf m h
      unfold chOf
      rw [lookup_none (fun (p : Int × List Int) hp (e : p.1 = h) => hk (by rw [← e]; exact List.mem_map_of_mem (f := fun x : Int × List Int => x.1) hp))]
      rfl)
  have HBW := hid hbw
  have HLE := hid hl
  clear hnd hp hvs hmap hbw hkeys hi hl
  go_enter Try.func33, Try.ntmps33
  go_wp2_with fail
  refine (chest_New _).mono ?_
  rintro e w1 ⟨g1, rfl, hc1, hb1⟩
  have HC1 := hid hc1
  have HB1 := hid hb1
  obtain ⟨hcg, hm1⟩ := HMAP.out w1 hb1
  have HM1 := hid hm1
  clear hc1 hb1 hm1
  go_wp2_with (at_range; refine wpList_rangeE _ rfl _ rfl Try.underlying123 rfl HM1.out ?_; intro w2 hr2 hb2 hs2)
  go_frame
  have HR2 := hid hr2
  have HB2 := hid (Below.next HB1.out hb2)
  have HC2 : Hid (ChestIs w2 g1 (fun k => w.heap.size ≤ k ∧ k ≠ w1.heap.size) []) := hid ((HC1.out.lt.weaken (fun k hk => ⟨hk.1, by have := hk.2; omega⟩)).below hb2)
  have HRW : Hid (w.heap.size ≤ w1.heap.size) := hid HB1.out.size
  clear hr2 hb2 hs2 hcg
  obtain ⟨r, hr⟩ : ∃ r, r = w1.heap.size := ⟨_, rfl⟩
  rw [← hr] at HR2 HC2 HRW ⊢
  clear hr
  go_loopw [4, 5] (fun _ _ wr => CopyL w g1 r b m vs wr) (fun _ _ wr => rangeN wr r b)
  case atStart => exact ⟨vs, [], HR2.out, HC2.out, by intro p hp; simp at hp, HSTART.out, HB2.out⟩
  case round =>
    clear HR2 HC2 HB2 HSTART
    obtain ⟨left, m', hrg, hch, hin', hof, hbr⟩ := hrel
    have HR := hid hrg
    have HCH := hid hch
    have HI' := hid hin'
    have HOF := hid hof
    have HB := hid hbr
    have hlen := hrg.len
    have HLEN := hid hlen
    clear hrg hch hin' hof hbr hlen
    by_cases hl0 : left = []
    · subst hl0
      go_wp2_with (at_next; refine wpList_nextE _ rfl _ rfl rfl HR.out (fun _ => ?_) (fun k v w' hin => absurd hin (by simp)))
      go_ret
      exact ⟨g1, _, m', rfl, HCH.out, fun h => by have := HOF.out h; simpa using this, HI'.out, fun j hj => hj.1, HB.out⟩
    · go_wp2_with (at_next; refine wpList_nextE _ rfl _ rfl rfl HR.out (fun h0 => absurd h0 hl0) (fun k v w' hin hlk hr' hu' hs' hen => ?_); (obtain ⟨va, vc, rfl, hsi⟩ := HFORM.out k v hlk); (have HIN := hid hin); (have HR3 := hid hr'); (have HU3 := hid hu'); (have HSI := hid hsi); (have hfl : (chOf m k).length ≤ 1000 := HLE.out k); clear hin hlk hr' hu' hs' hsi)
      have HBr : Hid (Below w.heap.size w w') := hid (HB.out.trans (HU3.out.below HB.out.size (fun j _ q => by have := HRW.out; omega)))
      have HCr : Hid (ChestIs w' g1 (fun k => w.heap.size ≤ k ∧ k ≠ r) m') := hid (HCH.out.upd HU3.out (fun j q hj => hj.2 q))
      obtain ⟨b1, M1, hq⟩ := HCr.out
      have HQ := hid hq
      obtain ⟨vs1, hvs1⟩ : ∃ vs1, vs1 = (M1.map fun p => (p.1, p.2.1)) := ⟨_, rfl⟩
      have HV1 := hid hvs1
      have hcell1 : ∀ x, Below w'.heap.size w' x → x.cell? ⟨g1, 0, none⟩ = some (.map (some b1)) := fun x hx => by rw [(hq.blk.below hx).cell]; rfl
      have HMAP1 : Hid (∀ x, Below w'.heap.size w' x → MapE x b1 vs1) := hid (fun x hx => by rw [hvs1]; exact hq.map.below hx)
      have hd := (Below.refl w'.heap.size w').drew
      obtain ⟨lk, hlk⟩ : ∃ lk, chOf m k = lk := ⟨_, rfl⟩
      rw [hlk] at hfl HSI
      have HLK := hid hlk
      clear hq hvs1 hlk
      simp only [HLK.out] at hen ⊢
      refine wp_region_kept [7] (fun x => Below w'.heap.size w' x) (by kernel_rfl) (by first | assumption | exact Below.next hH hb6) (fun hH => ?_)
      refine wpK.take (i := 0) (v := _) (by simp only [List.getElem?_toArray, List.getElem?_cons_succ, List.getElem?_cons_zero]; rfl) (by kernel_rfl) (by kernel_rfl) (by kernel_rfl) (by kernel_rfl) (by kernel_rfl) (by exact fun _ _ _ h => h) (by first | exact Or.inl ⟨by rfl, by intro w hSw; go_simp; try with_reducible rfl⟩ | exact Or.inr ⟨by rfl, rfl⟩) hH ?_
      try simp only [Act.put, List.setIfInBounds_toArray, List.set_cons_zero, List.set_cons_succ]
      refine wpK.take (i := 1) (v := _) (by simp only [List.getElem?_toArray, List.getElem?_cons_succ, List.getElem?_cons_zero]; rfl) (by kernel_rfl) (by kernel_rfl) (by kernel_rfl) (by kernel_rfl) (by kernel_rfl) (by exact fun _ _ _ h => h) (by first | exact Or.inl ⟨by rfl, by intro w hSw; go_simp; try with_reducible rfl⟩ | exact Or.inr ⟨by rfl, rfl⟩) hH ?_
      try simp only [Act.put, List.setIfInBounds_toArray, List.set_cons_zero, List.set_cons_succ]
      refine wpK.take (i := 2) (v := _) (by simp only [List.getElem?_toArray, List.getElem?_cons_succ, List.getElem?_cons_zero]; rfl) (by kernel_rfl) (by kernel_rfl) (by kernel_rfl) (by kernel_rfl) (by kernel_rfl) (by exact fun _ _ _ h => h) (by first | exact Or.inl ⟨by rfl, by intro w hSw; go_simp; try with_reducible rfl⟩ | exact Or.inr ⟨by rfl, rfl⟩) hH ?_
      try simp only [Act.put, List.setIfInBounds_toArray, List.set_cons_zero, List.set_cons_succ]
      refine wpK.take (i := 3) (v := _) (by simp only [List.getElem?_toArray, List.getElem?_cons_succ, List.getElem?_cons_zero]; rfl) (by kernel_rfl) (by kernel_rfl) (by kernel_rfl) (by kernel_rfl) (by kernel_rfl) (by exact fun _ _ _ h => h) (by first | exact Or.inl ⟨by rfl, by intro w hSw; go_simp; try with_reducible rfl⟩ | exact Or.inr ⟨by rfl, rfl⟩) hH ?_
      try simp only [Act.put, List.setIfInBounds_toArray, List.set_cons_zero, List.set_cons_succ]
      refine wpK.take (i := 4) (v := _) (by simp only [List.getElem?_toArray, List.getElem?_cons_succ, List.getElem?_cons_zero]; rfl) (by kernel_rfl) (by kernel_rfl) (by kernel_rfl) (by kernel_rfl) (by kernel_rfl) (by exact fun _ _ _ h => h) (by first | exact Or.inl ⟨by rfl, by intro w hSw; go_simp; try with_reducible rfl⟩ | exact Or.inr ⟨by rfl, rfl⟩) hH ?_
      try simp only [Act.put, List.setIfInBounds_toArray, List.set_cons_zero, List.set_cons_succ]
      refine wpK.take (i := 5) (v := _) (by simp only [List.getElem?_toArray, List.getElem?_cons_succ, List.getElem?_cons_zero]; rfl) (by kernel_rfl) (by kernel_rfl) (by kernel_rfl) (by kernel_rfl) (by kernel_rfl) (by exact fun _ _ _ h => h) (by first | exact Or.inl ⟨by rfl, by intro w hSw; go_simp; try with_reducible rfl⟩ | exact Or.inr ⟨by rfl, rfl⟩) hH ?_
      try simp only [Act.put, List.setIfInBounds_toArray, List.set_cons_zero, List.set_cons_succ]
      refine wpK.step (i := 6) (by kernel_rfl) (by simp only [List.getElem?_toArray, List.getElem?_cons_succ, List.getElem?_cons_zero]; rfl) (fun K hK => ?_)
      go_simp
      (refine (sl_CloneI lk _ _ (HSI.out.below (Below.next HBr.out hH)) (by omega)).mono ?_); rintro e w6 ⟨v6, rfl, hown6, hb6⟩; (have HO6 := hid hown6); (have hk6 : Below w'.heap.size w' w6 := Below.next hH hb6)
      refine hK.out _ _ (by first | assumption | exact Below.next hH hb6) (fun hH => ?_)
      clear hK K
      try simp only [Act.put, List.setIfInBounds_toArray, List.set_cons_zero, List.set_cons_succ]
      refine wpK.late (i := 7) (by kernel_rfl) (by simp only [List.getElem?_toArray, List.getElem?_cons_succ, List.getElem?_cons_zero]; rfl) (by kernel_rfl) (fun K hK => ?_)
      refine step_putE _ rfl _ _ _ rfl Try.underlying123 Try.underlying3 rfl (HMAP1.out _ hk6) k rfl v6 rfl ?_; intro w7 hmap7 hu7 hs7
      refine hK.out _ _ ?_
      clear hK K
      try simp only [Act.put, List.setIfInBounds_toArray, List.set_cons_zero, List.set_cons_succ]
      refine wpK.done (by kernel_rfl) ?_ _
      obtain ⟨v0, hv0, -, -, hF0, -, -⟩ := HQ.out.look k
      have hb67 : Below w'.heap.size w' w6 := hk6
      have hbb := HQ.out.map.lt
      have hfb := HQ.out.fb
      have hsz : w'.drew.heap.size = w'.heap.size := rfl
      have hmem : k ∈ vs.map (·.1) := List.mem_map_of_mem (f := fun x : Int × Value => x.1) (HR.out.sub.1 _ HIN.out)
      obtain ⟨hk1, hk2, hk3⟩ := HKEY.out k hmem
      rw [HLK.out] at hk3
      have hown7 : w7.ownsRow 0 3 1 v6 lk.length (lk.map (.int .i64)) := hu7.owns (ownsRow_base HO6.out (Nat.zero_le _)) (fun j hj q => by have := (HO6.out.lt j hj).1; omega)
      have hput := HQ.out.put k (v := v0) (v' := v6) (l' := lk) hv0 (((Upd.of_below (S := fun j => j = b1 ∨ v0.ownBlock = some j) hb67).trans hu7 (fun j _ q => .inl q))) (by rw [← HV1.out]; exact hmap7) hown7 (fun j hj => .inr (by have := (HO6.out.lt j hj).1; omega))
      have hrl := HR3.out.lt
      have HPUT : Hid (ChestIs w7 g1 (fun k => w.heap.size ≤ k ∧ k ≠ r) (aput m' k lk)) := hid (hput.weaken (fun j hj => by
        rcases hj with hj | hj
        · exact hj
        · have := HBr.out.size; exact ⟨by omega, by omega⟩))
      have HR7 : Hid (RangeE w7 r b vs (adel left k)) := hid ((HR3.out.upd (S := fun _ => False) (Upd.of_below hb67) (fun q => q) (fun q => q)).upd hu7 (fun q => hfb.2 q.symm) (fun q => by have := HBW.out; have := hfb.1; omega))
      have HB7 : Hid (Below w.heap.size w w7) := hid ((Below.next HBr.out hb67).trans (hu7.below (Nat.le_trans HBr.out.size hb67.size) (fun j _ q => by have := hfb.1; omega)))
      have HI7 : Hid (ChInv (aput m' k lk)) := hid (HI'.out.put hk1 hk2 hk3)
      have HOF7 : Hid (∀ h, chOf (aput m' k lk) h = if h ∈ (adel left k).map (·.1) then [] else chOf m h) := hid (by
        intro h
        rw [chOf_aput]
        by_cases e : h = k
        · subst e
          rw [if_pos rfl, if_neg (by rw [keys_adel]; exact fun q => q.2 rfl), HLK.out]
        · rw [if_neg e, HOF.out h]
          by_cases q : h ∈ left.map (·.1)
          · rw [if_pos q, if_pos (by rw [keys_adel]; exact ⟨q, e⟩)]
          · rw [if_neg q, if_neg (by rw [keys_adel]; exact fun z => q z.1)])
      clear hput hown7 hmap7 hu7 hs7 hb67 hk6 hH hown6 hb6 hcell1 hd hv0 hF0 hk1 hk2 hk3 hmem hbb hfb hrl hsz
      go_wp2_with fail
      go_roundw
      case rel => exact ⟨adel left k, aput m' k lk, HR7.out, HPUT.out, HI7.out, HOF7.out, HB7.out⟩
      case measure => rw [HR7.out.len, HLEN.out]; exact adel_len HIN.out
end Go.Proofs.Ytohknblokejldaa
end
