/- Joined texts, in this order: ChestSame. Each one's first remark says what it proves; no condition beyond those that its theorems name. -/
import Derived.Test.YtohknblokejldaaJLawChestCopies20
import Derived.Test.YtohknblokejldaaJLawChestCopies22
section
/- Contract of the statements' own function 'same' of layer 22. -/
namespace Go.Proofs.Ytohknblokejldaa
open Go.RowKit
open Go.Lib (hid)
set_option linter.unusedVariables false

def SameL (w1 : World) (X : List (Int × Int)) (L : List (Int × Value × List Int)) (v5 v6 v17 : Value) (wr : World) : Prop :=
  ∃ (k : Nat) (last : Int) (n : Nat), v5 = .int .i64 last ∧ v6 = .int .i64 n ∧ v17 = .int .i64 k ∧ k ≤ L.length ∧ n + ((L.drop k).map fun p => p.2.2.length).sum = X.length ∧ (∀ p ∈ L.drop k, last < p.1) ∧ Below w1.heap.size w1 wr
def SameI (w5 : World) (len N : Nat) (v6 v56 : Value) (wr : World) : Prop :=
  ∃ (i n : Nat), v6 = .int .i64 n ∧ v56 = .int .i64 i ∧ i ≤ len ∧ n + (len - i) = N ∧ Below w5.heap.size w5 wr
theorem rowsOf_sum (m : List (Int × List Int)) (hn : (m.map (·.1)).Nodup) : ((rowsOf m).map fun p => p.2.length).sum = sumL m := by
  rw [← sum_keys m hn]
  unfold rowsOf
  rw [List.map_map]
  have h : ((m.map (·.1)).map fun k => (chOf m k).length).sum = (m.map fun p => (chOf m p.1).length).sum := by rw [List.map_map]; rfl
  rw [← h]
  have := ((keysL_perm m).map (fun k => (chOf m k).length)).sum_nat
  exact this
set_option maxRecDepth 100000 in
set_option maxHeartbeats 4000000 in
theorem law22_same (g : Nat) (F : Nat → Prop) (m : List (Int × List Int)) (v : Value) (X : List (Int × Int)) (w : World) (P : StepPre w g F m v X) (hi : ChInv m) :
    Calls Try.prog 29 #[.pointer (some ⟨g, 0, none⟩), v] w fun e w' => e = .returned (.bool true) ∧ Below w.heap.size w w' := by
  have hnd := ChIs.nodup P.ch
  have hsum := rel_sum m X hnd P.rel
  have hml := sum_le m hi
  have hX := P.len
  have hof : ∀ k, (chOf m k).length ≤ 1000 := fun k => by have := liOf_le X k; rw [P.rel k]; omega
  have HOF := hid hof
  have HND := hid hnd
  have HSUM := hid hsum
  have HP := hid P
  have HROWS := hid (chest_Rows g F m w P.ch hi (by omega) hof)
  have HIN : Hid (∀ k ∈ keysL m, 1 ≤ k ∧ chOf m k ≠ []) := hid (fun k hk => by
    have h1 : k ∈ m.map (·.1) := (keysL_perm m).mem_iff.1 hk
    obtain ⟨p, hp, rfl⟩ := List.mem_map.1 h1
    have h2 : chOf m p.1 = p.2 := by unfold chOf; rw [(lookup_mem_iff hnd).2 (by exact hp)]; rfl
    rw [h2]
    exact ⟨(hi p hp).1, (hi p hp).2.2⟩)
  have HML : Hid (m.length ≤ 1000) := hid (by omega)
  have hX2 : X.length ≤ 1000000 := by omega
  obtain ⟨av, cv, rfl, -⟩ := P.sl
  have HX := hid hX
  clear hnd hsum hml hof P hi hX
  go_enter Try.func29, Try.ntmps29
  go_wp2_with fail
  refine HROWS.out.mono ?_
  rintro e w1 ⟨v15, L, rfl, hra, hL, hb1⟩
  have HRA := hid hra
  have HL := hid hL
  have HB1 := hid hb1
  have hsorted : L.Pairwise (fun p q => p.1 < q.1) := by
    have h1 := keysL_sorted m HND.out
    have h2 : (L.map (·.1)) = keysL m := by
      have := congrArg (List.map (·.1)) hL
      unfold rowsOf at this
      rw [List.map_map, List.map_map] at this
      have e1 : (L.map ((fun x : Int × List Int => x.1) ∘ fun p : Int × Value × List Int => (p.1, p.2.2))) = L.map (·.1) := rfl
      have e2 : ((keysL m).map ((fun x : Int × List Int => x.1) ∘ fun k => (k, chOf m k))) = keysL m := by rw [show ((fun x : Int × List Int => x.1) ∘ fun k => (k, chOf m k)) = id from rfl, List.map_id]
      rw [e1, e2] at this
      exact this
    rw [← h2, List.pairwise_map] at h1
    exact h1
  have HSO := hid hsorted
  have hstart : 0 + ((L.drop 0).map fun p => p.2.2.length).sum = X.length := by
    have h1 := rowsOf_sum m HND.out
    rw [← hL, List.map_map, HSUM.out] at h1
    rw [List.drop_zero, Nat.zero_add]
    exact h1
  have hall : ∀ p ∈ L, chOf m p.1 = p.2.2 ∧ 1 ≤ p.1 ∧ p.2.2 ≠ [] := by
    intro p hp
    have h1 : (p.1, p.2.2) ∈ rowsOf m := by rw [← hL]; exact List.mem_map.2 ⟨p, hp, rfl⟩
    unfold rowsOf at h1
    obtain ⟨k, hk, e⟩ := List.mem_map.1 h1
    have e1 := (Prod.mk.inj e).1
    have e2 := (Prod.mk.inj e).2
    have := HIN.out k hk
    rw [← e1, ← e2]
    exact ⟨rfl, this.1, this.2⟩
  have HALL := hid hall
  have hlast : ∀ p ∈ L.drop 0, (0 : Int) < p.1 := fun p hp => by have := (hall p (by simpa using hp)).2.1; omega
  have HS0 := hid hstart
  have HLA0 := hid hlast
  have hLl : L.length ≤ 1000 := by
    have h1 := congrArg List.length hL
    unfold rowsOf at h1
    rw [List.length_map, List.length_map, keysL_len] at h1
    have := HML.out
    omega
  obtain ⟨ar, cr, rfl, -⟩ := ownsRow.rd hra.own
  clear hra hL hb1 hsorted hstart hall hlast
  go_wp2_with fail
  go_loopw [5, 6, 17] (fun v5 v6 v17 wr => SameL w1 X L v5 v6 v17 wr) (fun _ _ v17 _ => L.length - (intOf v17).toNat)
  case atStart => exact ⟨0, 0, 0, rfl, rfl, rfl, by omega, HS0.out, HLA0.out, Below.refl _ _⟩
  case round =>
    clear HS0 HLA0
    obtain ⟨k, last, n, rfl, rfl, rfl, hk, hsn, hla, hbr⟩ := hrel
    have HSN := hid hsn
    have HLA := hid hla
    have HBR := hid hbr
    clear hsn hla hbr
    by_cases hlt : k < L.length
    · obtain ⟨p, hp⟩ : ∃ p, L[k]? = some p := ⟨_, List.getElem?_eq_getElem hlt⟩
      obtain ⟨h, u, l⟩ := p
      have hmem := List.mem_of_getElem? hp
      have hdr : L.drop k = (h, u, l) :: L.drop (k + 1) := by
        rw [List.drop_eq_getElem_cons hlt]
        congr 1
        exact (List.getElem?_eq_some_iff.1 hp).2
      have HSN2 : Hid (n + l.length + ((L.drop (k + 1)).map fun p => p.2.2.length).sum = X.length) := hid (by
        have := HSN.out; rw [hdr] at this; simp only [List.map_cons, List.sum_cons] at this; omega)
      have HLA2 : Hid (∀ q ∈ L.drop (k + 1), h < q.1) := hid (by
        have h1 := HSO.out
        rw [← List.take_append_drop k L, hdr, List.pairwise_append] at h1
        exact (List.pairwise_cons.1 h1.2.1).1)
      have hla := HLA.out (h, u, l) (by rw [hdr]; simp)
      simp only at hla
      obtain ⟨hch, hh1, hl0⟩ := HALL.out _ hmem
      simp only at hch hh1 hl0
      obtain ⟨gr, cr', e⟩ := Joins.ownsRow_form HRA.out.own (by omega)
      simp only [Value.slice.injEq, true_and] at e
      obtain ⟨rfl, rfl⟩ := e
      have hat := rowC_at L k _ hp
      have how := owns_below HRA.out.own HBR.out
      have c0 : wr.cell? ⟨gr, k * 2, none⟩ = some (.int .i64 h) := by rw [how.cellAt (k * 2) (by omega)]; exact hat.1
      have c1 : wr.cell? ⟨gr, k * 2 + 1, none⟩ = some u := by rw [how.cellAt (k * 2 + 1) (by omega)]; exact hat.2
      obtain ⟨au, cu, hu, -, -, hrdu, -⟩ := ownsRow.rd (owns_below (HRA.out.one _ hmem).1 HBR.out)
      simp only at hu hrdu
      subst hu
      have HRU := hid hrdu
      have HCH := hid hch
      have HREL := hid (HP.out.rel h)
      have hlc : l.length ≤ 1000 := by have := HOF.out h; rw [hch] at this; exact this
      have HL0 := hid hl0
      have e0 : (0 : Int) ≤ (k : Int) := by omega
      have e1 : (k : Int) < (L.length : Int) := by omega
      clear hp hmem hdr hat how hrdu hch hl0
      go_upto_region 5 with fail
      obtain ⟨w5, hw5⟩ : ∃ w5, w5 = wr.alloc (.cells #[.int .i64 h, .slice au l.length cu] 68) := ⟨_, rfl⟩
      rw [← hw5]
      have hb5 : Below wr.heap.size wr w5 := by rw [hw5]; exact Below.new _ _
      have hx5 : Blk w5 wr.heap.size #[.int .i64 h, .slice au l.length cu] := by rw [hw5]; exact Blk.new _ _ _
      have HX5 := hid hx5
      have HB5 := hid (Below.next HBR.out hb5)
      have HRU5 := hid (HRU.out.below' hb5)
      have HBW5 := hid (Below.next HB1.out HB5.out)
      have HS5 := hid (HP.out.sl.below HBW5.out)
      have HC5 := hid (HP.out.ch.below HBW5.out)
      have HLENF : Hid (lenF X h 0 = l.length) := hid (by rw [liOf_len, ← HREL.out, HCH.out])
      clear hw5 hb5 c0 c1
      have hq0 : ∀ x, Below w5.heap.size w5 x → x.cell? ⟨wr.heap.size, 0, none⟩ = some (.int .i64 h) := fun x hb => by rw [(HX5.out.below hb).cell]; rfl
      have hq1 : ∀ x, Below w5.heap.size w5 x → x.cell? ⟨wr.heap.size, 1, none⟩ = some (.slice au l.length cu) := fun x hb => by rw [(HX5.out.below hb).cell]; rfl
      have t1 : decide (h ≤ last) = false := by simp; omega
      have t2 : ((l.length : Int) == 0) = false := by
        have := HL0.out
        cases l with
        | nil => exact absurd rfl this
        | cons a l => simp; omega
      have hd5 := (Below.refl w5.heap.size w5).drew
      clear hx5
      refine wp_region_held_drew (S := (fun x => Below w5.heap.size w5 x)) (by kernel_rfl) (by assumption) (fun hH => ?_)
      refine wpAnyH_take (i := 0) (v := _) (by simp only [List.getElem?_toArray, List.getElem?_cons_succ, List.getElem?_cons_zero]; rfl) (by kernel_rfl) (by kernel_rfl) (by kernel_rfl) (by exact fun _ _ _ h => h) (by first | exact Or.inl ⟨by rfl, by intro w hSw; go_simp; try with_reducible rfl⟩ | exact Or.inr ⟨by rfl, rfl⟩) hH ?_
      try simp only [Act.put, List.setIfInBounds_toArray, List.set_cons_zero, List.set_cons_succ]
      refine wpAnyH_take (i := 1) (v := _) (by simp only [List.getElem?_toArray, List.getElem?_cons_succ, List.getElem?_cons_zero]; rfl) (by kernel_rfl) (by kernel_rfl) (by kernel_rfl) (by exact fun _ _ _ h => h) (by first | exact Or.inl ⟨by rfl, by intro w hSw; go_simp; try with_reducible rfl⟩ | exact Or.inr ⟨by rfl, rfl⟩) hH ?_
      try simp only [Act.put, List.setIfInBounds_toArray, List.set_cons_zero, List.set_cons_succ]
      refine wpAnyH_take (i := 2) (v := _) (by simp only [List.getElem?_toArray, List.getElem?_cons_succ, List.getElem?_cons_zero]; rfl) (by kernel_rfl) (by kernel_rfl) (by kernel_rfl) (by exact fun _ _ _ h => h) (by first | exact Or.inl ⟨by rfl, by intro w hSw; go_simp; try with_reducible rfl⟩ | exact Or.inr ⟨by rfl, rfl⟩) hH ?_
      try simp only [Act.put, List.setIfInBounds_toArray, List.set_cons_zero, List.set_cons_succ]
      refine wpAnyH_take (i := 3) (v := _) (by simp only [List.getElem?_toArray, List.getElem?_cons_succ, List.getElem?_cons_zero]; rfl) (by kernel_rfl) (by kernel_rfl) (by kernel_rfl) (by exact fun _ _ _ h => h) (by first | exact Or.inl ⟨by rfl, by intro w hSw; go_simp; try with_reducible rfl⟩ | exact Or.inr ⟨by rfl, rfl⟩) hH ?_
      try simp only [Act.put, List.setIfInBounds_toArray, List.set_cons_zero, List.set_cons_succ]
      refine wpAnyH_take (i := 4) (v := _) (by simp only [List.getElem?_toArray, List.getElem?_cons_succ, List.getElem?_cons_zero]; rfl) (by kernel_rfl) (by kernel_rfl) (by kernel_rfl) (by exact fun _ _ _ h => h) (by first | exact Or.inl ⟨by rfl, by intro w hSw; go_simp; try with_reducible rfl⟩ | exact Or.inr ⟨by rfl, rfl⟩) hH ?_
      try simp only [Act.put, List.setIfInBounds_toArray, List.set_cons_zero, List.set_cons_succ]
      refine wpAnyH_take (i := 5) (v := _) (by simp only [List.getElem?_toArray, List.getElem?_cons_succ, List.getElem?_cons_zero]; rfl) (by kernel_rfl) (by kernel_rfl) (by kernel_rfl) (by exact fun _ _ _ h => h) (by first | exact Or.inl ⟨by rfl, by intro w hSw; go_simp; try with_reducible rfl⟩ | exact Or.inr ⟨by rfl, rfl⟩) hH ?_
      try simp only [Act.put, List.setIfInBounds_toArray, List.set_cons_zero, List.set_cons_succ]
      refine wpAnyH_take (i := 6) (v := _) (by simp only [List.getElem?_toArray, List.getElem?_cons_succ, List.getElem?_cons_zero]; rfl) (by kernel_rfl) (by kernel_rfl) (by kernel_rfl) (by exact fun _ _ _ h => h) (by first | exact Or.inl ⟨by rfl, by intro w hSw; go_simp; try with_reducible rfl⟩ | exact Or.inr ⟨by rfl, rfl⟩) hH ?_
      try simp only [Act.put, List.setIfInBounds_toArray, List.set_cons_zero, List.set_cons_succ]
      refine wpAnyH_take (i := 7) (v := _) (by simp only [List.getElem?_toArray, List.getElem?_cons_succ, List.getElem?_cons_zero]; rfl) (by kernel_rfl) (by kernel_rfl) (by kernel_rfl) (by exact fun _ _ _ h => h) (by first | exact Or.inl ⟨by rfl, by intro w hSw; go_simp; try with_reducible rfl⟩ | exact Or.inr ⟨by rfl, rfl⟩) hH ?_
      try simp only [Act.put, List.setIfInBounds_toArray, List.set_cons_zero, List.set_cons_succ]
      refine wpAnyH_take (i := 8) (v := _) (by simp only [List.getElem?_toArray, List.getElem?_cons_succ, List.getElem?_cons_zero]; rfl) (by kernel_rfl) (by kernel_rfl) (by kernel_rfl) (by exact fun _ _ _ h => h) (by first | exact Or.inl ⟨by rfl, by intro w hSw; go_simp; try with_reducible rfl⟩ | exact Or.inr ⟨by rfl, rfl⟩) hH ?_
      try simp only [Act.put, List.setIfInBounds_toArray, List.set_cons_zero, List.set_cons_succ]
      refine wpAnyH_take (i := 9) (v := _) (by simp only [List.getElem?_toArray, List.getElem?_cons_succ, List.getElem?_cons_zero]; rfl) (by kernel_rfl) (by kernel_rfl) (by kernel_rfl) (by exact fun _ _ _ h => h) (by first | exact Or.inl ⟨by rfl, by intro w hSw; go_simp; try with_reducible rfl⟩ | exact Or.inr ⟨by rfl, rfl⟩) hH ?_
      try simp only [Act.put, List.setIfInBounds_toArray, List.set_cons_zero, List.set_cons_succ]
      refine wpAnyH_take (i := 10) (v := _) (by simp only [List.getElem?_toArray, List.getElem?_cons_succ, List.getElem?_cons_zero]; rfl) (by kernel_rfl) (by kernel_rfl) (by kernel_rfl) (by exact fun _ _ _ h => h) (by first | exact Or.inl ⟨by rfl, by intro w hSw; go_simp; try with_reducible rfl⟩ | exact Or.inr ⟨by rfl, rfl⟩) hH ?_
      try simp only [Act.put, List.setIfInBounds_toArray, List.set_cons_zero, List.set_cons_succ]
      refine wpAnyH_take (i := 11) (v := _) (by simp only [List.getElem?_toArray, List.getElem?_cons_succ, List.getElem?_cons_zero]; rfl) (by kernel_rfl) (by kernel_rfl) (by kernel_rfl) (by exact fun _ _ _ h => h) (by first | exact Or.inl ⟨by rfl, by intro w hSw; go_simp; try with_reducible rfl⟩ | exact Or.inr ⟨by rfl, rfl⟩) hH ?_
      try simp only [Act.put, List.setIfInBounds_toArray, List.set_cons_zero, List.set_cons_succ]
      refine wpAnyH_take (i := 12) (v := _) (by simp only [List.getElem?_toArray, List.getElem?_cons_succ, List.getElem?_cons_zero]; rfl) (by kernel_rfl) (by kernel_rfl) (by kernel_rfl) (by exact fun _ _ _ h => h) (by first | exact Or.inl ⟨by rfl, by intro w hSw; go_simp; try with_reducible rfl⟩ | exact Or.inr ⟨by rfl, rfl⟩) hH ?_
      try simp only [Act.put, List.setIfInBounds_toArray, List.set_cons_zero, List.set_cons_succ]
      refine wpAnyH_take (i := 13) (v := _) (by simp only [List.getElem?_toArray, List.getElem?_cons_succ, List.getElem?_cons_zero]; rfl) (by kernel_rfl) (by kernel_rfl) (by kernel_rfl) (by exact fun _ _ _ h => h) (by first | exact Or.inl ⟨by rfl, by intro w hSw; go_simp; try with_reducible rfl⟩ | exact Or.inr ⟨by rfl, rfl⟩) hH ?_
      try simp only [Act.put, List.setIfInBounds_toArray, List.set_cons_zero, List.set_cons_succ]
      refine wpAnyH_take (i := 14) (v := _) (by simp only [List.getElem?_toArray, List.getElem?_cons_succ, List.getElem?_cons_zero]; rfl) (by kernel_rfl) (by kernel_rfl) (by kernel_rfl) (by exact fun _ _ _ h => h) (by first | exact Or.inl ⟨by rfl, by intro w hSw; go_simp; try with_reducible rfl⟩ | exact Or.inr ⟨by rfl, rfl⟩) hH ?_
      try simp only [Act.put, List.setIfInBounds_toArray, List.set_cons_zero, List.set_cons_succ]
      refine wpAnyH_take (i := 15) (v := _) (by simp only [List.getElem?_toArray, List.getElem?_cons_succ, List.getElem?_cons_zero]; rfl) (by kernel_rfl) (by kernel_rfl) (by kernel_rfl) (by exact fun _ _ _ h => h) (by first | exact Or.inl ⟨by rfl, by intro w hSw; go_simp; try with_reducible rfl⟩ | exact Or.inr ⟨by rfl, rfl⟩) hH ?_
      try simp only [Act.put, List.setIfInBounds_toArray, List.set_cons_zero, List.set_cons_succ]
      refine wpAnyH_take (i := 16) (v := _) (by simp only [List.getElem?_toArray, List.getElem?_cons_succ, List.getElem?_cons_zero]; rfl) (by kernel_rfl) (by kernel_rfl) (by kernel_rfl) (by exact fun _ _ _ h => h) (by first | exact Or.inl ⟨by rfl, by intro w hSw; go_simp; try with_reducible rfl⟩ | exact Or.inr ⟨by rfl, rfl⟩) hH ?_
      try simp only [Act.put, List.setIfInBounds_toArray, List.set_cons_zero, List.set_cons_succ]
      refine wpAnyH_ready (rs := [17]) (by kernel_rfl) (by simp) ?_
      refine AllReadyH.cons rfl (fun K hK => ?_) AllReadyH.nil
      go_simp
      (refine (ref_Len X _ h _ (HS5.out.below (by assumption)) hX2 _ HLENF).mono ?_); rintro e w' ⟨rfl, rfl⟩; go_simp
      refine hK.out _ _ (by assumption) (fun hH => ?_)
      clear hK K
      try simp only [Act.put, List.setIfInBounds_toArray, List.set_cons_zero, List.set_cons_succ]
      refine wpAnyH_take (i := 18) (v := _) (by simp only [List.getElem?_toArray, List.getElem?_cons_succ, List.getElem?_cons_zero]; rfl) (by kernel_rfl) (by kernel_rfl) (by kernel_rfl) (by exact fun _ _ _ h => h) (by first | exact Or.inl ⟨by rfl, by intro w hSw; go_simp; try with_reducible rfl⟩ | exact Or.inr ⟨by rfl, rfl⟩) hH ?_
      try simp only [Act.put, List.setIfInBounds_toArray, List.set_cons_zero, List.set_cons_succ]
      refine wpAnyH_take (i := 19) (v := _) (by simp only [List.getElem?_toArray, List.getElem?_cons_succ, List.getElem?_cons_zero]; rfl) (by kernel_rfl) (by kernel_rfl) (by kernel_rfl) (by exact fun _ _ _ h => h) (by first | exact Or.inl ⟨by rfl, by intro w hSw; go_simp; try with_reducible rfl⟩ | exact Or.inr ⟨by rfl, rfl⟩) hH ?_
      try simp only [Act.put, List.setIfInBounds_toArray, List.set_cons_zero, List.set_cons_succ]
      refine wpAnyH_take (i := 20) (v := _) (by simp only [List.getElem?_toArray, List.getElem?_cons_succ, List.getElem?_cons_zero]; rfl) (by kernel_rfl) (by kernel_rfl) (by kernel_rfl) (by exact fun _ _ _ h => h) (by first | exact Or.inl ⟨by rfl, by intro w hSw; go_simp; try with_reducible rfl⟩ | exact Or.inr ⟨by rfl, rfl⟩) hH ?_
      try simp only [Act.put, List.setIfInBounds_toArray, List.set_cons_zero, List.set_cons_succ]
      refine wpAnyH_take (i := 21) (v := _) (by simp only [List.getElem?_toArray, List.getElem?_cons_succ, List.getElem?_cons_zero]; rfl) (by kernel_rfl) (by kernel_rfl) (by kernel_rfl) (by exact fun _ _ _ h => h) (by first | exact Or.inl ⟨by rfl, by intro w hSw; go_simp; try with_reducible rfl⟩ | exact Or.inr ⟨by rfl, rfl⟩) hH ?_
      try simp only [Act.put, List.setIfInBounds_toArray, List.set_cons_zero, List.set_cons_succ]
      refine wpAnyH_take (i := 22) (v := _) (by simp only [List.getElem?_toArray, List.getElem?_cons_succ, List.getElem?_cons_zero]; rfl) (by kernel_rfl) (by kernel_rfl) (by kernel_rfl) (by exact fun _ _ _ h => h) (by first | exact Or.inl ⟨by rfl, by intro w hSw; go_simp; try with_reducible rfl⟩ | exact Or.inr ⟨by rfl, rfl⟩) hH ?_
      try simp only [Act.put, List.setIfInBounds_toArray, List.set_cons_zero, List.set_cons_succ]
      refine wpAnyH_take (i := 23) (v := _) (by simp only [List.getElem?_toArray, List.getElem?_cons_succ, List.getElem?_cons_zero]; rfl) (by kernel_rfl) (by kernel_rfl) (by kernel_rfl) (by exact fun _ _ _ h => h) (by first | exact Or.inl ⟨by rfl, by intro w hSw; go_simp; try with_reducible rfl⟩ | exact Or.inr ⟨by rfl, rfl⟩) hH ?_
      try simp only [Act.put, List.setIfInBounds_toArray, List.set_cons_zero, List.set_cons_succ]
      refine wpAnyH_take (i := 25) (v := _) (by simp only [List.getElem?_toArray, List.getElem?_cons_succ, List.getElem?_cons_zero]; rfl) (by kernel_rfl) (by kernel_rfl) (by kernel_rfl) (by exact fun _ _ _ h => h) (by first | exact Or.inl ⟨by rfl, by intro w hSw; go_simp; try with_reducible rfl⟩ | exact Or.inr ⟨by rfl, rfl⟩) hH ?_
      try simp only [Act.put, List.setIfInBounds_toArray, List.set_cons_zero, List.set_cons_succ]
      refine wpAnyH_take (i := 26) (v := _) (by simp only [List.getElem?_toArray, List.getElem?_cons_succ, List.getElem?_cons_zero]; rfl) (by kernel_rfl) (by kernel_rfl) (by kernel_rfl) (by exact fun _ _ _ h => h) (by first | exact Or.inl ⟨by rfl, by intro w hSw; go_simp; try with_reducible rfl⟩ | exact Or.inr ⟨by rfl, rfl⟩) hH ?_
      try simp only [Act.put, List.setIfInBounds_toArray, List.set_cons_zero, List.set_cons_succ]
      refine wpAnyH_take (i := 27) (v := _) (by simp only [List.getElem?_toArray, List.getElem?_cons_succ, List.getElem?_cons_zero]; rfl) (by kernel_rfl) (by kernel_rfl) (by kernel_rfl) (by exact fun _ _ _ h => h) (by first | exact Or.inl ⟨by rfl, by intro w hSw; go_simp; try with_reducible rfl⟩ | exact Or.inr ⟨by rfl, rfl⟩) hH ?_
      try simp only [Act.put, List.setIfInBounds_toArray, List.set_cons_zero, List.set_cons_succ]
      refine wpAnyH_ready (rs := [24]) (by kernel_rfl) (by simp) ?_
      refine AllReadyH.cons rfl (fun K hK => ?_) AllReadyH.nil
      go_simp
      (refine (chest_Len h g F m _ (HC5.out.below (by assumption)) l HCH).mono ?_); rintro e w' ⟨rfl, rfl⟩; go_simp
      refine hK.out _ _ (by assumption) (fun hH => ?_)
      clear hK K
      try simp only [Act.put, List.setIfInBounds_toArray, List.set_cons_zero, List.set_cons_succ]
      refine wpAnyH_take (i := 28) (v := _) (by simp only [List.getElem?_toArray, List.getElem?_cons_succ, List.getElem?_cons_zero]; rfl) (by kernel_rfl) (by kernel_rfl) (by kernel_rfl) (by exact fun _ _ _ h => h) (by first | exact Or.inl ⟨by rfl, by intro w hSw; go_simp; try with_reducible rfl⟩ | exact Or.inr ⟨by rfl, rfl⟩) hH ?_
      try simp only [Act.put, List.setIfInBounds_toArray, List.set_cons_zero, List.set_cons_succ]
      refine wpAnyH_take (i := 29) (v := _) (by simp only [List.getElem?_toArray, List.getElem?_cons_succ, List.getElem?_cons_zero]; rfl) (by kernel_rfl) (by kernel_rfl) (by kernel_rfl) (by exact fun _ _ _ h => h) (by first | exact Or.inl ⟨by rfl, by intro w hSw; go_simp; try with_reducible rfl⟩ | exact Or.inr ⟨by rfl, rfl⟩) hH ?_
      try simp only [Act.put, List.setIfInBounds_toArray, List.set_cons_zero, List.set_cons_succ]
      refine wpAnyH_done (by kernel_rfl) ?_ _
      obtain ⟨w6, hw6⟩ : ∃ w6, w6 = w5.drew := ⟨_, rfl⟩
      rw [← hw6]
      have hb6 : Below w5.heap.size w5 w6 := by rw [hw6]; exact (Below.refl _ _).drew
      have HX6 := hid (HX5.out.below hb6)
      have HB6 := hid (Below.next HB5.out hb6)
      have HRU6 := hid (HRU5.out.below' hb6)
      have HS6 := hid (HS5.out.below hb6)
      have HC6 := hid (HC5.out.below hb6)
      have HBW6 := hid (Below.next HBW5.out hb6)
      clear hq0 hq1 t1 t2 hd5 hw6 hb6 hH
      obtain ⟨hc0, hc1, -⟩ := HX6.out.c2
      have hnl : n + l.length ≤ 1000 := by have := HSN2.out; have := HX.out; omega
      go_wp2_with fail
      obtain ⟨wo, rfl⟩ : ∃ wo : World, wo = wr := ⟨_, rfl⟩
      clear hc0 hc1
      go_loopw [6, 56] (fun v6 v56 wr => SameI w6 l.length (n + l.length) v6 v56 wr) (fun _ v56 _ => l.length - (intOf v56).toNat)
      case atStart => exact ⟨0, n, rfl, rfl, by omega, by omega, Below.refl _ _⟩
      case round =>
        obtain ⟨i, n', rfl, rfl, hil, hn', hbr⟩ := hrel
        have HBR6 := hid hbr
        by_cases hli : i < l.length
        · have hrd := HRU6.out.below' hbr
          obtain ⟨bu, ou, x, rfl, hcx, hlx, -, -, -⟩ := Rd.int hrd i hli
          have hneed : chNeed m h ((i : Int) + 1) = some x := by
            unfold chNeed
            rw [if_neg (by omega), HCH.out, show ((i : Int) + 1 - 1).toNat = i by omega]
            exact hlx
          rcases place_need HP.out.rel h ((i : Int) + 1) (by omega) (by omega) (by omega) with ⟨-, hq⟩ | ⟨j, y, hpj, hXj, hq, -⟩
          · rw [hneed] at hq; cases hq
          · have hyx : x = y := by rw [hneed] at hq; exact Option.some.inj hq
            subst hyx
            have HPL := hid hpj
            have HQ := hid hq
            have hjX : j < X.length := (List.getElem?_eq_some_iff.1 hXj).1
            obtain ⟨aX, cX, eX, hrX, -, -, -⟩ := HS6.out.below hbr
            simp only [Value.slice.injEq, true_and] at eX
            obtain ⟨rfl, rfl⟩ := eX
            obtain ⟨bX, oX, x', y', rfl, hX0, hX1, hX2', -, -⟩ := hrX.pair j hjX
            rw [hXj] at hX2'
            simp only [Option.some.injEq, Prod.mk.injEq] at hX2'
            obtain ⟨rfl, rfl⟩ := hX2'
            have hj0 : ¬ (j : Int) < 0 := by omega
            have hj1 : (j : Int) < (X.length : Int) := by omega
            have hj2 : (0 : Int) ≤ (j : Int) := by omega
            have hi0 : (0 : Int) ≤ (i : Int) := by omega
            have hi1 : (i : Int) < (l.length : Int) := by omega
            obtain ⟨hc0, hc1, -⟩ := (HX6.out.below hbr).c2
            clear hrd hlx hneed hpj hq hXj hrX hbr
            go_wp2_with fail
            refine (ref_Place X _ h ((i : Int) + 1) wr (HS6.out.below HBR6.out) hX2 _ HPL).mono ?_
            rintro e w' ⟨rfl, rfl⟩
            simp only [placeV]
            go_wp2_with fail
            refine (chest_Need h ((i : Int) + 1) g F m wr (HC6.out.below HBR6.out) (by omega) _ HQ).mono ?_
            rintro e w' ⟨rfl, rfl⟩
            simp only [Option.getD_some, Option.isSome_some, if_true]
            go_wp2_with fail
            go_roundw
            case rel => exact ⟨i + 1, n' + 1, by go_num, by go_num, by omega, by omega, HBR6.out⟩
            case measure => simp [intOf]; omega
        · have hnn : n' = n + l.length := by omega
          have HNN := hid hnn
          obtain ⟨hc0, hc1, -⟩ := (HX6.out.below hbr).c2
          clear hnn hn' hbr
          go_wp2_with fail
          go_roundw
          case rel => exact ⟨k + 1, h, n', rfl, rfl, by go_num, by omega, by rw [HNN.out]; exact HSN2.out, HLA2.out, Below.next HB6.out HBR6.out⟩
          case measure => simp [intOf]; omega
    · obtain rfl : k = L.length := by omega
      have hnX : n = X.length := by have := HSN.out; simpa using this
      subst hnX
      have ht := chest_Total g F m wr (HP.out.ch.below (Below.next HB1.out HBR.out)) (by rw [HSUM.out]; exact hX2)
      rw [HSUM.out] at ht
      have HT := hid ht
      clear ht
      go_wp2_with fail
      refine HT.out.mono ?_
      rintro e w2 ⟨rfl, hb2⟩
      have HB2 := hid (Below.next (Below.next HB1.out HBR.out) hb2)
      clear hb2
      go_wp2_with fail
      go_ret
      exact ⟨rfl, HB2.out⟩
end Go.Proofs.Ytohknblokejldaa
end
