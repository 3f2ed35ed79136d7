/- Joined texts, in this order: DiskSame. Each one's first remark says what it proves; no condition beyond those that its theorems name. -/
import Derived.Test.YtohknblokejldaaJLawDiskKeeps26
import Derived.Test.YtohknblokejldaaJLawDiskKeeps27
section
/- Contract of the statements' own function same of layer 5. -/
namespace Go.Proofs.Ytohknblokejldaa
open Go.RowKit
open Go.Lib (hid)
set_option linter.unusedVariables false

/-- the sectors that the cache has, of the first k -/
def present (C : List (List UInt8)) (k : Nat) : List Int := ((List.range k).filter fun i => !(C.getD i []).isEmpty).map fun i : Nat => (i : Int)
theorem present_succ (C : List (List UInt8)) (k : Nat) : present C (k + 1) = present C k ++ (if C.getD k [] = [] then [] else [(k : Int)]) := by
  unfold present
  rw [List.range_succ, List.filter_append, List.map_append]
  congr 1
  by_cases h : C.getD k [] = []
  · rw [if_pos h]
    have : (C.getD k []).isEmpty = true := emptyT h
    simp only [List.filter_cons, this, Bool.not_true, Bool.false_eq_true, if_false, List.filter_nil, List.map_nil]
  · rw [if_neg h]
    have : (C.getD k []).isEmpty = false := emptyF h
    simp only [List.filter_cons, this, Bool.not_false, if_true, List.filter_nil, List.map_cons, List.map_nil]
theorem present_mem (C : List (List UInt8)) (k : Nat) (j : Int) : j ∈ present C k ↔ ∃ i : Nat, i < k ∧ C.getD i [] ≠ [] ∧ (i : Int) = j := by
  unfold present
  rw [List.mem_map]
  constructor
  · rintro ⟨i, hi, rfl⟩
    rw [List.mem_filter, List.mem_range] at hi
    exact ⟨i, hi.1, fun e => by rw [e] at hi; simp at hi, rfl⟩
  · rintro ⟨i, h1, h2, rfl⟩
    exact ⟨i, by rw [List.mem_filter, List.mem_range]; exact ⟨h1, by rw [emptyF h2]; rfl⟩, rfl⟩
theorem present_sorted (C : List (List UInt8)) (k : Nat) : (present C k).Pairwise (· < ·) := by
  unfold present
  rw [List.pairwise_map]
  exact (List.pairwise_lt_range.filter _).imp (fun h => by omega)
theorem present_pre (C : List (List UInt8)) (k m : Nat) (h : k ≤ m) : ∃ r, present C m = present C k ++ r := by
  induction m with
  | zero => obtain rfl : k = 0 := by omega
            exact ⟨[], by simp⟩
  | succ m ih =>
    by_cases hk : k ≤ m
    · obtain ⟨r, hr⟩ := ih hk
      exact ⟨_, by rw [present_succ, hr, List.append_assoc]⟩
    · obtain rfl : k = m + 1 := by omega
      exact ⟨[], by simp⟩
theorem sorted_nodup {l : List Int} (h : l.Pairwise (· < ·)) : l.Nodup := h.imp (fun hab => by omega)
theorem keys_present {s : Dk} {x : Rf} (h : RfRel s x) (hok : s.Ok) (hn : (s.C.map (·.1)).Nodup) : keysL s.C = present x.C s.D.length := by
  have hperm : (s.C.map (·.1)).Perm (present x.C s.D.length) := by
    refine (List.perm_ext_iff_of_nodup hn (sorted_nodup (present_sorted _ _))).2 fun j => ?_
    rw [present_mem, List.mem_map]
    constructor
    · rintro ⟨p, hp, rfl⟩
      have hl := (lookup_mem_iff hn).2 (show (p.1, p.2) ∈ s.C from hp)
      obtain ⟨h0, h1, -, h3⟩ := hok.lookup hl
      refine ⟨p.1.toNat, by omega, ?_, by omega⟩
      rw [h.C _ (by omega), show ((p.1.toNat : Nat) : Int) = p.1 by omega, hl]
      exact h3
    · rintro ⟨i, h0, h1, rfl⟩
      rw [h.C i h0] at h1
      cases hl : s.C.lookup (i : Int) with
      | none => rw [hl] at h1; exact absurd rfl h1
      | some b => exact ⟨_, lookup_mem hl, rfl⟩
  have h1 : keysL s.C = (present x.C s.D.length).mergeSort (fun x y => decide (x ≤ y)) := mergeSort_of_perm_i hperm
  rw [h1]
  apply List.mergeSort_of_pairwise
  exact (present_sorted _ _).imp (fun hab => by simp; omega)
def SmeL (C : List (List UInt8)) (v6 v16 : Value) : Prop := ∃ k : Nat, v16 = .int .i64 k ∧ v6 = .int .i64 ((present C k).length : Int) ∧ k ≤ 6
set_option maxRecDepth 100000 in
set_option maxHeartbeats 4000000 in
theorem law05_same (g : Nat) (W R : Nat → Prop) (p : RfP) (s : Dk) (x : Rf) (N : Nat) (hN : N ≤ 1000) (w : World) (P : DSt w g W R p s x N) :
    Calls Try.prog 42 #[.pointer (some ⟨g, 0, none⟩), .pointer (some ⟨p.g, 0, none⟩)] w fun e w' => e = .returned (.bool true) ∧ Below w.heap.size w w' := by
  have HP := hid P
  have hnd : (s.C.map (·.1)).Nodup := by
    obtain ⟨b, dv, V, M, hd⟩ := P.disk
    have := hd.map.nodup
    rw [← hd.eqC, List.map_map]
    rw [List.map_map] at this
    exact this
  have hkp := keys_present P.rel P.ok hnd
  rw [P.n6] at hkp
  have HCA := hid (disk_Cached s P.ok (by have := P.cl; omega) g W R w P.disk)
  have HKP := hid hkp
  have hc6 : x.C.length = 6 := by have := P.len; omega
  have HC6 := hid hc6
  clear P hnd hkp hc6
  go_enter Try.func42, Try.ntmps42
  go_wp2_with fail
  refine HCA.out.mono ?_
  rintro e w1 ⟨v5, rfl, hown, hb1⟩
  rw [HKP.out] at hown
  obtain ⟨ks, hks⟩ : ∃ ks, present x.C 6 = ks := ⟨_, rfl⟩
  rw [hks] at hown
  have HKS := hid hks
  obtain ⟨al, cl, rfl, -, -, hrd, -⟩ := ownsRow.rd hown
  have HRD := hid hrd
  have HB1 := hid hb1
  have HP1 := hid (HP.out.below hb1)
  have hksl : ks.length ≤ 6 := by
    have h1 : ks.length = (present x.C 6).length := by rw [hks]
    rw [h1]
    unfold present
    rw [List.length_map]
    have := List.length_filter_le (fun i => !(x.C.getD i []).isEmpty) (List.range 6)
    rw [List.length_range] at this
    exact this
  obtain ⟨-, hc1, -, -, hc4, -, hc6⟩ := HP1.out.ref.cells
  simp only [HC6.out] at hc1
  clear hown hrd hb1 hks
  go_wp2_with fail
  go_loop [6, 16] (fun v6 v16 => SmeL x.C v6 v16) (fun _ v16 => 6 - (intOf v16).toNat)
  case atStart => exact ⟨0, rfl, rfl, by omega⟩
  case round =>
    obtain ⟨k, rfl, rfl, hk⟩ := hrel
    by_cases hlt : k < 6
    · have hsu := present_succ x.C k
      obtain ⟨r, hr⟩ := present_pre x.C (k + 1) 6 (by omega)
      obtain ⟨hkc, -⟩ := HP1.out.ref.atC k (by rw [HC6.out]; exact hlt)
      have hE := strE (x.C.getD k [])
      obtain ⟨q, hq⟩ : ∃ q : ByteArray, q = ⟨(x.C.getD k []).toArray⟩ := ⟨_, rfl⟩
      rw [← hq] at hkc hE
      have k0 : (0 : Int) ≤ (k : Int) := by omega
      have k1 : (k : Int) < 6 := by omega
      by_cases hz : x.C.getD k [] = []
      · rw [if_pos hz, List.append_nil] at hsu
        rw [emptyT hz] at hE
        have HSU := hid hsu
        clear hz hq hr hsu
        obtain ⟨m, hm⟩ : ∃ m, (present x.C k).length = m := ⟨_, rfl⟩
        have HM := hid hm
        rw [hm]
        clear hm
        go_wp2_with fail
        go_round
        case rel => exact ⟨k + 1, by go_num, by rw [HSU.out, HM.out], by omega⟩
        case measure => simp [intOf]; omega
      · rw [if_neg hz] at hsu
        rw [emptyF hz] at hE
        rw [hsu, HKS.out] at hr
        obtain ⟨m, hm⟩ : ∃ m, (present x.C k).length = m := ⟨_, rfl⟩
        have hml : m < ks.length := by rw [hr, ← hm]; simp
        have hat : ks[m]? = some (k : Int) := by rw [hr, ← hm]; simp
        obtain ⟨bu, ou, z, rfl, hcz, hz2, -⟩ := HRD.out.int m hml
        rw [hat] at hz2
        obtain rfl : (k : Int) = z := Option.some.inj hz2
        have HSU : Hid ((present x.C (k + 1)).length = m + 1) := hid (by rw [hsu, List.length_append, hm]; rfl)
        rw [hm]
        have m0 : (0 : Int) ≤ (m : Int) := by omega
        have m1 : (m : Int) < (ks.length : Int) := by omega
        clear hz hq hr hsu hat hz2 hm hml
        go_wp2_with fail
        go_round
        case rel => exact ⟨k + 1, by go_num, by rw [HSU.out]; go_num, by omega⟩
        case measure => simp [intOf]; omega
    · have hk6 : k = 6 := by omega
      subst hk6
      rw [HKS.out]
      have hd0 := (Below.refl w1.heap.size w1).drew
      have hq4 : ∀ y, Below w1.heap.size w1 y → y.cell? ⟨p.g, 4, none⟩ = some (.bool s.down) := fun y hy => by have := (HP1.out.ref.below hy).cells.2.2.2.2.1; rw [HP1.out.rel.down] at this; exact this
      have hq6 : ∀ y, Below w1.heap.size w1 y → y.cell? ⟨p.g, 6, none⟩ = some (.int .i64 s.done) := fun y hy => by have := (HP1.out.ref.below hy).cells.2.2.2.2.2.2; rw [HP1.out.rel.done] at this; exact this
      have HN6 := hid HP1.out.n6
      have HZ := hid HP1.out.sz
      obtain ⟨sd, hsd⟩ : ∃ sd, s.down = sd := ⟨_, rfl⟩
      obtain ⟨sn, hsn⟩ : ∃ sn, s.done = sn := ⟨_, rfl⟩
      have HSD := hid hsd
      have HSN := hid hsn
      rw [hsd] at hq4
      rw [hsn] at hq6
      clear hc1 hc4 hc6 hk hsd hsn
      go_wp2_with fail
      refine wp_region_held_drew (S := (fun y => Below w1.heap.size w1 y)) (by kernel_rfl) (by assumption) (fun hH => ?_)
      refine wpAnyH_take (i := 0) (v := _) (by simp only [List.getElem?_toArray, List.getElem?_cons_succ, List.getElem?_cons_zero]; rfl) (by kernel_rfl) (by kernel_rfl) (by kernel_rfl) (by exact fun _ _ _ h => h) (by first | exact Or.inl ⟨by rfl, by intro w hSw; go_simp; try with_reducible rfl⟩ | exact Or.inr ⟨by rfl, rfl⟩) hH ?_
      try simp only [Act.put, List.setIfInBounds_toArray, List.set_cons_zero, List.set_cons_succ]
      refine wpAnyH_take (i := 1) (v := _) (by simp only [List.getElem?_toArray, List.getElem?_cons_succ, List.getElem?_cons_zero]; rfl) (by kernel_rfl) (by kernel_rfl) (by kernel_rfl) (by exact fun _ _ _ h => h) (by first | exact Or.inl ⟨by rfl, by intro w hSw; go_simp; try with_reducible rfl⟩ | exact Or.inr ⟨by rfl, rfl⟩) hH ?_
      try simp only [Act.put, List.setIfInBounds_toArray, List.set_cons_zero, List.set_cons_succ]
      refine wpAnyH_take (i := 2) (v := _) (by simp only [List.getElem?_toArray, List.getElem?_cons_succ, List.getElem?_cons_zero]; rfl) (by kernel_rfl) (by kernel_rfl) (by kernel_rfl) (by exact fun _ _ _ h => h) (by first | exact Or.inl ⟨by rfl, by intro w hSw; go_simp; try with_reducible rfl⟩ | exact Or.inr ⟨by rfl, rfl⟩) hH ?_
      try simp only [Act.put, List.setIfInBounds_toArray, List.set_cons_zero, List.set_cons_succ]
      refine wpAnyH_take (i := 3) (v := _) (by simp only [List.getElem?_toArray, List.getElem?_cons_succ, List.getElem?_cons_zero]; rfl) (by kernel_rfl) (by kernel_rfl) (by kernel_rfl) (by exact fun _ _ _ h => h) (by first | exact Or.inl ⟨by rfl, by intro w hSw; go_simp; try with_reducible rfl⟩ | exact Or.inr ⟨by rfl, rfl⟩) hH ?_
      try simp only [Act.put, List.setIfInBounds_toArray, List.set_cons_zero, List.set_cons_succ]
      refine wpAnyH_take (i := 4) (v := _) (by simp only [List.getElem?_toArray, List.getElem?_cons_succ, List.getElem?_cons_zero]; rfl) (by kernel_rfl) (by kernel_rfl) (by kernel_rfl) (by exact fun _ _ _ h => h) (by first | exact Or.inl ⟨by rfl, by intro w hSw; go_simp; try with_reducible rfl⟩ | exact Or.inr ⟨by rfl, rfl⟩) hH ?_
      try simp only [Act.put, List.setIfInBounds_toArray, List.set_cons_zero, List.set_cons_succ]
      refine wpAnyH_take (i := 5) (v := _) (by simp only [List.getElem?_toArray, List.getElem?_cons_succ, List.getElem?_cons_zero]; rfl) (by kernel_rfl) (by kernel_rfl) (by kernel_rfl) (by exact fun _ _ _ h => h) (by first | exact Or.inl ⟨by rfl, by intro w hSw; go_simp; try with_reducible rfl⟩ | exact Or.inr ⟨by rfl, rfl⟩) hH ?_
      try simp only [Act.put, List.setIfInBounds_toArray, List.set_cons_zero, List.set_cons_succ]
      refine wpAnyH_take (i := 7) (v := _) (by simp only [List.getElem?_toArray, List.getElem?_cons_succ, List.getElem?_cons_zero]; rfl) (by kernel_rfl) (by kernel_rfl) (by kernel_rfl) (by exact fun _ _ _ h => h) (by first | exact Or.inl ⟨by rfl, by intro w hSw; go_simp; try with_reducible rfl⟩ | exact Or.inr ⟨by rfl, rfl⟩) hH ?_
      try simp only [Act.put, List.setIfInBounds_toArray, List.set_cons_zero, List.set_cons_succ]
      refine wpAnyH_take (i := 8) (v := _) (by simp only [List.getElem?_toArray, List.getElem?_cons_succ, List.getElem?_cons_zero]; rfl) (by kernel_rfl) (by kernel_rfl) (by kernel_rfl) (by exact fun _ _ _ h => h) (by first | exact Or.inl ⟨by rfl, by intro w hSw; go_simp; try with_reducible rfl⟩ | exact Or.inr ⟨by rfl, rfl⟩) hH ?_
      try simp only [Act.put, List.setIfInBounds_toArray, List.set_cons_zero, List.set_cons_succ]
      refine wpAnyH_take (i := 9) (v := _) (by simp only [List.getElem?_toArray, List.getElem?_cons_succ, List.getElem?_cons_zero]; rfl) (by kernel_rfl) (by kernel_rfl) (by kernel_rfl) (by exact fun _ _ _ h => h) (by first | exact Or.inl ⟨by rfl, by intro w hSw; go_simp; try with_reducible rfl⟩ | exact Or.inr ⟨by rfl, rfl⟩) hH ?_
      try simp only [Act.put, List.setIfInBounds_toArray, List.set_cons_zero, List.set_cons_succ]
      refine wpAnyH_take (i := 10) (v := _) (by simp only [List.getElem?_toArray, List.getElem?_cons_succ, List.getElem?_cons_zero]; rfl) (by kernel_rfl) (by kernel_rfl) (by kernel_rfl) (by exact fun _ _ _ h => h) (by first | exact Or.inl ⟨by rfl, by intro w hSw; go_simp; try with_reducible rfl⟩ | exact Or.inr ⟨by rfl, rfl⟩) hH ?_
      try simp only [Act.put, List.setIfInBounds_toArray, List.set_cons_zero, List.set_cons_succ]
      refine wpAnyH_ready (rs := [6]) (by kernel_rfl) (by simp) ?_
      refine AllReadyH.cons rfl (fun K hK => ?_) AllReadyH.nil
      go_simp
      (refine (disk_Down s g W R _ (HP1.out.disk.below (by assumption))).mono ?_); rintro e w' ⟨rfl, rfl⟩; rw [HSD.out]; go_simp
      refine hK.out _ _ (by assumption) (fun hH => ?_)
      clear hK K
      try simp only [Act.put, List.setIfInBounds_toArray, List.set_cons_zero, List.set_cons_succ]
      refine wpAnyH_take (i := 11) (v := _) (by simp only [List.getElem?_toArray, List.getElem?_cons_succ, List.getElem?_cons_zero]; rfl) (by kernel_rfl) (by kernel_rfl) (by kernel_rfl) (by exact fun _ _ _ h => h) (by first | exact Or.inl ⟨by rfl, by intro w hSw; go_simp; try with_reducible rfl⟩ | exact Or.inr ⟨by rfl, rfl⟩) hH ?_
      try simp only [Act.put, List.setIfInBounds_toArray, List.set_cons_zero, List.set_cons_succ]
      refine wpAnyH_take (i := 12) (v := _) (by simp only [List.getElem?_toArray, List.getElem?_cons_succ, List.getElem?_cons_zero]; rfl) (by kernel_rfl) (by kernel_rfl) (by kernel_rfl) (by exact fun _ _ _ h => h) (by first | exact Or.inl ⟨by rfl, by intro w hSw; go_simp; try with_reducible rfl⟩ | exact Or.inr ⟨by rfl, rfl⟩) hH ?_
      try simp only [Act.put, List.setIfInBounds_toArray, List.set_cons_zero, List.set_cons_succ]
      refine wpAnyH_take (i := 13) (v := _) (by simp only [List.getElem?_toArray, List.getElem?_cons_succ, List.getElem?_cons_zero]; rfl) (by kernel_rfl) (by kernel_rfl) (by kernel_rfl) (by exact fun _ _ _ h => h) (by first | exact Or.inl ⟨by rfl, by intro w hSw; go_simp; try with_reducible rfl⟩ | exact Or.inr ⟨by rfl, rfl⟩) hH ?_
      try simp only [Act.put, List.setIfInBounds_toArray, List.set_cons_zero, List.set_cons_succ]
      refine wpAnyH_take (i := 14) (v := _) (by simp only [List.getElem?_toArray, List.getElem?_cons_succ, List.getElem?_cons_zero]; rfl) (by kernel_rfl) (by kernel_rfl) (by kernel_rfl) (by exact fun _ _ _ h => h) (by first | exact Or.inl ⟨by rfl, by intro w hSw; go_simp; try with_reducible rfl⟩ | exact Or.inr ⟨by rfl, rfl⟩) hH ?_
      try simp only [Act.put, List.setIfInBounds_toArray, List.set_cons_zero, List.set_cons_succ]
      refine wpAnyH_take (i := 16) (v := _) (by simp only [List.getElem?_toArray, List.getElem?_cons_succ, List.getElem?_cons_zero]; rfl) (by kernel_rfl) (by kernel_rfl) (by kernel_rfl) (by exact fun _ _ _ h => h) (by first | exact Or.inl ⟨by rfl, by intro w hSw; go_simp; try with_reducible rfl⟩ | exact Or.inr ⟨by rfl, rfl⟩) hH ?_
      try simp only [Act.put, List.setIfInBounds_toArray, List.set_cons_zero, List.set_cons_succ]
      refine wpAnyH_take (i := 17) (v := _) (by simp only [List.getElem?_toArray, List.getElem?_cons_succ, List.getElem?_cons_zero]; rfl) (by kernel_rfl) (by kernel_rfl) (by kernel_rfl) (by exact fun _ _ _ h => h) (by first | exact Or.inl ⟨by rfl, by intro w hSw; go_simp; try with_reducible rfl⟩ | exact Or.inr ⟨by rfl, rfl⟩) hH ?_
      try simp only [Act.put, List.setIfInBounds_toArray, List.set_cons_zero, List.set_cons_succ]
      refine wpAnyH_take (i := 18) (v := _) (by simp only [List.getElem?_toArray, List.getElem?_cons_succ, List.getElem?_cons_zero]; rfl) (by kernel_rfl) (by kernel_rfl) (by kernel_rfl) (by exact fun _ _ _ h => h) (by first | exact Or.inl ⟨by rfl, by intro w hSw; go_simp; try with_reducible rfl⟩ | exact Or.inr ⟨by rfl, rfl⟩) hH ?_
      try simp only [Act.put, List.setIfInBounds_toArray, List.set_cons_zero, List.set_cons_succ]
      refine wpAnyH_take (i := 19) (v := _) (by simp only [List.getElem?_toArray, List.getElem?_cons_succ, List.getElem?_cons_zero]; rfl) (by kernel_rfl) (by kernel_rfl) (by kernel_rfl) (by exact fun _ _ _ h => h) (by first | exact Or.inl ⟨by rfl, by intro w hSw; go_simp; try with_reducible rfl⟩ | exact Or.inr ⟨by rfl, rfl⟩) hH ?_
      try simp only [Act.put, List.setIfInBounds_toArray, List.set_cons_zero, List.set_cons_succ]
      refine wpAnyH_ready (rs := [15]) (by kernel_rfl) (by simp) ?_
      refine AllReadyH.cons rfl (fun K hK => ?_) AllReadyH.nil
      go_simp
      (refine (disk_Commands s g W R _ (HP1.out.disk.below (by assumption))).mono ?_); rintro e w' ⟨rfl, rfl⟩; rw [HSN.out]; go_simp
      refine hK.out _ _ (by assumption) (fun hH => ?_)
      clear hK K
      try simp only [Act.put, List.setIfInBounds_toArray, List.set_cons_zero, List.set_cons_succ]
      refine wpAnyH_take (i := 20) (v := _) (by simp only [List.getElem?_toArray, List.getElem?_cons_succ, List.getElem?_cons_zero]; rfl) (by kernel_rfl) (by kernel_rfl) (by kernel_rfl) (by exact fun _ _ _ h => h) (by first | exact Or.inl ⟨by rfl, by intro w hSw; go_simp; try with_reducible rfl⟩ | exact Or.inr ⟨by rfl, rfl⟩) hH ?_
      try simp only [Act.put, List.setIfInBounds_toArray, List.set_cons_zero, List.set_cons_succ]
      refine wpAnyH_take (i := 21) (v := _) (by simp only [List.getElem?_toArray, List.getElem?_cons_succ, List.getElem?_cons_zero]; rfl) (by kernel_rfl) (by kernel_rfl) (by kernel_rfl) (by exact fun _ _ _ h => h) (by first | exact Or.inl ⟨by rfl, by intro w hSw; go_simp; try with_reducible rfl⟩ | exact Or.inr ⟨by rfl, rfl⟩) hH ?_
      try simp only [Act.put, List.setIfInBounds_toArray, List.set_cons_zero, List.set_cons_succ]
      refine wpAnyH_take (i := 22) (v := _) (by simp only [List.getElem?_toArray, List.getElem?_cons_succ, List.getElem?_cons_zero]; rfl) (by kernel_rfl) (by kernel_rfl) (by kernel_rfl) (by exact fun _ _ _ h => h) (by first | exact Or.inl ⟨by rfl, by intro w hSw; go_simp; try with_reducible rfl⟩ | exact Or.inr ⟨by rfl, rfl⟩) hH ?_
      try simp only [Act.put, List.setIfInBounds_toArray, List.set_cons_zero, List.set_cons_succ]
      refine wpAnyH_take (i := 23) (v := _) (by simp only [List.getElem?_toArray, List.getElem?_cons_succ, List.getElem?_cons_zero]; rfl) (by kernel_rfl) (by kernel_rfl) (by kernel_rfl) (by exact fun _ _ _ h => h) (by first | exact Or.inl ⟨by rfl, by intro w hSw; go_simp; try with_reducible rfl⟩ | exact Or.inr ⟨by rfl, rfl⟩) hH ?_
      try simp only [Act.put, List.setIfInBounds_toArray, List.set_cons_zero, List.set_cons_succ]
      refine wpAnyH_ready (rs := [24]) (by kernel_rfl) (by simp) ?_
      refine AllReadyH.cons rfl (fun K hK => ?_) AllReadyH.nil
      go_simp
      (refine (disk_Sectors s g W R _ (HP1.out.disk.below (by assumption))).mono ?_); rintro e w' ⟨rfl, rfl⟩; rw [HN6.out]; go_simp
      refine hK.out _ _ (by assumption) (fun hH => ?_)
      clear hK K
      try simp only [Act.put, List.setIfInBounds_toArray, List.set_cons_zero, List.set_cons_succ]
      refine wpAnyH_take (i := 25) (v := _) (by simp only [List.getElem?_toArray, List.getElem?_cons_succ, List.getElem?_cons_zero]; rfl) (by kernel_rfl) (by kernel_rfl) (by kernel_rfl) (by exact fun _ _ _ h => h) (by first | exact Or.inl ⟨by rfl, by intro w hSw; go_simp; try with_reducible rfl⟩ | exact Or.inr ⟨by rfl, rfl⟩) hH ?_
      try simp only [Act.put, List.setIfInBounds_toArray, List.set_cons_zero, List.set_cons_succ]
      refine wpAnyH_take (i := 26) (v := _) (by simp only [List.getElem?_toArray, List.getElem?_cons_succ, List.getElem?_cons_zero]; rfl) (by kernel_rfl) (by kernel_rfl) (by kernel_rfl) (by exact fun _ _ _ h => h) (by first | exact Or.inl ⟨by rfl, by intro w hSw; go_simp; try with_reducible rfl⟩ | exact Or.inr ⟨by rfl, rfl⟩) hH ?_
      try simp only [Act.put, List.setIfInBounds_toArray, List.set_cons_zero, List.set_cons_succ]
      refine wpAnyH_take (i := 27) (v := _) (by simp only [List.getElem?_toArray, List.getElem?_cons_succ, List.getElem?_cons_zero]; rfl) (by kernel_rfl) (by kernel_rfl) (by kernel_rfl) (by exact fun _ _ _ h => h) (by first | exact Or.inl ⟨by rfl, by intro w hSw; go_simp; try with_reducible rfl⟩ | exact Or.inr ⟨by rfl, rfl⟩) hH ?_
      try simp only [Act.put, List.setIfInBounds_toArray, List.set_cons_zero, List.set_cons_succ]
      refine wpAnyH_take (i := 28) (v := _) (by simp only [List.getElem?_toArray, List.getElem?_cons_succ, List.getElem?_cons_zero]; rfl) (by kernel_rfl) (by kernel_rfl) (by kernel_rfl) (by exact fun _ _ _ h => h) (by first | exact Or.inl ⟨by rfl, by intro w hSw; go_simp; try with_reducible rfl⟩ | exact Or.inr ⟨by rfl, rfl⟩) hH ?_
      try simp only [Act.put, List.setIfInBounds_toArray, List.set_cons_zero, List.set_cons_succ]
      refine wpAnyH_ready (rs := [29]) (by kernel_rfl) (by simp) ?_
      refine AllReadyH.cons rfl (fun K hK => ?_) AllReadyH.nil
      go_simp
      (refine (disk_Size s g W R _ (HP1.out.disk.below (by assumption))).mono ?_); rintro e w' ⟨rfl, rfl⟩; rw [HZ.out]; go_simp
      refine hK.out _ _ (by assumption) (fun hH => ?_)
      clear hK K
      try simp only [Act.put, List.setIfInBounds_toArray, List.set_cons_zero, List.set_cons_succ]
      refine wpAnyH_take (i := 30) (v := _) (by simp only [List.getElem?_toArray, List.getElem?_cons_succ, List.getElem?_cons_zero]; rfl) (by kernel_rfl) (by kernel_rfl) (by kernel_rfl) (by exact fun _ _ _ h => h) (by first | exact Or.inl ⟨by rfl, by intro w hSw; go_simp; try with_reducible rfl⟩ | exact Or.inr ⟨by rfl, rfl⟩) hH ?_
      try simp only [Act.put, List.setIfInBounds_toArray, List.set_cons_zero, List.set_cons_succ]
      refine wpAnyH_take (i := 31) (v := _) (by simp only [List.getElem?_toArray, List.getElem?_cons_succ, List.getElem?_cons_zero]; rfl) (by kernel_rfl) (by kernel_rfl) (by kernel_rfl) (by exact fun _ _ _ h => h) (by first | exact Or.inl ⟨by rfl, by intro w hSw; go_simp; try with_reducible rfl⟩ | exact Or.inr ⟨by rfl, rfl⟩) hH ?_
      try simp only [Act.put, List.setIfInBounds_toArray, List.set_cons_zero, List.set_cons_succ]
      refine wpAnyH_take (i := 32) (v := _) (by simp only [List.getElem?_toArray, List.getElem?_cons_succ, List.getElem?_cons_zero]; rfl) (by kernel_rfl) (by kernel_rfl) (by kernel_rfl) (by exact fun _ _ _ h => h) (by first | exact Or.inl ⟨by rfl, by intro w hSw; go_simp; try with_reducible rfl⟩ | exact Or.inr ⟨by rfl, rfl⟩) hH ?_
      try simp only [Act.put, List.setIfInBounds_toArray, List.set_cons_zero, List.set_cons_succ]
      refine wpAnyH_done (by kernel_rfl) ?_ _
      have HEND := hid (Below.next HB1.out hH)
      clear hq4 hq6 hd0 hH
      go_wp2_with fail
      go_ret
      exact ⟨rfl, HEND.out⟩
end Go.Proofs.Ytohknblokejldaa
end
