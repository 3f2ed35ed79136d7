/- Joined texts, in this order: DiskSame, Ref05New. Each one's first remark says what it proves; no condition beyond those that its theorems name. -/
import Derived.Test.YtohknblokejldaaJLawDiskCopies24
import Derived.Test.YtohknblokejldaaJLawDiskCopies25
import Derived.Test.YtohknblokejldaaJLawDiskCopies22
import Derived.Test.YtohknblokejldaaJLawDiskCopies15
section
/- Contract of the statements' own function same of layer 5. -/
namespace Go.Proofs.Ytohknblokejldaa
open Go.RowKit
open Go.Lib (hid)
set_option linter.unusedVariables false

/-- the sectors that the cache has, of the first k -/
def present (C : List (List UInt8)) (k : Nat) : List Int := ((List.range k).filter fun i => !(C.getD i []).isEmpty).map fun i : Nat => (i : Int)
theorem present_succ (C : List (List UInt8)) (k : Nat) : present C (k + 1) = present C k ++ (if C.getD k [] = [] then [] else [(k : Int)]) := by
  unfold present
  rw [List.range_succ, List.filter_append, List.map_append]
  congr 1
  by_cases h : C.getD k [] = []
  · rw [if_pos h]
    have : (C.getD k []).isEmpty = true := emptyT h
    simp only [List.filter_cons, this, Bool.not_true, Bool.false_eq_true, if_false, List.filter_nil, List.map_nil]
  · rw [if_neg h]
    have : (C.getD k []).isEmpty = false := emptyF h
    simp only [List.filter_cons, this, Bool.not_false, if_true, List.filter_nil, List.map_cons, List.map_nil]
theorem present_mem (C : List (List UInt8)) (k : Nat) (j : Int) : j ∈ present C k ↔ ∃ i : Nat, i < k ∧ C.getD i [] ≠ [] ∧ (i : Int) = j := by
  unfold present
  rw [List.mem_map]
  constructor
  · rintro ⟨i, hi, rfl⟩
    rw [List.mem_filter, List.mem_range] at hi
    exact ⟨i, hi.1, fun e => by rw [e] at hi; simp at hi, rfl⟩
  · rintro ⟨i, h1, h2, rfl⟩
    exact ⟨i, by rw [List.mem_filter, List.mem_range]; exact ⟨h1, by rw [emptyF h2]; rfl⟩, rfl⟩
theorem present_sorted (C : List (List UInt8)) (k : Nat) : (present C k).Pairwise (· < ·) := by
  unfold present
  rw [List.pairwise_map]
  exact (List.pairwise_lt_range.filter _).imp (fun h => by omega)
theorem present_pre (C : List (List UInt8)) (k m : Nat) (h : k ≤ m) : ∃ r, present C m = present C k ++ r := by
  induction m with
  | zero => obtain rfl : k = 0 := by omega
            exact ⟨[], by simp⟩
  | succ m ih =>
    by_cases hk : k ≤ m
    · obtain ⟨r, hr⟩ := ih hk
      exact ⟨_, by rw [present_succ, hr, List.append_assoc]⟩
    · obtain rfl : k = m + 1 := by omega
      exact ⟨[], by simp⟩
theorem sorted_nodup {l : List Int} (h : l.Pairwise (· < ·)) : l.Nodup := h.imp (fun hab => by omega)
theorem keys_present {s : Dk} {x : Rf} (h : RfRel s x) (hok : s.Ok) (hn : (s.C.map (·.1)).Nodup) : keysL s.C = present x.C s.D.length := by
  have hperm : (s.C.map (·.1)).Perm (present x.C s.D.length) := by
    refine (List.perm_ext_iff_of_nodup hn (sorted_nodup (present_sorted _ _))).2 fun j => ?_
    rw [present_mem, List.mem_map]
    constructor
    · rintro ⟨p, hp, rfl⟩
      have hl := (lookup_mem_iff hn).2 (show (p.1, p.2) ∈ s.C from hp)
      obtain ⟨h0, h1, -, h3⟩ := hok.lookup hl
      refine ⟨p.1.toNat, by omega, ?_, by omega⟩
      rw [h.C _ (by omega), show ((p.1.toNat : Nat) : Int) = p.1 by omega, hl]
      exact h3
    · rintro ⟨i, h0, h1, rfl⟩
      rw [h.C i h0] at h1
      cases hl : s.C.lookup (i : Int) with
      | none => rw [hl] at h1; exact absurd rfl h1
      | some b => exact ⟨_, lookup_mem hl, rfl⟩
  have h1 : keysL s.C = (present x.C s.D.length).mergeSort (fun x y => decide (x ≤ y)) := mergeSort_of_perm_i hperm
  rw [h1]
  apply List.mergeSort_of_pairwise
  exact (present_sorted _ _).imp (fun hab => by simp; omega)
def SmeL (C : List (List UInt8)) (v6 v16 : Value) : Prop := ∃ k : Nat, v16 = .int .i64 k ∧ v6 = .int .i64 ((present C k).length : Int) ∧ k ≤ 6
set_option maxRecDepth 100000 in
set_option maxHeartbeats 4000000 in
theorem law05_same (g : Nat) (W R : Nat → Prop) (p : RfP) (s : Dk) (x : Rf) (N : Nat) (hN : N ≤ 1000) (w : World) (P : DSt w g W R p s x N) :
    Calls Try.prog 42 #[.pointer (some ⟨g, 0, none⟩), .pointer (some ⟨p.g, 0, none⟩)] w fun e w' => e = .returned (.bool true) ∧ Below w.heap.size w w' := by
  have HP := hid P
  have hnd : (s.C.map (·.1)).Nodup := by
    obtain ⟨b, dv, V, M, hd⟩ := P.disk
    have := hd.map.nodup
    rw [← hd.eqC, List.map_map]
    rw [List.map_map] at this
    exact this
  have hkp := keys_present P.rel P.ok hnd
  rw [P.n6] at hkp
  have HCA := hid (disk_Cached s P.ok (by have := P.cl; omega) g W R w P.disk)
  have HKP := hid hkp
  have hc6 : x.C.length = 6 := by have := P.len; omega
  have HC6 := hid hc6
  clear P hnd hkp hc6
  go_enter Try.func42, Try.ntmps42
  go_wp2_with fail
  refine HCA.out.mono ?_
  rintro e w1 ⟨v5, rfl, hown, hb1⟩
  rw [HKP.out] at hown
  obtain ⟨ks, hks⟩ : ∃ ks, present x.C 6 = ks := ⟨_, rfl⟩
  rw [hks] at hown
  have HKS := hid hks
  obtain ⟨al, cl, rfl, -, -, hrd, -⟩ := ownsRow.rd hown
  have HRD := hid hrd
  have HB1 := hid hb1
  have HP1 := hid (HP.out.below hb1)
  have hksl : ks.length ≤ 6 := by
    have h1 : ks.length = (present x.C 6).length := by rw [hks]
    rw [h1]
    unfold present
    rw [List.length_map]
    have := List.length_filter_le (fun i => !(x.C.getD i []).isEmpty) (List.range 6)
    rw [List.length_range] at this
    exact this
  obtain ⟨-, hc1, -, -, hc4, -, hc6⟩ := HP1.out.ref.cells
  simp only [HC6.out] at hc1
  clear hown hrd hb1 hks
  go_wp2_with fail
  go_loop [6, 16] (fun v6 v16 => SmeL x.C v6 v16) (fun _ v16 => 6 - (intOf v16).toNat)
  case atStart => exact ⟨0, rfl, rfl, by omega⟩
  case round =>
    obtain ⟨k, rfl, rfl, hk⟩ := hrel
    by_cases hlt : k < 6
    · have hsu := present_succ x.C k
      obtain ⟨r, hr⟩ := present_pre x.C (k + 1) 6 (by omega)
      obtain ⟨hkc, -⟩ := HP1.out.ref.atC k (by rw [HC6.out]; exact hlt)
      have hE := strE (x.C.getD k [])
      obtain ⟨q, hq⟩ : ∃ q : ByteArray, q = ⟨(x.C.getD k []).toArray⟩ := ⟨_, rfl⟩
      rw [← hq] at hkc hE
      have k0 : (0 : Int) ≤ (k : Int) := by omega
      have k1 : (k : Int) < 6 := by omega
      by_cases hz : x.C.getD k [] = []
      · rw [if_pos hz, List.append_nil] at hsu
        rw [emptyT hz] at hE
        have HSU := hid hsu
        clear hz hq hr hsu
        obtain ⟨m, hm⟩ : ∃ m, (present x.C k).length = m := ⟨_, rfl⟩
        have HM := hid hm
        rw [hm]
        clear hm
        go_wp2_with fail
        go_round
        case rel => exact ⟨k + 1, by go_num, by rw [HSU.out, HM.out], by omega⟩
        case measure => simp [intOf]; omega
      · rw [if_neg hz] at hsu
        rw [emptyF hz] at hE
        rw [hsu, HKS.out] at hr
        obtain ⟨m, hm⟩ : ∃ m, (present x.C k).length = m := ⟨_, rfl⟩
        have hml : m < ks.length := by rw [hr, ← hm]; simp
        have hat : ks[m]? = some (k : Int) := by rw [hr, ← hm]; simp
        obtain ⟨bu, ou, z, rfl, hcz, hz2, -⟩ := HRD.out.int m hml
        rw [hat] at hz2
        obtain rfl : (k : Int) = z := Option.some.inj hz2
        have HSU : Hid ((present x.C (k + 1)).length = m + 1) := hid (by rw [hsu, List.length_append, hm]; rfl)
        rw [hm]
        have m0 : (0 : Int) ≤ (m : Int) := by omega
        have m1 : (m : Int) < (ks.length : Int) := by omega
        clear hz hq hr hsu hat hz2 hm hml
        go_wp2_with fail
        go_round
        case rel => exact ⟨k + 1, by go_num, by rw [HSU.out]; go_num, by omega⟩
        case measure => simp [intOf]; omega
    · have hk6 : k = 6 := by omega
      subst hk6
      rw [HKS.out]
      have hd0 := (Below.refl w1.heap.size w1).drew
      have hq4 : ∀ y, Below w1.heap.size w1 y → y.cell? ⟨p.g, 4, none⟩ = some (.bool s.down) := fun y hy => by have := (HP1.out.ref.below hy).cells.2.2.2.2.1; rw [HP1.out.rel.down] at this; exact this
      have hq6 : ∀ y, Below w1.heap.size w1 y → y.cell? ⟨p.g, 6, none⟩ = some (.int .i64 s.done) := fun y hy => by have := (HP1.out.ref.below hy).cells.2.2.2.2.2.2; rw [HP1.out.rel.done] at this; exact this
      have HN6 := hid HP1.out.n6
      have HZ := hid HP1.out.sz
      obtain ⟨sd, hsd⟩ : ∃ sd, s.down = sd := ⟨_, rfl⟩
      obtain ⟨sn, hsn⟩ : ∃ sn, s.done = sn := ⟨_, rfl⟩
      have HSD := hid hsd
      have HSN := hid hsn
      rw [hsd] at hq4
      rw [hsn] at hq6
      clear hc1 hc4 hc6 hk hsd hsn
      go_wp2_with fail
      refine wp_region_held_drew (S := (fun y => Below w1.heap.size w1 y)) (by kernel_rfl) (by assumption) (fun hH => ?_)
      refine wpAnyH_take (i := 0) (v := _) (by simp only [List.getElem?_toArray, List.getElem?_cons_succ, List.getElem?_cons_zero]; rfl) (by kernel_rfl) (by kernel_rfl) (by kernel_rfl) (by exact fun _ _ _ h => h) (by first | exact Or.inl ⟨by rfl, by intro w hSw; go_simp; try with_reducible rfl⟩ | exact Or.inr ⟨by rfl, rfl⟩) hH ?_
      try simp only [Act.put, List.setIfInBounds_toArray, List.set_cons_zero, List.set_cons_succ]
      refine wpAnyH_take (i := 1) (v := _) (by simp only [List.getElem?_toArray, List.getElem?_cons_succ, List.getElem?_cons_zero]; rfl) (by kernel_rfl) (by kernel_rfl) (by kernel_rfl) (by exact fun _ _ _ h => h) (by first | exact Or.inl ⟨by rfl, by intro w hSw; go_simp; try with_reducible rfl⟩ | exact Or.inr ⟨by rfl, rfl⟩) hH ?_
      try simp only [Act.put, List.setIfInBounds_toArray, List.set_cons_zero, List.set_cons_succ]
      refine wpAnyH_take (i := 2) (v := _) (by simp only [List.getElem?_toArray, List.getElem?_cons_succ, List.getElem?_cons_zero]; rfl) (by kernel_rfl) (by kernel_rfl) (by kernel_rfl) (by exact fun _ _ _ h => h) (by first | exact Or.inl ⟨by rfl, by intro w hSw; go_simp; try with_reducible rfl⟩ | exact Or.inr ⟨by rfl, rfl⟩) hH ?_
      try simp only [Act.put, List.setIfInBounds_toArray, List.set_cons_zero, List.set_cons_succ]
      refine wpAnyH_take (i := 3) (v := _) (by simp only [List.getElem?_toArray, List.getElem?_cons_succ, List.getElem?_cons_zero]; rfl) (by kernel_rfl) (by kernel_rfl) (by kernel_rfl) (by exact fun _ _ _ h => h) (by first | exact Or.inl ⟨by rfl, by intro w hSw; go_simp; try with_reducible rfl⟩ | exact Or.inr ⟨by rfl, rfl⟩) hH ?_
      try simp only [Act.put, List.setIfInBounds_toArray, List.set_cons_zero, List.set_cons_succ]
      refine wpAnyH_take (i := 4) (v := _) (by simp only [List.getElem?_toArray, List.getElem?_cons_succ, List.getElem?_cons_zero]; rfl) (by kernel_rfl) (by kernel_rfl) (by kernel_rfl) (by exact fun _ _ _ h => h) (by first | exact Or.inl ⟨by rfl, by intro w hSw; go_simp; try with_reducible rfl⟩ | exact Or.inr ⟨by rfl, rfl⟩) hH ?_
      try simp only [Act.put, List.setIfInBounds_toArray, List.set_cons_zero, List.set_cons_succ]
      refine wpAnyH_take (i := 5) (v := _) (by simp only [List.getElem?_toArray, List.getElem?_cons_succ, List.getElem?_cons_zero]; rfl) (by kernel_rfl) (by kernel_rfl) (by kernel_rfl) (by exact fun _ _ _ h => h) (by first | exact Or.inl ⟨by rfl, by intro w hSw; go_simp; try with_reducible rfl⟩ | exact Or.inr ⟨by rfl, rfl⟩) hH ?_
      try simp only [Act.put, List.setIfInBounds_toArray, List.set_cons_zero, List.set_cons_succ]
      refine wpAnyH_take (i := 7) (v := _) (by simp only [List.getElem?_toArray, List.getElem?_cons_succ, List.getElem?_cons_zero]; rfl) (by kernel_rfl) (by kernel_rfl) (by kernel_rfl) (by exact fun _ _ _ h => h) (by first | exact Or.inl ⟨by rfl, by intro w hSw; go_simp; try with_reducible rfl⟩ | exact Or.inr ⟨by rfl, rfl⟩) hH ?_
      try simp only [Act.put, List.setIfInBounds_toArray, List.set_cons_zero, List.set_cons_succ]
      refine wpAnyH_take (i := 8) (v := _) (by simp only [List.getElem?_toArray, List.getElem?_cons_succ, List.getElem?_cons_zero]; rfl) (by kernel_rfl) (by kernel_rfl) (by kernel_rfl) (by exact fun _ _ _ h => h) (by first | exact Or.inl ⟨by rfl, by intro w hSw; go_simp; try with_reducible rfl⟩ | exact Or.inr ⟨by rfl, rfl⟩) hH ?_
      try simp only [Act.put, List.setIfInBounds_toArray, List.set_cons_zero, List.set_cons_succ]
      refine wpAnyH_take (i := 9) (v := _) (by simp only [List.getElem?_toArray, List.getElem?_cons_succ, List.getElem?_cons_zero]; rfl) (by kernel_rfl) (by kernel_rfl) (by kernel_rfl) (by exact fun _ _ _ h => h) (by first | exact Or.inl ⟨by rfl, by intro w hSw; go_simp; try with_reducible rfl⟩ | exact Or.inr ⟨by rfl, rfl⟩) hH ?_
      try simp only [Act.put, List.setIfInBounds_toArray, List.set_cons_zero, List.set_cons_succ]
      refine wpAnyH_take (i := 10) (v := _) (by simp only [List.getElem?_toArray, List.getElem?_cons_succ, List.getElem?_cons_zero]; rfl) (by kernel_rfl) (by kernel_rfl) (by kernel_rfl) (by exact fun _ _ _ h => h) (by first | exact Or.inl ⟨by rfl, by intro w hSw; go_simp; try with_reducible rfl⟩ | exact Or.inr ⟨by rfl, rfl⟩) hH ?_
      try simp only [Act.put, List.setIfInBounds_toArray, List.set_cons_zero, List.set_cons_succ]
      refine wpAnyH_ready (rs := [6]) (by kernel_rfl) (by simp) ?_
      refine AllReadyH.cons rfl (fun K hK => ?_) AllReadyH.nil
      go_simp
      (refine (disk_Down s g W R _ (HP1.out.disk.below (by assumption))).mono ?_); rintro e w' ⟨rfl, rfl⟩; rw [HSD.out]; go_simp
      refine hK.out _ _ (by assumption) (fun hH => ?_)
      clear hK K
      try simp only [Act.put, List.setIfInBounds_toArray, List.set_cons_zero, List.set_cons_succ]
      refine wpAnyH_take (i := 11) (v := _) (by simp only [List.getElem?_toArray, List.getElem?_cons_succ, List.getElem?_cons_zero]; rfl) (by kernel_rfl) (by kernel_rfl) (by kernel_rfl) (by exact fun _ _ _ h => h) (by first | exact Or.inl ⟨by rfl, by intro w hSw; go_simp; try with_reducible rfl⟩ | exact Or.inr ⟨by rfl, rfl⟩) hH ?_
      try simp only [Act.put, List.setIfInBounds_toArray, List.set_cons_zero, List.set_cons_succ]
      refine wpAnyH_take (i := 12) (v := _) (by simp only [List.getElem?_toArray, List.getElem?_cons_succ, List.getElem?_cons_zero]; rfl) (by kernel_rfl) (by kernel_rfl) (by kernel_rfl) (by exact fun _ _ _ h => h) (by first | exact Or.inl ⟨by rfl, by intro w hSw; go_simp; try with_reducible rfl⟩ | exact Or.inr ⟨by rfl, rfl⟩) hH ?_
      try simp only [Act.put, List.setIfInBounds_toArray, List.set_cons_zero, List.set_cons_succ]
      refine wpAnyH_take (i := 13) (v := _) (by simp only [List.getElem?_toArray, List.getElem?_cons_succ, List.getElem?_cons_zero]; rfl) (by kernel_rfl) (by kernel_rfl) (by kernel_rfl) (by exact fun _ _ _ h => h) (by first | exact Or.inl ⟨by rfl, by intro w hSw; go_simp; try with_reducible rfl⟩ | exact Or.inr ⟨by rfl, rfl⟩) hH ?_
      try simp only [Act.put, List.setIfInBounds_toArray, List.set_cons_zero, List.set_cons_succ]
      refine wpAnyH_take (i := 14) (v := _) (by simp only [List.getElem?_toArray, List.getElem?_cons_succ, List.getElem?_cons_zero]; rfl) (by kernel_rfl) (by kernel_rfl) (by kernel_rfl) (by exact fun _ _ _ h => h) (by first | exact Or.inl ⟨by rfl, by intro w hSw; go_simp; try with_reducible rfl⟩ | exact Or.inr ⟨by rfl, rfl⟩) hH ?_
      try simp only [Act.put, List.setIfInBounds_toArray, List.set_cons_zero, List.set_cons_succ]
      refine wpAnyH_take (i := 16) (v := _) (by simp only [List.getElem?_toArray, List.getElem?_cons_succ, List.getElem?_cons_zero]; rfl) (by kernel_rfl) (by kernel_rfl) (by kernel_rfl) (by exact fun _ _ _ h => h) (by first | exact Or.inl ⟨by rfl, by intro w hSw; go_simp; try with_reducible rfl⟩ | exact Or.inr ⟨by rfl, rfl⟩) hH ?_
      try simp only [Act.put, List.setIfInBounds_toArray, List.set_cons_zero, List.set_cons_succ]
      refine wpAnyH_take (i := 17) (v := _) (by simp only [List.getElem?_toArray, List.getElem?_cons_succ, List.getElem?_cons_zero]; rfl) (by kernel_rfl) (by kernel_rfl) (by kernel_rfl) (by exact fun _ _ _ h => h) (by first | exact Or.inl ⟨by rfl, by intro w hSw; go_simp; try with_reducible rfl⟩ | exact Or.inr ⟨by rfl, rfl⟩) hH ?_
      try simp only [Act.put, List.setIfInBounds_toArray, List.set_cons_zero, List.set_cons_succ]
      refine wpAnyH_take (i := 18) (v := _) (by simp only [List.getElem?_toArray, List.getElem?_cons_succ, List.getElem?_cons_zero]; rfl) (by kernel_rfl) (by kernel_rfl) (by kernel_rfl) (by exact fun _ _ _ h => h) (by first | exact Or.inl ⟨by rfl, by intro w hSw; go_simp; try with_reducible rfl⟩ | exact Or.inr ⟨by rfl, rfl⟩) hH ?_
      try simp only [Act.put, List.setIfInBounds_toArray, List.set_cons_zero, List.set_cons_succ]
      refine wpAnyH_take (i := 19) (v := _) (by simp only [List.getElem?_toArray, List.getElem?_cons_succ, List.getElem?_cons_zero]; rfl) (by kernel_rfl) (by kernel_rfl) (by kernel_rfl) (by exact fun _ _ _ h => h) (by first | exact Or.inl ⟨by rfl, by intro w hSw; go_simp; try with_reducible rfl⟩ | exact Or.inr ⟨by rfl, rfl⟩) hH ?_
      try simp only [Act.put, List.setIfInBounds_toArray, List.set_cons_zero, List.set_cons_succ]
      refine wpAnyH_ready (rs := [15]) (by kernel_rfl) (by simp) ?_
      refine AllReadyH.cons rfl (fun K hK => ?_) AllReadyH.nil
      go_simp
      (refine (disk_Commands s g W R _ (HP1.out.disk.below (by assumption))).mono ?_); rintro e w' ⟨rfl, rfl⟩; rw [HSN.out]; go_simp
      refine hK.out _ _ (by assumption) (fun hH => ?_)
      clear hK K
      try simp only [Act.put, List.setIfInBounds_toArray, List.set_cons_zero, List.set_cons_succ]
      refine wpAnyH_take (i := 20) (v := _) (by simp only [List.getElem?_toArray, List.getElem?_cons_succ, List.getElem?_cons_zero]; rfl) (by kernel_rfl) (by kernel_rfl) (by kernel_rfl) (by exact fun _ _ _ h => h) (by first | exact Or.inl ⟨by rfl, by intro w hSw; go_simp; try with_reducible rfl⟩ | exact Or.inr ⟨by rfl, rfl⟩) hH ?_
      try simp only [Act.put, List.setIfInBounds_toArray, List.set_cons_zero, List.set_cons_succ]
      refine wpAnyH_take (i := 21) (v := _) (by simp only [List.getElem?_toArray, List.getElem?_cons_succ, List.getElem?_cons_zero]; rfl) (by kernel_rfl) (by kernel_rfl) (by kernel_rfl) (by exact fun _ _ _ h => h) (by first | exact Or.inl ⟨by rfl, by intro w hSw; go_simp; try with_reducible rfl⟩ | exact Or.inr ⟨by rfl, rfl⟩) hH ?_
      try simp only [Act.put, List.setIfInBounds_toArray, List.set_cons_zero, List.set_cons_succ]
      refine wpAnyH_take (i := 22) (v := _) (by simp only [List.getElem?_toArray, List.getElem?_cons_succ, List.getElem?_cons_zero]; rfl) (by kernel_rfl) (by kernel_rfl) (by kernel_rfl) (by exact fun _ _ _ h => h) (by first | exact Or.inl ⟨by rfl, by intro w hSw; go_simp; try with_reducible rfl⟩ | exact Or.inr ⟨by rfl, rfl⟩) hH ?_
      try simp only [Act.put, List.setIfInBounds_toArray, List.set_cons_zero, List.set_cons_succ]
      refine wpAnyH_take (i := 23) (v := _) (by simp only [List.getElem?_toArray, List.getElem?_cons_succ, List.getElem?_cons_zero]; rfl) (by kernel_rfl) (by kernel_rfl) (by kernel_rfl) (by exact fun _ _ _ h => h) (by first | exact Or.inl ⟨by rfl, by intro w hSw; go_simp; try with_reducible rfl⟩ | exact Or.inr ⟨by rfl, rfl⟩) hH ?_
      try simp only [Act.put, List.setIfInBounds_toArray, List.set_cons_zero, List.set_cons_succ]
      refine wpAnyH_ready (rs := [24]) (by kernel_rfl) (by simp) ?_
      refine AllReadyH.cons rfl (fun K hK => ?_) AllReadyH.nil
      go_simp
      (refine (disk_Sectors s g W R _ (HP1.out.disk.below (by assumption))).mono ?_); rintro e w' ⟨rfl, rfl⟩; rw [HN6.out]; go_simp
      refine hK.out _ _ (by assumption) (fun hH => ?_)
      clear hK K
      try simp only [Act.put, List.setIfInBounds_toArray, List.set_cons_zero, List.set_cons_succ]
      refine wpAnyH_take (i := 25) (v := _) (by simp only [List.getElem?_toArray, List.getElem?_cons_succ, List.getElem?_cons_zero]; rfl) (by kernel_rfl) (by kernel_rfl) (by kernel_rfl) (by exact fun _ _ _ h => h) (by first | exact Or.inl ⟨by rfl, by intro w hSw; go_simp; try with_reducible rfl⟩ | exact Or.inr ⟨by rfl, rfl⟩) hH ?_
      try simp only [Act.put, List.setIfInBounds_toArray, List.set_cons_zero, List.set_cons_succ]
      refine wpAnyH_take (i := 26) (v := _) (by simp only [List.getElem?_toArray, List.getElem?_cons_succ, List.getElem?_cons_zero]; rfl) (by kernel_rfl) (by kernel_rfl) (by kernel_rfl) (by exact fun _ _ _ h => h) (by first | exact Or.inl ⟨by rfl, by intro w hSw; go_simp; try with_reducible rfl⟩ | exact Or.inr ⟨by rfl, rfl⟩) hH ?_
      try simp only [Act.put, List.setIfInBounds_toArray, List.set_cons_zero, List.set_cons_succ]
      refine wpAnyH_take (i := 27) (v := _) (by simp only [List.getElem?_toArray, List.getElem?_cons_succ, List.getElem?_cons_zero]; rfl) (by kernel_rfl) (by kernel_rfl) (by kernel_rfl) (by exact fun _ _ _ h => h) (by first | exact Or.inl ⟨by rfl, by intro w hSw; go_simp; try with_reducible rfl⟩ | exact Or.inr ⟨by rfl, rfl⟩) hH ?_
      try simp only [Act.put, List.setIfInBounds_toArray, List.set_cons_zero, List.set_cons_succ]
      refine wpAnyH_take (i := 28) (v := _) (by simp only [List.getElem?_toArray, List.getElem?_cons_succ, List.getElem?_cons_zero]; rfl) (by kernel_rfl) (by kernel_rfl) (by kernel_rfl) (by exact fun _ _ _ h => h) (by first | exact Or.inl ⟨by rfl, by intro w hSw; go_simp; try with_reducible rfl⟩ | exact Or.inr ⟨by rfl, rfl⟩) hH ?_
      try simp only [Act.put, List.setIfInBounds_toArray, List.set_cons_zero, List.set_cons_succ]
      refine wpAnyH_ready (rs := [29]) (by kernel_rfl) (by simp) ?_
      refine AllReadyH.cons rfl (fun K hK => ?_) AllReadyH.nil
      go_simp
      (refine (disk_Size s g W R _ (HP1.out.disk.below (by assumption))).mono ?_); rintro e w' ⟨rfl, rfl⟩; rw [HZ.out]; go_simp
      refine hK.out _ _ (by assumption) (fun hH => ?_)
      clear hK K
      try simp only [Act.put, List.setIfInBounds_toArray, List.set_cons_zero, List.set_cons_succ]
      refine wpAnyH_take (i := 30) (v := _) (by simp only [List.getElem?_toArray, List.getElem?_cons_succ, List.getElem?_cons_zero]; rfl) (by kernel_rfl) (by kernel_rfl) (by kernel_rfl) (by exact fun _ _ _ h => h) (by first | exact Or.inl ⟨by rfl, by intro w hSw; go_simp; try with_reducible rfl⟩ | exact Or.inr ⟨by rfl, rfl⟩) hH ?_
      try simp only [Act.put, List.setIfInBounds_toArray, List.set_cons_zero, List.set_cons_succ]
      refine wpAnyH_take (i := 31) (v := _) (by simp only [List.getElem?_toArray, List.getElem?_cons_succ, List.getElem?_cons_zero]; rfl) (by kernel_rfl) (by kernel_rfl) (by kernel_rfl) (by exact fun _ _ _ h => h) (by first | exact Or.inl ⟨by rfl, by intro w hSw; go_simp; try with_reducible rfl⟩ | exact Or.inr ⟨by rfl, rfl⟩) hH ?_
      try simp only [Act.put, List.setIfInBounds_toArray, List.set_cons_zero, List.set_cons_succ]
      refine wpAnyH_take (i := 32) (v := _) (by simp only [List.getElem?_toArray, List.getElem?_cons_succ, List.getElem?_cons_zero]; rfl) (by kernel_rfl) (by kernel_rfl) (by kernel_rfl) (by exact fun _ _ _ h => h) (by first | exact Or.inl ⟨by rfl, by intro w hSw; go_simp; try with_reducible rfl⟩ | exact Or.inr ⟨by rfl, rfl⟩) hH ?_
      try simp only [Act.put, List.setIfInBounds_toArray, List.set_cons_zero, List.set_cons_succ]
      refine wpAnyH_done (by kernel_rfl) ?_ _
      have HEND := hid (Below.next HB1.out hH)
      clear hq4 hq6 hd0 hH
      go_wp2_with fail
      go_ret
      exact ⟨rfl, HEND.out⟩
end Go.Proofs.Ytohknblokejldaa
end
section
/- Contract of the document's disk: New. -/
namespace Go.Proofs.Ytohknblokejldaa
open Go.RowKit
open Go.Lib (hid)
set_option linter.unusedVariables false

def NewL (w : World) (v6 : Value) (wr : World) : Prop :=
  ∃ (k : Nat) (vD vC : Value), v6 = .int .i64 k ∧ k ≤ 6 ∧ Blk wr w.heap.size #[vD, vC, .int .i64 16, .bool false, .bool false, .int .i64 0, .int .i64 0] ∧ wr.ownsRow (w.heap.size + 1) 9 1 vD k (sv (List.replicate k (List.replicate 16 0))) ∧ wr.ownsRow (w.heap.size + 1) 9 1 vC k (sv (List.replicate k [])) ∧
    (∀ j, vD.ownBlock = some j → vC.ownBlock ≠ some j) ∧ Below w.heap.size w wr
def NewI (v7 v8 : Value) : Prop := ∃ (j : Nat) (q : ByteArray), v8 = .int .i64 j ∧ v7 = .string q ∧ j ≤ 16 ∧ q.data.toList = List.replicate j 0
theorem Blk.upd2 {S : Nat → Prop} {w w' : World} {g : Nat} {cs : Array Value} (hb : Blk w g cs) (h : Upd S w w') (hn : ¬ S g) : Blk w' g cs := Blk.upd h hb hn
set_option maxRecDepth 100000 in
set_option maxHeartbeats 4000000 in
theorem rf_New (w : World) : Calls Try.prog 40 #[.int .i64 6, .int .i64 16] w fun e w' => ∃ p : RfP, e = .returned (.pointer (some ⟨p.g, 0, none⟩)) ∧ RfIs w' p (rfNew 6 16) ∧ (∀ k, RfW p k → w.heap.size ≤ k) ∧ Below w.heap.size w w' := by
  obtain ⟨w0, hw0⟩ : ∃ w0, w0 = w.alloc (.cells #[.slice none 0 0, .slice none 0 0, .int .i64 16, .bool false, .bool false, .int .i64 0, .int .i64 0] 94) := ⟨_, rfl⟩
  have HW0 := hid hw0
  have HSTART : Hid (NewL w (.int .i64 0) w0) := hid ⟨0, _, _, rfl, by omega, by rw [hw0]; exact Blk.new _ _ _, World.ownsRow_nil _ _ _ _, World.ownsRow_nil _ _ _ _, fun j hj => by simp [Value.ownBlock] at hj, by rw [hw0]; exact Below.new _ _⟩
  clear hw0
  go_enter Try.func40, Try.ntmps40
  go_wp2_with fail
  rw [← HW0.out]
  go_loopw [6] (fun v6 wr => NewL w v6 wr) (fun v6 _ => 6 - (intOf v6).toNat)
  case atStart => exact HSTART.out
  case round =>
    clear HSTART
    obtain ⟨k, vD, vC, rfl, hk, hblk, hoD, hoC, hne, hb⟩ := hrel
    have HBLK := hid hblk
    have HOD := hid hoD
    have HOC := hid hoC
    have HNE := hid hne
    have HB := hid hb
    clear hne hb
    obtain ⟨aD, cD, rfl, -⟩ := ownsRow.rd hoD
    obtain ⟨aC, cC, rfl, -⟩ := ownsRow.rd hoC
    clear hblk hoD hoC
    by_cases hlt : k < 6
    · have hk6 : (k : Int) < 6 := by omega
      go_wp2_with fail
      go_loop [7, 8] (fun v7 v8 => NewI v7 v8) (fun _ v8 => 16 - (intOf v8).toNat)
      case atStart => exact ⟨0, ⟨#[]⟩, rfl, rfl, by omega, rfl⟩
      case round =>
        obtain ⟨j, q, rfl, rfl, hj, hq⟩ := hrel
        have HQ := hid hq
        by_cases hjl : j < 16
        · have hj16 : (j : Int) < 16 := by omega
          have hqs : q.size ≤ 16 := by
            have h1 := congrArg List.length hq
            rw [List.length_replicate] at h1
            have h2 : q.data.toList.length = q.size := by show q.data.toList.length = q.data.size; exact Array.length_toList
            omega
          have hs1 : q.size + (⟨#[0]⟩ : ByteArray).size ≤ 9223372036854775807 := by have : (⟨#[0]⟩ : ByteArray).size = 1 := rfl; omega
          have hs2 : q.size + 1 ≤ 9223372036854775807 := by omega
          have HN : Hid ((q ++ (⟨#[0]⟩ : ByteArray)).data.toList = List.replicate (j + 1) 0) := hid (by
            simp only [ByteArray.data_append, Array.toList_append, HQ.out]
            rw [List.replicate_succ']
            )
          clear hq
          go_wp2_with fail
          go_round
          case rel => exact ⟨j + 1, _, by go_num, rfl, by omega, HN.out⟩
          case measure => simp [intOf]; omega
        · have hj16 : ¬ (j : Int) < 16 := by omega
          have hqe : q = ⟨(List.replicate 16 (0 : UInt8)).toArray⟩ := by
            have : j = 16 := by omega
            subst this
            apply ByteArray.ext
            rw [← hq]
          have HQE := hid hqe
          obtain ⟨hc0, -, hf0, -⟩ : wr.cell? ⟨w.heap.size, 0, none⟩ = some (.slice aD k cD) ∧ wr.cell? ⟨w.heap.size, 1, none⟩ = some (.slice aC k cC) ∧ wr.frozen? ⟨w.heap.size, 0, none⟩ = false ∧ wr.frozen? ⟨w.heap.size, 1, none⟩ = false := ⟨by rw [HBLK.out.cell]; rfl, by rw [HBLK.out.cell]; rfl, HBLK.out.unfrozen _, HBLK.out.unfrozen _⟩
          have hsz : w.heap.size + 1 ≤ wr.heap.size := HBLK.out.lt
          have hD0 : ∀ j, (Value.slice aD k cD).ownBlock = some j → w.heap.size + 1 ≤ j := fun j hj => (HOD.out.lt j hj).1
          have HD0 := hid hD0
          have hC0 : ∀ j, (Value.slice aC k cC).ownBlock = some j → w.heap.size + 1 ≤ j ∧ j < wr.heap.size := fun j hj => HOC.out.lt j hj
          have HC0 := hid hC0
          clear hqe hq hD0 hC0 hj
          go_upto_region 11 with (at_builtin; refine wpList_append1w T_strs wr rfl _ _ #[.string q] rfl (w.heap.size + 1) _ _ _ rfl HOD.out rfl rfl (by simp [Value.oneCell']) (by omega) hsz ?_; intro v9 w9 hown9 hg9 hnn9 hwh9; obtain ⟨g9, c9, rfl⟩ := Joins.ownsRow_form hown9 (Nat.succ_pos k); have hblk9 := HBLK.out.upd2 (Upd.of_grown hg9) (fun q => by have := HD0.out _ q; omega); have hc9 : w9.cell? ⟨w.heap.size, 0, none⟩ = some (.slice aD k cD) := (by rw [hblk9.cell]; rfl); have hf9 := hblk9.unfrozen 0; clear hc0 hf0)
          have HBLK9 := hid (hblk9.set 0 (.slice (some ⟨g9, 0, none⟩) (k + 1) c9))
          have hlt9 := hown9.lt g9 rfl
          have hU9 := Upd.setCell w9 w.heap.size 0 (.slice (some ⟨g9, 0, none⟩) (k + 1) c9)
          have HOD9 : Hid ((w9.setCell ⟨w.heap.size, 0, none⟩ (.slice (some ⟨g9, 0, none⟩) (k + 1) c9)).ownsRow (w.heap.size + 1) 9 1 (.slice (some ⟨g9, 0, none⟩) (k + 1) c9) (k + 1) (sv (List.replicate (k + 1) (List.replicate 16 0)))) := hid (by
            have h1 := hU9.owns hown9 (fun j hj q => by have := hown9.lt j hj; omega)
            rw [HQE.out] at h1
            rw [List.replicate_succ', sv, List.map_append]
            exact h1)
          have hg9' := Upd.of_grown hg9
          have HOC9 : Hid ((w9.setCell ⟨w.heap.size, 0, none⟩ (.slice (some ⟨g9, 0, none⟩) (k + 1) c9)).ownsRow (w.heap.size + 1) 9 1 (.slice aC k cC) k (sv (List.replicate k []))) := hid (hU9.owns (hg9'.owns HOC.out (fun j hj q => HNE.out j q hj)) (fun j hj q => by have := (HC0.out j hj).1; omega))
          have HNE9 : Hid (∀ j, (Value.slice aC k cC).ownBlock = some j → j ≠ g9) := hid (fun j hj e => by
            rcases hwh9 g9 rfl with q | q
            · exact HNE.out g9 q (e ▸ hj)
            · have := (HC0.out j hj).2; omega)
          have HB9 : Hid (Below w.heap.size w (w9.setCell ⟨w.heap.size, 0, none⟩ (.slice (some ⟨g9, 0, none⟩) (k + 1) c9))) := hid ((HB.out.trans (hg9'.below HB.out.size (fun j _ q => by have := HD0.out j q; omega))).trans (hU9.below (Nat.le_trans HB.out.size hg9.size) (fun j _ q => by omega)))
          have hsz9 : w.heap.size + 1 ≤ w9.heap.size := by omega
          obtain ⟨wa, hwa⟩ : ∃ wa, wa = w9.setCell ⟨w.heap.size, 0, none⟩ (.slice (some ⟨g9, 0, none⟩) (k + 1) c9) := ⟨_, rfl⟩
          have hsza : w.heap.size + 1 ≤ wa.heap.size := by rw [hwa]; simpa using hsz9
          have hg9a : g9 < wa.heap.size := by rw [hwa]; simpa using hlt9.2
          rw [← hwa] at HBLK9 HOD9 HOC9 HB9 ⊢
          have HG9A := hid hg9a
          clear hwa hown9 hg9 hnn9 hwh9 hblk9 hc9 hf9 hlt9 hU9 hg9' hsz9 hg9a hsz
          have hd1 : wa.cell? ⟨w.heap.size, 1, none⟩ = some (.slice aC k cC) := by rw [HBLK9.out.cell]; rfl
          go_wp2_with (at_builtin; refine wpList_append1w T_strs wa rfl _ _ #[.string ⟨#[]⟩] rfl (w.heap.size + 1) _ _ _ rfl HOC9.out rfl rfl (by simp [Value.oneCell']) (by omega) hsza ?_; intro v10 w10 hown10 hg10 hnn10 hwh10; obtain ⟨g10, c10, rfl⟩ := Joins.ownsRow_form hown10 (Nat.succ_pos k); have hblk10 := HBLK9.out.upd2 (Upd.of_grown hg10) (fun q => by have := (HC0.out _ q).1; omega); have hc10 : w10.cell? ⟨w.heap.size, 1, none⟩ = some (.slice aC k cC) := (by rw [hblk10.cell]; rfl); have hf10 := hblk10.unfrozen 1; clear hd1)
          have hU10 := Upd.setCell w10 w.heap.size 1 (.slice (some ⟨g10, 0, none⟩) (k + 1) c10)
          have hg10' := Upd.of_grown hg10
          have HBLK10 := hid (hblk10.set 1 (.slice (some ⟨g10, 0, none⟩) (k + 1) c10))
          have HOC10 : Hid ((w10.setCell ⟨w.heap.size, 1, none⟩ (.slice (some ⟨g10, 0, none⟩) (k + 1) c10)).ownsRow (w.heap.size + 1) 9 1 (.slice (some ⟨g10, 0, none⟩) (k + 1) c10) (k + 1) (sv (List.replicate (k + 1) []))) := hid (by
            have h1 := hU10.owns hown10 (fun j hj q => by have := hown10.lt j hj; omega)
            rw [List.replicate_succ', sv, List.map_append]
            exact h1)
          have HOD10 : Hid ((w10.setCell ⟨w.heap.size, 1, none⟩ (.slice (some ⟨g10, 0, none⟩) (k + 1) c10)).ownsRow (w.heap.size + 1) 9 1 (.slice (some ⟨g9, 0, none⟩) (k + 1) c9) (k + 1) (sv (List.replicate (k + 1) (List.replicate 16 0)))) := hid (hU10.owns (hg10'.owns HOD9.out (fun j hj q => HNE9.out j q (by simpa [Value.ownBlock] using hj.symm))) (fun j hj q => by have := (HOD9.out.lt j hj).1; omega))
          have HNE10 : Hid (∀ j, (Value.slice (some ⟨g9, 0, none⟩) (k + 1) c9).ownBlock = some j → (Value.slice (some ⟨g10, 0, none⟩) (k + 1) c10).ownBlock ≠ some j) := hid (fun j hj e => by
            have e1 : g9 = j := by simpa [Value.ownBlock] using hj
            have e2 : g10 = j := by simpa [Value.ownBlock] using e
            rcases hwh10 g10 rfl with q | q
            · exact HNE9.out g10 q (by omega)
            · have := HG9A.out; omega)
          have HB10 : Hid (Below w.heap.size w (w10.setCell ⟨w.heap.size, 1, none⟩ (.slice (some ⟨g10, 0, none⟩) (k + 1) c10))) := hid ((HB9.out.trans (hg10'.below HB9.out.size (fun j _ q => by have := (HC0.out j q).1; omega))).trans (hU10.below (Nat.le_trans HB9.out.size hg10.size) (fun j _ q => by omega)))
          clear hown10 hg10 hnn10 hwh10 hblk10 hc10 hf10 hU10 hg10'
          go_wp2_with fail
          go_roundw
          case rel => exact ⟨k + 1, _, _, by go_num, by omega, by simpa using HBLK10.out, HOD10.out, HOC10.out, HNE10.out, HB10.out⟩
          case measure => simp [intOf]; omega
    · have hk6 : k = 6 := by omega
      subst hk6
      obtain ⟨gD, cD', eD⟩ := Joins.ownsRow_form HOD.out (by omega)
      obtain ⟨gC, cC', eC⟩ := Joins.ownsRow_form HOC.out (by omega)
      simp only [Value.slice.injEq, true_and] at eD eC
      obtain ⟨rfl, rfl⟩ := eD
      obtain ⟨rfl, rfl⟩ := eC
      have h1 := (HOD.out.lt gD rfl).1
      have h2 := (HOC.out.lt gC rfl).1
      have HFIN : Hid (RfIs wr ⟨w.heap.size, gD, gC, cD, cC⟩ (rfNew 6 16) ∧ (∀ j, RfW ⟨w.heap.size, gD, gC, cD, cC⟩ j → w.heap.size ≤ j)) := hid ⟨⟨HBLK.out, ownsRow_base HOD.out (by omega), ownsRow_base HOC.out (by omega), by show w.heap.size ≠ gD; omega, by show w.heap.size ≠ gC; omega, fun e => HNE.out gD rfl (by rw [show gD = gC from e]; rfl)⟩, fun j hj => by
        rcases hj with q | q | q
        · exact Nat.le_of_eq q.symm
        · have e : j = gD := q; omega
        · have e : j = gC := q; omega⟩
      clear h1 h2 hk
      go_wp2_with fail
      go_ret
      exact ⟨⟨w.heap.size, gD, gC, cD, cC⟩, rfl, HFIN.out.1, HFIN.out.2, HB.out⟩
end Go.Proofs.Ytohknblokejldaa
end
