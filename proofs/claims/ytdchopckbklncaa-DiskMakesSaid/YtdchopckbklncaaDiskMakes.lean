/- The law DiskMakes, walked. -/
import Derived.Test.YtdchopckbklncaaDiskLaw
namespace Go.Proofs.Ytdchopckbklncaa
open Go.RowKit
open Go.Lib (hid)
set_option linter.unusedVariables false

theorem step_makeW {P : Program} {t e : TypeId} {z : Value} {bytes : Nat} (T : SlT P t e z 1 bytes) (hzc : z.cells = #[z]) {w : World} {ops : Array Oper} {o : Oper} {a : Act} {K : Act → World → Prop} {Q : Exit → Act → World → Prop} {E : Prop}
    (hw : Region.wanted o (yielded ops a.tmps) = true) (l c : Operand) (hop : o.op = Op.makeSlice t l c) (base : Nat) (kl kc : IntKind) (L C : Int) (n m : Nat) (hl : a.eval l = .int kl L) (hc : a.eval c = .int kc C) (hL : L = (n : Int)) (hC : C = (m : Int)) (hnm : n ≤ m)
    (b2 : bytes * m ≤ 281474976710656) (b4 : base ≤ w.heap.size)
    (hK : ∀ g w', w.heap.size = g → w'.ownsRow base e 1 (.slice (some ⟨g, 0, none⟩) n m) n (List.replicate n z) → Below w.heap.size w w' → w'.heap.size = g + 1 → K (a.put o.dst (.slice (some ⟨g, 0, none⟩) n m)) w') :
    if Region.wanted o (yielded ops a.tmps) = true then Oper.wp P o a w K Q else E := by
  rw [if_pos hw]
  obtain ⟨i, hi, hz, hsz, hby⟩ := T.info
  have hm : m ≤ maxLen := by
    have : 1 * m ≤ bytes * m := Nat.mul_le_mul_right _ T.bpos
    unfold maxLen; omega
  have hb' : (i.bytes : Int) * (m : Int) ≤ 281474976710656 := by
    have h : ((i.bytes * m : Nat) : Int) ≤ 281474976710656 := by rw [hby]; omega
    rwa [Int.natCast_mul] at h
  have hr := run_make (P := P) w t e i z T.u hi hz kl kc n m (by omega) (by omega) hb' (by unfold maxLen at hm; omega)
  simp only [Int.toNat_natCast] at hr
  subst hL
  subst hC
  unfold Oper.wp
  simp [execOp, hop, hl, hc, hr, Result.andThen, Oper.upon]
  refine hK _ _ rfl ?_ ((Below.refl _ _).alloc (Nat.le_refl _) _) (by simp)
  rw [hsz, Nat.mul_one]
  refine ⟨by simp, .inr ⟨w.heap.size, m, _, rfl, b4, heap_alloc_new w _, hnm, hm, by simp [size_madeCells], ?_⟩⟩
  rw [hzc, toList_madeCells_one]
  simp [hnm]
theorem dkRead_new (n size k : Nat) (hk : k < n) : dkRead (dkNew n size) (k : Int) = (List.replicate size 0, 0) := by
  have h0 : dkCheck (dkNew n size) (k : Int) = 0 := by simp [dkCheck, dkNew]; omega
  unfold dkRead
  rw [if_neg (by rw [h0]; omega)]
  simp [dkSector, dkNew, hk]
set_option maxRecDepth 100000 in
set_option maxHeartbeats 1000000 in
theorem DiskMakes_no (n size : Int) (w : World) (h : n < 1 ∨ (1 ≤ n ∧ 4096 < n) ∨ (1 ≤ n ∧ n ≤ 300 ∧ size < 16) ∨ (1 ≤ n ∧ n ≤ 300 ∧ 16 ≤ size ∧ 4096 < size)) :
    Calls Try.prog 7 #[.int .i64 n, .int .i64 size] w fun e w' => e = .returned (.bool true) ∧ Below w.heap.size w w' := by
  have hno := disk_New_no n size w (by omega)
  rcases h with h | ⟨h1, h2⟩ | ⟨h1, h2, h3⟩ | ⟨h1, h2, h3, h4⟩
  · have a1 : ¬ 300 < n := by omega
    go_enter Try.func7, Try.ntmps7
    go_wp2_with fail
    refine hno.mono ?_
    rintro e w1 ⟨rfl, rfl⟩
    go_wp2_with fail
    refine (law05_awake _).mono ?_
    rintro e w1 ⟨rfl, hb⟩
    go_wp2_with fail
    go_ret
    exact ⟨rfl, hb⟩
  · have a1 : 300 < n := by omega
    have a2 : ¬ n ≤ 4096 := by omega
    go_enter Try.func7, Try.ntmps7
    go_wp2_with fail
    refine hno.mono ?_
    rintro e w1 ⟨rfl, rfl⟩
    go_wp2_with fail
    refine (law05_awake _).mono ?_
    rintro e w1 ⟨rfl, hb⟩
    go_wp2_with fail
    go_ret
    exact ⟨rfl, hb⟩
  · have a1 : ¬ 300 < n := by omega
    have a2 : ¬ 4096 < n := by omega
    go_enter Try.func7, Try.ntmps7
    go_wp2_with fail
    refine hno.mono ?_
    rintro e w1 ⟨rfl, rfl⟩
    go_wp2_with fail
    refine (law05_awake _).mono ?_
    rintro e w1 ⟨rfl, hb⟩
    go_wp2_with fail
    go_ret
    exact ⟨rfl, hb⟩
  · have a1 : ¬ 300 < n := by omega
    have a2 : ¬ 4096 < n := by omega
    go_enter Try.func7, Try.ntmps7
    go_wp2_with fail
    refine hno.mono ?_
    rintro e w1 ⟨rfl, rfl⟩
    go_wp2_with fail
    refine (law05_awake _).mono ?_
    rintro e w1 ⟨rfl, hb⟩
    go_wp2_with fail
    go_ret
    exact ⟨rfl, hb⟩
set_option maxRecDepth 100000 in
set_option maxHeartbeats 1000000 in
theorem DiskMakes_yes (n size : Nat) (w : World) (h1 : 1 ≤ n) (h2 : n ≤ 300) (h3 : 16 ≤ size) (h4 : size ≤ 4096) :
    Calls Try.prog 7 #[.int .i64 (n : Int), .int .i64 (size : Int)] w fun e w' => e = .returned (.bool true) ∧ Below w.heap.size w w' := by
  have hnew := disk_New n size h1 (by omega) h3 h4 w
  have a1 : ¬ (300 : Int) < (n : Int) := by omega
  have a2 : ¬ (4096 : Int) < (n : Int) := by omega
  have a3 : ¬ (n : Int) < 1 := by omega
  have a4 : ¬ (size : Int) < 16 := by omega
  have a5 : ¬ (4096 : Int) < (size : Int) := by omega
  go_enter Try.func7, Try.ntmps7
  go_wp2_with fail
  refine hnew.mono ?_
  clear hnew
  rintro e w1 ⟨g, W, R, rfl, hd, -, -, hb⟩
  have HD1 := hid hd
  have HB1 := hid hb
  clear hd hb
  go_wp2_with fail
  refine (disk_Sectors _ g W R w1 HD1.out).mono ?_
  rintro e w' ⟨rfl, rfl⟩
  rw [show (dkNew n size).D.length = n from by simp [dkNew]]
  go_wp2_with fail
  refine (disk_Size _ g W R w1 HD1.out).mono ?_
  rintro e w' ⟨rfl, rfl⟩
  rw [show (dkNew n size).size = size from rfl]
  go_wp2_with fail
  refine (disk_Commands _ g W R w1 HD1.out).mono ?_
  rintro e w' ⟨rfl, rfl⟩
  rw [show (dkNew n size).done = 0 from rfl]
  go_wp2_with fail
  refine (disk_Down _ g W R w1 HD1.out).mono ?_
  rintro e w' ⟨rfl, rfl⟩
  rw [show (dkNew n size).down = false from rfl]
  go_wp2_with fail
  clear a1 a2 a3 a4 a5
  go_loopw [6, 7, 8, 62] (fun v6 v7 v8 v62 wr => ∃ (k : Nat), v62 = .int .i64 k ∧ k ≤ n ∧ Hid (DiskIs wr g W R (dkNew n size)) ∧ Hid (Below w.heap.size w wr)) (fun _ _ _ v62 _ => n - (intOf v62).toNat)
  case atStart => exact ⟨0, rfl, by omega, HD1, HB1⟩
  case round =>
    clear HD1 HB1
    obtain ⟨k, rfl, hk, HD, HB⟩ := hrel
    by_cases hlt : k < n
    · go_wp2_with fail
      refine (disk_Read _ (k : Int) g W R wr HD.out (List.replicate size 0) 0 (hid (dkRead_new n size k hlt)) (by simp; omega)).mono ?_
      rintro e w2 ⟨v, rfl, hown, hb2⟩
      obtain ⟨gv, cv, rfl⟩ := Joins.ownsRow_form hown (by simp; omega)
      have HD2 := hid (HD.out.below hb2)
      have HB2 := hid (Below.next HB.out hb2)
      have HS2 := hid (ownsRow.slb hown (by simp; omega))
      clear hown hb2
      go_wp2_with fail
      have HC2 := HS2.out.str
      rw [List.length_replicate] at HC2
      have hk0 := (Below.refl w2.heap.size w2).drew
      refine wp_region_kept [] (fun x => Below w2.heap.size w2 x) (by kernel_rfl) (by assumption) (fun hH => ?_)
      refine wpK.take (i := 0) (v := _) (by simp only [List.getElem?_toArray, List.getElem?_cons_succ, List.getElem?_cons_zero]; rfl) (by kernel_rfl) (by kernel_rfl) (by kernel_rfl) (by kernel_rfl) (by kernel_rfl) (by exact fun _ _ _ h => h) (by first | exact Or.inl ⟨by rfl, by intro w hSw; go_simp; try with_reducible rfl⟩ | exact Or.inr ⟨by rfl, rfl⟩) hH ?_
      try simp only [Act.put, List.setIfInBounds_toArray, List.set_cons_zero, List.set_cons_succ]
      refine wpK.take (i := 1) (v := _) (by simp only [List.getElem?_toArray, List.getElem?_cons_succ, List.getElem?_cons_zero]; rfl) (by kernel_rfl) (by kernel_rfl) (by kernel_rfl) (by kernel_rfl) (by kernel_rfl) (by exact fun _ _ _ h => h) (by first | exact Or.inl ⟨by rfl, by intro w hSw; go_simp; try with_reducible rfl⟩ | exact Or.inr ⟨by rfl, rfl⟩) hH ?_
      try simp only [Act.put, List.setIfInBounds_toArray, List.set_cons_zero, List.set_cons_succ]
      refine wpK.take (i := 2) (v := _) (by simp only [List.getElem?_toArray, List.getElem?_cons_succ, List.getElem?_cons_zero]; rfl) (by kernel_rfl) (by kernel_rfl) (by kernel_rfl) (by kernel_rfl) (by kernel_rfl) (by exact fun _ _ _ h => h) (by first | exact Or.inl ⟨by rfl, by intro w hSw; go_simp; try with_reducible rfl⟩ | exact Or.inr ⟨by rfl, rfl⟩) hH ?_
      try simp only [Act.put, List.setIfInBounds_toArray, List.set_cons_zero, List.set_cons_succ]
      refine wpK.take (i := 3) (v := _) (by simp only [List.getElem?_toArray, List.getElem?_cons_succ, List.getElem?_cons_zero]; rfl) (by kernel_rfl) (by kernel_rfl) (by kernel_rfl) (by kernel_rfl) (by kernel_rfl) (by exact fun _ _ _ h => h) (by first | exact Or.inl ⟨by rfl, by intro w hSw; go_simp; try with_reducible rfl⟩ | exact Or.inr ⟨by rfl, rfl⟩) hH ?_
      try simp only [Act.put, List.setIfInBounds_toArray, List.set_cons_zero, List.set_cons_succ]
      refine wpK.take (i := 4) (v := _) (by simp only [List.getElem?_toArray, List.getElem?_cons_succ, List.getElem?_cons_zero]; rfl) (by kernel_rfl) (by kernel_rfl) (by kernel_rfl) (by kernel_rfl) (by kernel_rfl) (by exact fun _ _ _ h => h) (by first | exact Or.inl ⟨by rfl, by intro w hSw; go_simp; try with_reducible rfl⟩ | exact Or.inr ⟨by rfl, rfl⟩) hH ?_
      try simp only [Act.put, List.setIfInBounds_toArray, List.set_cons_zero, List.set_cons_succ]
      refine wpK.take (i := 5) (v := _) (by simp only [List.getElem?_toArray, List.getElem?_cons_succ, List.getElem?_cons_zero]; rfl) (by kernel_rfl) (by kernel_rfl) (by kernel_rfl) (by kernel_rfl) (by kernel_rfl) (by exact fun _ _ _ h => h) (by first | exact Or.inl ⟨by rfl, by intro w hSw; go_simp; try with_reducible rfl⟩ | exact Or.inr ⟨by rfl, rfl⟩) hH ?_
      try simp only [Act.put, List.setIfInBounds_toArray, List.set_cons_zero, List.set_cons_succ]
      refine wpK.step (i := 6) (by kernel_rfl) (by simp only [List.getElem?_toArray, List.getElem?_cons_succ, List.getElem?_cons_zero]; rfl) (fun K hK => ?_)
      refine step_makeW T_bytes rfl (by go_simp) _ _ rfl 0 .i64 .i64 (size : Int) (size : Int) size size rfl rfl rfl rfl (Nat.le_refl _) (by omega) (Nat.zero_le _) ?_; intro g6 wA hg6 hown6 hbA hsA; have hkA := Below.next hH hbA; have HC3 := (ownsRow.slb (l := List.replicate size 0) (show wA.ownsRow 0 5 1 (.slice (some ⟨g6, 0, none⟩) size size) (List.replicate size (0 : UInt8)).length (bv (List.replicate size 0)) by rw [List.length_replicate]; simpa [bv] using hown6) (by simp; omega)).str wA (Below.refl _ _)
      refine hK.out _ _ (by assumption) (fun hH => ?_)
      clear hK K
      try simp only [Act.put, List.setIfInBounds_toArray, List.set_cons_zero, List.set_cons_succ]
      refine wpK.step (i := 7) (by kernel_rfl) (by simp only [List.getElem?_toArray, List.getElem?_cons_succ, List.getElem?_cons_zero]; rfl) (fun K hK => ?_)
      go_simp
      refine hK.out _ _ (by assumption) (fun hH => ?_)
      clear hK K
      try simp only [Act.put, List.setIfInBounds_toArray, List.set_cons_zero, List.set_cons_succ]
      refine wpK.take (i := 8) (v := _) (by simp only [List.getElem?_toArray, List.getElem?_cons_succ, List.getElem?_cons_zero]; rfl) (by kernel_rfl) (by kernel_rfl) (by kernel_rfl) (by kernel_rfl) (by kernel_rfl) (by exact fun _ _ _ h => h) (by first | exact Or.inl ⟨by rfl, by intro w hSw; go_simp; try with_reducible rfl⟩ | exact Or.inr ⟨by rfl, rfl⟩) hH ?_
      try simp only [Act.put, List.setIfInBounds_toArray, List.set_cons_zero, List.set_cons_succ]
      refine wpK.take (i := 9) (v := _) (by simp only [List.getElem?_toArray, List.getElem?_cons_succ, List.getElem?_cons_zero]; rfl) (by kernel_rfl) (by kernel_rfl) (by kernel_rfl) (by kernel_rfl) (by kernel_rfl) (by exact fun _ _ _ h => h) (by first | exact Or.inl ⟨by rfl, by intro w hSw; go_simp; try with_reducible rfl⟩ | exact Or.inr ⟨by rfl, rfl⟩) hH ?_
      try simp only [Act.put, List.setIfInBounds_toArray, List.set_cons_zero, List.set_cons_succ]
      refine wpK.done (by kernel_rfl) ?_ _
      have HD3 := hid (HD2.out.below hH)
      have HB3 := hid (Below.next HB2.out hH)
      clear hH hk0 HC2 HC3 hkA hbA hown6
      go_wp2_with fail
      go_roundw
      case rel => exact ⟨k + 1, by go_num, by omega, HD3, HB3⟩
      case measure => simp [intOf]; omega
    · obtain rfl : k = n := by omega
      go_wp2_with fail
      refine (law05_awake _).mono ?_
      rintro e w2 ⟨rfl, hb2⟩
      have HB2 := hid (Below.next HB.out hb2)
      clear hb2
      go_wp2_with fail
      go_ret
      exact ⟨rfl, HB2.out⟩
theorem DiskMakes_walk (n size : Int) (w : World) (wn : (Lit.int .i64 n).wf = true) (ws : (Lit.int .i64 size).wf = true) :
    Calls Try.prog 7 #[.int .i64 n, .int .i64 size] w fun e w' => e = .returned (.bool true) ∧ Below w.heap.size w w' := by
  by_cases h : n < 1 ∨ (1 ≤ n ∧ 4096 < n) ∨ (1 ≤ n ∧ n ≤ 300 ∧ size < 16) ∨ (1 ≤ n ∧ n ≤ 300 ∧ 16 ≤ size ∧ 4096 < size)
  · exact DiskMakes_no n size w h
  · by_cases h1 : n ≤ 300
    · obtain ⟨m, rfl⟩ := Int.eq_ofNat_of_zero_le (a := n) (by omega)
      obtain ⟨z, rfl⟩ := Int.eq_ofNat_of_zero_le (a := size) (by omega)
      exact DiskMakes_yes m z w (by omega) (by omega) (by omega) (by omega)
    · have h2 : 300 < n := by omega
      have h3 : n ≤ 4096 := by omega
      clear h h1
      go_enter Try.func7, Try.ntmps7
      go_wp2_with fail
      refine (law05_awake _).mono ?_
      rintro e w2 ⟨rfl, hb2⟩
      go_wp2_with fail
      go_ret
      exact ⟨rfl, hb2⟩
end Go.Proofs.Ytdchopckbklncaa
