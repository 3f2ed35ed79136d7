/- Joined texts, in this order: QuadWalk. Each one's first remark says what it proves; no condition beyond those that its theorems name. -/
import Derived.Test.YtjbnfppnmljbmaaGreatJLawLandFinds15
import Derived.Deep.CutBlock
section
/- Contract of quad's set: the walk. -/
namespace Go.Proofs.YtjbnfppnmljbmaaGreat
open Go.RowKit Go.Deep
open Go.Lib (hid)
set_option linter.unusedVariables false
attribute [local go_sem] Oper.semAt_some

theorem SetPost.ahead {k : Nat} {w wd : World} {b0 off : Nat} {cs : Array Value} {s : Sq} {X Y : Int} {r : R4} {v : Int} {e : Ending} {w' : World} (h : SetPost k wd b0 off cs s X Y r v e w') (hb : Below w.heap.size w wd) : SetPost k w b0 off cs s X Y r v e w' := by
  obtain ⟨s', h1, h2, h3, h4, h5, h6, h7⟩ := h
  have := hb.size
  exact ⟨s', h1, h2, h3, h4, fun q hq => (h5 q hq).imp id (fun z => by omega), (Upd.of_below hb).trans h6 (fun _ _ q => q), h7⟩
def CutQ (k : Nat) (w1 : World) (b0 off g5 g6 : Nat) (cs : Array Value) (s : Sq) (X Y S : Int) (r : R4) (wx : World) : Prop := ∃ (k' g : Nat) (ks : List Sq), Hid (k = k' + 1) ∧ Hid (SplitI k' w1 wx b0 off g cs s ks) ∧ Hid (Blk wx g5 #[.int .i64 X, .int .i64 Y, .int .i64 S, .int .i64 S] ∧ Blk wx g6 #[.int .i64 r.1, .int .i64 r.2.1, .int .i64 r.2.2.1, .int .i64 r.2.2.2])
def QuR (k' : Nat) (w1 : World) (b0 off g g5 g6 : Nat) (cs : Array Value) (s : Sq) (ks : List Sq) (X Y S : Int) (r : R4) (v : Int) (v8 v73 : Value) (wr : World) : Prop := ∃ (i : Nat) (ms : List Sq), v8 = .bool (oneS ms i) ∧ v73 = .int .i64 (i : Int) ∧ i ≤ 4 ∧ Hid (QI k' w1 wr b0 off g cs s ks ms s.v X Y r v i) ∧ Hid (Blk wr g5 #[.int .i64 X, .int .i64 Y, .int .i64 S, .int .i64 S] ∧ Blk wr g6 #[.int .i64 r.1, .int .i64 r.2.1, .int .i64 r.2.2.1, .int .i64 r.2.2.2])
set_option maxRecDepth 100000 in
set_option maxHeartbeats 8000000 in
theorem set_walk (k : Nat) (ih : ∀ k', k = k' + 1 → SetSpec k') : SetSpec k := by
  intro s X Y rx ry ra rb v w b0 off cs hs hb h0 h1 hn ho hv
  obtain ⟨S, hS⟩ : ∃ S, sd k = S := ⟨_, rfl⟩
  obtain ⟨sv, hsv⟩ : ∃ u, s.v = u := ⟨_, rfl⟩
  rw [hS]
  rw [hsv] at h1
  have HSD := hid hS
  have HSV := hid hsv
  have HIH := hid ih
  have HS := hid hs
  have HP := hid hb
  have HC := hid (And.intro h0 h1)
  have HN := hid hn
  have HOW := hid ho
  have HV := hid hv
  have HSB : Hid (ByteI sv) := hid (by rw [← hsv]; exact hs.byte)
  clear hS hsv ih hs hb h0 h1 hn ho hv
  go_enter Tryz.func70, Tryz.ntmps70
  go_upto_block 0 with fail
  generalize hW : World.alloc (World.alloc w _) _ = w1
  obtain ⟨g5, hg5⟩ : ∃ b, b = w.heap.size := ⟨_, rfl⟩
  obtain ⟨g6, hg6⟩ : ∃ b, b = w.heap.size + 1 := ⟨_, rfl⟩
  have hz : (World.alloc w (.cells #[.int .i64 X, .int .i64 Y, .int .i64 S, .int .i64 S] 25)).heap.size = w.heap.size + 1 := by simp
  try rw [hz]
  try rw [← hg6]
  try rw [← hg5]
  have hb : Below w.heap.size w w1 := by rw [← hW]; exact Below.next (Below.new _ _) (Below.new _ _)
  have HQ1 : Hid (Blk w1 g5 #[.int .i64 X, .int .i64 Y, .int .i64 S, .int .i64 S] ∧ Blk w1 g6 #[.int .i64 rx, .int .i64 ry, .int .i64 ra, .int .i64 rb]) := hid ⟨by rw [← hW, hg5]; exact (Blk.new w _ _).below (Below.new _ _), by rw [← hW, hg6, ← hz]; exact Blk.new _ _ _⟩
  have hz1 : w1.heap.size = w.heap.size + 2 := by rw [← hW]; simp
  have HP1 := hid (HP.out.below hb)
  have HS1 := hid (HS.out.below hb)
  have HW1 := hid hb
  have HNB : Hid (g5 ≠ b0 ∧ g6 ≠ b0 ∧ g5 < w1.heap.size ∧ g6 < w1.heap.size ∧ w.heap.size ≤ g5 ∧ w.heap.size ≤ g6) := hid (by have := HP.out.lt; omega)
  have HLT : Hid (∀ q ∈ blkS k s, q < w.heap.size) := hid HS.out.lt
  clear hW hg5 hg6 hz hb hz1
  go_cut [] (fun wx => CutQ k w1 b0 off g5 g6 cs s X Y S (rx, ry, ra, rb) wx)
  case first =>
    obtain ⟨a0, a1, a2, a3⟩ := HQ1.out.1.c4r
    obtain ⟨r0, r1, r2, r3⟩ := HQ1.out.2.c4r
    go_wp2_with fail
    refine (rect_Meets4 X Y S S rx ry ra rb w1).mono ?_
    rintro e w2 ⟨rfl, hb⟩
    have HB2 := hid hb
    have HP2 := hid (HP1.out.below hb)
    have HQ2 := hid (And.intro (HQ1.out.1.below hb) (HQ1.out.2.below hb))
    have HS2 := hid (HS1.out.below hb)
    have HW2 := hid (Below.next HW1.out hb)
    clear hb a0 a1 a2 a3 r0 r1 r2 r3
    obtain ⟨a0, a1, a2, a3⟩ := HQ2.out.1.c4r
    obtain ⟨r0, r1, r2, r3⟩ := HQ2.out.2.c4r
    by_cases hm : MeetsR (X, Y, S, S) (rx, ry, ra, rb)
    case neg =>
      have hdm : decide (MeetsR (X, Y, S, S) (rx, ry, ra, rb)) = false := decide_eq_false hm
      rw [hdm]
      have HPO := hid (SetPost.same (v := v) HS1.out HP1.out HC.out.1 (by rw [HSV.out]; exact HC.out.2) HN.out HB2.out (setOk_apart (r := (rx, ry, ra, rb)) HOW.out (by unfold ownR; rw [HSD.out]; exact hm)))
      clear hm hdm
      go_wp2_with fail
      go_end0
      exact HPO.out.ahead HW1.out
    have hdm : decide (MeetsR (X, Y, S, S) (rx, ry, ra, rb)) = true := decide_eq_true hm
    rw [hdm]
    have HMT := hid hm
    clear hm hdm
    have c0 : w2.cell? ⟨b0, off, none⟩ = some (c0S s) := by rw [HP2.out.cell]; exact HC.out.1
    have c1 : w2.cell? ⟨b0, off + 1, none⟩ = some (.int .u8 sv) := by rw [HP2.out.cell]; exact HC.out.2
    by_cases hlf : s.ks = []
    · have HLF := hid hlf
      rw [c0S_leaf hlf] at c0
      by_cases hev : sv = v
      · subst hev
        have HPO := hid (SetPost.same (v := sv) HS1.out HP1.out HC.out.1 (by rw [HSV.out]; exact HC.out.2) HN.out HB2.out (by
          have := setOk_same (r := (rx, ry, ra, rb)) HOW.out hlf
          rw [HSV.out] at this; exact this))
        clear hlf
        go_wp2_with fail
        go_end0
        exact HPO.out.ahead HW1.out
      · clear hlf
        go_wp2_with fail
        refine (rect_In4 X Y S S rx ry ra rb w2).mono ?_
        rintro e w3 ⟨rfl, hb⟩
        have HB3 := hid (Below.next HB2.out hb)
        have HP3 := hid (HP2.out.below hb)
        have HQ3 := hid (And.intro (HQ2.out.1.below hb) (HQ2.out.2.below hb))
        have HS3 := hid (HS2.out.below hb)
        have HW3 := hid (Below.next HW2.out hb)
        clear hb c0 c1 a0 a1 a2 a3 r0 r1 r2 r3
        by_cases hin : InR (X, Y, S, S) (rx, ry, ra, rb)
        · have hdi : decide (InR (X, Y, S, S) (rx, ry, ra, rb)) = true := decide_eq_true hin
          rw [hdi]
          clear hdi
          have f0 : w3.frozen? ⟨b0, off, none⟩ = false := HP3.out.unfrozen off
          have f1 : w3.frozen? ⟨b0, off + 1, none⟩ = false := HP3.out.unfrozen (off + 1)
          have c0 : w3.cell? ⟨b0, off, none⟩ = some (c0S s) := by rw [HP3.out.cell]; exact HC.out.1
          have c1 : w3.cell? ⟨b0, off + 1, none⟩ = some (.int .u8 sv) := by rw [HP3.out.cell]; exact HC.out.2
          have HPO := hid (SetPost.leaf (k := k) (off := off) (s := s) (X := X) (Y := Y) (r := (rx, ry, ra, rb)) (v := v) HP1.out HB3.out HV.out (fun s' e1 e2 => by
            have := setOk_in (s := s) (s' := s') (r := (rx, ry, ra, rb)) HOW.out e1 (by unfold ownR; rw [HSD.out]; exact hin)
            rw [e2] at this; exact this))
          clear hin
          go_wp2_with fail
          go_end0
          exact HPO.out.ahead HW1.out
        · have hdi : decide (InR (X, Y, S, S) (rx, ry, ra, rb)) = false := decide_eq_false hin
          rw [hdi]
          clear hdi
          obtain ⟨k', hk'⟩ : ∃ k', k = k' + 1 := by
            cases k with
            | zero =>
              exfalso
              refine hin ?_
              have h1 := HMT.out
              have h2 := HSD.out
              have h3 := HOW.out.right
              unfold ownR at h3
              rw [h2] at h3
              rw [sd_zero] at h2
              obtain ⟨-, z2, z3, z4, z5, z6⟩ := h1
              refine ⟨h3, z2, ?_⟩
              simp only at z3 z4 z5 z6 ⊢
              omega
            | succ k' => exact ⟨k', rfl⟩
          have HK := hid hk'
          clear hk' hin
          have c0 : w3.cell? ⟨b0, off, none⟩ = some (c0S s) := by rw [HP3.out.cell]; exact HC.out.1
          have c1 : w3.cell? ⟨b0, off + 1, none⟩ = some (.int .u8 sv) := by rw [HP3.out.cell]; exact HC.out.2
          rw [c0S_leaf HLF.out] at c0
          go_upto_region 5 with fail
          have f0 := fun (z : World) (hz : Below w3.heap.size w3 z) => (HP3.out.below hz).unfrozen off
          replace c0 := fun (z : World) (hz : Below w3.heap.size w3 z) => cellOf_belowR hz c0
          replace c1 := fun (z : World) (hz : Below w3.heap.size w3 z) => cellOf_belowR hz c1
          have hyd := (Below.refl w3.heap.size w3).drew
          refine wp_region_kept [23, 24, 25] (fun z => Below w3.heap.size w3 z) (by kernel_rfl) (by assumption) (fun hH => ?_)
          refine wpK.take (i := 0) (v := _) (by simp only [List.getElem?_toArray, List.getElem?_cons_succ, List.getElem?_cons_zero]; rfl) (by kernel_rfl) (by kernel_rfl) (by kernel_rfl) (by kernel_rfl) (by kernel_rfl) (by exact fun _ _ _ h => h) (by first | exact Or.inl ⟨by rfl, by intro w hSw; go_simp; try with_reducible rfl⟩ | exact Or.inr ⟨by rfl, rfl⟩) hH ?_
          try simp only [Act.put, List.setIfInBounds_toArray, List.set_cons_zero, List.set_cons_succ]
          refine wpK.take (i := 1) (v := _) (by simp only [List.getElem?_toArray, List.getElem?_cons_succ, List.getElem?_cons_zero]; rfl) (by kernel_rfl) (by kernel_rfl) (by kernel_rfl) (by kernel_rfl) (by kernel_rfl) (by exact fun _ _ _ h => h) (by first | exact Or.inl ⟨by rfl, by intro w hSw; go_simp; try with_reducible rfl⟩ | exact Or.inr ⟨by rfl, rfl⟩) hH ?_
          try simp only [Act.put, List.setIfInBounds_toArray, List.set_cons_zero, List.set_cons_succ]
          refine wpK.take (i := 2) (v := _) (by simp only [List.getElem?_toArray, List.getElem?_cons_succ, List.getElem?_cons_zero]; rfl) (by kernel_rfl) (by kernel_rfl) (by kernel_rfl) (by kernel_rfl) (by kernel_rfl) (by exact fun _ _ _ h => h) (by first | exact Or.inl ⟨by rfl, by intro w hSw; go_simp; try with_reducible rfl⟩ | exact Or.inr ⟨by rfl, rfl⟩) hH ?_
          try simp only [Act.put, List.setIfInBounds_toArray, List.set_cons_zero, List.set_cons_succ]
          refine wpK.take (i := 3) (v := _) (by simp only [List.getElem?_toArray, List.getElem?_cons_succ, List.getElem?_cons_zero]; rfl) (by kernel_rfl) (by kernel_rfl) (by kernel_rfl) (by kernel_rfl) (by kernel_rfl) (by exact fun _ _ _ h => h) (by first | exact Or.inl ⟨by rfl, by intro w hSw; go_simp; try with_reducible rfl⟩ | exact Or.inr ⟨by rfl, rfl⟩) hH ?_
          try simp only [Act.put, List.setIfInBounds_toArray, List.set_cons_zero, List.set_cons_succ]
          refine wpK.take (i := 4) (v := _) (by simp only [List.getElem?_toArray, List.getElem?_cons_succ, List.getElem?_cons_zero]; rfl) (by kernel_rfl) (by kernel_rfl) (by kernel_rfl) (by kernel_rfl) (by kernel_rfl) (by exact fun _ _ _ h => h) (by first | exact Or.inl ⟨by rfl, by intro w hSw; go_simp; try with_reducible rfl⟩ | exact Or.inr ⟨by rfl, rfl⟩) hH ?_
          try simp only [Act.put, List.setIfInBounds_toArray, List.set_cons_zero, List.set_cons_succ]
          refine wpK.take (i := 5) (v := _) (by simp only [List.getElem?_toArray, List.getElem?_cons_succ, List.getElem?_cons_zero]; rfl) (by kernel_rfl) (by kernel_rfl) (by kernel_rfl) (by kernel_rfl) (by kernel_rfl) (by exact fun _ _ _ h => h) (by first | exact Or.inl ⟨by rfl, by intro w hSw; go_simp; try with_reducible rfl⟩ | exact Or.inr ⟨by rfl, rfl⟩) hH ?_
          try simp only [Act.put, List.setIfInBounds_toArray, List.set_cons_zero, List.set_cons_succ]
          refine wpK.take (i := 6) (v := _) (by simp only [List.getElem?_toArray, List.getElem?_cons_succ, List.getElem?_cons_zero]; rfl) (by kernel_rfl) (by kernel_rfl) (by kernel_rfl) (by kernel_rfl) (by kernel_rfl) (by exact fun _ _ _ h => h) (by first | exact Or.inl ⟨by rfl, by intro w hSw; go_simp; try with_reducible rfl⟩ | exact Or.inr ⟨by rfl, rfl⟩) hH ?_
          try simp only [Act.put, List.setIfInBounds_toArray, List.set_cons_zero, List.set_cons_succ]
          refine wpK.take (i := 7) (v := _) (by simp only [List.getElem?_toArray, List.getElem?_cons_succ, List.getElem?_cons_zero]; rfl) (by kernel_rfl) (by kernel_rfl) (by kernel_rfl) (by kernel_rfl) (by kernel_rfl) (by exact fun _ _ _ h => h) (by first | exact Or.inl ⟨by rfl, by intro w hSw; go_simp; try with_reducible rfl⟩ | exact Or.inr ⟨by rfl, rfl⟩) hH ?_
          try simp only [Act.put, List.setIfInBounds_toArray, List.set_cons_zero, List.set_cons_succ]
          refine wpK.take (i := 8) (v := _) (by simp only [List.getElem?_toArray, List.getElem?_cons_succ, List.getElem?_cons_zero]; rfl) (by kernel_rfl) (by kernel_rfl) (by kernel_rfl) (by kernel_rfl) (by kernel_rfl) (by exact fun _ _ _ h => h) (by first | exact Or.inl ⟨by rfl, by intro w hSw; go_simp; try with_reducible rfl⟩ | exact Or.inr ⟨by rfl, rfl⟩) hH ?_
          try simp only [Act.put, List.setIfInBounds_toArray, List.set_cons_zero, List.set_cons_succ]
          refine wpK.take (i := 9) (v := _) (by simp only [List.getElem?_toArray, List.getElem?_cons_succ, List.getElem?_cons_zero]; rfl) (by kernel_rfl) (by kernel_rfl) (by kernel_rfl) (by kernel_rfl) (by kernel_rfl) (by exact fun _ _ _ h => h) (by first | exact Or.inl ⟨by rfl, by intro w hSw; go_simp; try with_reducible rfl⟩ | exact Or.inr ⟨by rfl, rfl⟩) hH ?_
          try simp only [Act.put, List.setIfInBounds_toArray, List.set_cons_zero, List.set_cons_succ]
          refine wpK.take (i := 10) (v := _) (by simp only [List.getElem?_toArray, List.getElem?_cons_succ, List.getElem?_cons_zero]; rfl) (by kernel_rfl) (by kernel_rfl) (by kernel_rfl) (by kernel_rfl) (by kernel_rfl) (by exact fun _ _ _ h => h) (by first | exact Or.inl ⟨by rfl, by intro w hSw; go_simp; try with_reducible rfl⟩ | exact Or.inr ⟨by rfl, rfl⟩) hH ?_
          try simp only [Act.put, List.setIfInBounds_toArray, List.set_cons_zero, List.set_cons_succ]
          refine wpK.take (i := 11) (v := _) (by simp only [List.getElem?_toArray, List.getElem?_cons_succ, List.getElem?_cons_zero]; rfl) (by kernel_rfl) (by kernel_rfl) (by kernel_rfl) (by kernel_rfl) (by kernel_rfl) (by exact fun _ _ _ h => h) (by first | exact Or.inl ⟨by rfl, by intro w hSw; go_simp; try with_reducible rfl⟩ | exact Or.inr ⟨by rfl, rfl⟩) hH ?_
          try simp only [Act.put, List.setIfInBounds_toArray, List.set_cons_zero, List.set_cons_succ]
          refine wpK.take (i := 12) (v := _) (by simp only [List.getElem?_toArray, List.getElem?_cons_succ, List.getElem?_cons_zero]; rfl) (by kernel_rfl) (by kernel_rfl) (by kernel_rfl) (by kernel_rfl) (by kernel_rfl) (by exact fun _ _ _ h => h) (by first | exact Or.inl ⟨by rfl, by intro w hSw; go_simp; try with_reducible rfl⟩ | exact Or.inr ⟨by rfl, rfl⟩) hH ?_
          try simp only [Act.put, List.setIfInBounds_toArray, List.set_cons_zero, List.set_cons_succ]
          refine wpK.take (i := 13) (v := _) (by simp only [List.getElem?_toArray, List.getElem?_cons_succ, List.getElem?_cons_zero]; rfl) (by kernel_rfl) (by kernel_rfl) (by kernel_rfl) (by kernel_rfl) (by kernel_rfl) (by exact fun _ _ _ h => h) (by first | exact Or.inl ⟨by rfl, by intro w hSw; go_simp; try with_reducible rfl⟩ | exact Or.inr ⟨by rfl, rfl⟩) hH ?_
          try simp only [Act.put, List.setIfInBounds_toArray, List.set_cons_zero, List.set_cons_succ]
          refine wpK.take (i := 14) (v := _) (by simp only [List.getElem?_toArray, List.getElem?_cons_succ, List.getElem?_cons_zero]; rfl) (by kernel_rfl) (by kernel_rfl) (by kernel_rfl) (by kernel_rfl) (by kernel_rfl) (by exact fun _ _ _ h => h) (by first | exact Or.inl ⟨by rfl, by intro w hSw; go_simp; try with_reducible rfl⟩ | exact Or.inr ⟨by rfl, rfl⟩) hH ?_
          try simp only [Act.put, List.setIfInBounds_toArray, List.set_cons_zero, List.set_cons_succ]
          refine wpK.take (i := 15) (v := _) (by simp only [List.getElem?_toArray, List.getElem?_cons_succ, List.getElem?_cons_zero]; rfl) (by kernel_rfl) (by kernel_rfl) (by kernel_rfl) (by kernel_rfl) (by kernel_rfl) (by exact fun _ _ _ h => h) (by first | exact Or.inl ⟨by rfl, by intro w hSw; go_simp; try with_reducible rfl⟩ | exact Or.inr ⟨by rfl, rfl⟩) hH ?_
          try simp only [Act.put, List.setIfInBounds_toArray, List.set_cons_zero, List.set_cons_succ]
          refine wpK.take (i := 16) (v := _) (by simp only [List.getElem?_toArray, List.getElem?_cons_succ, List.getElem?_cons_zero]; rfl) (by kernel_rfl) (by kernel_rfl) (by kernel_rfl) (by kernel_rfl) (by kernel_rfl) (by exact fun _ _ _ h => h) (by first | exact Or.inl ⟨by rfl, by intro w hSw; go_simp; try with_reducible rfl⟩ | exact Or.inr ⟨by rfl, rfl⟩) hH ?_
          try simp only [Act.put, List.setIfInBounds_toArray, List.set_cons_zero, List.set_cons_succ]
          refine wpK.take (i := 17) (v := _) (by simp only [List.getElem?_toArray, List.getElem?_cons_succ, List.getElem?_cons_zero]; rfl) (by kernel_rfl) (by kernel_rfl) (by kernel_rfl) (by kernel_rfl) (by kernel_rfl) (by exact fun _ _ _ h => h) (by first | exact Or.inl ⟨by rfl, by intro w hSw; go_simp; try with_reducible rfl⟩ | exact Or.inr ⟨by rfl, rfl⟩) hH ?_
          try simp only [Act.put, List.setIfInBounds_toArray, List.set_cons_zero, List.set_cons_succ]
          refine wpK.take (i := 18) (v := _) (by simp only [List.getElem?_toArray, List.getElem?_cons_succ, List.getElem?_cons_zero]; rfl) (by kernel_rfl) (by kernel_rfl) (by kernel_rfl) (by kernel_rfl) (by kernel_rfl) (by exact fun _ _ _ h => h) (by first | exact Or.inl ⟨by rfl, by intro w hSw; go_simp; try with_reducible rfl⟩ | exact Or.inr ⟨by rfl, rfl⟩) hH ?_
          try simp only [Act.put, List.setIfInBounds_toArray, List.set_cons_zero, List.set_cons_succ]
          refine wpK.take (i := 19) (v := _) (by simp only [List.getElem?_toArray, List.getElem?_cons_succ, List.getElem?_cons_zero]; rfl) (by kernel_rfl) (by kernel_rfl) (by kernel_rfl) (by kernel_rfl) (by kernel_rfl) (by exact fun _ _ _ h => h) (by first | exact Or.inl ⟨by rfl, by intro w hSw; go_simp; try with_reducible rfl⟩ | exact Or.inr ⟨by rfl, rfl⟩) hH ?_
          try simp only [Act.put, List.setIfInBounds_toArray, List.set_cons_zero, List.set_cons_succ]
          refine wpK.take (i := 20) (v := _) (by simp only [List.getElem?_toArray, List.getElem?_cons_succ, List.getElem?_cons_zero]; rfl) (by kernel_rfl) (by kernel_rfl) (by kernel_rfl) (by kernel_rfl) (by kernel_rfl) (by exact fun _ _ _ h => h) (by first | exact Or.inl ⟨by rfl, by intro w hSw; go_simp; try with_reducible rfl⟩ | exact Or.inr ⟨by rfl, rfl⟩) hH ?_
          try simp only [Act.put, List.setIfInBounds_toArray, List.set_cons_zero, List.set_cons_succ]
          refine wpK.take (i := 21) (v := _) (by simp only [List.getElem?_toArray, List.getElem?_cons_succ, List.getElem?_cons_zero]; rfl) (by kernel_rfl) (by kernel_rfl) (by kernel_rfl) (by kernel_rfl) (by kernel_rfl) (by exact fun _ _ _ h => h) (by first | exact Or.inl ⟨by rfl, by intro w hSw; go_simp; try with_reducible rfl⟩ | exact Or.inr ⟨by rfl, rfl⟩) hH ?_
          try simp only [Act.put, List.setIfInBounds_toArray, List.set_cons_zero, List.set_cons_succ]
          refine wpK.step (i := 22) (by kernel_rfl) (by simp only [List.getElem?_toArray, List.getElem?_cons_succ, List.getElem?_cons_zero]; rfl) (fun K hK => ?_)
          go_simp
          (first | refine K_alloc (K := K) ?_ | refine K_allocD (K := K) ?_); intro g8 w8 hg8 hs8 hb8 hblk8; (try rw [← hg8]); (have HG8 := hid hg8); (have hk8 : Below w3.heap.size w3 w8 := by first | exact Below.next hyd hb8 | exact hb8); (have HB8 := hid hb8); clear hg8 hs8
          refine hK.out _ _ (by assumption) (fun hH => ?_)
          clear hK K
          try simp only [Act.put, List.setIfInBounds_toArray, List.set_cons_zero, List.set_cons_succ]
          refine wpK.late (i := 23) (by kernel_rfl) (by simp only [List.getElem?_toArray, List.getElem?_cons_succ, List.getElem?_cons_zero]; rfl) (by kernel_rfl) (fun K hK => ?_)
          go_simp
          refine hK.out _ _ ?_
          clear hK K
          try simp only [Act.put, List.setIfInBounds_toArray, List.set_cons_zero, List.set_cons_succ]
          refine wpK.late (i := 24) (by kernel_rfl) (by simp only [List.getElem?_toArray, List.getElem?_cons_succ, List.getElem?_cons_zero]; rfl) (by kernel_rfl) (fun K hK => ?_)
          go_simp
          refine hK.out _ _ ?_
          clear hK K
          try simp only [Act.put, List.setIfInBounds_toArray, List.set_cons_zero, List.set_cons_succ]
          refine wpK.late (i := 25) (by kernel_rfl) (by simp only [List.getElem?_toArray, List.getElem?_cons_succ, List.getElem?_cons_zero]; rfl) (by kernel_rfl) (fun K hK => ?_)
          go_simp
          refine hK.out _ _ ?_
          clear hK K
          try simp only [Act.put, List.setIfInBounds_toArray, List.set_cons_zero, List.set_cons_succ]
          refine wpK.done (by kernel_rfl) ?_ _
          have HGK := hid hblk8
          have hgw : w1.heap.size ≤ g8 := by have h1 := HB3.out.size; have h2 := HG8.out; omega
          have HSP : Hid (SplitI k' w1 (w8.setCell ⟨b0, off, none⟩ (.pointer (some ⟨g8, 0, none⟩))) b0 off g8 cs s (leaf4 s.v)) := hid (SplitI.leaf (by rw [HSV.out]; exact HSB.out) HLF.out HP1.out HC.out.1 (by rw [HSV.out]; exact HC.out.2) (by rw [← HK.out]; exact HN.out) HB3.out (by rw [HSV.out]; simpa [leaf4, cellS_eq, c0S, List.replicate] using HGK.out) hgw hk8)
          have HQ8 : Hid (Blk (w8.setCell ⟨b0, off, none⟩ (.pointer (some ⟨g8, 0, none⟩))) g5 #[.int .i64 X, .int .i64 Y, .int .i64 S, .int .i64 S] ∧ Blk (w8.setCell ⟨b0, off, none⟩ (.pointer (some ⟨g8, 0, none⟩))) g6 #[.int .i64 rx, .int .i64 ry, .int .i64 ra, .int .i64 rb]) := hid (by
            have hu := Upd.setCell w8 b0 off (.pointer (some ⟨g8, 0, none⟩))
            have h1 := HNB.out
            exact ⟨(HQ3.out.1.below hk8).upd hu (by omega), (HQ3.out.2.below hk8).upd hu (by omega)⟩)
          clear c0 c1 f0 hyd hH hk8 hb8 hblk8 hgw
          go_wp2_with fail
          go_meet
          exact ⟨k', g8, leaf4 s.v, HK, HSP, HQ8⟩
    · have HLF := hid hlf
      rw [c0S_node hlf] at c0
      clear hlf
      go_wp2_with fail
      refine (rect_In4 X Y S S rx ry ra rb w2).mono ?_
      rintro e w3 ⟨rfl, hb⟩
      have HB3 := hid (Below.next HB2.out hb)
      have HP3 := hid (HP2.out.below hb)
      have HQ3 := hid (And.intro (HQ2.out.1.below hb) (HQ2.out.2.below hb))
      have HS3 := hid (HS2.out.below hb)
      have HW3 := hid (Below.next HW2.out hb)
      clear hb c0 c1 a0 a1 a2 a3 r0 r1 r2 r3
      by_cases hin : InR (X, Y, S, S) (rx, ry, ra, rb)
      · have hdi : decide (InR (X, Y, S, S) (rx, ry, ra, rb)) = true := decide_eq_true hin
        rw [hdi]
        clear hdi
        have f0 : w3.frozen? ⟨b0, off, none⟩ = false := HP3.out.unfrozen off
        have f1 : w3.frozen? ⟨b0, off + 1, none⟩ = false := HP3.out.unfrozen (off + 1)
        have c0 : w3.cell? ⟨b0, off, none⟩ = some (c0S s) := by rw [HP3.out.cell]; exact HC.out.1
        have c1 : w3.cell? ⟨b0, off + 1, none⟩ = some (.int .u8 sv) := by rw [HP3.out.cell]; exact HC.out.2
        have HPO := hid (SetPost.leaf (k := k) (off := off) (s := s) (X := X) (Y := Y) (r := (rx, ry, ra, rb)) (v := v) HP1.out HB3.out HV.out (fun s' e1 e2 => by
          have := setOk_in (s := s) (s' := s') (r := (rx, ry, ra, rb)) HOW.out e1 (by unfold ownR; rw [HSD.out]; exact hin)
          rw [e2] at this; exact this))
        clear hin
        go_wp2_with fail
        go_end0
        exact HPO.out.ahead HW1.out
      · have hdi : decide (InR (X, Y, S, S) (rx, ry, ra, rb)) = false := decide_eq_false hin
        rw [hdi]
        clear hdi
        obtain ⟨k', hk'⟩ : ∃ k', k = k' + 1 := by
          cases k with
          | zero =>
            exfalso
            refine hin ?_
            have h1 := HMT.out
            have h2 := HSD.out
            have h3 := HOW.out.right
            unfold ownR at h3
            rw [h2] at h3
            rw [sd_zero] at h2
            obtain ⟨-, z2, z3, z4, z5, z6⟩ := h1
            refine ⟨h3, z2, ?_⟩
            simp only at z3 z4 z5 z6 ⊢
            omega
          | succ k' => exact ⟨k', rfl⟩
        have HK := hid hk'
        clear hk' hin
        have c0 : w3.cell? ⟨b0, off, none⟩ = some (c0S s) := by rw [HP3.out.cell]; exact HC.out.1
        have c1 : w3.cell? ⟨b0, off + 1, none⟩ = some (.int .u8 sv) := by rw [HP3.out.cell]; exact HC.out.2
        have HSP : Hid (SplitI k' w1 w3 b0 off s.b cs s s.ks) := hid (SplitI.node (by rw [← HK.out]; exact HS1.out) HLF.out HP1.out HC.out.1 (by rw [HSV.out]; exact HC.out.2) (by rw [← HK.out]; exact HN.out) HB3.out)
        rw [c0S_node HLF.out] at c0
        go_wp2_with fail
        go_meet
        exact ⟨k', s.b, s.ks, HK, HSP, HQ3⟩
  case rest =>
  rename World => w2
  obtain ⟨k', g, ks, HK, HSP, HQ2⟩ := hcut
  have HW2 : Hid (Below w.heap.size w w2 ∨ True) := hid (.inr trivial)
  have HOQ : Hid (OwnOk (k' + 1) X Y) := hid (by rw [← HK.out]; exact HOW.out)
  have HSDq : Hid (2 * sd k' = S) := hid (by rw [← HSD.out, HK.out, sd_succ])
  have HI0 := hid (HSP.out.qi X Y (rx, ry, ra, rb) v)
  have hqua := fun (wz : World) => rect_QuartersS X Y (sd k') S HSDq.out wz (sd_pos k') HOQ.out.1 (by have := HOQ.out.2.1; rw [sd_succ, HSDq.out] at this; exact this) HOQ.out.2.2.1 (by have := HOQ.out.2.2.2; rw [sd_succ, HSDq.out] at this; exact this)
  have HQUA := hid hqua
  obtain ⟨a0, a1, a2, a3⟩ := HQ2.out.1.c4r
  clear hqua
  go_wp2_with fail
  refine (HQUA.out w2).mono ?_
  rintro e w3 ⟨rfl, hb⟩
  have HI3 : Hid (QuR k' w1 b0 off g g5 g6 cs s ks X Y S (rx, ry, ra, rb) v (.bool true) (.int .i64 0) w3) := hid ⟨0, ks, rfl, rfl, by omega, hid (HI0.out.below hb), hid ⟨HQ2.out.1.below hb, HQ2.out.2.below hb⟩⟩
  clear hb a0 a1 a2 a3
  go_wp2_with fail
  go_loopw [8, 73] (fun v8 v73 wr => QuR k' w1 b0 off g g5 g6 cs s ks X Y S (rx, ry, ra, rb) v v8 v73 wr) (fun _ v73 _ => 4 - (intOf v73).toNat)
  case atStart => exact HI3.out
  case round =>
    clear HI3
    obtain ⟨i, ms, rfl, rfl, hi, HQ, HR⟩ := hrel
    have hg0 := (set2_get HC.out.1 HC.out.2 ⟨g, s.v, ms⟩)
    have hms : ms ≠ [] := fun e => by have := HQ.out.len; rw [e] at this; simp at this
    by_cases hlt : i < 4
    · have i1 : (i : Int) < 4 := by omega
      have i0 : (0 : Int) ≤ (i : Int) := by omega
      have i2 : (i : Int).toNat = i := by omega
      obtain ⟨x1, hx1⟩ : ∃ z, quX X (sd k') i = z := ⟨_, rfl⟩
      obtain ⟨y1, hy1⟩ : ∃ z, quY Y (sd k') i = z := ⟨_, rfl⟩
      obtain ⟨h1, hh1⟩ : ∃ z, sd k' = z := ⟨_, rfl⟩
      have hih := HIH.out k' HK.out (ms.getD i default) (quX X (sd k') i) (quY Y (sd k') i) rx ry ra rb v
      have HNX := hid (fun (wr' : World) (hQ : QI k' w1 wr' b0 off g cs s ks ms s.v X Y (rx, ry, ra, rb) v i) => hih wr' g (i * 2) _ (hQ.kids _ (by
        rw [List.getD_eq_getElem?_getD, List.getElem?_eq_getElem (by rw [hQ.len]; exact hlt)]; simp)) hQ.blkg (kid_cells hQ.len hlt).1 (kid_cells hQ.len hlt).2 (by
        obtain ⟨n1, n2⟩ := List.nodup_cons.1 hQ.nd
        have hs2 := (split_at (show i < ms.length by rw [hQ.len]; exact hlt)).1
        have hsub : List.Sublist (blkS k' (ms.getD i default)) (ms.flatMap (blkS k')) := by
          conv => rhs; rw [hs2]
          rw [List.flatMap_append, List.flatMap_cons]
          exact (List.sublist_append_left _ _).trans (List.sublist_append_right _ _)
        exact n2.sublist (List.Sublist.cons_cons _ hsub)) (HOQ.out.qu hlt) HV.out)
      have hidx : ∀ wz : World, (Instr.index 144 (quArr X Y (sd k')) (.int .i64 (i : Int))).run Tryz.prog wz = .ok (.agg #[.int .i64 x1, .int .i64 y1, .int .i64 h1, .int .i64 h1]) wz := fun wz => by rw [idx_quArr _ _ _ wz i hlt, hx1, hy1, hh1]
      rw [hx1, hy1, hh1] at HNX
      have HXE := hid (And.intro hx1 (And.intro hy1 hh1))
      clear hih hx1 hy1 hh1
      go_upto_region 10 with fail
      obtain ⟨w5, hw5⟩ : ∃ w5, w5 = wr.alloc (.cells #[.int .i64 x1, .int .i64 y1, .int .i64 h1, .int .i64 h1] 25) := ⟨_, rfl⟩
      rw [← hw5]
      have hb5 : Below wr.heap.size wr w5 := by rw [hw5]; exact Below.new _ _
      obtain ⟨bb, hbb⟩ : ∃ bb, bb = wr.heap.size := ⟨_, rfl⟩
      rw [← hbb]
      have hO5 : Blk w5 bb #[.int .i64 x1, .int .i64 y1, .int .i64 h1, .int .i64 h1] := by rw [hw5, hbb]; exact Blk.new _ _ _
      have HQ5 := hid (HQ.out.below hb5)
      have HR5 := hid (And.intro (HR.out.1.below hb5) (HR.out.2.below hb5))
      obtain ⟨y0, y2, y3, y4⟩ := hO5.c4r
      obtain ⟨r0, r1, r2, r3⟩ := HR5.out.2.c4r
      have hp0 : w5.cell? ⟨b0, off, none⟩ = some (.pointer (some ⟨g, 0, none⟩)) := by rw [HQ5.out.blk0.cell, hg0.1, c0S_node (s := ⟨g, s.v, ms⟩) hms]
      clear hw5 hb5 hbb hO5 hidx
      go_wp2_with fail
      refine (HNX.out w5 HQ5.out).mono ?_
      intro e w6 hpo
      have hsu := hpo
      obtain ⟨he, m, hqn, hgm, hsm⟩ := HQ5.out.next hlt (by rw [HXE.out.1, HXE.out.2.1]; exact hpo)
      subst he
      have HQN := hid hqn
      have HQ8 : Hid (Blk w6 g5 #[.int .i64 X, .int .i64 Y, .int .i64 S, .int .i64 S] ∧ Blk w6 g6 #[.int .i64 rx, .int .i64 ry, .int .i64 ra, .int .i64 rb]) := hid (by
        obtain ⟨-, -, -, -, -, -, hu, -⟩ := hsu
        have hn := HNB.out
        have hno : ∀ q, w.heap.size ≤ q → q < w1.heap.size → ¬ (q = g ∨ q ∈ blkS k' (ms.getD i default)) := fun q hq1 hq2 hq3 => by
          have hq4 : q ∈ g :: ms.flatMap (blkS k') := by
            rcases hq3 with z | z
            · rw [z]; simp
            · refine List.mem_cons_of_mem _ (List.mem_flatMap.2 ⟨_, ?_, z⟩)
              rw [List.getD_eq_getElem?_getD, List.getElem?_eq_getElem (by rw [HQ5.out.len]; exact hlt)]; simp
          rcases HQ5.out.fr q hq4 with z | z
          · have := HLT.out q (by rw [HK.out]; exact z); omega
          · omega
        exact ⟨HR5.out.1.upd hu (hno g5 hn.2.2.2.2.1 hn.2.2.1), HR5.out.2.upd hu (hno g6 hn.2.2.2.2.2 hn.2.2.2.1)⟩)
      have hlen : (ms.set i m).length = 4 := hqn.len
      have hmn : ms.set i m ≠ [] := fun e => by rw [e] at hlen; simp at hlen
      obtain ⟨M0, hM0⟩ : ∃ z, ((ms.set i m).getD 0 default).v = z := ⟨_, rfl⟩
      have HON : Hid (oneS (ms.set i m) (i + 1) = (oneS ms i && (decide (m.ks = []) && decide (m.v = M0)))) := hid (by
        rw [oneS_succ, hgm, hM0]
        rcases Nat.eq_zero_or_pos i with e | e
        · subst e; rfl
        · rw [oneS_set ms i m e])
      have hp0 : w6.cell? ⟨b0, off, none⟩ = some (.pointer (some ⟨g, 0, none⟩)) := by rw [hqn.blk0.cell, (set2_get HC.out.1 HC.out.2 ⟨g, s.v, ms.set i m⟩).1, c0S_node (s := ⟨g, s.v, ms.set i m⟩) hmn]
      have hk0 : w6.cell? ⟨g, i * 2, none⟩ = some (c0S m) := by rw [hqn.blkg.cell, (kid_cells hlen hlt).1, hgm]
      have hk1 : w6.cell? ⟨g, i * 2 + 1, none⟩ = some (.int .u8 m.v) := by rw [hqn.blkg.cell, (kid_cells hlen hlt).2, hgm]
      have hz1 : w6.cell? ⟨g, 1, none⟩ = some (.int .u8 M0) := by rw [hqn.blkg.cell, ← hM0]; exact (kid_cells hlen (i := 0) (by omega)).2
      obtain ⟨mv, hmv⟩ : ∃ z, m.v = z := ⟨_, rfl⟩
      rw [hmv] at hk1 HON
      replace hp0 := fun (y : World) (hy : Below w6.heap.size w6 y) => cellOf_belowR hy hp0
      replace hk1 := fun (y : World) (hy : Below w6.heap.size w6 y) => cellOf_belowR hy hk1
      replace hz1 := fun (y : World) (hy : Below w6.heap.size w6 y) => cellOf_belowR hy hz1
      clear hqn hpo hsu hgm hsm y0 y2 y3 y4 r0 r1 r2 r3 hlen hmn hM0 hmv
      obtain ⟨on, hon⟩ : ∃ z, oneS ms i = z := ⟨_, rfl⟩
      rw [hon] at HON ⊢
      clear hon
      have hyd := (Below.refl w6.heap.size w6).drew
      have HQZ := hid (HQN.out.below hyd)
      have HRZ := hid (And.intro (HQ8.out.1.below hyd) (HQ8.out.2.below hyd))
      go_upto_region 12 with fail
      cases on with
      | false =>
        clear hk0 hk1 hz1
        refine wp_region_kept [23] (fun z => Below w6.heap.size w6 z) (by kernel_rfl) (by assumption) (fun hH => ?_)
        refine wpK.take (i := 0) (v := _) (by simp only [List.getElem?_toArray, List.getElem?_cons_succ, List.getElem?_cons_zero]; rfl) (by kernel_rfl) (by kernel_rfl) (by kernel_rfl) (by kernel_rfl) (by kernel_rfl) (by exact fun _ _ _ h => h) (by first | exact Or.inl ⟨by rfl, by intro w hSw; go_simp; try with_reducible rfl⟩ | exact Or.inr ⟨by rfl, rfl⟩) hH ?_
        try simp only [Act.put, List.setIfInBounds_toArray, List.set_cons_zero, List.set_cons_succ]
        refine wpK.take (i := 1) (v := _) (by simp only [List.getElem?_toArray, List.getElem?_cons_succ, List.getElem?_cons_zero]; rfl) (by kernel_rfl) (by kernel_rfl) (by kernel_rfl) (by kernel_rfl) (by kernel_rfl) (by exact fun _ _ _ h => h) (by first | exact Or.inl ⟨by rfl, by intro w hSw; go_simp; try with_reducible rfl⟩ | exact Or.inr ⟨by rfl, rfl⟩) hH ?_
        try simp only [Act.put, List.setIfInBounds_toArray, List.set_cons_zero, List.set_cons_succ]
        refine wpK.take (i := 2) (v := _) (by simp only [List.getElem?_toArray, List.getElem?_cons_succ, List.getElem?_cons_zero]; rfl) (by kernel_rfl) (by kernel_rfl) (by kernel_rfl) (by kernel_rfl) (by kernel_rfl) (by exact fun _ _ _ h => h) (by first | exact Or.inl ⟨by rfl, by intro w hSw; go_simp; try with_reducible rfl⟩ | exact Or.inr ⟨by rfl, rfl⟩) hH ?_
        try simp only [Act.put, List.setIfInBounds_toArray, List.set_cons_zero, List.set_cons_succ]
        refine wpK.take (i := 3) (v := _) (by simp only [List.getElem?_toArray, List.getElem?_cons_succ, List.getElem?_cons_zero]; rfl) (by kernel_rfl) (by kernel_rfl) (by kernel_rfl) (by kernel_rfl) (by kernel_rfl) (by exact fun _ _ _ h => h) (by first | exact Or.inl ⟨by rfl, by intro w hSw; go_simp; try with_reducible rfl⟩ | exact Or.inr ⟨by rfl, rfl⟩) hH ?_
        try simp only [Act.put, List.setIfInBounds_toArray, List.set_cons_zero, List.set_cons_succ]
        refine wpK.take (i := 4) (v := _) (by simp only [List.getElem?_toArray, List.getElem?_cons_succ, List.getElem?_cons_zero]; rfl) (by kernel_rfl) (by kernel_rfl) (by kernel_rfl) (by kernel_rfl) (by kernel_rfl) (by exact fun _ _ _ h => h) (by first | exact Or.inl ⟨by rfl, by intro w hSw; go_simp; try with_reducible rfl⟩ | exact Or.inr ⟨by rfl, rfl⟩) hH ?_
        try simp only [Act.put, List.setIfInBounds_toArray, List.set_cons_zero, List.set_cons_succ]
        refine wpK.take (i := 5) (v := _) (by simp only [List.getElem?_toArray, List.getElem?_cons_succ, List.getElem?_cons_zero]; rfl) (by kernel_rfl) (by kernel_rfl) (by kernel_rfl) (by kernel_rfl) (by kernel_rfl) (by exact fun _ _ _ h => h) (by first | exact Or.inl ⟨by rfl, by intro w hSw; go_simp; try with_reducible rfl⟩ | exact Or.inr ⟨by rfl, rfl⟩) hH ?_
        try simp only [Act.put, List.setIfInBounds_toArray, List.set_cons_zero, List.set_cons_succ]
        refine wpK.take (i := 6) (v := _) (by simp only [List.getElem?_toArray, List.getElem?_cons_succ, List.getElem?_cons_zero]; rfl) (by kernel_rfl) (by kernel_rfl) (by kernel_rfl) (by kernel_rfl) (by kernel_rfl) (by exact fun _ _ _ h => h) (by first | exact Or.inl ⟨by rfl, by intro w hSw; go_simp; try with_reducible rfl⟩ | exact Or.inr ⟨by rfl, rfl⟩) hH ?_
        try simp only [Act.put, List.setIfInBounds_toArray, List.set_cons_zero, List.set_cons_succ]
        refine wpK.take (i := 7) (v := _) (by simp only [List.getElem?_toArray, List.getElem?_cons_succ, List.getElem?_cons_zero]; rfl) (by kernel_rfl) (by kernel_rfl) (by kernel_rfl) (by kernel_rfl) (by kernel_rfl) (by exact fun _ _ _ h => h) (by first | exact Or.inl ⟨by rfl, by intro w hSw; go_simp; try with_reducible rfl⟩ | exact Or.inr ⟨by rfl, rfl⟩) hH ?_
        try simp only [Act.put, List.setIfInBounds_toArray, List.set_cons_zero, List.set_cons_succ]
        refine wpK.take (i := 8) (v := _) (by simp only [List.getElem?_toArray, List.getElem?_cons_succ, List.getElem?_cons_zero]; rfl) (by kernel_rfl) (by kernel_rfl) (by kernel_rfl) (by kernel_rfl) (by kernel_rfl) (by exact fun _ _ _ h => h) (by first | exact Or.inl ⟨by rfl, by intro w hSw; go_simp; try with_reducible rfl⟩ | exact Or.inr ⟨by rfl, rfl⟩) hH ?_
        try simp only [Act.put, List.setIfInBounds_toArray, List.set_cons_zero, List.set_cons_succ]
        refine wpK.take (i := 9) (v := _) (by simp only [List.getElem?_toArray, List.getElem?_cons_succ, List.getElem?_cons_zero]; rfl) (by kernel_rfl) (by kernel_rfl) (by kernel_rfl) (by kernel_rfl) (by kernel_rfl) (by exact fun _ _ _ h => h) (by first | exact Or.inl ⟨by rfl, by intro w hSw; go_simp; try with_reducible rfl⟩ | exact Or.inr ⟨by rfl, rfl⟩) hH ?_
        try simp only [Act.put, List.setIfInBounds_toArray, List.set_cons_zero, List.set_cons_succ]
        refine wpK.take (i := 10) (v := _) (by simp only [List.getElem?_toArray, List.getElem?_cons_succ, List.getElem?_cons_zero]; rfl) (by kernel_rfl) (by kernel_rfl) (by kernel_rfl) (by kernel_rfl) (by kernel_rfl) (by exact fun _ _ _ h => h) (by first | exact Or.inl ⟨by rfl, by intro w hSw; go_simp; try with_reducible rfl⟩ | exact Or.inr ⟨by rfl, rfl⟩) hH ?_
        try simp only [Act.put, List.setIfInBounds_toArray, List.set_cons_zero, List.set_cons_succ]
        refine wpK.take (i := 11) (v := _) (by simp only [List.getElem?_toArray, List.getElem?_cons_succ, List.getElem?_cons_zero]; rfl) (by kernel_rfl) (by kernel_rfl) (by kernel_rfl) (by kernel_rfl) (by kernel_rfl) (by exact fun _ _ _ h => h) (by first | exact Or.inl ⟨by rfl, by intro w hSw; go_simp; try with_reducible rfl⟩ | exact Or.inr ⟨by rfl, rfl⟩) hH ?_
        try simp only [Act.put, List.setIfInBounds_toArray, List.set_cons_zero, List.set_cons_succ]
        refine wpK.take (i := 12) (v := _) (by simp only [List.getElem?_toArray, List.getElem?_cons_succ, List.getElem?_cons_zero]; rfl) (by kernel_rfl) (by kernel_rfl) (by kernel_rfl) (by kernel_rfl) (by kernel_rfl) (by exact fun _ _ _ h => h) (by first | exact Or.inl ⟨by rfl, by intro w hSw; go_simp; try with_reducible rfl⟩ | exact Or.inr ⟨by rfl, rfl⟩) hH ?_
        try simp only [Act.put, List.setIfInBounds_toArray, List.set_cons_zero, List.set_cons_succ]
        refine wpK.take (i := 13) (v := _) (by simp only [List.getElem?_toArray, List.getElem?_cons_succ, List.getElem?_cons_zero]; rfl) (by kernel_rfl) (by kernel_rfl) (by kernel_rfl) (by kernel_rfl) (by kernel_rfl) (by exact fun _ _ _ h => h) (by first | exact Or.inl ⟨by rfl, by intro w hSw; go_simp; try with_reducible rfl⟩ | exact Or.inr ⟨by rfl, rfl⟩) hH ?_
        try simp only [Act.put, List.setIfInBounds_toArray, List.set_cons_zero, List.set_cons_succ]
        refine wpK.take (i := 14) (v := _) (by simp only [List.getElem?_toArray, List.getElem?_cons_succ, List.getElem?_cons_zero]; rfl) (by kernel_rfl) (by kernel_rfl) (by kernel_rfl) (by kernel_rfl) (by kernel_rfl) (by exact fun _ _ _ h => h) (by first | exact Or.inl ⟨by rfl, by intro w hSw; go_simp; try with_reducible rfl⟩ | exact Or.inr ⟨by rfl, rfl⟩) hH ?_
        try simp only [Act.put, List.setIfInBounds_toArray, List.set_cons_zero, List.set_cons_succ]
        refine wpK.take (i := 15) (v := _) (by simp only [List.getElem?_toArray, List.getElem?_cons_succ, List.getElem?_cons_zero]; rfl) (by kernel_rfl) (by kernel_rfl) (by kernel_rfl) (by kernel_rfl) (by kernel_rfl) (by exact fun _ _ _ h => h) (by first | exact Or.inl ⟨by rfl, by intro w hSw; go_simp; try with_reducible rfl⟩ | exact Or.inr ⟨by rfl, rfl⟩) hH ?_
        try simp only [Act.put, List.setIfInBounds_toArray, List.set_cons_zero, List.set_cons_succ]
        refine wpK.take (i := 16) (v := _) (by simp only [List.getElem?_toArray, List.getElem?_cons_succ, List.getElem?_cons_zero]; rfl) (by kernel_rfl) (by kernel_rfl) (by kernel_rfl) (by kernel_rfl) (by kernel_rfl) (by exact fun _ _ _ h => h) (by first | exact Or.inl ⟨by rfl, by intro w hSw; go_simp; try with_reducible rfl⟩ | exact Or.inr ⟨by rfl, rfl⟩) hH ?_
        try simp only [Act.put, List.setIfInBounds_toArray, List.set_cons_zero, List.set_cons_succ]
        refine wpK.take (i := 17) (v := _) (by simp only [List.getElem?_toArray, List.getElem?_cons_succ, List.getElem?_cons_zero]; rfl) (by kernel_rfl) (by kernel_rfl) (by kernel_rfl) (by kernel_rfl) (by kernel_rfl) (by exact fun _ _ _ h => h) (by first | exact Or.inl ⟨by rfl, by intro w hSw; go_simp; try with_reducible rfl⟩ | exact Or.inr ⟨by rfl, rfl⟩) hH ?_
        try simp only [Act.put, List.setIfInBounds_toArray, List.set_cons_zero, List.set_cons_succ]
        refine wpK.take (i := 18) (v := _) (by simp only [List.getElem?_toArray, List.getElem?_cons_succ, List.getElem?_cons_zero]; rfl) (by kernel_rfl) (by kernel_rfl) (by kernel_rfl) (by kernel_rfl) (by kernel_rfl) (by exact fun _ _ _ h => h) (by first | exact Or.inl ⟨by rfl, by intro w hSw; go_simp; try with_reducible rfl⟩ | exact Or.inr ⟨by rfl, rfl⟩) hH ?_
        try simp only [Act.put, List.setIfInBounds_toArray, List.set_cons_zero, List.set_cons_succ]
        refine wpK.take (i := 19) (v := _) (by simp only [List.getElem?_toArray, List.getElem?_cons_succ, List.getElem?_cons_zero]; rfl) (by kernel_rfl) (by kernel_rfl) (by kernel_rfl) (by kernel_rfl) (by kernel_rfl) (by exact fun _ _ _ h => h) (by first | exact Or.inl ⟨by rfl, by intro w hSw; go_simp; try with_reducible rfl⟩ | exact Or.inr ⟨by rfl, rfl⟩) hH ?_
        try simp only [Act.put, List.setIfInBounds_toArray, List.set_cons_zero, List.set_cons_succ]
        refine wpK.take (i := 20) (v := _) (by simp only [List.getElem?_toArray, List.getElem?_cons_succ, List.getElem?_cons_zero]; rfl) (by kernel_rfl) (by kernel_rfl) (by kernel_rfl) (by kernel_rfl) (by kernel_rfl) (by exact fun _ _ _ h => h) (by first | exact Or.inl ⟨by rfl, by intro w hSw; go_simp; try with_reducible rfl⟩ | exact Or.inr ⟨by rfl, rfl⟩) hH ?_
        try simp only [Act.put, List.setIfInBounds_toArray, List.set_cons_zero, List.set_cons_succ]
        refine wpK.take (i := 21) (v := _) (by simp only [List.getElem?_toArray, List.getElem?_cons_succ, List.getElem?_cons_zero]; rfl) (by kernel_rfl) (by kernel_rfl) (by kernel_rfl) (by kernel_rfl) (by kernel_rfl) (by exact fun _ _ _ h => h) (by first | exact Or.inl ⟨by rfl, by intro w hSw; go_simp; try with_reducible rfl⟩ | exact Or.inr ⟨by rfl, rfl⟩) hH ?_
        try simp only [Act.put, List.setIfInBounds_toArray, List.set_cons_zero, List.set_cons_succ]
        refine wpK.take (i := 22) (v := _) (by simp only [List.getElem?_toArray, List.getElem?_cons_succ, List.getElem?_cons_zero]; rfl) (by kernel_rfl) (by kernel_rfl) (by kernel_rfl) (by kernel_rfl) (by kernel_rfl) (by exact fun _ _ _ h => h) (by first | exact Or.inl ⟨by rfl, by intro w hSw; go_simp; try with_reducible rfl⟩ | exact Or.inr ⟨by rfl, rfl⟩) hH ?_
        try simp only [Act.put, List.setIfInBounds_toArray, List.set_cons_zero, List.set_cons_succ]
        refine wpK.late (i := 23) (by kernel_rfl) (by simp only [List.getElem?_toArray, List.getElem?_cons_succ, List.getElem?_cons_zero]; rfl) (by kernel_rfl) (fun K hK => ?_)
        go_simp
        refine hK.out _ _ ?_
        clear hK K
        try simp only [Act.put, List.setIfInBounds_toArray, List.set_cons_zero, List.set_cons_succ]
        refine wpK.done (by kernel_rfl) ?_ _
        clear hp0 hyd hH
        have HO2 : Hid (oneS (ms.set i m) (i + 1) = false) := hid (by rw [HON.out]; rfl)
        go_wp2_with fail
        go_roundw
        case rel => exact ⟨i + 1, ms.set i m, by rw [HO2.out], by go_num, by omega, HQZ, HRZ⟩
        case measure => simp [intOf]; omega
      | true =>
        by_cases hlf : m.ks = []
        · rw [c0S_leaf hlf] at hk0
          replace hk0 := fun (y : World) (hy : Below w6.heap.size w6 y) => cellOf_belowR hy hk0
          have HO2 : Hid (oneS (ms.set i m) (i + 1) = decide (mv = M0)) := hid (by rw [HON.out, decide_eq_true hlf]; rfl)
          clear hlf
          by_cases hev : mv = M0
          · subst hev
            refine wp_region_kept [23] (fun z => Below w6.heap.size w6 z) (by kernel_rfl) (by assumption) (fun hH => ?_)
            refine wpK.take (i := 0) (v := _) (by simp only [List.getElem?_toArray, List.getElem?_cons_succ, List.getElem?_cons_zero]; rfl) (by kernel_rfl) (by kernel_rfl) (by kernel_rfl) (by kernel_rfl) (by kernel_rfl) (by exact fun _ _ _ h => h) (by first | exact Or.inl ⟨by rfl, by intro w hSw; go_simp; try with_reducible rfl⟩ | exact Or.inr ⟨by rfl, rfl⟩) hH ?_
            try simp only [Act.put, List.setIfInBounds_toArray, List.set_cons_zero, List.set_cons_succ]
            refine wpK.take (i := 1) (v := _) (by simp only [List.getElem?_toArray, List.getElem?_cons_succ, List.getElem?_cons_zero]; rfl) (by kernel_rfl) (by kernel_rfl) (by kernel_rfl) (by kernel_rfl) (by kernel_rfl) (by exact fun _ _ _ h => h) (by first | exact Or.inl ⟨by rfl, by intro w hSw; go_simp; try with_reducible rfl⟩ | exact Or.inr ⟨by rfl, rfl⟩) hH ?_
            try simp only [Act.put, List.setIfInBounds_toArray, List.set_cons_zero, List.set_cons_succ]
            refine wpK.take (i := 2) (v := _) (by simp only [List.getElem?_toArray, List.getElem?_cons_succ, List.getElem?_cons_zero]; rfl) (by kernel_rfl) (by kernel_rfl) (by kernel_rfl) (by kernel_rfl) (by kernel_rfl) (by exact fun _ _ _ h => h) (by first | exact Or.inl ⟨by rfl, by intro w hSw; go_simp; try with_reducible rfl⟩ | exact Or.inr ⟨by rfl, rfl⟩) hH ?_
            try simp only [Act.put, List.setIfInBounds_toArray, List.set_cons_zero, List.set_cons_succ]
            refine wpK.take (i := 3) (v := _) (by simp only [List.getElem?_toArray, List.getElem?_cons_succ, List.getElem?_cons_zero]; rfl) (by kernel_rfl) (by kernel_rfl) (by kernel_rfl) (by kernel_rfl) (by kernel_rfl) (by exact fun _ _ _ h => h) (by first | exact Or.inl ⟨by rfl, by intro w hSw; go_simp; try with_reducible rfl⟩ | exact Or.inr ⟨by rfl, rfl⟩) hH ?_
            try simp only [Act.put, List.setIfInBounds_toArray, List.set_cons_zero, List.set_cons_succ]
            refine wpK.take (i := 4) (v := _) (by simp only [List.getElem?_toArray, List.getElem?_cons_succ, List.getElem?_cons_zero]; rfl) (by kernel_rfl) (by kernel_rfl) (by kernel_rfl) (by kernel_rfl) (by kernel_rfl) (by exact fun _ _ _ h => h) (by first | exact Or.inl ⟨by rfl, by intro w hSw; go_simp; try with_reducible rfl⟩ | exact Or.inr ⟨by rfl, rfl⟩) hH ?_
            try simp only [Act.put, List.setIfInBounds_toArray, List.set_cons_zero, List.set_cons_succ]
            refine wpK.take (i := 5) (v := _) (by simp only [List.getElem?_toArray, List.getElem?_cons_succ, List.getElem?_cons_zero]; rfl) (by kernel_rfl) (by kernel_rfl) (by kernel_rfl) (by kernel_rfl) (by kernel_rfl) (by exact fun _ _ _ h => h) (by first | exact Or.inl ⟨by rfl, by intro w hSw; go_simp; try with_reducible rfl⟩ | exact Or.inr ⟨by rfl, rfl⟩) hH ?_
            try simp only [Act.put, List.setIfInBounds_toArray, List.set_cons_zero, List.set_cons_succ]
            refine wpK.take (i := 6) (v := _) (by simp only [List.getElem?_toArray, List.getElem?_cons_succ, List.getElem?_cons_zero]; rfl) (by kernel_rfl) (by kernel_rfl) (by kernel_rfl) (by kernel_rfl) (by kernel_rfl) (by exact fun _ _ _ h => h) (by first | exact Or.inl ⟨by rfl, by intro w hSw; go_simp; try with_reducible rfl⟩ | exact Or.inr ⟨by rfl, rfl⟩) hH ?_
            try simp only [Act.put, List.setIfInBounds_toArray, List.set_cons_zero, List.set_cons_succ]
            refine wpK.take (i := 7) (v := _) (by simp only [List.getElem?_toArray, List.getElem?_cons_succ, List.getElem?_cons_zero]; rfl) (by kernel_rfl) (by kernel_rfl) (by kernel_rfl) (by kernel_rfl) (by kernel_rfl) (by exact fun _ _ _ h => h) (by first | exact Or.inl ⟨by rfl, by intro w hSw; go_simp; try with_reducible rfl⟩ | exact Or.inr ⟨by rfl, rfl⟩) hH ?_
            try simp only [Act.put, List.setIfInBounds_toArray, List.set_cons_zero, List.set_cons_succ]
            refine wpK.take (i := 8) (v := _) (by simp only [List.getElem?_toArray, List.getElem?_cons_succ, List.getElem?_cons_zero]; rfl) (by kernel_rfl) (by kernel_rfl) (by kernel_rfl) (by kernel_rfl) (by kernel_rfl) (by exact fun _ _ _ h => h) (by first | exact Or.inl ⟨by rfl, by intro w hSw; go_simp; try with_reducible rfl⟩ | exact Or.inr ⟨by rfl, rfl⟩) hH ?_
            try simp only [Act.put, List.setIfInBounds_toArray, List.set_cons_zero, List.set_cons_succ]
            refine wpK.take (i := 9) (v := _) (by simp only [List.getElem?_toArray, List.getElem?_cons_succ, List.getElem?_cons_zero]; rfl) (by kernel_rfl) (by kernel_rfl) (by kernel_rfl) (by kernel_rfl) (by kernel_rfl) (by exact fun _ _ _ h => h) (by first | exact Or.inl ⟨by rfl, by intro w hSw; go_simp; try with_reducible rfl⟩ | exact Or.inr ⟨by rfl, rfl⟩) hH ?_
            try simp only [Act.put, List.setIfInBounds_toArray, List.set_cons_zero, List.set_cons_succ]
            refine wpK.take (i := 10) (v := _) (by simp only [List.getElem?_toArray, List.getElem?_cons_succ, List.getElem?_cons_zero]; rfl) (by kernel_rfl) (by kernel_rfl) (by kernel_rfl) (by kernel_rfl) (by kernel_rfl) (by exact fun _ _ _ h => h) (by first | exact Or.inl ⟨by rfl, by intro w hSw; go_simp; try with_reducible rfl⟩ | exact Or.inr ⟨by rfl, rfl⟩) hH ?_
            try simp only [Act.put, List.setIfInBounds_toArray, List.set_cons_zero, List.set_cons_succ]
            refine wpK.take (i := 11) (v := _) (by simp only [List.getElem?_toArray, List.getElem?_cons_succ, List.getElem?_cons_zero]; rfl) (by kernel_rfl) (by kernel_rfl) (by kernel_rfl) (by kernel_rfl) (by kernel_rfl) (by exact fun _ _ _ h => h) (by first | exact Or.inl ⟨by rfl, by intro w hSw; go_simp; try with_reducible rfl⟩ | exact Or.inr ⟨by rfl, rfl⟩) hH ?_
            try simp only [Act.put, List.setIfInBounds_toArray, List.set_cons_zero, List.set_cons_succ]
            refine wpK.take (i := 12) (v := _) (by simp only [List.getElem?_toArray, List.getElem?_cons_succ, List.getElem?_cons_zero]; rfl) (by kernel_rfl) (by kernel_rfl) (by kernel_rfl) (by kernel_rfl) (by kernel_rfl) (by exact fun _ _ _ h => h) (by first | exact Or.inl ⟨by rfl, by intro w hSw; go_simp; try with_reducible rfl⟩ | exact Or.inr ⟨by rfl, rfl⟩) hH ?_
            try simp only [Act.put, List.setIfInBounds_toArray, List.set_cons_zero, List.set_cons_succ]
            refine wpK.take (i := 13) (v := _) (by simp only [List.getElem?_toArray, List.getElem?_cons_succ, List.getElem?_cons_zero]; rfl) (by kernel_rfl) (by kernel_rfl) (by kernel_rfl) (by kernel_rfl) (by kernel_rfl) (by exact fun _ _ _ h => h) (by first | exact Or.inl ⟨by rfl, by intro w hSw; go_simp; try with_reducible rfl⟩ | exact Or.inr ⟨by rfl, rfl⟩) hH ?_
            try simp only [Act.put, List.setIfInBounds_toArray, List.set_cons_zero, List.set_cons_succ]
            refine wpK.take (i := 14) (v := _) (by simp only [List.getElem?_toArray, List.getElem?_cons_succ, List.getElem?_cons_zero]; rfl) (by kernel_rfl) (by kernel_rfl) (by kernel_rfl) (by kernel_rfl) (by kernel_rfl) (by exact fun _ _ _ h => h) (by first | exact Or.inl ⟨by rfl, by intro w hSw; go_simp; try with_reducible rfl⟩ | exact Or.inr ⟨by rfl, rfl⟩) hH ?_
            try simp only [Act.put, List.setIfInBounds_toArray, List.set_cons_zero, List.set_cons_succ]
            refine wpK.take (i := 15) (v := _) (by simp only [List.getElem?_toArray, List.getElem?_cons_succ, List.getElem?_cons_zero]; rfl) (by kernel_rfl) (by kernel_rfl) (by kernel_rfl) (by kernel_rfl) (by kernel_rfl) (by exact fun _ _ _ h => h) (by first | exact Or.inl ⟨by rfl, by intro w hSw; go_simp; try with_reducible rfl⟩ | exact Or.inr ⟨by rfl, rfl⟩) hH ?_
            try simp only [Act.put, List.setIfInBounds_toArray, List.set_cons_zero, List.set_cons_succ]
            refine wpK.take (i := 16) (v := _) (by simp only [List.getElem?_toArray, List.getElem?_cons_succ, List.getElem?_cons_zero]; rfl) (by kernel_rfl) (by kernel_rfl) (by kernel_rfl) (by kernel_rfl) (by kernel_rfl) (by exact fun _ _ _ h => h) (by first | exact Or.inl ⟨by rfl, by intro w hSw; go_simp; try with_reducible rfl⟩ | exact Or.inr ⟨by rfl, rfl⟩) hH ?_
            try simp only [Act.put, List.setIfInBounds_toArray, List.set_cons_zero, List.set_cons_succ]
            refine wpK.take (i := 17) (v := _) (by simp only [List.getElem?_toArray, List.getElem?_cons_succ, List.getElem?_cons_zero]; rfl) (by kernel_rfl) (by kernel_rfl) (by kernel_rfl) (by kernel_rfl) (by kernel_rfl) (by exact fun _ _ _ h => h) (by first | exact Or.inl ⟨by rfl, by intro w hSw; go_simp; try with_reducible rfl⟩ | exact Or.inr ⟨by rfl, rfl⟩) hH ?_
            try simp only [Act.put, List.setIfInBounds_toArray, List.set_cons_zero, List.set_cons_succ]
            refine wpK.take (i := 18) (v := _) (by simp only [List.getElem?_toArray, List.getElem?_cons_succ, List.getElem?_cons_zero]; rfl) (by kernel_rfl) (by kernel_rfl) (by kernel_rfl) (by kernel_rfl) (by kernel_rfl) (by exact fun _ _ _ h => h) (by first | exact Or.inl ⟨by rfl, by intro w hSw; go_simp; try with_reducible rfl⟩ | exact Or.inr ⟨by rfl, rfl⟩) hH ?_
            try simp only [Act.put, List.setIfInBounds_toArray, List.set_cons_zero, List.set_cons_succ]
            refine wpK.take (i := 19) (v := _) (by simp only [List.getElem?_toArray, List.getElem?_cons_succ, List.getElem?_cons_zero]; rfl) (by kernel_rfl) (by kernel_rfl) (by kernel_rfl) (by kernel_rfl) (by kernel_rfl) (by exact fun _ _ _ h => h) (by first | exact Or.inl ⟨by rfl, by intro w hSw; go_simp; try with_reducible rfl⟩ | exact Or.inr ⟨by rfl, rfl⟩) hH ?_
            try simp only [Act.put, List.setIfInBounds_toArray, List.set_cons_zero, List.set_cons_succ]
            refine wpK.take (i := 20) (v := _) (by simp only [List.getElem?_toArray, List.getElem?_cons_succ, List.getElem?_cons_zero]; rfl) (by kernel_rfl) (by kernel_rfl) (by kernel_rfl) (by kernel_rfl) (by kernel_rfl) (by exact fun _ _ _ h => h) (by first | exact Or.inl ⟨by rfl, by intro w hSw; go_simp; try with_reducible rfl⟩ | exact Or.inr ⟨by rfl, rfl⟩) hH ?_
            try simp only [Act.put, List.setIfInBounds_toArray, List.set_cons_zero, List.set_cons_succ]
            refine wpK.take (i := 21) (v := _) (by simp only [List.getElem?_toArray, List.getElem?_cons_succ, List.getElem?_cons_zero]; rfl) (by kernel_rfl) (by kernel_rfl) (by kernel_rfl) (by kernel_rfl) (by kernel_rfl) (by exact fun _ _ _ h => h) (by first | exact Or.inl ⟨by rfl, by intro w hSw; go_simp; try with_reducible rfl⟩ | exact Or.inr ⟨by rfl, rfl⟩) hH ?_
            try simp only [Act.put, List.setIfInBounds_toArray, List.set_cons_zero, List.set_cons_succ]
            refine wpK.take (i := 22) (v := _) (by simp only [List.getElem?_toArray, List.getElem?_cons_succ, List.getElem?_cons_zero]; rfl) (by kernel_rfl) (by kernel_rfl) (by kernel_rfl) (by kernel_rfl) (by kernel_rfl) (by exact fun _ _ _ h => h) (by first | exact Or.inl ⟨by rfl, by intro w hSw; go_simp; try with_reducible rfl⟩ | exact Or.inr ⟨by rfl, rfl⟩) hH ?_
            try simp only [Act.put, List.setIfInBounds_toArray, List.set_cons_zero, List.set_cons_succ]
            refine wpK.late (i := 23) (by kernel_rfl) (by simp only [List.getElem?_toArray, List.getElem?_cons_succ, List.getElem?_cons_zero]; rfl) (by kernel_rfl) (fun K hK => ?_)
            go_simp
            refine hK.out _ _ ?_
            clear hK K
            try simp only [Act.put, List.setIfInBounds_toArray, List.set_cons_zero, List.set_cons_succ]
            refine wpK.done (by kernel_rfl) ?_ _
            clear hp0 hk0 hk1 hz1 hyd hH
            go_wp2_with fail
            go_roundw
            case rel => exact ⟨i + 1, ms.set i m, by rw [HO2.out]; simp, by go_num, by omega, HQZ, HRZ⟩
            case measure => simp [intOf]; omega
          · have hev2 : decide (mv = M0) = false := decide_eq_false hev
            rw [hev2] at HO2
            have hbe : (mv == M0) = false := by simpa using hev
            clear hev2
            refine wp_region_kept [23] (fun z => Below w6.heap.size w6 z) (by kernel_rfl) (by assumption) (fun hH => ?_)
            refine wpK.take (i := 0) (v := _) (by simp only [List.getElem?_toArray, List.getElem?_cons_succ, List.getElem?_cons_zero]; rfl) (by kernel_rfl) (by kernel_rfl) (by kernel_rfl) (by kernel_rfl) (by kernel_rfl) (by exact fun _ _ _ h => h) (by first | exact Or.inl ⟨by rfl, by intro w hSw; go_simp; try with_reducible rfl⟩ | exact Or.inr ⟨by rfl, rfl⟩) hH ?_
            try simp only [Act.put, List.setIfInBounds_toArray, List.set_cons_zero, List.set_cons_succ]
            refine wpK.take (i := 1) (v := _) (by simp only [List.getElem?_toArray, List.getElem?_cons_succ, List.getElem?_cons_zero]; rfl) (by kernel_rfl) (by kernel_rfl) (by kernel_rfl) (by kernel_rfl) (by kernel_rfl) (by exact fun _ _ _ h => h) (by first | exact Or.inl ⟨by rfl, by intro w hSw; go_simp; try with_reducible rfl⟩ | exact Or.inr ⟨by rfl, rfl⟩) hH ?_
            try simp only [Act.put, List.setIfInBounds_toArray, List.set_cons_zero, List.set_cons_succ]
            refine wpK.take (i := 2) (v := _) (by simp only [List.getElem?_toArray, List.getElem?_cons_succ, List.getElem?_cons_zero]; rfl) (by kernel_rfl) (by kernel_rfl) (by kernel_rfl) (by kernel_rfl) (by kernel_rfl) (by exact fun _ _ _ h => h) (by first | exact Or.inl ⟨by rfl, by intro w hSw; go_simp; try with_reducible rfl⟩ | exact Or.inr ⟨by rfl, rfl⟩) hH ?_
            try simp only [Act.put, List.setIfInBounds_toArray, List.set_cons_zero, List.set_cons_succ]
            refine wpK.take (i := 3) (v := _) (by simp only [List.getElem?_toArray, List.getElem?_cons_succ, List.getElem?_cons_zero]; rfl) (by kernel_rfl) (by kernel_rfl) (by kernel_rfl) (by kernel_rfl) (by kernel_rfl) (by exact fun _ _ _ h => h) (by first | exact Or.inl ⟨by rfl, by intro w hSw; go_simp; try with_reducible rfl⟩ | exact Or.inr ⟨by rfl, rfl⟩) hH ?_
            try simp only [Act.put, List.setIfInBounds_toArray, List.set_cons_zero, List.set_cons_succ]
            refine wpK.take (i := 4) (v := _) (by simp only [List.getElem?_toArray, List.getElem?_cons_succ, List.getElem?_cons_zero]; rfl) (by kernel_rfl) (by kernel_rfl) (by kernel_rfl) (by kernel_rfl) (by kernel_rfl) (by exact fun _ _ _ h => h) (by first | exact Or.inl ⟨by rfl, by intro w hSw; go_simp; try with_reducible rfl⟩ | exact Or.inr ⟨by rfl, rfl⟩) hH ?_
            try simp only [Act.put, List.setIfInBounds_toArray, List.set_cons_zero, List.set_cons_succ]
            refine wpK.take (i := 5) (v := _) (by simp only [List.getElem?_toArray, List.getElem?_cons_succ, List.getElem?_cons_zero]; rfl) (by kernel_rfl) (by kernel_rfl) (by kernel_rfl) (by kernel_rfl) (by kernel_rfl) (by exact fun _ _ _ h => h) (by first | exact Or.inl ⟨by rfl, by intro w hSw; go_simp; try with_reducible rfl⟩ | exact Or.inr ⟨by rfl, rfl⟩) hH ?_
            try simp only [Act.put, List.setIfInBounds_toArray, List.set_cons_zero, List.set_cons_succ]
            refine wpK.take (i := 6) (v := _) (by simp only [List.getElem?_toArray, List.getElem?_cons_succ, List.getElem?_cons_zero]; rfl) (by kernel_rfl) (by kernel_rfl) (by kernel_rfl) (by kernel_rfl) (by kernel_rfl) (by exact fun _ _ _ h => h) (by first | exact Or.inl ⟨by rfl, by intro w hSw; go_simp; try with_reducible rfl⟩ | exact Or.inr ⟨by rfl, rfl⟩) hH ?_
            try simp only [Act.put, List.setIfInBounds_toArray, List.set_cons_zero, List.set_cons_succ]
            refine wpK.take (i := 7) (v := _) (by simp only [List.getElem?_toArray, List.getElem?_cons_succ, List.getElem?_cons_zero]; rfl) (by kernel_rfl) (by kernel_rfl) (by kernel_rfl) (by kernel_rfl) (by kernel_rfl) (by exact fun _ _ _ h => h) (by first | exact Or.inl ⟨by rfl, by intro w hSw; go_simp; try with_reducible rfl⟩ | exact Or.inr ⟨by rfl, rfl⟩) hH ?_
            try simp only [Act.put, List.setIfInBounds_toArray, List.set_cons_zero, List.set_cons_succ]
            refine wpK.take (i := 8) (v := _) (by simp only [List.getElem?_toArray, List.getElem?_cons_succ, List.getElem?_cons_zero]; rfl) (by kernel_rfl) (by kernel_rfl) (by kernel_rfl) (by kernel_rfl) (by kernel_rfl) (by exact fun _ _ _ h => h) (by first | exact Or.inl ⟨by rfl, by intro w hSw; go_simp; try with_reducible rfl⟩ | exact Or.inr ⟨by rfl, rfl⟩) hH ?_
            try simp only [Act.put, List.setIfInBounds_toArray, List.set_cons_zero, List.set_cons_succ]
            refine wpK.take (i := 9) (v := _) (by simp only [List.getElem?_toArray, List.getElem?_cons_succ, List.getElem?_cons_zero]; rfl) (by kernel_rfl) (by kernel_rfl) (by kernel_rfl) (by kernel_rfl) (by kernel_rfl) (by exact fun _ _ _ h => h) (by first | exact Or.inl ⟨by rfl, by intro w hSw; go_simp; try with_reducible rfl⟩ | exact Or.inr ⟨by rfl, rfl⟩) hH ?_
            try simp only [Act.put, List.setIfInBounds_toArray, List.set_cons_zero, List.set_cons_succ]
            refine wpK.take (i := 10) (v := _) (by simp only [List.getElem?_toArray, List.getElem?_cons_succ, List.getElem?_cons_zero]; rfl) (by kernel_rfl) (by kernel_rfl) (by kernel_rfl) (by kernel_rfl) (by kernel_rfl) (by exact fun _ _ _ h => h) (by first | exact Or.inl ⟨by rfl, by intro w hSw; go_simp; try with_reducible rfl⟩ | exact Or.inr ⟨by rfl, rfl⟩) hH ?_
            try simp only [Act.put, List.setIfInBounds_toArray, List.set_cons_zero, List.set_cons_succ]
            refine wpK.take (i := 11) (v := _) (by simp only [List.getElem?_toArray, List.getElem?_cons_succ, List.getElem?_cons_zero]; rfl) (by kernel_rfl) (by kernel_rfl) (by kernel_rfl) (by kernel_rfl) (by kernel_rfl) (by exact fun _ _ _ h => h) (by first | exact Or.inl ⟨by rfl, by intro w hSw; go_simp; try with_reducible rfl⟩ | exact Or.inr ⟨by rfl, rfl⟩) hH ?_
            try simp only [Act.put, List.setIfInBounds_toArray, List.set_cons_zero, List.set_cons_succ]
            refine wpK.take (i := 12) (v := _) (by simp only [List.getElem?_toArray, List.getElem?_cons_succ, List.getElem?_cons_zero]; rfl) (by kernel_rfl) (by kernel_rfl) (by kernel_rfl) (by kernel_rfl) (by kernel_rfl) (by exact fun _ _ _ h => h) (by first | exact Or.inl ⟨by rfl, by intro w hSw; go_simp; try with_reducible rfl⟩ | exact Or.inr ⟨by rfl, rfl⟩) hH ?_
            try simp only [Act.put, List.setIfInBounds_toArray, List.set_cons_zero, List.set_cons_succ]
            refine wpK.take (i := 13) (v := _) (by simp only [List.getElem?_toArray, List.getElem?_cons_succ, List.getElem?_cons_zero]; rfl) (by kernel_rfl) (by kernel_rfl) (by kernel_rfl) (by kernel_rfl) (by kernel_rfl) (by exact fun _ _ _ h => h) (by first | exact Or.inl ⟨by rfl, by intro w hSw; go_simp; try with_reducible rfl⟩ | exact Or.inr ⟨by rfl, rfl⟩) hH ?_
            try simp only [Act.put, List.setIfInBounds_toArray, List.set_cons_zero, List.set_cons_succ]
            refine wpK.take (i := 14) (v := _) (by simp only [List.getElem?_toArray, List.getElem?_cons_succ, List.getElem?_cons_zero]; rfl) (by kernel_rfl) (by kernel_rfl) (by kernel_rfl) (by kernel_rfl) (by kernel_rfl) (by exact fun _ _ _ h => h) (by first | exact Or.inl ⟨by rfl, by intro w hSw; go_simp; try with_reducible rfl⟩ | exact Or.inr ⟨by rfl, rfl⟩) hH ?_
            try simp only [Act.put, List.setIfInBounds_toArray, List.set_cons_zero, List.set_cons_succ]
            refine wpK.take (i := 15) (v := _) (by simp only [List.getElem?_toArray, List.getElem?_cons_succ, List.getElem?_cons_zero]; rfl) (by kernel_rfl) (by kernel_rfl) (by kernel_rfl) (by kernel_rfl) (by kernel_rfl) (by exact fun _ _ _ h => h) (by first | exact Or.inl ⟨by rfl, by intro w hSw; go_simp; try with_reducible rfl⟩ | exact Or.inr ⟨by rfl, rfl⟩) hH ?_
            try simp only [Act.put, List.setIfInBounds_toArray, List.set_cons_zero, List.set_cons_succ]
            refine wpK.take (i := 16) (v := _) (by simp only [List.getElem?_toArray, List.getElem?_cons_succ, List.getElem?_cons_zero]; rfl) (by kernel_rfl) (by kernel_rfl) (by kernel_rfl) (by kernel_rfl) (by kernel_rfl) (by exact fun _ _ _ h => h) (by first | exact Or.inl ⟨by rfl, by intro w hSw; go_simp; try with_reducible rfl⟩ | exact Or.inr ⟨by rfl, rfl⟩) hH ?_
            try simp only [Act.put, List.setIfInBounds_toArray, List.set_cons_zero, List.set_cons_succ]
            refine wpK.take (i := 17) (v := _) (by simp only [List.getElem?_toArray, List.getElem?_cons_succ, List.getElem?_cons_zero]; rfl) (by kernel_rfl) (by kernel_rfl) (by kernel_rfl) (by kernel_rfl) (by kernel_rfl) (by exact fun _ _ _ h => h) (by first | exact Or.inl ⟨by rfl, by intro w hSw; go_simp; try with_reducible rfl⟩ | exact Or.inr ⟨by rfl, rfl⟩) hH ?_
            try simp only [Act.put, List.setIfInBounds_toArray, List.set_cons_zero, List.set_cons_succ]
            refine wpK.take (i := 18) (v := _) (by simp only [List.getElem?_toArray, List.getElem?_cons_succ, List.getElem?_cons_zero]; rfl) (by kernel_rfl) (by kernel_rfl) (by kernel_rfl) (by kernel_rfl) (by kernel_rfl) (by exact fun _ _ _ h => h) (by first | exact Or.inl ⟨by rfl, by intro w hSw; go_simp; try with_reducible rfl⟩ | exact Or.inr ⟨by rfl, rfl⟩) hH ?_
            try simp only [Act.put, List.setIfInBounds_toArray, List.set_cons_zero, List.set_cons_succ]
            refine wpK.take (i := 19) (v := _) (by simp only [List.getElem?_toArray, List.getElem?_cons_succ, List.getElem?_cons_zero]; rfl) (by kernel_rfl) (by kernel_rfl) (by kernel_rfl) (by kernel_rfl) (by kernel_rfl) (by exact fun _ _ _ h => h) (by first | exact Or.inl ⟨by rfl, by intro w hSw; go_simp; try with_reducible rfl⟩ | exact Or.inr ⟨by rfl, rfl⟩) hH ?_
            try simp only [Act.put, List.setIfInBounds_toArray, List.set_cons_zero, List.set_cons_succ]
            refine wpK.take (i := 20) (v := _) (by simp only [List.getElem?_toArray, List.getElem?_cons_succ, List.getElem?_cons_zero]; rfl) (by kernel_rfl) (by kernel_rfl) (by kernel_rfl) (by kernel_rfl) (by kernel_rfl) (by exact fun _ _ _ h => h) (by first | exact Or.inl ⟨by rfl, by intro w hSw; go_simp; try with_reducible rfl⟩ | exact Or.inr ⟨by rfl, rfl⟩) hH ?_
            try simp only [Act.put, List.setIfInBounds_toArray, List.set_cons_zero, List.set_cons_succ]
            refine wpK.take (i := 21) (v := _) (by simp only [List.getElem?_toArray, List.getElem?_cons_succ, List.getElem?_cons_zero]; rfl) (by kernel_rfl) (by kernel_rfl) (by kernel_rfl) (by kernel_rfl) (by kernel_rfl) (by exact fun _ _ _ h => h) (by first | exact Or.inl ⟨by rfl, by intro w hSw; go_simp; try with_reducible rfl⟩ | exact Or.inr ⟨by rfl, rfl⟩) hH ?_
            try simp only [Act.put, List.setIfInBounds_toArray, List.set_cons_zero, List.set_cons_succ]
            refine wpK.take (i := 22) (v := _) (by simp only [List.getElem?_toArray, List.getElem?_cons_succ, List.getElem?_cons_zero]; rfl) (by kernel_rfl) (by kernel_rfl) (by kernel_rfl) (by kernel_rfl) (by kernel_rfl) (by exact fun _ _ _ h => h) (by first | exact Or.inl ⟨by rfl, by intro w hSw; go_simp; try with_reducible rfl⟩ | exact Or.inr ⟨by rfl, rfl⟩) hH ?_
            try simp only [Act.put, List.setIfInBounds_toArray, List.set_cons_zero, List.set_cons_succ]
            refine wpK.late (i := 23) (by kernel_rfl) (by simp only [List.getElem?_toArray, List.getElem?_cons_succ, List.getElem?_cons_zero]; rfl) (by kernel_rfl) (fun K hK => ?_)
            go_simp
            refine hK.out _ _ ?_
            clear hK K
            try simp only [Act.put, List.setIfInBounds_toArray, List.set_cons_zero, List.set_cons_succ]
            refine wpK.done (by kernel_rfl) ?_ _
            clear hp0 hk0 hk1 hz1 hyd hH
            go_wp2_with fail
            go_roundw
            case rel => exact ⟨i + 1, ms.set i m, by rw [HO2.out], by go_num, by omega, HQZ, HRZ⟩
            case measure => simp [intOf]; omega
        · rw [c0S_node hlf] at hk0
          replace hk0 := fun (y : World) (hy : Below w6.heap.size w6 y) => cellOf_belowR hy hk0
          have HO2 : Hid (oneS (ms.set i m) (i + 1) = false) := hid (by rw [HON.out, decide_eq_false hlf]; rfl)
          clear hlf
          refine wp_region_kept [23] (fun z => Below w6.heap.size w6 z) (by kernel_rfl) (by assumption) (fun hH => ?_)
          refine wpK.take (i := 0) (v := _) (by simp only [List.getElem?_toArray, List.getElem?_cons_succ, List.getElem?_cons_zero]; rfl) (by kernel_rfl) (by kernel_rfl) (by kernel_rfl) (by kernel_rfl) (by kernel_rfl) (by exact fun _ _ _ h => h) (by first | exact Or.inl ⟨by rfl, by intro w hSw; go_simp; try with_reducible rfl⟩ | exact Or.inr ⟨by rfl, rfl⟩) hH ?_
          try simp only [Act.put, List.setIfInBounds_toArray, List.set_cons_zero, List.set_cons_succ]
          refine wpK.take (i := 1) (v := _) (by simp only [List.getElem?_toArray, List.getElem?_cons_succ, List.getElem?_cons_zero]; rfl) (by kernel_rfl) (by kernel_rfl) (by kernel_rfl) (by kernel_rfl) (by kernel_rfl) (by exact fun _ _ _ h => h) (by first | exact Or.inl ⟨by rfl, by intro w hSw; go_simp; try with_reducible rfl⟩ | exact Or.inr ⟨by rfl, rfl⟩) hH ?_
          try simp only [Act.put, List.setIfInBounds_toArray, List.set_cons_zero, List.set_cons_succ]
          refine wpK.take (i := 2) (v := _) (by simp only [List.getElem?_toArray, List.getElem?_cons_succ, List.getElem?_cons_zero]; rfl) (by kernel_rfl) (by kernel_rfl) (by kernel_rfl) (by kernel_rfl) (by kernel_rfl) (by exact fun _ _ _ h => h) (by first | exact Or.inl ⟨by rfl, by intro w hSw; go_simp; try with_reducible rfl⟩ | exact Or.inr ⟨by rfl, rfl⟩) hH ?_
          try simp only [Act.put, List.setIfInBounds_toArray, List.set_cons_zero, List.set_cons_succ]
          refine wpK.take (i := 3) (v := _) (by simp only [List.getElem?_toArray, List.getElem?_cons_succ, List.getElem?_cons_zero]; rfl) (by kernel_rfl) (by kernel_rfl) (by kernel_rfl) (by kernel_rfl) (by kernel_rfl) (by exact fun _ _ _ h => h) (by first | exact Or.inl ⟨by rfl, by intro w hSw; go_simp; try with_reducible rfl⟩ | exact Or.inr ⟨by rfl, rfl⟩) hH ?_
          try simp only [Act.put, List.setIfInBounds_toArray, List.set_cons_zero, List.set_cons_succ]
          refine wpK.take (i := 4) (v := _) (by simp only [List.getElem?_toArray, List.getElem?_cons_succ, List.getElem?_cons_zero]; rfl) (by kernel_rfl) (by kernel_rfl) (by kernel_rfl) (by kernel_rfl) (by kernel_rfl) (by exact fun _ _ _ h => h) (by first | exact Or.inl ⟨by rfl, by intro w hSw; go_simp; try with_reducible rfl⟩ | exact Or.inr ⟨by rfl, rfl⟩) hH ?_
          try simp only [Act.put, List.setIfInBounds_toArray, List.set_cons_zero, List.set_cons_succ]
          refine wpK.take (i := 5) (v := _) (by simp only [List.getElem?_toArray, List.getElem?_cons_succ, List.getElem?_cons_zero]; rfl) (by kernel_rfl) (by kernel_rfl) (by kernel_rfl) (by kernel_rfl) (by kernel_rfl) (by exact fun _ _ _ h => h) (by first | exact Or.inl ⟨by rfl, by intro w hSw; go_simp; try with_reducible rfl⟩ | exact Or.inr ⟨by rfl, rfl⟩) hH ?_
          try simp only [Act.put, List.setIfInBounds_toArray, List.set_cons_zero, List.set_cons_succ]
          refine wpK.take (i := 6) (v := _) (by simp only [List.getElem?_toArray, List.getElem?_cons_succ, List.getElem?_cons_zero]; rfl) (by kernel_rfl) (by kernel_rfl) (by kernel_rfl) (by kernel_rfl) (by kernel_rfl) (by exact fun _ _ _ h => h) (by first | exact Or.inl ⟨by rfl, by intro w hSw; go_simp; try with_reducible rfl⟩ | exact Or.inr ⟨by rfl, rfl⟩) hH ?_
          try simp only [Act.put, List.setIfInBounds_toArray, List.set_cons_zero, List.set_cons_succ]
          refine wpK.take (i := 7) (v := _) (by simp only [List.getElem?_toArray, List.getElem?_cons_succ, List.getElem?_cons_zero]; rfl) (by kernel_rfl) (by kernel_rfl) (by kernel_rfl) (by kernel_rfl) (by kernel_rfl) (by exact fun _ _ _ h => h) (by first | exact Or.inl ⟨by rfl, by intro w hSw; go_simp; try with_reducible rfl⟩ | exact Or.inr ⟨by rfl, rfl⟩) hH ?_
          try simp only [Act.put, List.setIfInBounds_toArray, List.set_cons_zero, List.set_cons_succ]
          refine wpK.take (i := 8) (v := _) (by simp only [List.getElem?_toArray, List.getElem?_cons_succ, List.getElem?_cons_zero]; rfl) (by kernel_rfl) (by kernel_rfl) (by kernel_rfl) (by kernel_rfl) (by kernel_rfl) (by exact fun _ _ _ h => h) (by first | exact Or.inl ⟨by rfl, by intro w hSw; go_simp; try with_reducible rfl⟩ | exact Or.inr ⟨by rfl, rfl⟩) hH ?_
          try simp only [Act.put, List.setIfInBounds_toArray, List.set_cons_zero, List.set_cons_succ]
          refine wpK.take (i := 9) (v := _) (by simp only [List.getElem?_toArray, List.getElem?_cons_succ, List.getElem?_cons_zero]; rfl) (by kernel_rfl) (by kernel_rfl) (by kernel_rfl) (by kernel_rfl) (by kernel_rfl) (by exact fun _ _ _ h => h) (by first | exact Or.inl ⟨by rfl, by intro w hSw; go_simp; try with_reducible rfl⟩ | exact Or.inr ⟨by rfl, rfl⟩) hH ?_
          try simp only [Act.put, List.setIfInBounds_toArray, List.set_cons_zero, List.set_cons_succ]
          refine wpK.take (i := 10) (v := _) (by simp only [List.getElem?_toArray, List.getElem?_cons_succ, List.getElem?_cons_zero]; rfl) (by kernel_rfl) (by kernel_rfl) (by kernel_rfl) (by kernel_rfl) (by kernel_rfl) (by exact fun _ _ _ h => h) (by first | exact Or.inl ⟨by rfl, by intro w hSw; go_simp; try with_reducible rfl⟩ | exact Or.inr ⟨by rfl, rfl⟩) hH ?_
          try simp only [Act.put, List.setIfInBounds_toArray, List.set_cons_zero, List.set_cons_succ]
          refine wpK.take (i := 11) (v := _) (by simp only [List.getElem?_toArray, List.getElem?_cons_succ, List.getElem?_cons_zero]; rfl) (by kernel_rfl) (by kernel_rfl) (by kernel_rfl) (by kernel_rfl) (by kernel_rfl) (by exact fun _ _ _ h => h) (by first | exact Or.inl ⟨by rfl, by intro w hSw; go_simp; try with_reducible rfl⟩ | exact Or.inr ⟨by rfl, rfl⟩) hH ?_
          try simp only [Act.put, List.setIfInBounds_toArray, List.set_cons_zero, List.set_cons_succ]
          refine wpK.take (i := 12) (v := _) (by simp only [List.getElem?_toArray, List.getElem?_cons_succ, List.getElem?_cons_zero]; rfl) (by kernel_rfl) (by kernel_rfl) (by kernel_rfl) (by kernel_rfl) (by kernel_rfl) (by exact fun _ _ _ h => h) (by first | exact Or.inl ⟨by rfl, by intro w hSw; go_simp; try with_reducible rfl⟩ | exact Or.inr ⟨by rfl, rfl⟩) hH ?_
          try simp only [Act.put, List.setIfInBounds_toArray, List.set_cons_zero, List.set_cons_succ]
          refine wpK.take (i := 13) (v := _) (by simp only [List.getElem?_toArray, List.getElem?_cons_succ, List.getElem?_cons_zero]; rfl) (by kernel_rfl) (by kernel_rfl) (by kernel_rfl) (by kernel_rfl) (by kernel_rfl) (by exact fun _ _ _ h => h) (by first | exact Or.inl ⟨by rfl, by intro w hSw; go_simp; try with_reducible rfl⟩ | exact Or.inr ⟨by rfl, rfl⟩) hH ?_
          try simp only [Act.put, List.setIfInBounds_toArray, List.set_cons_zero, List.set_cons_succ]
          refine wpK.take (i := 14) (v := _) (by simp only [List.getElem?_toArray, List.getElem?_cons_succ, List.getElem?_cons_zero]; rfl) (by kernel_rfl) (by kernel_rfl) (by kernel_rfl) (by kernel_rfl) (by kernel_rfl) (by exact fun _ _ _ h => h) (by first | exact Or.inl ⟨by rfl, by intro w hSw; go_simp; try with_reducible rfl⟩ | exact Or.inr ⟨by rfl, rfl⟩) hH ?_
          try simp only [Act.put, List.setIfInBounds_toArray, List.set_cons_zero, List.set_cons_succ]
          refine wpK.take (i := 15) (v := _) (by simp only [List.getElem?_toArray, List.getElem?_cons_succ, List.getElem?_cons_zero]; rfl) (by kernel_rfl) (by kernel_rfl) (by kernel_rfl) (by kernel_rfl) (by kernel_rfl) (by exact fun _ _ _ h => h) (by first | exact Or.inl ⟨by rfl, by intro w hSw; go_simp; try with_reducible rfl⟩ | exact Or.inr ⟨by rfl, rfl⟩) hH ?_
          try simp only [Act.put, List.setIfInBounds_toArray, List.set_cons_zero, List.set_cons_succ]
          refine wpK.take (i := 16) (v := _) (by simp only [List.getElem?_toArray, List.getElem?_cons_succ, List.getElem?_cons_zero]; rfl) (by kernel_rfl) (by kernel_rfl) (by kernel_rfl) (by kernel_rfl) (by kernel_rfl) (by exact fun _ _ _ h => h) (by first | exact Or.inl ⟨by rfl, by intro w hSw; go_simp; try with_reducible rfl⟩ | exact Or.inr ⟨by rfl, rfl⟩) hH ?_
          try simp only [Act.put, List.setIfInBounds_toArray, List.set_cons_zero, List.set_cons_succ]
          refine wpK.take (i := 17) (v := _) (by simp only [List.getElem?_toArray, List.getElem?_cons_succ, List.getElem?_cons_zero]; rfl) (by kernel_rfl) (by kernel_rfl) (by kernel_rfl) (by kernel_rfl) (by kernel_rfl) (by exact fun _ _ _ h => h) (by first | exact Or.inl ⟨by rfl, by intro w hSw; go_simp; try with_reducible rfl⟩ | exact Or.inr ⟨by rfl, rfl⟩) hH ?_
          try simp only [Act.put, List.setIfInBounds_toArray, List.set_cons_zero, List.set_cons_succ]
          refine wpK.take (i := 18) (v := _) (by simp only [List.getElem?_toArray, List.getElem?_cons_succ, List.getElem?_cons_zero]; rfl) (by kernel_rfl) (by kernel_rfl) (by kernel_rfl) (by kernel_rfl) (by kernel_rfl) (by exact fun _ _ _ h => h) (by first | exact Or.inl ⟨by rfl, by intro w hSw; go_simp; try with_reducible rfl⟩ | exact Or.inr ⟨by rfl, rfl⟩) hH ?_
          try simp only [Act.put, List.setIfInBounds_toArray, List.set_cons_zero, List.set_cons_succ]
          refine wpK.take (i := 19) (v := _) (by simp only [List.getElem?_toArray, List.getElem?_cons_succ, List.getElem?_cons_zero]; rfl) (by kernel_rfl) (by kernel_rfl) (by kernel_rfl) (by kernel_rfl) (by kernel_rfl) (by exact fun _ _ _ h => h) (by first | exact Or.inl ⟨by rfl, by intro w hSw; go_simp; try with_reducible rfl⟩ | exact Or.inr ⟨by rfl, rfl⟩) hH ?_
          try simp only [Act.put, List.setIfInBounds_toArray, List.set_cons_zero, List.set_cons_succ]
          refine wpK.take (i := 20) (v := _) (by simp only [List.getElem?_toArray, List.getElem?_cons_succ, List.getElem?_cons_zero]; rfl) (by kernel_rfl) (by kernel_rfl) (by kernel_rfl) (by kernel_rfl) (by kernel_rfl) (by exact fun _ _ _ h => h) (by first | exact Or.inl ⟨by rfl, by intro w hSw; go_simp; try with_reducible rfl⟩ | exact Or.inr ⟨by rfl, rfl⟩) hH ?_
          try simp only [Act.put, List.setIfInBounds_toArray, List.set_cons_zero, List.set_cons_succ]
          refine wpK.take (i := 21) (v := _) (by simp only [List.getElem?_toArray, List.getElem?_cons_succ, List.getElem?_cons_zero]; rfl) (by kernel_rfl) (by kernel_rfl) (by kernel_rfl) (by kernel_rfl) (by kernel_rfl) (by exact fun _ _ _ h => h) (by first | exact Or.inl ⟨by rfl, by intro w hSw; go_simp; try with_reducible rfl⟩ | exact Or.inr ⟨by rfl, rfl⟩) hH ?_
          try simp only [Act.put, List.setIfInBounds_toArray, List.set_cons_zero, List.set_cons_succ]
          refine wpK.take (i := 22) (v := _) (by simp only [List.getElem?_toArray, List.getElem?_cons_succ, List.getElem?_cons_zero]; rfl) (by kernel_rfl) (by kernel_rfl) (by kernel_rfl) (by kernel_rfl) (by kernel_rfl) (by exact fun _ _ _ h => h) (by first | exact Or.inl ⟨by rfl, by intro w hSw; go_simp; try with_reducible rfl⟩ | exact Or.inr ⟨by rfl, rfl⟩) hH ?_
          try simp only [Act.put, List.setIfInBounds_toArray, List.set_cons_zero, List.set_cons_succ]
          refine wpK.late (i := 23) (by kernel_rfl) (by simp only [List.getElem?_toArray, List.getElem?_cons_succ, List.getElem?_cons_zero]; rfl) (by kernel_rfl) (fun K hK => ?_)
          go_simp
          refine hK.out _ _ ?_
          clear hK K
          try simp only [Act.put, List.setIfInBounds_toArray, List.set_cons_zero, List.set_cons_succ]
          refine wpK.done (by kernel_rfl) ?_ _
          clear hp0 hk0 hk1 hz1 hyd hH
          go_wp2_with fail
          go_roundw
          case rel => exact ⟨i + 1, ms.set i m, by rw [HO2.out], by go_num, by omega, HQZ, HRZ⟩
          case measure => simp [intOf]; omega
    · have hi4 : i = 4 := by omega
      subst hi4
      have hp0 : wr.cell? ⟨b0, off, none⟩ = some (.pointer (some ⟨g, 0, none⟩)) := by rw [HQ.out.blk0.cell, hg0.1, c0S_node (s := ⟨g, s.v, ms⟩) hms]
      have hp1 : wr.cell? ⟨b0, off + 1, none⟩ = some (.int .u8 s.v) := by rw [HQ.out.blk0.cell, hg0.2]
      have hz1 : wr.cell? ⟨g, 1, none⟩ = some (.int .u8 (ms.getD 0 default).v) := by rw [HQ.out.blkg.cell]; exact (kid_cells HQ.out.len (i := 0) (by omega)).2
      have f0 : wr.frozen? ⟨b0, off, none⟩ = false := HQ.out.blk0.unfrozen off
      have f1 : wr.frozen? ⟨b0, off + 1, none⟩ = false := HQ.out.blk0.unfrozen (off + 1)
      obtain ⟨M0, hM0⟩ : ∃ z, (ms.getD 0 default).v = z := ⟨_, rfl⟩
      rw [hM0] at hz1
      have HM0 := hid hM0
      obtain ⟨on, hon⟩ : ∃ z, oneS ms 4 = z := ⟨_, rfl⟩
      rw [hon]
      have HON := hid hon
      have HSB2 : Hid (ByteI s.v) := hid (by rw [HSV.out]; exact HSB.out)
      clear hon hM0 hg0 hms
      cases on with
      | false =>
        have HPO : Hid (SetPost k w b0 off cs s X Y (rx, ry, ra, rb) v (.returned (.tuple #[])) wr) := hid (by
          rw [HK.out]
          exact (HQ.out.all HSB2.out HOQ.out HSP.out.len HSP.out.was).ahead HW1.out)
        go_wp2_with fail
        go_end0
        exact HPO.out
      | true =>
        have HPO : Hid (SetPost k w b0 off cs s X Y (rx, ry, ra, rb) v (.returned (.tuple #[])) ((wr.setCell ⟨b0, off, none⟩ (.pointer none)).setCell ⟨b0, off + 1, none⟩ (.int .u8 M0))) := hid (by
          rw [HK.out, ← HM0.out]
          exact (HQ.out.fold HSB2.out HOQ.out HSP.out.len HSP.out.was HON.out HC.out.1 HC.out.2).ahead HW1.out)
        go_wp2_with fail
        go_end0
        exact HPO.out
theorem quad_set : ∀ k, SetSpec k
  | 0 => set_walk 0 (fun k' e => by omega)
  | k + 1 => set_walk (k + 1) (fun k' e => by
    obtain rfl : k = k' := by omega
    exact quad_set k)
end Go.Proofs.YtjbnfppnmljbmaaGreat
end
