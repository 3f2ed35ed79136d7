/- Joined texts, in this order: Law14Bo, LawRtreeBounds. Each one's first remark says what it proves; no condition beyond those that its theorems name. -/
import Derived.Test.YtjbnfppnmljbmaaJLawRtreeBounds28
import Derived.Test.YtjbnfppnmljbmaaRows
import Derived.WalkKit
import Derived.ProofKit
import Derived.OpenShut
import Derived.ShutString
import Derived.ChangeOld
import Derived.Below
section
/- Law 14: RtreeBounds. -/
namespace Go.Proofs.Ytjbnfppnmljbmaa
open Go.RowKit
open Go.Lib (hid)
set_option linter.unusedVariables false
attribute [local go_sem] Oper.semAt_some

def rCells (r : R4) : Array Value := #[.int .i64 r.1, .int .i64 r.2.1, .int .i64 r.2.2.1, .int .i64 r.2.2.2]
def BoR (w : World) (bW n s : Nat) (F : Nat → Prop) (v : Value) (X : List Tg) (v25 : Value) (wr : World) : Prop := ∃ j : Nat, v25 = .int .i64 (j : Int) ∧ j ≤ n ∧ Hid (Blk wr bW (rCells (boundR ((X.take j).map (·.1))))) ∧ Hid (BothG wr s F v X) ∧ Hid (Below w.heap.size w wr)
theorem bound_tree {w : World} {s d : Nat} {n : Nd} {cnt : Int} {X : List Tg} (ht : TreeAt w s d n cnt) (hp : (thgN (d + 1) n).Perm X) : n.r = boundR (X.map (·.1)) := by
  have hr : ∀ x ∈ X, RightR x.1 := fun x hx => tree_right ht (hp.mem_iff.2 hx)
  refine IsB.uniq ht.sh.isB (boundR_isB (X.map (·.1)) (fun a ha => ?_)) (fun a => ?_)
  · obtain ⟨x, hx, rfl⟩ := List.mem_map.1 ha
    exact hr x hx
  · simp only [List.mem_map]
    exact ⟨fun ⟨x, h1, h2⟩ => ⟨x, hp.mem_iff.1 h1, h2⟩, fun ⟨x, h1, h2⟩ => ⟨x, hp.mem_iff.2 h1, h2⟩⟩
def HalfR (w : World) (n : Nat) (v10 v11 : Value) (wr : World) : Prop := ∃ i k : Nat, v10 = .int .i64 ((i : Int) + 1) ∧ v11 = .int .i64 (k : Int) ∧ i ≤ 200 ∧ Hid (k = n / 2 ^ i ∧ (i = 0 ∨ 2 ^ i ≤ n)) ∧ Hid (Below w.heap.size w wr)
theorem deep_le {d n i k : Nat} (h1 : d = 0 ∨ 2 ^ (d + 1) ≤ n) (h2 : k = n / 2 ^ i) (h3 : k ≤ 1) : d + 1 ≤ i + 1 := by
  rcases h1 with h1 | h1
  · omega
  · rcases Nat.lt_or_ge d (i + 1) with q | q
    · omega
    · exfalso
      have h4 : 2 ^ (i + 1) ≤ 2 ^ (d + 1) := Nat.pow_le_pow_right (by omega) (by omega)
      have h5 : 2 ≤ n / 2 ^ i := by
        rw [Nat.le_div_iff_mul_le (Nat.two_pow_pos i)]
        rw [Nat.pow_succ] at h4; omega
      omega
set_option maxRecDepth 100000 in
set_option maxHeartbeats 8000000 in
theorem law14_Bounds (L : List OpG) (a : Option Addr) (c : Nat) (w : World) (hl : SlE OpGE 7 w (.slice a L.length c) L) :
    Calls Try.prog 6 #[.slice a L.length c] w fun e w' => e = .returned (.bool true) ∧ Below w.heap.size w w' := by
  have HL := hid hl
  clear hl
  go_enter Try.func6, Try.ntmps6
  by_cases h120 : L.length ≤ 120
  case neg =>
    have c1 : ¬ (L.length : Int) ≤ 120 := by omega
    have c2 : (120 : Int) < (L.length : Int) := by omega
    go_wp2_with fail
    refine (law14_awake w).mono ?_
    rintro e w2 ⟨rfl, hb⟩
    have HZ := hid hb
    clear hb
    go_wp2_with fail
    go_ret
    exact ⟨rfl, HZ.out⟩
  have H120 := hid h120
  have c1 : ¬ (120 : Int) < (L.length : Int) := by omega
  clear h120
  go_wp2_with fail
  refine (law14_played L a c w HL.out H120.out).mono ?_
  rintro e w1 ⟨s, F, v, X, rfl, hbo, hX, -, hb1⟩
  have HBO1 := hid hbo
  have HX : Hid (X.length ≤ 120) := hid (by have := H120.out; omega)
  have HB1 := hid hb1
  obtain ⟨av, cv, hv, -⟩ := id hbo.l
  obtain ⟨n, hn⟩ : ∃ n, X.length = n := ⟨_, rfl⟩
  rw [hn] at hv
  subst hv
  have HN := hid hn
  have hn120 : n ≤ 120 := by have := HX.out; omega
  clear hbo hX hb1 hn
  go_upto_region 7 with fail
  obtain ⟨w2, hw2⟩ : ∃ w2, w2 = w1.alloc (.cells #[.int .i64 0, .int .i64 0, .int .i64 0, .int .i64 0] 33) := ⟨_, rfl⟩
  rw [← hw2]
  obtain ⟨bW, hbW⟩ : ∃ b, b = w1.heap.size := ⟨_, rfl⟩
  rw [← hbW]
  have hb2 : Below w1.heap.size w1 w2 := by rw [hw2]; exact Below.new _ _
  obtain ⟨F0, hF0⟩ : ∃ F0 : Nat → Prop, F0 = fun k => F k ∧ k < w1.heap.size := ⟨_, rfl⟩
  have HP0 : Hid (BoR w bW n s F0 (.slice av n cv) X (.int .i64 0) w2) := hid ⟨0, rfl, by omega, hid (by rw [hw2, hbW]; exact Blk.new w1 _ _), hid (by
    have hbb := HBO1.out.below hb2
    rw [hF0]
    exact ⟨(HBO1.out.t.weaken (fun k q1 q2 => ⟨q1, q2⟩)).below hb2, hbb.l, fun k q1 q2 => hbb.apart k q1 q2.1, hbb.nd, hbb.low⟩), hid (Below.next HB1.out hb2)⟩
  have HGE : Hid (w.heap.size ≤ bW ∧ ¬ F0 bW ∧ (Value.slice av n cv).ownBlock ≠ some bW) := hid ⟨by rw [hbW]; exact HB1.out.size, by rw [hF0, hbW]; exact fun q => absurd q.2 (by omega), fun q => by have := HBO1.out.low bW q; omega⟩
  clear hw2 hbW hb2 hF0
  go_wp2_with fail
  go_loopw [25] (fun v25 wr => BoR w bW n s F0 (.slice av n cv) X v25 wr) (fun v25 _ => n - (intOf v25).toNat)
  case atStart => exact HP0.out
  case round =>
    clear HP0
    obtain ⟨j, rfl, hj, HW, HBO, HB⟩ := hrel
    by_cases hlt : j < n
    · have j1 : (j : Int) < (n : Int) := by omega
      have j0 : (0 : Int) ≤ (j : Int) := by omega
      have j9 : (j : Int) < 120 := by omega
      obtain ⟨a', c', e', hrd, -⟩ := HBO.out.l
      simp only [Value.slice.injEq] at e'
      obtain ⟨rfl, -, rfl⟩ := e'
      obtain ⟨b0, off, x, rfl, d0, d1, d2, d3, d4, hatj, -, htk⟩ := hrd.five j (by rw [HN.out]; exact hlt)
      have HSN : Hid (boundR ((X.take (j + 1)).map (·.1)) = joinR (boundR ((X.take j).map (·.1))) x.1) := hid (by rw [htk, List.map_append, List.map_cons, List.map_nil, boundR_snoc])
      obtain ⟨⟨x1, x2, x3, x4⟩, x5⟩ := x
      simp only at d0 d1 d2 d3 d4
      obtain ⟨⟨q1, q2, q3, q4⟩, hQ⟩ : ∃ q, boundR ((X.take j).map (·.1)) = q := ⟨_, rfl⟩
      rw [hQ] at HW HSN
      obtain ⟨⟨t1, t2, t3, t4⟩, hT⟩ : ∃ q, joinR (q1, q2, q3, q4) (x1, x2, x3, x4) = q := ⟨_, rfl⟩
      have hJN := fun wz => rect_Join4 q1 q2 q3 q4 x1 x2 x3 x4 wz
      rw [hT] at hJN
      simp only at HSN
      rw [hT] at HSN
      unfold rV at hJN
      simp only at hJN
      have HJN := hid hJN
      clear hrd hatj htk hQ hT hJN
      go_upto_region 10 with fail
      obtain ⟨w5, hw5⟩ : ∃ w5, w5 = wr.alloc (.cells #[.int .i64 x1, .int .i64 x2, .int .i64 x3, .int .i64 x4, .int .i64 x5] 58) := ⟨_, rfl⟩
      rw [← hw5]
      have hb5 : Below wr.heap.size wr w5 := by rw [hw5]; exact Below.new _ _
      obtain ⟨bb, hbb⟩ : ∃ bb, bb = wr.heap.size := ⟨_, rfl⟩
      rw [← hbb]
      have hO5 : Blk w5 bb #[.int .i64 x1, .int .i64 x2, .int .i64 x3, .int .i64 x4, .int .i64 x5] := by rw [hw5, hbb]; exact Blk.new _ _ _
      have HBO5 := hid (HBO.out.below hb5)
      have HB5 := hid (Below.next HB.out hb5)
      have HW5 : Hid (Blk w5 bW #[.int .i64 q1, .int .i64 q2, .int .i64 q3, .int .i64 q4]) := hid (HW.out.below hb5)
      obtain ⟨y0, y1, y2, y3, y4⟩ := hO5.c5g
      obtain ⟨p0, p1, p2, p3⟩ := HW5.out.c4r
      clear hw5 hb5 hbb d0 d1 d2 d3 d4 hO5
      replace y0 := fun (y : World) (hy : Below w5.heap.size w5 y) => cellOf_belowR hy y0
      replace y1 := fun (y : World) (hy : Below w5.heap.size w5 y) => cellOf_belowR hy y1
      replace y2 := fun (y : World) (hy : Below w5.heap.size w5 y) => cellOf_belowR hy y2
      replace y3 := fun (y : World) (hy : Below w5.heap.size w5 y) => cellOf_belowR hy y3
      replace p0 := fun (y : World) (hy : Below w5.heap.size w5 y) => cellOf_belowR hy p0
      replace p1 := fun (y : World) (hy : Below w5.heap.size w5 y) => cellOf_belowR hy p1
      replace p2 := fun (y : World) (hy : Below w5.heap.size w5 y) => cellOf_belowR hy p2
      replace p3 := fun (y : World) (hy : Below w5.heap.size w5 y) => cellOf_belowR hy p3
      have hyd := (Below.refl w5.heap.size w5).drew
      refine wp_region_kept [5] (fun z => Below w5.heap.size w5 z) (by kernel_rfl) (by assumption) (fun hH => ?_)
      refine wpK.take (i := 0) (v := _) (by simp only [List.getElem?_toArray, List.getElem?_cons_succ, List.getElem?_cons_zero]; rfl) (by kernel_rfl) (by kernel_rfl) (by kernel_rfl) (by kernel_rfl) (by kernel_rfl) (by exact fun _ _ _ h => h) (by first | exact Or.inl ⟨by rfl, by intro w hSw; go_simp; try with_reducible rfl⟩ | exact Or.inr ⟨by rfl, rfl⟩) hH ?_
      try simp only [Act.put, List.setIfInBounds_toArray, List.set_cons_zero, List.set_cons_succ]
      refine wpK.take (i := 1) (v := _) (by simp only [List.getElem?_toArray, List.getElem?_cons_succ, List.getElem?_cons_zero]; rfl) (by kernel_rfl) (by kernel_rfl) (by kernel_rfl) (by kernel_rfl) (by kernel_rfl) (by exact fun _ _ _ h => h) (by first | exact Or.inl ⟨by rfl, by intro w hSw; go_simp; try with_reducible rfl⟩ | exact Or.inr ⟨by rfl, rfl⟩) hH ?_
      try simp only [Act.put, List.setIfInBounds_toArray, List.set_cons_zero, List.set_cons_succ]
      refine wpK.take (i := 2) (v := _) (by simp only [List.getElem?_toArray, List.getElem?_cons_succ, List.getElem?_cons_zero]; rfl) (by kernel_rfl) (by kernel_rfl) (by kernel_rfl) (by kernel_rfl) (by kernel_rfl) (by exact fun _ _ _ h => h) (by first | exact Or.inl ⟨by rfl, by intro w hSw; go_simp; try with_reducible rfl⟩ | exact Or.inr ⟨by rfl, rfl⟩) hH ?_
      try simp only [Act.put, List.setIfInBounds_toArray, List.set_cons_zero, List.set_cons_succ]
      refine wpK.step (i := 3) (by kernel_rfl) (by simp only [List.getElem?_toArray, List.getElem?_cons_succ, List.getElem?_cons_zero]; rfl) (fun K hK => ?_)
      go_simp
      (refine (law14_back x1 x2 x3 x4 _).mono ?_); rintro e w6 ⟨rfl, hb6⟩; (have hk6 := Below.next hyd hb6); go_simp
      refine hK.out _ _ (by assumption) (fun hH => ?_)
      clear hK K
      try simp only [Act.put, List.setIfInBounds_toArray, List.set_cons_zero, List.set_cons_succ]
      refine wpK.step (i := 4) (by kernel_rfl) (by simp only [List.getElem?_toArray, List.getElem?_cons_succ, List.getElem?_cons_zero]; rfl) (fun K hK => ?_)
      go_simp
      (refine (HJN.out _).mono ?_); rintro e w7 ⟨rfl, hb7⟩; (have hk7 := Below.next hk6 hb7); go_simp
      refine hK.out _ _ (by assumption) (fun hH => ?_)
      clear hK K
      try simp only [Act.put, List.setIfInBounds_toArray, List.set_cons_zero, List.set_cons_succ]
      refine wpK.late (i := 5) (by kernel_rfl) (by simp only [List.getElem?_toArray, List.getElem?_cons_succ, List.getElem?_cons_zero]; rfl) (by kernel_rfl) (fun K hK => ?_)
      (have hblk8 := HW5.out.below hk7); (obtain ⟨z0, z1, z2, z3⟩ := hblk8.c4r); (obtain ⟨f0, f1, f2, f3⟩ := hblk8.f4r); (obtain ⟨wz, hwz, hkz, huz⟩ := set4r hblk8 (.int .i64 t1) (.int .i64 t2) (.int .i64 t3) (.int .i64 t4)); (have HWZ := hid hwz); (have HKZ := hid hkz); (have HUZ := hid huz); (have HK7 := hid hk7); clear hwz hkz huz; go_simp; (try rw [← HWZ.out])
      refine hK.out _ _ ?_
      clear hK K
      try simp only [Act.put, List.setIfInBounds_toArray, List.set_cons_zero, List.set_cons_succ]
      refine wpK.done (by kernel_rfl) ?_ _
      have HB7 := hid (Below.next HB5.out HK7.out)
      have HBZ := hid (HB7.out.trans (HUZ.out.below HB7.out.size (fun k _ q => by rw [q]; exact HGE.out.1)))
      have HBO7 := hid (HBO5.out.below HK7.out)
      have HBOZ := hid (show BothG wz s F0 (.slice (some ⟨b0, off, none⟩) n cv) X from ⟨HBO7.out.t.upd HUZ.out (fun k q h => by subst q; exact HGE.out.2.1 h), HBO7.out.l.upd HUZ.out (fun k q1 q2 => by subst q2; exact HGE.out.2.2 q1), HBO7.out.apart, HBO7.out.nd, fun k q => Nat.lt_of_lt_of_le (HBO7.out.low k q) HUZ.out.size⟩)
      have HWN : Hid (Blk wz bW (rCells (boundR ((X.take (j + 1)).map (·.1))))) := hid (by rw [HSN.out]; exact HKZ.out)
      clear y0 y1 y2 y3 y4 p0 p1 p2 p3 hyd hH hk6 hk7 hb6 hb7 z0 z1 z2 z3 f0 f1 f2 f3 hblk8
      go_wp2_with fail
      go_roundw
      case rel => exact ⟨j + 1, by go_num, by omega, HWN, HBOZ, HBZ⟩
      case measure => simp [intOf]; omega
    · obtain ⟨wo, hwo⟩ : ∃ wo, wo = wr := ⟨_, rfl⟩
      subst hwo
      have j1 : ¬ (j : Int) < (n : Int) := by omega
      obtain ⟨d, nn, ht, hd, hp, h2⟩ := HBO.out.t.open (by rw [HN.out]; omega)
      have hbt := bound_tree ht hp
      rw [List.take_of_length_le (by rw [HN.out]; omega)] at HW
      obtain ⟨⟨q1, q2, q3, q4⟩, hQ⟩ : ∃ q, boundR (X.map (·.1)) = q := ⟨_, rfl⟩
      rw [hQ] at HW hbt
      have hbd := rt_Bounds wo s d nn _ q1 q2 q3 q4 ht hbt
      rw [show decide ((0 : Int) < (X.length : Int)) = decide (0 < n) from by rw [HN.out]; exact decide_eq_decide.2 (by omega)] at hbd
      have HBD := hid hbd
      have HDP : Hid (d = 0 ∨ 2 ^ (d + 1) ≤ n) := hid (by
        rcases h2 with q | q
        · exact .inl q
        · have := two_pow_le (ht.sh.two q)
          rw [hp.length_eq, HN.out] at this
          exact .inr this)
      have HT := hid ht
      have HD := hid hd
      clear hbd hbt hQ h2 hp hd ht
      go_wp2_with fail
      refine HBD.out.mono ?_
      rintro e w3 ⟨rfl, hb3⟩
      have HB3 := hid (Below.next HB.out hb3)
      have HW3 := hid (HW.out.below hb3)
      have HT3 := hid (HT.out.below hb3)
      clear hb3
      go_upto_region 13 with fail
      obtain ⟨w4, hw4⟩ : ∃ w4, w4 = w3.alloc (.cells #[.int .i64 q1, .int .i64 q2, .int .i64 q3, .int .i64 q4] 33) := ⟨_, rfl⟩
      rw [← hw4]
      have hb4 : Below w3.heap.size w3 w4 := by rw [hw4]; exact Below.new _ _
      obtain ⟨bb, hbb⟩ : ∃ bb, bb = w3.heap.size := ⟨_, rfl⟩
      rw [← hbb]
      have hO4 : Blk w4 bb #[.int .i64 q1, .int .i64 q2, .int .i64 q3, .int .i64 q4] := by rw [hw4, hbb]; exact Blk.new _ _ _
      have hW4 : Blk w4 bW #[.int .i64 q1, .int .i64 q2, .int .i64 q3, .int .i64 q4] := HW3.out.below hb4
      have HB4 := hid (Below.next HB3.out hb4)
      have HT4 := hid (HT3.out.below hb4)
      obtain ⟨y0, y1, y2, y3⟩ := hO4.c4r
      obtain ⟨p0, p1, p2, p3⟩ := hW4.c4r
      have HP1 : Hid (HalfR w n (.int .i64 1) (.int .i64 (n : Int)) w4) := hid ⟨0, n, rfl, rfl, by omega, hid ⟨by simp, .inl rfl⟩, HB4⟩
      clear hw4 hb4 hbb hO4 hW4
      by_cases hn0 : n = 0
      · subst hn0
        go_wp2_with fail
        clear y0 y1 y2 y3 p0 p1 p2 p3
        go_loopw [10, 11] (fun v10 v11 wr => HalfR w 0 v10 v11 wr ∧ Hid (TreeAt wr s d nn (X.length : Int))) (fun _ v11 _ => (intOf v11).toNat)
        case atStart => exact ⟨HP1.out, HT4⟩
        case round =>
          clear HP1
          obtain ⟨⟨i, k, rfl, rfl, hi, HK, HB⟩, HT5⟩ := hrel
          by_cases hk : 1 < k
          · have k1 : (1 : Int) < (k : Int) := by omega
            have hpow : 2 ^ (i + 1) ≤ 0 := by
              have h1 := HK.out.1
              have h2 : 2 ≤ 0 / 2 ^ i := by omega
              rw [Nat.le_div_iff_mul_le (Nat.two_pow_pos i)] at h2
              rw [Nat.pow_succ]; omega
            have hi2 : i + 1 ≤ 120 := by have := Nat.lt_two_pow_self (n := i + 1); omega
            have hquo : Int.tdiv (k : Int) 2 = ((k / 2 : Nat) : Int) := by rw [Int.tdiv_eq_ediv_of_nonneg (by omega)]; omega
            have hkn : k ≤ 120 := by have h1 := HK.out.1; have := Nat.div_le_self 0 (2 ^ i); omega
            have HK2 : Hid (k / 2 = 0 / 2 ^ (i + 1) ∧ (i + 1 = 0 ∨ 2 ^ (i + 1) ≤ 0)) := hid ⟨by rw [HK.out.1, Nat.div_div_eq_div_mul, Nat.pow_succ], .inr hpow⟩
            have hi3 : (i : Int) ≤ 120 := by omega
            clear hpow
            go_wp2_with fail
            go_roundw
            case rel => exact ⟨⟨i + 1, k / 2, by go_num, by go_num, by omega, HK2, HB⟩, HT5⟩
            case measure => simp [intOf]; omega
          · obtain ⟨wp, hwp⟩ : ∃ wp, wp = wr := ⟨_, rfl⟩
            subst hwp
            have k1 : ¬ (1 : Int) < (k : Int) := by omega
            have HDI : Hid (d + 1 ≤ i + 1) := hid (deep_le HDP.out HK.out.1 (by omega))
            have hD1 : (1 : Int) ≤ ((d + 1 : Nat) : Int) := by omega
            have hD2 : ((d + 1 : Nat) : Int) ≤ (i : Int) + 1 := by have := HDI.out; omega
            obtain ⟨D, hD⟩ : ∃ D : Int, ((d + 1 : Nat) : Int) = D := ⟨_, rfl⟩
            have hdp := rt_Deep wp s d nn _ HT5.out
            rw [hD] at hdp hD1 hD2
            have HDE := hid hdp
            clear hdp hD
            go_wp2_with fail
            refine HDE.out.mono ?_
            rintro e w7 ⟨rfl, h7⟩
            replace h7 := h7.symm
            subst h7
            go_wp2_with fail
            refine HDE.out.mono ?_
            rintro e w7 ⟨rfl, h7⟩
            replace h7 := h7.symm
            subst h7
            go_wp2_with fail
            refine (law14_awake wp).mono ?_
            rintro e w8 ⟨rfl, hb⟩
            have HZ := hid (Below.next HB.out hb)
            clear hb
            go_wp2_with fail
            go_ret
            exact ⟨rfl, HZ.out⟩
      · have hn1 : 0 < n := by omega
        have hn2 : (0 : Int) < (n : Int) := by omega
        go_wp2_with fail
        clear y0 y1 y2 y3 p0 p1 p2 p3
        go_loopw [10, 11] (fun v10 v11 wr => HalfR w n v10 v11 wr ∧ Hid (TreeAt wr s d nn (X.length : Int))) (fun _ v11 _ => (intOf v11).toNat)
        case atStart => exact ⟨HP1.out, HT4⟩
        case round =>
          clear HP1
          obtain ⟨⟨i, k, rfl, rfl, hi, HK, HB⟩, HT5⟩ := hrel
          by_cases hk : 1 < k
          · have k1 : (1 : Int) < (k : Int) := by omega
            have hpow : 2 ^ (i + 1) ≤ n := by
              have h1 := HK.out.1
              have h2 : 2 ≤ n / 2 ^ i := by omega
              rw [Nat.le_div_iff_mul_le (Nat.two_pow_pos i)] at h2
              rw [Nat.pow_succ]; omega
            have hi2 : i + 1 ≤ 120 := by have := Nat.lt_two_pow_self (n := i + 1); omega
            have hquo : Int.tdiv (k : Int) 2 = ((k / 2 : Nat) : Int) := by rw [Int.tdiv_eq_ediv_of_nonneg (by omega)]; omega
            have hkn : k ≤ 120 := by have h1 := HK.out.1; have := Nat.div_le_self n (2 ^ i); omega
            have HK2 : Hid (k / 2 = n / 2 ^ (i + 1) ∧ (i + 1 = 0 ∨ 2 ^ (i + 1) ≤ n)) := hid ⟨by rw [HK.out.1, Nat.div_div_eq_div_mul, Nat.pow_succ], .inr hpow⟩
            have hi3 : (i : Int) ≤ 120 := by omega
            clear hpow
            go_wp2_with fail
            go_roundw
            case rel => exact ⟨⟨i + 1, k / 2, by go_num, by go_num, by omega, HK2, HB⟩, HT5⟩
            case measure => simp [intOf]; omega
          · obtain ⟨wp, hwp⟩ : ∃ wp, wp = wr := ⟨_, rfl⟩
            subst hwp
            have k1 : ¬ (1 : Int) < (k : Int) := by omega
            have HDI : Hid (d + 1 ≤ i + 1) := hid (deep_le HDP.out HK.out.1 (by omega))
            have hD1 : (1 : Int) ≤ ((d + 1 : Nat) : Int) := by omega
            have hD2 : ((d + 1 : Nat) : Int) ≤ (i : Int) + 1 := by have := HDI.out; omega
            obtain ⟨D, hD⟩ : ∃ D : Int, ((d + 1 : Nat) : Int) = D := ⟨_, rfl⟩
            have hdp := rt_Deep wp s d nn _ HT5.out
            rw [hD] at hdp hD1 hD2
            have HDE := hid hdp
            clear hdp hD
            go_wp2_with fail
            refine HDE.out.mono ?_
            rintro e w7 ⟨rfl, h7⟩
            replace h7 := h7.symm
            subst h7
            go_wp2_with fail
            refine HDE.out.mono ?_
            rintro e w7 ⟨rfl, h7⟩
            replace h7 := h7.symm
            subst h7
            go_wp2_with fail
            refine (law14_awake wp).mono ?_
            rintro e w8 ⟨rfl, hb⟩
            have HZ := hid (Below.next HB.out hb)
            clear hb
            go_wp2_with fail
            go_ret
            exact ⟨rfl, HZ.out⟩
set_option maxRecDepth 100000 in
theorem RtreeBounds_walk {H : Type} {enc : TypeId × Value → H} {b0 : Nat} {d0 : DataW H} {p0 : List MemPlace} (v0 : Value) (w : World) (ok0 : Value.okWide Try.prog w .any b0 36 v0) (k0 : DataW.Trod enc Try.prog w 0 (fun _ => true) true 36 v0 d0 p0) :
    Calls Try.prog 6 #[v0] w fun e w' => e = .returned (.bool true) ∧ Below w.heap.size w w' := by
  obtain ⟨L, hl⟩ := open_opsG ok0 k0
  obtain ⟨a, c, rfl, h2⟩ := id hl
  exact law14_Bounds L a c w hl
end Go.Proofs.Ytjbnfppnmljbmaa
end
section
/- The law RtreeBounds returns true for every input, and what it is handed reads behind the call as it read before: no condition. (The frame follows the kit's proof-skeleton.) -/
namespace Go.Proofs.Ytjbnfppnmljbmaa.rtreeBounds
open Go.ChangeShapes Go.WideShapes Go.ChangeAt Go.RowKit
open Go.ChangeMaps (open_string shut_string)
set_option linter.unusedVariables false

theorem own : ownKnob Try.prog.godebug = none := by kernel_rfl
theorem laidOut : laidOutB Try.prog = true := by kernel_rfl

/-! ### the row's step -/
set_option maxRecDepth 100000 in
theorem lifted (os : Os) (started : os.Started) (H : Type) (enc : TypeId × Value → H) :
    ReturnsInHanded {} Try.checked os 6 .any (Rows.rtreeBoundsSpec.pre6 enc Try.prog Try.f6 Rows.rtreeBoundsRow.domain false) (Rows.rtreeBoundsSpec.post enc Try.prog Try.f6 false true false false) := by
  refine returnsInHanded_of_change (C := Try.checked) own started (by kernel_rfl) Try.func6
    (ChangeSpec.witness6 (enc := enc) (C := Try.checked) false ⟨#[], #[.slice none 0 0], []⟩ 8 (by kernel_rfl) (by kernel_rfl) (by kernel_rfl) (by kernel_rfl)) ?_
  intro W base args ds gs before hval0 hW hcnd _
  have hval : ∀ (j : Nat) t v, Try.f6.params[j]? = some t → args[j]? = some v → Value.okWide Try.prog W .any base t v := hval0
  have hW' := hW
  obtain ⟨p, q, hA0, hV, rfl, hfz, hnd⟩ := hW
  have hA : DataW.TrodAll enc Try.prog W 0 (fun _ => true) true Try.f6.params.toList args.toList ds p := hA0
  rw [Try.params6] at hA hval
  obtain ⟨v0, vs0, d0, ds0, p0, q0, hargs, rfl, rfl, h0, r0⟩ := trodAll_cons hA
  obtain ⟨rfl, rfl, rfl⟩ := trodAll_nil r0
  obtain rfl : args = #[v0] := by cases args; simp_all
  obtain ⟨rfl, rfl⟩ := trodVars_none hV
  have k0 := h0
  have lt0 : ∀ x ∈ p0, x.block < W.heap.size := by obtain ⟨m, hm⟩ := k0; exact DataW.trod_lt m _ _ _ hm
  have ok0 := hval 0 36 v0 rfl rfl
  clear hA0 hval0
  refine (RtreeBounds_walk v0 W ok0 k0).mono fun e W' ⟨he, bel⟩ => ?_
  subst he
  exact ⟨_, rfl, _, _, _, [], _, [], hW', trodAll_mk1 (shut_bool Try.underlying4 _), (trodAll_cons_mk (Below.trod laidOut (by kernel_rfl) (of_decide_eq_true (by kernel_rfl)) k0 bel lt0) trodAll_mk0), rfl, bel.frame _, fun h => by cases h⟩

theorem over : Rows.rtreeBoundsRow.holds Try.pinned (OpenSpec.ofChange Rows.rtreeBoundsSpec) :=
  OpenClaim.holds_of_wide 6 Try.f6 rfl rfl rfl rfl rfl rfl rfl ⟨rfl, rfl, rfl, rfl, rfl⟩ rfl rfl rfl rfl rfl (by kernel_rfl) Try.func6 (by kernel_rfl)
    (of_decide_eq_true (by kernel_rfl)) (by unfold Func.isWrapper; first | (rw [if_pos (by decide +kernel)]; kernel_rfl) | (rw [if_neg (by decide +kernel)]; exact ⟨rfl, rfl⟩))
    (fun os started H enc _ => lifted os started H enc)

/-- the statement -/
theorem proved : Rows.RtreeBoundsSaid := over
#print axioms proved
end Go.Proofs.Ytjbnfppnmljbmaa.rtreeBounds
end
