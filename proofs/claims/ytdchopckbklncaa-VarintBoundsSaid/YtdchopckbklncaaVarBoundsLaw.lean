/- The law VarintBounds, walked. -/
import Derived.Test.YtdchopckbklncaaRefInts
import Derived.Deep.DeepCutAuto
import Derived.Deep.RegionHeld3
namespace Go.Proofs.Ytdchopckbklncaa
open Go.RowKit
open Go.Lib (hid)
set_option linter.unusedVariables false

theorem encs_len : ∀ (li : List Int), li.length ≤ (encs li).length
  | [] => by simp
  | x :: t => by
    have := encs_len t
    have := enc_pos (zz x)
    rw [encs]; simp; omega
theorem bv_drop_take (l : List UInt8) (i n : Nat) : ((bv l).drop i).take n = bv ((l.drop i).take n) := by
  unfold bv; rw [List.map_take, List.map_drop]

set_option maxRecDepth 100000 in
set_option maxHeartbeats 2000000 in
theorem VarintBounds_walk (a0 : Option Addr) (len0 cap0 : Nat) (z0 : List Int) (least most : Int) (w : World) (w0 : (a0 = none ∧ len0 = 0 ∧ cap0 = 0 ∧ z0 = []) ∨
      ∃ x, a0 = some x ∧ len0 ≤ cap0 ∧ cap0 ≤ maxLen ∧ z0.length = cap0 ∧ (∀ i, i < z0.length → w.cell? (x.add i) = some (.int .u8 (z0.getD i 0))) ∧ ∀ n ∈ z0, (Lit.int .u8 n).wf = true) (wl : (Lit.int .i64 least).wf = true) (wm : (Lit.int .i64 most).wf = true) :
    Calls Try.prog 4 #[.slice a0 len0 cap0, .int .i64 least, .int .i64 most] w fun e w' => e = .returned (.bool true) ∧ Below w.heap.size w w' := by
  obtain ⟨hl1, hl2⟩ : -9223372036854775808 ≤ least ∧ least ≤ 9223372036854775807 := by have := wl; simp [Lit.wf, IntKind.min, IntKind.max, IntKind.signed, IntKind.bits] at this; omega
  obtain ⟨hm1, hm2⟩ : -9223372036854775808 ≤ most ∧ most ≤ 9223372036854775807 := by have := wm; simp [Lit.wf, IntKind.min, IntKind.max, IntKind.signed, IntKind.bits] at this; omega
  obtain ⟨l, rfl, hl⟩ := slb_of_row w0
  clear w0 wl wm
  by_cases hbig : 300 < l.length
  · go_enter Try.func4, Try.ntmps4
    go_wp2_with (go_at_call 22; (with_reducible refine (var_awake _).mono ?_); rintro e w1 ⟨rfl, hb1⟩)
    go_ret
    exact ⟨rfl, hb1⟩
  · have HL := hid hl
    obtain ⟨n, k, hr⟩ : ∃ n k, refRead l = (n, k) := ⟨_, _, rfl⟩
    have HR := hid hr
    obtain ⟨hk, hk0, hn1, hn2⟩ := refRead_le _ n k hr
    obtain ⟨ok, hok⟩ : ∃ ok : Bool, ok = decide (0 < k ∧ least ≤ n ∧ n ≤ most) := ⟨_, rfl⟩
    obtain ⟨is, his⟩ : ∃ is : Bool, is = decide (0 < k ∧ 0 ≤ n ∧ n ≤ most ∧ n ≤ (l.length : Int) - k) := ⟨_, rfl⟩
    obtain ⟨got, s3, hw⟩ : ∃ got s3, inWithin least most (some l) = (got, s3) := ⟨_, _, rfl⟩
    have HW := hid hw
    have HWC : Hid ((ok = true → got = n ∧ s3 = some (l.drop k)) ∧ (ok = false → got = 0 ∧ s3 = none)) := hid (by
      rw [inWithin_ok least most l n k hr] at hw
      rw [hok]
      by_cases h : 0 < k ∧ least ≤ n ∧ n ≤ most
      · rw [if_pos h] at hw; simp only [Prod.mk.injEq] at hw; simp [h, ← hw.1, ← hw.2]
      · rw [if_neg h] at hw; simp only [Prod.mk.injEq] at hw; simp [h, ← hw.1, ← hw.2])
    obtain ⟨tx, s4, ht⟩ : ∃ tx s4, inBytes most (some l) = (tx, s4) := ⟨_, _, rfl⟩
    have HT := hid ht
    have HTC : Hid ((is = true → tx = (l.drop k).take n.toNat ∧ s4 = some (l.drop (k + n.toNat))) ∧ (is = false → tx = [] ∧ s4 = none)) := hid (by
      rw [inBytes_ok most l n k hr] at ht
      rw [his]
      by_cases h : 0 < k ∧ 0 ≤ n ∧ n ≤ most ∧ n ≤ (l.length : Int) - k
      · rw [if_pos h] at ht; simp only [Prod.mk.injEq] at ht; simp only [h, and_self, decide_true]; simp [← ht.1, ← ht.2]
      · rw [if_neg h] at ht; simp only [Prod.mk.injEq] at ht; simp only [h, decide_false]; simp [← ht.1, ← ht.2])
    obtain ⟨li, s5, hi5⟩ : ∃ li s5, inInts most (some l) = (li, s5) := ⟨_, _, rfl⟩
    have HI5 := hid hi5
    have HOK := hid hok
    have HIS := hid his
    clear hl hr hw hk0 ht hi5 hok his
    go_enter Try.func4, Try.ntmps4
    go_wp2_with fail
    refine (ref_Read l _ w HL.out n k HR).mono ?_
    rintro e w1 ⟨rfl, hb1⟩
    have HB1 := hid hb1
    clear hb1
    go_wp2_with fail
    refine (var_NewIn l _ w1 (HL.out.below HB1.out) (by omega)).mono ?_
    rintro e w2 ⟨g, D, rfl, hi2, hg, hD, hb2⟩
    have HI2 := hid hi2
    have HB2 := hid (Below.next HB1.out hb2)
    have HG := hid (Nat.le_trans HB1.out.size hg)
    clear hi2 hb2 hD hg
    go_wp2_with fail
    refine (in_Within least most (some l) g D _ HI2.out got s3 HW).mono ?_
    rintro e w3 ⟨rfl, hi3, hu3⟩
    have HI3 := hid hi3
    have HB3 := hid (below_upd HB2.out hu3 HG.out)
    clear hi3 hu3
    go_upto_region 6 with fail
    go_cut [11] (fun c wx => c = .bool ok ∧ w3 = wx)
    case first =>
      by_cases c1 : 0 < k
      · by_cases c2 : least ≤ n
        · have hok : true = ok → True := fun _ => trivial
          go_wp2_with fail
          go_meet
          exact ⟨congrArg Value.bool (by rw [HOK.out]; simp [c1, c2]), rfl⟩
        · go_wp2_with fail
          go_meet
          exact ⟨congrArg Value.bool (HOK.out.trans (decide_eq_false (by omega))).symm, rfl⟩
      · go_wp2_with fail
        go_meet
        exact ⟨congrArg Value.bool (HOK.out.trans (decide_eq_false (by omega))).symm, rfl⟩
    case rest =>
    obtain ⟨rfl, rfl⟩ := hcut
    go_upto_region 7 with fail
    go_cut [65] (fun c wx => c = .bool false ∧ w3 = wx)
    case first =>
      cases ok with
      | true =>
        obtain ⟨rfl, rfl⟩ := HWC.out.1 rfl
        have hnn : (got != got) = false := by simp
        go_wp2_with (go_at_call 25; (with_reducible refine (in_Bad (some (l.drop k)) g D _ HI3.out).mono ?_); rintro e w' ⟨rfl, rfl⟩)
        go_meet
        exact ⟨rfl, rfl⟩
      | false =>
        obtain ⟨rfl, rfl⟩ := HWC.out.2 rfl
        go_wp2_with (go_at_call 25; (with_reducible refine (in_Bad none g D _ HI3.out).mono ?_); rintro e w' ⟨rfl, rfl⟩)
        go_meet
        exact ⟨rfl, rfl⟩
    case rest =>
    obtain ⟨rfl, rfl⟩ := hcut
    clear HI3 HI2 HB1 HB2 HG HWC HW
    go_wp2_with fail
    refine (var_NewIn l _ w3 (HL.out.below HB3.out) (by omega)).mono ?_
    rintro e w4 ⟨g, D, rfl, hi4, hg, hD, hb4⟩
    have HI4 := hid hi4
    have HB4 := hid (Below.next HB3.out hb4)
    have HG := hid (Nat.le_trans HB3.out.size hg)
    clear hi4 hb4 hD hg
    go_wp2_with fail
    refine (in_Text most (some l) g D _ HI4.out (by simp; omega) tx s4 HT (by have := HTC.out; cases is with | false => (rw [(this.2 rfl).1]; simp) | true => (rw [(this.1 rfl).1, List.length_take, List.length_drop]; omega))).mono ?_
    rintro e w5 ⟨rfl, hi5, hu5⟩
    have HI5' := hid hi5
    have HB5 := hid (below_upd HB4.out hu5 HG.out)
    clear hi5 hu5
    go_upto_region 11 with fail
    go_cut [14] (fun c wx => c = .bool is ∧ w5 = wx)
    case first =>
      by_cases c1 : 0 < k
      · by_cases c2 : 0 ≤ n
        · by_cases c3 : n ≤ most
          · go_wp2_with fail
            go_meet
            exact ⟨congrArg Value.bool (by rw [HIS.out]; simp [c1, c2, c3]), rfl⟩
          · go_wp2_with fail
            go_meet
            exact ⟨congrArg Value.bool (HIS.out.trans (decide_eq_false (by omega))).symm, rfl⟩
        · go_wp2_with fail
          go_meet
          exact ⟨congrArg Value.bool (HIS.out.trans (decide_eq_false (by omega))).symm, rfl⟩
      · go_wp2_with fail
        go_meet
        exact ⟨congrArg Value.bool (HIS.out.trans (decide_eq_false (by omega))).symm, rfl⟩
    case rest =>
    obtain ⟨rfl, rfl⟩ := hcut
    go_upto_region 12 with fail
    go_cut [116] (fun c wx => c = .bool false ∧ w5 = wx)
    case first =>
      cases is with
      | true =>
        obtain ⟨htx, rfl⟩ := HTC.out.1 rfl
        have HTX := hid htx
        obtain ⟨c1, c2, c3, c4⟩ := of_decide_eq_true HIS.out.symm
        obtain ⟨N, rfl⟩ := Int.eq_ofNat_of_zero_le c2
        obtain ⟨a, c, e, h1, h2, h3, h4, h5⟩ := HL.out.below HB5.out
        simp only [Value.slice.injEq] at e
        obtain ⟨rfl, -, rfl⟩ := e
        obtain ⟨b, off, x, rfl, -⟩ := h2.byte 0 (by omega)
        have hsub := h2.sub k N
        rw [bv_drop_take] at hsub
        have hlN : ((l.drop k).take N).length = N := by rw [List.length_take, List.length_drop]; omega
        have htx2 : (l.drop k).take N = tx := by rw [HTX.out]; simp
        rw [htx2] at hsub hlN
        have hkN : k + N ≤ l.length := by omega
        by_cases hck : cap0 = k
        · have hN : N = 0 := by omega
          have HTX0 : tx = [] := List.eq_nil_of_length_eq_zero (by omega)
          subst HTX0
          subst hck
          have st1 := run_str w5 (some ⟨b, off, none⟩) N 0 [] (by simpa using hN) (Rd.nil _ _)
          have st2 := run_str w5 (some ⟨b, off + cap0, none⟩) N 0 [] (by simpa using hN) (Rd.nil _ _)
          have st3 := run_str w5 none N 0 [] (by simpa using hN) (Rd.nil _ _)
          clear hlN hsub h2 HTC HI5 htx htx2 h5 hN
          go_wp2_with (go_at_call 25; (with_reducible refine (in_Bad _ g D _ HI5'.out).mono ?_); rintro e w' ⟨rfl, rfl⟩)
          go_meet
          exact ⟨rfl, rfl⟩
        · have st := run_str w5 (some ⟨b, off + k, none⟩) N (cap0 - k) _ hlN.symm hsub
          clear hlN hsub h2 HTC HI5 htx htx2 h5
          go_wp2_with (go_at_call 25; (with_reducible refine (in_Bad _ g D _ HI5'.out).mono ?_); rintro e w' ⟨rfl, rfl⟩)
          go_meet
          exact ⟨rfl, rfl⟩
      | false =>
        obtain ⟨rfl, rfl⟩ := HTC.out.2 rfl
        go_wp2_with (go_at_call 25; (with_reducible refine (in_Bad none g D _ HI5'.out).mono ?_); rintro e w' ⟨rfl, rfl⟩)
        go_meet
        exact ⟨rfl, rfl⟩
    case rest =>
    obtain ⟨rfl, rfl⟩ := hcut
    clear HI4 HI5' HB4 HG HTC HT HIS HOK
    go_wp2_with fail
    refine (var_NewIn l _ w5 (HL.out.below HB5.out) (by omega)).mono ?_
    rintro e w6 ⟨g, D, rfl, hi6, hg, hD, hb6⟩
    have HI6 := hid hi6
    have HB6 := hid (Below.next HB5.out hb6)
    have HG := hid (Nat.le_trans HB5.out.size hg)
    clear hi6 hb6 hD hg
    go_wp2_with fail
    refine (in_Ints most (some l) g D _ HI6.out (by simp; omega) li s5 HI5).mono ?_
    rintro e w7 ⟨v7, rfl, hown7, hi7, hu7⟩
    have HI7 := hid hi7
    have HB7 := hid (below_upd HB6.out hu7 HG.out)
    obtain ⟨a7, c7, rfl, -, -, hrd7, -⟩ := ownsRow.rd hown7
    have HRD7 := hid hrd7
    clear hi7 hu7 hown7 hrd7
    cases s5 with
    | none =>
      obtain rfl : li = [] := by have := inInts_bad most (some l); rw [HI5.out] at this; exact this rfl
      go_wp2_with (go_at_call 25; (with_reducible refine (in_Bad none g D _ HI7.out).mono ?_); rintro e w' ⟨rfl, rfl⟩)
      refine (var_awake _).mono ?_
      rintro e w8 ⟨rfl, hb8⟩
      have HB8 := hid (Below.next HB7.out hb8)
      clear hb8
      go_wp2_with fail
      go_ret
      exact ⟨rfl, HB8.out⟩
    | some t =>
      obtain ⟨rfl, e2, e3, e4⟩ := inInts_good most l t li n k HR.out HI5.out
      obtain ⟨all, hall⟩ : ∃ all, all = enc (zz (li.length : Int)) ++ encs li := ⟨_, rfl⟩
      have hlen1 := encs_len li
      have hpos : 0 < all.length := by rw [hall]; have := enc_pos (zz (li.length : Int)); simp; omega
      rw [← hall] at e3
      have hll : all.length + t.length = l.length := by rw [e3]; simp
      have hlil : li.length ≤ all.length := by rw [hall]; simp; omega
      have HALL := hid hall
      have HE4 := hid e4
      have HE3 := hid e3
      clear hlen1 hall e3 e4
      go_wp2_with (go_at_call 25; (with_reducible refine (in_Bad (some t) g D _ HI7.out).mono ?_); rintro e w' ⟨rfl, rfl⟩)
      refine (ref_Ints li HE4 a7 li.length c7 rfl (by omega) w7 HRD7.out all HALL).mono ?_
      rintro e w8 ⟨v8, rfl, hown8, hb8⟩
      have s8 := ownsRow.slb (l := all) hown8 (by omega)
      have HS8 := hid s8
      obtain ⟨a8, c8, rfl, -⟩ := s8
      have HB8 := hid (Below.next HB7.out hb8)
      clear hown8 hb8
      obtain ⟨a, c, e, h1, h2, h3, h4, h5⟩ := HL.out.below HB8.out
      simp only [Value.slice.injEq] at e
      obtain ⟨rfl, -, rfl⟩ := e
      obtain ⟨b, off, x, rfl, -⟩ := h2.byte 0 (by omega)
      have hsub := h2.sub 0 all.length
      rw [bv_drop_take, HE3.out, List.drop_zero, List.take_left, Nat.add_zero] at hsub
      have sp : SlB w8 (.slice (some ⟨b, off, none⟩) all.length cap0) all := ⟨_, _, rfl, by omega, hsub, by omega, h4, nofun⟩
      have st1 := sp.str
      have st2 := HS8.out.str
      have hd := (Below.refl w8.heap.size w8).drew
      have hcapl : all.length ≤ cap0 := by omega
      have hlb : all.length ≤ l.length := by omega
      clear h2 hsub sp h5
      go_wp2_with fail
      refine wp_region_held_drew (S := (fun w' => Below w8.heap.size w8 w')) (by kernel_rfl) (by first | assumption | exact Below.next (by assumption) hb9) (fun hH => ?_)
      refine wpAnyH_take (i := 0) (v := _) (by simp only [List.getElem?_toArray, List.getElem?_cons_succ, List.getElem?_cons_zero]; rfl) (by kernel_rfl) (by kernel_rfl) (by kernel_rfl) (by exact fun _ _ _ h => h) (by first | exact Or.inl ⟨by rfl, by intro w hSw; go_simp; try with_reducible rfl⟩ | exact Or.inr ⟨by rfl, rfl⟩) hH ?_
      try simp only [Act.put, List.setIfInBounds_toArray, List.set_cons_zero, List.set_cons_succ]
      refine wpAnyH_take (i := 1) (v := _) (by simp only [List.getElem?_toArray, List.getElem?_cons_succ, List.getElem?_cons_zero]; rfl) (by kernel_rfl) (by kernel_rfl) (by kernel_rfl) (by exact fun _ _ _ h => h) (by first | exact Or.inl ⟨by rfl, by intro w hSw; go_simp; try with_reducible rfl⟩ | exact Or.inr ⟨by rfl, rfl⟩) hH ?_
      try simp only [Act.put, List.setIfInBounds_toArray, List.set_cons_zero, List.set_cons_succ]
      refine wpAnyH_take (i := 2) (v := _) (by simp only [List.getElem?_toArray, List.getElem?_cons_succ, List.getElem?_cons_zero]; rfl) (by kernel_rfl) (by kernel_rfl) (by kernel_rfl) (by exact fun _ _ _ h => h) (by first | exact Or.inl ⟨by rfl, by intro w hSw; go_simp; try with_reducible rfl⟩ | exact Or.inr ⟨by rfl, rfl⟩) hH ?_
      try simp only [Act.put, List.setIfInBounds_toArray, List.set_cons_zero, List.set_cons_succ]
      refine wpAnyH_take (i := 3) (v := _) (by simp only [List.getElem?_toArray, List.getElem?_cons_succ, List.getElem?_cons_zero]; rfl) (by kernel_rfl) (by kernel_rfl) (by kernel_rfl) (by exact fun _ _ _ h => h) (by first | exact Or.inl ⟨by rfl, by intro w hSw; go_simp; try with_reducible rfl⟩ | exact Or.inr ⟨by rfl, rfl⟩) hH ?_
      try simp only [Act.put, List.setIfInBounds_toArray, List.set_cons_zero, List.set_cons_succ]
      refine wpAnyH_take (i := 4) (v := _) (by simp only [List.getElem?_toArray, List.getElem?_cons_succ, List.getElem?_cons_zero]; rfl) (by kernel_rfl) (by kernel_rfl) (by kernel_rfl) (by exact fun _ _ _ h => h) (by first | exact Or.inl ⟨by rfl, by intro w hSw; go_simp; try with_reducible rfl⟩ | exact Or.inr ⟨by rfl, rfl⟩) hH ?_
      try simp only [Act.put, List.setIfInBounds_toArray, List.set_cons_zero, List.set_cons_succ]
      refine wpAnyH_take (i := 5) (v := _) (by simp only [List.getElem?_toArray, List.getElem?_cons_succ, List.getElem?_cons_zero]; rfl) (by kernel_rfl) (by kernel_rfl) (by kernel_rfl) (by exact fun _ _ _ h => h) (by first | exact Or.inl ⟨by rfl, by intro w hSw; go_simp; try with_reducible rfl⟩ | exact Or.inr ⟨by rfl, rfl⟩) hH ?_
      try simp only [Act.put, List.setIfInBounds_toArray, List.set_cons_zero, List.set_cons_succ]
      refine wpAnyH_take (i := 6) (v := _) (by simp only [List.getElem?_toArray, List.getElem?_cons_succ, List.getElem?_cons_zero]; rfl) (by kernel_rfl) (by kernel_rfl) (by kernel_rfl) (by exact fun _ _ _ h => h) (by first | exact Or.inl ⟨by rfl, by intro w hSw; go_simp; try with_reducible rfl⟩ | exact Or.inr ⟨by rfl, rfl⟩) hH ?_
      try simp only [Act.put, List.setIfInBounds_toArray, List.set_cons_zero, List.set_cons_succ]
      refine wpAnyH_take (i := 7) (v := _) (by simp only [List.getElem?_toArray, List.getElem?_cons_succ, List.getElem?_cons_zero]; rfl) (by kernel_rfl) (by kernel_rfl) (by kernel_rfl) (by exact fun _ _ _ h => h) (by first | exact Or.inl ⟨by rfl, by intro w hSw; go_simp; try with_reducible rfl⟩ | exact Or.inr ⟨by rfl, rfl⟩) hH ?_
      try simp only [Act.put, List.setIfInBounds_toArray, List.set_cons_zero, List.set_cons_succ]
      refine wpAnyH_take (i := 8) (v := _) (by simp only [List.getElem?_toArray, List.getElem?_cons_succ, List.getElem?_cons_zero]; rfl) (by kernel_rfl) (by kernel_rfl) (by kernel_rfl) (by exact fun _ _ _ h => h) (by first | exact Or.inl ⟨by rfl, by intro w hSw; go_simp; try with_reducible rfl⟩ | exact Or.inr ⟨by rfl, rfl⟩) hH ?_
      try simp only [Act.put, List.setIfInBounds_toArray, List.set_cons_zero, List.set_cons_succ]
      refine wpAnyH_take (i := 9) (v := _) (by simp only [List.getElem?_toArray, List.getElem?_cons_succ, List.getElem?_cons_zero]; rfl) (by kernel_rfl) (by kernel_rfl) (by kernel_rfl) (by exact fun _ _ _ h => h) (by first | exact Or.inl ⟨by rfl, by intro w hSw; go_simp; try with_reducible rfl⟩ | exact Or.inr ⟨by rfl, rfl⟩) hH ?_
      try simp only [Act.put, List.setIfInBounds_toArray, List.set_cons_zero, List.set_cons_succ]
      refine wpAnyH_take (i := 10) (v := _) (by simp only [List.getElem?_toArray, List.getElem?_cons_succ, List.getElem?_cons_zero]; rfl) (by kernel_rfl) (by kernel_rfl) (by kernel_rfl) (by exact fun _ _ _ h => h) (by first | exact Or.inl ⟨by rfl, by intro w hSw; go_simp; try with_reducible rfl⟩ | exact Or.inr ⟨by rfl, rfl⟩) hH ?_
      try simp only [Act.put, List.setIfInBounds_toArray, List.set_cons_zero, List.set_cons_succ]
      refine wpAnyH_take (i := 11) (v := _) (by simp only [List.getElem?_toArray, List.getElem?_cons_succ, List.getElem?_cons_zero]; rfl) (by kernel_rfl) (by kernel_rfl) (by kernel_rfl) (by exact fun _ _ _ h => h) (by first | exact Or.inl ⟨by rfl, by intro w hSw; go_simp; try with_reducible rfl⟩ | exact Or.inr ⟨by rfl, rfl⟩) hH ?_
      try simp only [Act.put, List.setIfInBounds_toArray, List.set_cons_zero, List.set_cons_succ]
      refine wpAnyH_take (i := 12) (v := _) (by simp only [List.getElem?_toArray, List.getElem?_cons_succ, List.getElem?_cons_zero]; rfl) (by kernel_rfl) (by kernel_rfl) (by kernel_rfl) (by exact fun _ _ _ h => h) (by first | exact Or.inl ⟨by rfl, by intro w hSw; go_simp; try with_reducible rfl⟩ | exact Or.inr ⟨by rfl, rfl⟩) hH ?_
      try simp only [Act.put, List.setIfInBounds_toArray, List.set_cons_zero, List.set_cons_succ]
      refine wpAnyH_take (i := 13) (v := _) (by simp only [List.getElem?_toArray, List.getElem?_cons_succ, List.getElem?_cons_zero]; rfl) (by kernel_rfl) (by kernel_rfl) (by kernel_rfl) (by exact fun _ _ _ h => h) (by first | exact Or.inl ⟨by rfl, by intro w hSw; go_simp; try with_reducible rfl⟩ | exact Or.inr ⟨by rfl, rfl⟩) hH ?_
      try simp only [Act.put, List.setIfInBounds_toArray, List.set_cons_zero, List.set_cons_succ]
      refine wpAnyH_take (i := 14) (v := _) (by simp only [List.getElem?_toArray, List.getElem?_cons_succ, List.getElem?_cons_zero]; rfl) (by kernel_rfl) (by kernel_rfl) (by kernel_rfl) (by exact fun _ _ _ h => h) (by first | exact Or.inl ⟨by rfl, by intro w hSw; go_simp; try with_reducible rfl⟩ | exact Or.inr ⟨by rfl, rfl⟩) hH ?_
      try simp only [Act.put, List.setIfInBounds_toArray, List.set_cons_zero, List.set_cons_succ]
      refine wpAnyH_take (i := 15) (v := _) (by simp only [List.getElem?_toArray, List.getElem?_cons_succ, List.getElem?_cons_zero]; rfl) (by kernel_rfl) (by kernel_rfl) (by kernel_rfl) (by exact fun _ _ _ h => h) (by first | exact Or.inl ⟨by rfl, by intro w hSw; go_simp; try with_reducible rfl⟩ | exact Or.inr ⟨by rfl, rfl⟩) hH ?_
      try simp only [Act.put, List.setIfInBounds_toArray, List.set_cons_zero, List.set_cons_succ]
      refine wpAnyH_take (i := 16) (v := _) (by simp only [List.getElem?_toArray, List.getElem?_cons_succ, List.getElem?_cons_zero]; rfl) (by kernel_rfl) (by kernel_rfl) (by kernel_rfl) (by exact fun _ _ _ h => h) (by first | exact Or.inl ⟨by rfl, by intro w hSw; go_simp; try with_reducible rfl⟩ | exact Or.inr ⟨by rfl, rfl⟩) hH ?_
      try simp only [Act.put, List.setIfInBounds_toArray, List.set_cons_zero, List.set_cons_succ]
      refine wpAnyH_take (i := 17) (v := _) (by simp only [List.getElem?_toArray, List.getElem?_cons_succ, List.getElem?_cons_zero]; rfl) (by kernel_rfl) (by kernel_rfl) (by kernel_rfl) (by exact fun _ _ _ h => h) (by first | exact Or.inl ⟨by rfl, by intro w hSw; go_simp; try with_reducible rfl⟩ | exact Or.inr ⟨by rfl, rfl⟩) hH ?_
      try simp only [Act.put, List.setIfInBounds_toArray, List.set_cons_zero, List.set_cons_succ]
      refine wpAnyH_take (i := 18) (v := _) (by simp only [List.getElem?_toArray, List.getElem?_cons_succ, List.getElem?_cons_zero]; rfl) (by kernel_rfl) (by kernel_rfl) (by kernel_rfl) (by exact fun _ _ _ h => h) (by first | exact Or.inl ⟨by rfl, by intro w hSw; go_simp; try with_reducible rfl⟩ | exact Or.inr ⟨by rfl, rfl⟩) hH ?_
      try simp only [Act.put, List.setIfInBounds_toArray, List.set_cons_zero, List.set_cons_succ]
      refine wpAnyH_take (i := 19) (v := _) (by simp only [List.getElem?_toArray, List.getElem?_cons_succ, List.getElem?_cons_zero]; rfl) (by kernel_rfl) (by kernel_rfl) (by kernel_rfl) (by exact fun _ _ _ h => h) (by first | exact Or.inl ⟨by rfl, by intro w hSw; go_simp; try with_reducible rfl⟩ | exact Or.inr ⟨by rfl, rfl⟩) hH ?_
      try simp only [Act.put, List.setIfInBounds_toArray, List.set_cons_zero, List.set_cons_succ]
      refine wpAnyH_take (i := 20) (v := _) (by simp only [List.getElem?_toArray, List.getElem?_cons_succ, List.getElem?_cons_zero]; rfl) (by kernel_rfl) (by kernel_rfl) (by kernel_rfl) (by exact fun _ _ _ h => h) (by first | exact Or.inl ⟨by rfl, by intro w hSw; go_simp; try with_reducible rfl⟩ | exact Or.inr ⟨by rfl, rfl⟩) hH ?_
      try simp only [Act.put, List.setIfInBounds_toArray, List.set_cons_zero, List.set_cons_succ]
      refine wpAnyH_take (i := 21) (v := _) (by simp only [List.getElem?_toArray, List.getElem?_cons_succ, List.getElem?_cons_zero]; rfl) (by kernel_rfl) (by kernel_rfl) (by kernel_rfl) (by exact fun _ _ _ h => h) (by first | exact Or.inl ⟨by rfl, by intro w hSw; go_simp; try with_reducible rfl⟩ | exact Or.inr ⟨by rfl, rfl⟩) hH ?_
      try simp only [Act.put, List.setIfInBounds_toArray, List.set_cons_zero, List.set_cons_succ]
      refine wpAnyH_take (i := 22) (v := _) (by simp only [List.getElem?_toArray, List.getElem?_cons_succ, List.getElem?_cons_zero]; rfl) (by kernel_rfl) (by kernel_rfl) (by kernel_rfl) (by exact fun _ _ _ h => h) (by first | exact Or.inl ⟨by rfl, by intro w hSw; go_simp; try with_reducible rfl⟩ | exact Or.inr ⟨by rfl, rfl⟩) hH ?_
      try simp only [Act.put, List.setIfInBounds_toArray, List.set_cons_zero, List.set_cons_succ]
      refine wpAnyH_take (i := 23) (v := _) (by simp only [List.getElem?_toArray, List.getElem?_cons_succ, List.getElem?_cons_zero]; rfl) (by kernel_rfl) (by kernel_rfl) (by kernel_rfl) (by exact fun _ _ _ h => h) (by first | exact Or.inl ⟨by rfl, by intro w hSw; go_simp; try with_reducible rfl⟩ | exact Or.inr ⟨by rfl, rfl⟩) hH ?_
      try simp only [Act.put, List.setIfInBounds_toArray, List.set_cons_zero, List.set_cons_succ]
      refine wpAnyH_take (i := 24) (v := _) (by simp only [List.getElem?_toArray, List.getElem?_cons_succ, List.getElem?_cons_zero]; rfl) (by kernel_rfl) (by kernel_rfl) (by kernel_rfl) (by exact fun _ _ _ h => h) (by first | exact Or.inl ⟨by rfl, by intro w hSw; go_simp; try with_reducible rfl⟩ | exact Or.inr ⟨by rfl, rfl⟩) hH ?_
      try simp only [Act.put, List.setIfInBounds_toArray, List.set_cons_zero, List.set_cons_succ]
      refine wpAnyH_take (i := 25) (v := _) (by simp only [List.getElem?_toArray, List.getElem?_cons_succ, List.getElem?_cons_zero]; rfl) (by kernel_rfl) (by kernel_rfl) (by kernel_rfl) (by exact fun _ _ _ h => h) (by first | exact Or.inl ⟨by rfl, by intro w hSw; go_simp; try with_reducible rfl⟩ | exact Or.inr ⟨by rfl, rfl⟩) hH ?_
      try simp only [Act.put, List.setIfInBounds_toArray, List.set_cons_zero, List.set_cons_succ]
      refine wpAnyH_take (i := 26) (v := _) (by simp only [List.getElem?_toArray, List.getElem?_cons_succ, List.getElem?_cons_zero]; rfl) (by kernel_rfl) (by kernel_rfl) (by kernel_rfl) (by exact fun _ _ _ h => h) (by first | exact Or.inl ⟨by rfl, by intro w hSw; go_simp; try with_reducible rfl⟩ | exact Or.inr ⟨by rfl, rfl⟩) hH ?_
      try simp only [Act.put, List.setIfInBounds_toArray, List.set_cons_zero, List.set_cons_succ]
      refine wpAnyH_ready (rs := [27]) (by kernel_rfl) (by simp) ?_
      refine AllReadyH.cons rfl (fun K hK => ?_) AllReadyH.nil
      go_simp
      (refine (var_awake _).mono ?_); rintro e w9 ⟨rfl, hb9⟩; go_simp
      refine hK.out _ _ (by first | assumption | exact Below.next (by assumption) hb9) (fun hH => ?_)
      clear hK K
      try simp only [Act.put, List.setIfInBounds_toArray, List.set_cons_zero, List.set_cons_succ]
      refine wpAnyH_take (i := 28) (v := _) (by simp only [List.getElem?_toArray, List.getElem?_cons_succ, List.getElem?_cons_zero]; rfl) (by kernel_rfl) (by kernel_rfl) (by kernel_rfl) (by exact fun _ _ _ h => h) (by first | exact Or.inl ⟨by rfl, by intro w hSw; go_simp; try with_reducible rfl⟩ | exact Or.inr ⟨by rfl, rfl⟩) hH ?_
      try simp only [Act.put, List.setIfInBounds_toArray, List.set_cons_zero, List.set_cons_succ]
      refine wpAnyH_take (i := 29) (v := _) (by simp only [List.getElem?_toArray, List.getElem?_cons_succ, List.getElem?_cons_zero]; rfl) (by kernel_rfl) (by kernel_rfl) (by kernel_rfl) (by exact fun _ _ _ h => h) (by first | exact Or.inl ⟨by rfl, by intro w hSw; go_simp; try with_reducible rfl⟩ | exact Or.inr ⟨by rfl, rfl⟩) hH ?_
      try simp only [Act.put, List.setIfInBounds_toArray, List.set_cons_zero, List.set_cons_succ]
      refine wpAnyH_done (by kernel_rfl) ?_ _
      have HB9 := hid (Below.next HB8.out hH)
      clear hH hd st1 st2 hb9
      go_wp2
      go_ret
      exact ⟨rfl, HB9.out⟩
end Go.Proofs.Ytdchopckbklncaa
