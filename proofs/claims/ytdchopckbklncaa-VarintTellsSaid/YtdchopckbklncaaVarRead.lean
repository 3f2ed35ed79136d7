/- Contract: the reference's Read. -/
import Derived.Test.YtdchopckbklncaaVarReadMath
import Derived.Test.YtdchopckbklncaaVarInts
import Derived.Deep.QuietTactic
namespace Go.Proofs.Ytdchopckbklncaa
open Go.RowKit
open Go.Lib (hid)
set_option linter.unusedVariables false

theorem cong_step (a b c : Int) : (a % 18446744073709551616 + (b * (c % 18446744073709551616)) % 18446744073709551616) % 18446744073709551616 = (a + b * c) % 18446744073709551616 := by
  rw [← Int.add_emod, Int.add_emod, Int.mul_emod, Int.emod_emod_of_dvd _ (Int.dvd_refl _), ← Int.mul_emod, ← Int.add_emod]

theorem cong_mul (a b : Int) : (a % 18446744073709551616 * b) % 18446744073709551616 = (a * b) % 18446744073709551616 := by
  rw [Int.mul_emod, Int.emod_emod_of_dvd _ (Int.dvd_refl _), ← Int.mul_emod]

set_option maxRecDepth 100000 in
set_option maxHeartbeats 800000 in
theorem ref_Read (l : List UInt8) (u : Value) (w : World) (hl : SlB w u l) (n : Int) (k : Nat) (hr : Hid (refRead l = (n, k))) :
    Calls Try.prog 23 #[u] w fun e w' => e = .returned (.tuple #[.int .i64 n, .int .i64 (k : Int)]) ∧ Below w.heap.size w w' := by
  obtain ⟨a, c, rfl, h1, h2, -⟩ := hl
  go_enter Try.func23, Try.ntmps23
  go_wp2
  go_loop [4, 5, 6] (fun v4 v5 v6 => ∃ (i : Nat) (x s : Int), v4 = .int .u64 x ∧ v5 = .int .u64 s ∧ v6 = .int .i64 i ∧ i ≤ l.length ∧ i ≤ 10 ∧ 0 ≤ x ∧ x < 18446744073709551616 ∧ 0 ≤ s ∧ s < 18446744073709551616 ∧ Hid (Big (l.take i)) ∧ Hid (x = ((val (l.take i) % 18446744073709551616 : Nat) : Int)) ∧ Hid (s = ((128 ^ i % 18446744073709551616 : Nat) : Int))) (fun _ _ v6 => 10 - (intOf v6).toNat)
  case atStart => exact ⟨0, 0, 1, rfl, rfl, rfl, by omega, by omega, by omega, by omega, by omega, by omega, hid (by simp [Big]), hid (by simp [val]), hid (by simp)⟩
  case round =>
    obtain ⟨i, x, s, rfl, rfl, rfl, hi, hi10, hx0, hx1, hs0, hs1, hbig, hx, hs⟩ := hrel
    by_cases hlt : i < l.length
    · by_cases hlt10 : i < 10
      · obtain ⟨b, off, d, rfl, hcc, hd?, hdrop, htake⟩ := h2.byte i hlt
        have HD := hid hd?
        have HDROP := hid hdrop
        have HTAKE := hid htake
        clear hd? hdrop htake
        have hd256 := d.toNat_lt
        obtain ⟨y, hy⟩ : ∃ y, y = val (l.take (i + 1)) % 18446744073709551616 := ⟨_, rfl⟩
        have hy64 : y < 18446744073709551616 := by omega
        have hstep : IntKind.u64.wrap (x + IntKind.u64.wrap ((d.toNat : Int) % 128 * s)) = (y : Int) := by
          rw [hy, hx.out, hs.out, HTAKE.out, val_append, List.length_take, Nat.min_eq_left hi, IntKind.wrap_u64, IntKind.wrap_u64]
          simp only [Int.natCast_emod, Int.natCast_add, Int.natCast_mul, Int.natCast_pow]
          exact cong_step _ _ _
        have HY := hid hy
        clear hy
        by_cases h128 : d.toNat < 128
        · clear hx hs
          obtain ⟨m, hm⟩ : ∃ m, m = unzz y := ⟨_, rfl⟩
          obtain ⟨hm1, hm2⟩ : -9223372036854775808 ≤ m ∧ m ≤ 9223372036854775807 := by rw [hm]; exact unzz_bd y hy64
          have HM := hid hm
          have hpar : (y % 2 = 1 ∧ -((y : Int) / 2) - 1 = m) ∨ (¬ y % 2 = 1 ∧ (y : Int) / 2 = m) := by
            rw [hm]; unfold unzz
            by_cases h2 : y % 2 = 1
            · left; rw [if_neg (by omega)]; omega
            · right; rw [if_pos (by omega)]; omega
          have HQ : Hid (enc (zz m) = enc y) := hid (by rw [hm, zz_unzz])
          obtain ⟨q, hq⟩ : ∃ q, q = enc y := ⟨_, rfl⟩
          have hq10 : q.length ≤ 10 := by rw [hq]; exact enc_len10 y hy64
          have HQ2 := hid hq
          rw [← hq] at HQ
          have HR := hid h2
          clear hm hq h2
          have HNO : Hid (q ≠ l.take (i + 1) → refRead l = (0, 0)) := hid (fun h => refRead_no l (l.take i) (l.drop (i + 1)) d (by rw [← HDROP.out]; simp) hbig.out h128 (by rw [← HTAKE.out, ← HY.out, ← HQ2.out]; exact h))
          have HYES : Hid (q = l.take (i + 1) → refRead l = (m, i + 1)) := hid (fun h => by
            rw [refRead_yes l q (l.drop (i + 1)) y hy64 (by rw [h]; simp) (by rw [HQ2.out]), HM.out, h, List.length_take, Nat.min_eq_left (by omega)])
          rcases hpar with ⟨hodd, hmm⟩ | ⟨hodd, hmm⟩
          all_goals
            go_wp2_with fail
            refine (ref_Int m hm1 hm2 _).mono ?_
            rintro e w1 ⟨v1, rfl, hown, hb⟩
            rw [HQ.out] at hown
            have hsq := ownsRow.slb hown (by omega)
            obtain ⟨a1, c1, rfl, -, hrq, -⟩ := hsq
            have HRQ := hid hrq
            have HRL := hid (HR.out.below' hb)
            have HB := hid hb
            clear hown hb hrq hmm hstep hodd
            by_cases hlen : q.length = i + 1
            · go_wp2_with fail
              go_loopw [9] (fun v9 wr => ∃ j : Nat, v9 = .int .i64 j ∧ j ≤ i + 1 ∧ Hid (q.take j = l.take j) ∧ Hid (Below w1.heap.size w1 wr)) (fun v9 _ => i + 1 - (intOf v9).toNat)
              case atStart => exact ⟨0, rfl, by omega, hid rfl, hid (Below.refl _ _)⟩
              case round =>
                obtain ⟨j, rfl, hj, htk, hbw⟩ := hrel
                by_cases hji : j ≤ i
                · obtain ⟨b1, off1, x1, rfl, hcc1, -, -, ht1⟩ := (HRQ.out.below' hbw.out).byte j (by omega)
                  obtain ⟨b2, off2, x2, e2, hcc2, -, -, ht2⟩ := (HRL.out.below' hbw.out).byte j (by omega)
                  obtain ⟨rfl, rfl⟩ : b = b2 ∧ off = off2 := by simpa using e2
                  have hjl : j < l.length := by omega
                  have hjq : j < q.length := by omega
                  by_cases hx12 : x1 = x2
                  · subst hx12
                    have HT := hid (show q.take (j + 1) = l.take (j + 1) by rw [ht1, ht2, htk.out])
                    clear ht1 ht2 htk e2 HR
                    go_wp2_with fail
                    go_quiet (fail)
                    have hb1 := Below.drawn wr nq
                    obtain ⟨w2, hw2⟩ : ∃ w2, w2 = wr.drewN nq := ⟨_, rfl⟩
                    rw [← hw2] at hb1 ⊢
                    have HB2 := hid (Below.next hbw.out hb1)
                    clear hb1 hw2
                    go_wp2
                    go_roundw
                    case rel => exact ⟨j + 1, by go_num, by omega, HT, HB2⟩
                    case measure => simp [intOf]; omega
                  · have HT := hid (show q ≠ l.take (i + 1) by
                      intro h
                      have h3 := congrArg (List.take (j + 1)) h
                      rw [List.take_take, Nat.min_eq_left (by omega), ht1, ht2, htk.out] at h3
                      simp at h3
                      exact hx12 h3)
                    have hne : ((x1.toNat : Int) == (x2.toNat : Int)) = false := by
                      simp only [beq_eq_false_iff_ne, ne_eq, Int.natCast_inj]
                      exact fun h => hx12 (UInt8.toNat_inj.1 h)
                    clear ht1 ht2 htk e2 HR hx12
                    go_wp2_with fail
                    go_quiet (fail)
                    have hb1 := Below.drawn wr nq
                    obtain ⟨w2, hw2⟩ : ∃ w2, w2 = wr.drewN nq := ⟨_, rfl⟩
                    rw [← hw2] at hb1 ⊢
                    have HB2 := hid (Below.next hbw.out hb1)
                    clear hb1 hw2
                    go_wp2
                    go_ret2
                    have := (HNO.out HT.out).symm.trans hr.out
                    simp only [Prod.mk.injEq] at this
                    obtain ⟨rfl, rfl⟩ := this
                    exact ⟨rfl, Below.next HB.out HB2.out⟩
                · have HT := hid (show q = l.take (i + 1) by
                    have := htk.out
                    rw [show j = i + 1 by omega, List.take_of_length_le (by omega)] at this
                    exact this)
                  clear htk
                  go_wp2_with fail
                  go_ret2
                  have := (HYES.out HT.out).symm.trans hr.out
                  simp only [Prod.mk.injEq] at this
                  obtain ⟨rfl, rfl⟩ := this
                  exact ⟨by simp, Below.next HB.out hbw.out⟩
            · have HT := hid (show q ≠ l.take (i + 1) by
                intro h
                apply hlen
                rw [h, List.length_take]; omega)
              go_wp2_with fail
              go_ret2
              have := (HNO.out HT.out).symm.trans hr.out
              simp only [Prod.mk.injEq] at this
              obtain ⟨rfl, rfl⟩ := this
              exact ⟨rfl, HB.out⟩
        · have HBIG := hid (show Big (l.take (i + 1)) by
            rw [HTAKE.out]
            intro z hz
            rcases List.mem_append.1 hz with hz | hz
            · exact hbig.out z hz
            · simp at hz; subst hz; omega)
          have hstep2 : IntKind.u64.wrap (s * 128) = ((128 ^ (i + 1) % 18446744073709551616 : Nat) : Int) := by
            rw [hs.out, IntKind.wrap_u64, Nat.pow_succ]
            simp only [Int.natCast_emod, Int.natCast_mul, Int.natCast_pow]
            exact cong_mul _ _
          obtain ⟨s2, hs2⟩ : ∃ s2, s2 = 128 ^ (i + 1) % 18446744073709551616 := ⟨_, rfl⟩
          rw [← hs2] at hstep2
          have hs264 : s2 < 18446744073709551616 := by omega
          have HS2 := hid hs2
          clear hx hs hs2
          go_wp2
          go_round
          case rel => exact ⟨i + 1, y, s2, rfl, rfl, by go_num, by omega, by omega, by omega, by omega, by omega, by omega, HBIG, hid (by rw [HY.out]), hid (by rw [HS2.out])⟩
          case measure => simp [intOf]; omega
      · have HN := hid (refRead_none l (by rw [show 10 = i by omega]; exact hbig.out))
        clear hx hs
        go_wp2
        go_ret2
        have := HN.out.symm.trans hr.out
        simp only [Prod.mk.injEq] at this
        obtain ⟨rfl, rfl⟩ := this
        exact ⟨rfl, Below.refl _ _⟩
    · have HN := hid (refRead_none l (by rw [List.take_of_length_le (by omega)]; have := hbig.out; rwa [List.take_of_length_le (by omega)] at this))
      clear hx hs
      go_wp2
      go_ret2
      have := HN.out.symm.trans hr.out
      simp only [Prod.mk.injEq] at this
      obtain ⟨rfl, rfl⟩ := this
      exact ⟨rfl, Below.refl _ _⟩
end Go.Proofs.Ytdchopckbklncaa
