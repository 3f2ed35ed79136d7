/- Joined texts, in this order: VarIn. Each one's first remark says what it proves; no condition beyond those that its theorems name. -/
import Derived.Test.YtcjdlckfbkdibaaDoorJLawOrderReplies04
import Derived.Deep.RegionWith
section
/- Contracts of the package varint: an In. -/
namespace Go.Proofs.YtcjdlckfbkdibaaDoor
open Go.RowKit
open Go.Lib (hid)
set_option linter.unusedVariables false

/-- at block g stands an In; s: what is left to be read (none: it is bad), in block D -/
structure InIs (w : World) (g D : Nat) (s : Option (List UInt8)) : Prop where
  ex : ∃ a n cap, Blk w g #[.slice a n cap, .bool s.isNone] ∧ SlB w (.slice a n cap) (s.getD []) ∧ (∀ b off, a = some ⟨b, off, none⟩ → b = D ∧ b < w.heap.size)
  ne : D ≠ g

theorem andNot128 (c : Nat) (hc : c < 256) : bits .andNot .u8 (c : Int) 128 = ((c % 128 : Nat) : Int) := by
  have h := u8_andNot_nat c 128 hc (by omega)
  rw [show c &&& (255 - 128) = c % 2 ^ 7 from Nat.and_two_pow_sub_one_eq_mod c 7] at h
  exact h

theorem or_shift (u p k : Nat) (hk : k ≤ 9) (hu : u < 128 ^ k) (hp : p < 128) (h9 : k = 9 → p ≤ 1) : bits .or .u64 (u : Int) ((p * 128 ^ k : Nat) : Int) = ((u + p * 128 ^ k : Nat) : Int) ∧ p * 128 ^ k < 18446744073709551616 ∧ u + p * 128 ^ k < 18446744073709551616 ∧ u + p * 128 ^ k < 128 ^ (k + 1) := by
  have hpk : (128 : Nat) ^ k = 2 ^ (7 * k) := by rw [Nat.pow_mul]
  have hle : (128 : Nat) ^ k ≤ 128 ^ 9 := Nat.pow_le_pow_right (by omega) hk
  have e9 : (128 : Nat) ^ 9 = 9223372036854775808 := by rfl
  have hsum : u + p * 128 ^ k < 128 ^ (k + 1) := by
    rw [Nat.pow_succ]
    have : (p + 1) * 128 ^ k ≤ 128 * 128 ^ k := Nat.mul_le_mul_right _ (by omega)
    rw [Nat.add_mul] at this
    omega
  have hb : u + p * 128 ^ k < 18446744073709551616 := by
    rcases Nat.lt_or_ge k 9 with h | h
    · have : (128 : Nat) ^ (k + 1) ≤ 128 ^ 9 := Nat.pow_le_pow_right (by omega) (by omega)
      omega
    · obtain rfl : k = 9 := by omega
      have := h9 rfl
      have hp1 : p * 128 ^ 9 ≤ 1 * 128 ^ 9 := Nat.mul_le_mul_right _ this
      omega
  refine ⟨?_, by omega, hb, hsum⟩
  have h := u64_or_nat u (p * 128 ^ k) (by omega) (by omega)
  rw [h]
  congr 1
  rw [hpk] at hu ⊢
  rw [Nat.or_comm, Nat.mul_comm, ← Nat.two_pow_add_eq_or_of_lt hu, Nat.add_comm]

theorem or_val (x p k : Nat) (hk : k ≤ 9) (hx : x < 128 ^ k) (hp : p < 128) (h9 : k = 9 → p ≤ 1) : bits .or .u64 (x : Int) (IntKind.u64.wrap ((p : Int) * 2 ^ (7 * k))) = (x : Int) + (p : Int) * 128 ^ k := by
  obtain ⟨o1, o2, -, -⟩ := or_shift x p k hk hx hp h9
  have e0 : ((128 ^ k : Nat) : Int) = 2 ^ (7 * k) := by
    rw [show (128 : Nat) = 2 ^ 7 from rfl, ← Nat.pow_mul]
    exact_mod_cast rfl
  have e : ((p : Int) * 2 ^ (7 * k)) = ((p * 128 ^ k : Nat) : Int) := by
    rw [Int.natCast_mul, e0]
  rw [e, IntKind.wrap_u64, Int.emod_eq_of_lt (by omega) (by omega), o1, Int.natCast_add, Int.natCast_mul]
  rfl
theorem or_val9 (x p : Nat) (hx : x < 128 ^ 9) (h9 : p ≤ 1) : bits .or .u64 (x : Int) ((p : Int) * 9223372036854775808) = (x : Int) + (p : Int) * 9223372036854775808 := by
  obtain ⟨o1, o2, -, -⟩ := or_shift x p 9 (by omega) hx (by omega) (fun _ => h9)
  have e : ((p : Int) * 9223372036854775808) = ((p * 128 ^ 9 : Nat) : Int) := by
    rw [Int.natCast_mul]; rfl
  rw [e, o1, Int.natCast_add]
theorem u64_ext {a b : Int} (h : a = b) : Value.int .u64 a = Value.int .u64 b := by rw [h]

set_option maxRecDepth 100000 in
theorem in_groups (s : Option (List UInt8)) (g D : Nat) (w : World) (h : InIs w g D s) (n u : Nat) (hr : Hid (readF (s.getD []) 0 0 = (n, u))) :
    Calls Tryd.prog 94 #[.pointer (some ⟨g, 0, none⟩)] w fun e w' => e = .returned (.tuple #[.int .i64 (n : Int), .int .u64 (u : Int)]) ∧ w = w' := by
  obtain ⟨⟨a, m, cap, hb, hsl, -⟩, -⟩ := h
  obtain ⟨l, hl⟩ : ∃ l, s.getD [] = l := ⟨_, rfl⟩
  rw [hl] at hsl hr
  obtain ⟨a', c', e, h1, h2, -⟩ := hsl
  simp only [Value.slice.injEq] at e
  obtain ⟨rfl, rfl, rfl⟩ := e
  have hc0 : w.cell? ⟨g, 0, none⟩ = some (.slice a l.length cap) := by rw [hb.cell]; rfl
  clear hl hb
  go_enter Tryd.func94, Tryd.ntmps94
  go_wp2
  go_loop [4, 13] (fun v4 v13 => ∃ k x : Nat, v4 = .int .u64 x ∧ v13 = .int .i64 k ∧ k ≤ l.length ∧ k ≤ 10 ∧ x < 128 ^ k ∧ x < 18446744073709551616 ∧ Hid (readF (l.drop k) k x = (n, u))) (fun _ v13 => l.length - (intOf v13).toNat)
  case atStart => exact ⟨0, 0, rfl, rfl, by omega, by omega, by decide, by omega, hr⟩
  case round =>
    obtain ⟨k, x, rfl, rfl, hk, hk10, hx, hx64, hrk⟩ := hrel
    by_cases hlt : k < l.length
    · obtain ⟨b, off, c, rfl, hcc, -, hd, -⟩ := h2.byte k hlt
      have hr2 := hrk.out
      rw [hd, readF] at hr2
      clear hd hrk
      have hc256 := c.toNat_lt
      by_cases h10 : k = 10
      · subst h10
        rw [if_pos rfl] at hr2
        simp only [Prod.mk.injEq] at hr2
        obtain ⟨rfl, rfl⟩ := hr2
        clear hx
        go_wp2
        go_ret2
        exact ⟨rfl, rfl⟩
      · rw [if_neg h10] at hr2
        have e1 := andNot128 c.toNat hc256
        obtain ⟨p, hp⟩ : ∃ p, p = c.toNat % 128 := ⟨_, rfl⟩
        rw [← hp] at e1 hr2
        have hp128 : p < 128 := by omega
        have h10b : ((k : Int) == 10) = false := by simp; omega
        by_cases h9 : k = 9 ∧ 1 < p
        · rw [if_pos h9] at hr2
          simp only [Prod.mk.injEq] at hr2
          obtain ⟨rfl, rfl⟩ := hr2
          obtain ⟨rfl, h9p⟩ := h9
          clear hx hp h10
          go_wp2
          go_ret2
          exact ⟨rfl, rfl⟩
        · rw [if_neg h9] at hr2
          obtain ⟨-, -, o3, o4⟩ := or_shift x p k (by omega) hx hp128 (fun h => by omega)
          by_cases hk9 : k = 9
          · subst hk9
            have hp1 : ¬ 1 < p := fun h => h9 ⟨rfl, h⟩
            have HV := hid (or_val9 x p hx (by omega))
            have HP := hid hp
            clear h9 h10 hx hx64 hp
            by_cases hc : c.toNat < 128
            · rw [if_pos hc] at hr2
              by_cases hz : c.toNat = 0
              · rw [if_pos ⟨by omega, hz⟩] at hr2
                simp only [Prod.mk.injEq] at hr2
                obtain ⟨rfl, rfl⟩ := hr2
                have hzb : ((c.toNat : Int) == 0) = true := by simp; omega
                clear o3 o4 hz
                go_wp2
                go_ret2
                exact ⟨rfl, rfl⟩
              · rw [if_neg (by omega)] at hr2
                simp only [Prod.mk.injEq] at hr2
                obtain ⟨rfl, rfl⟩ := hr2
                have hzb : ((c.toNat : Int) == 0) = false := by simp; omega
                clear o3 o4 hz
                go_wp2
                go_ret2
                exact ⟨by rw [u64_ext HV.out]; rfl, rfl⟩
            · have HR := hid (show readF (l.drop (9 + 1)) (9 + 1) (x + p * 128 ^ 9) = (n, u) by rw [if_neg hc] at hr2; exact hr2)
              have O3 := hid o3
              have O4 := hid o4
              clear hr2 o3 o4
              go_wp2
              go_round
              case rel => exact ⟨9 + 1, x + p * 128 ^ 9, u64_ext (HV.out.trans (by simp)), by go_num, by omega, by omega, O4.out, O3.out, HR⟩
              case measure => simp [intOf]; omega
          · have hk9b : ((k : Int) == 9) = false := by simp; omega
            have hk8 : k ≤ 8 := by omega
            have HV := hid (or_val x p k (by omega) hx hp128 (fun h => absurd h hk9))
            have HP := hid hp
            clear h9 h10 hx hx64 hk9 hp hk10
            by_cases hc : c.toNat < 128
            · rw [if_pos hc] at hr2
              by_cases hz : 0 < k ∧ c.toNat = 0
              · rw [if_pos hz] at hr2
                simp only [Prod.mk.injEq] at hr2
                obtain ⟨rfl, rfl⟩ := hr2
                obtain ⟨hz1, hz2⟩ := hz
                have hzb : ((c.toNat : Int) == 0) = true := by simp; omega
                clear o3 o4 hz2
                go_wp2
                go_ret2
                exact ⟨rfl, rfl⟩
              · rw [if_neg hz] at hr2
                simp only [Prod.mk.injEq] at hr2
                obtain ⟨rfl, rfl⟩ := hr2
                clear o3 o4
                by_cases hk0 : 0 < k
                · have hzb : ((c.toNat : Int) == 0) = false := by simp; omega
                  clear hz
                  go_wp2
                  go_ret2
                  exact ⟨by rw [u64_ext HV.out]; rfl, rfl⟩
                · clear hz
                  go_wp2
                  go_ret2
                  exact ⟨by rw [u64_ext HV.out]; rfl, rfl⟩
            · have HR := hid (show readF (l.drop (k + 1)) (k + 1) (x + p * 128 ^ k) = (n, u) by rw [if_neg hc] at hr2; exact hr2)
              have O3 := hid o3
              have O4 := hid o4
              clear hr2 o3 o4
              go_wp2
              go_round
              case rel => exact ⟨k + 1, x + p * 128 ^ k, u64_ext (HV.out.trans (by simp)), by go_num, by omega, by omega, O4.out, O3.out, HR⟩
              case measure => simp [intOf]; omega
    · have hr2 := hrk.out
      rw [List.drop_of_length_le (by omega), readF] at hr2
      simp only [Prod.mk.injEq] at hr2
      obtain ⟨rfl, rfl⟩ := hr2
      clear hrk hx hx64
      go_wp2
      go_ret2
      exact ⟨rfl, rfl⟩
end Go.Proofs.YtcjdlckfbkdibaaDoor
end
