/- Joined texts, in this order: VarIn, VarIn2. Each one's first remark says what it proves; no condition beyond those that its theorems name. -/
import Derived.Test.YtohknblokejldaaJLawDiskPlays10
import Derived.Deep.RegionWith
section
/- Contracts of the package varint: an In. -/
namespace Go.Proofs.Ytohknblokejldaa
open Go.RowKit
open Go.Lib (hid)
set_option linter.unusedVariables false

/-- at block g stands an In; s: what is left to be read (none: it is bad), in block D -/
structure InIs (w : World) (g D : Nat) (s : Option (List UInt8)) : Prop where
  ex : ∃ a n cap, Blk w g #[.slice a n cap, .bool s.isNone] ∧ SlB w (.slice a n cap) (s.getD []) ∧ (∀ b off, a = some ⟨b, off, none⟩ → b = D ∧ b < w.heap.size)
  ne : D ≠ g

theorem andNot128 (c : Nat) (hc : c < 256) : bits .andNot .u8 (c : Int) 128 = ((c % 128 : Nat) : Int) := by
  have h := u8_andNot_nat c 128 hc (by omega)
  rw [show c &&& (255 - 128) = c % 2 ^ 7 from Nat.and_two_pow_sub_one_eq_mod c 7] at h
  exact h

theorem or_shift (u p k : Nat) (hk : k ≤ 9) (hu : u < 128 ^ k) (hp : p < 128) (h9 : k = 9 → p ≤ 1) : bits .or .u64 (u : Int) ((p * 128 ^ k : Nat) : Int) = ((u + p * 128 ^ k : Nat) : Int) ∧ p * 128 ^ k < 18446744073709551616 ∧ u + p * 128 ^ k < 18446744073709551616 ∧ u + p * 128 ^ k < 128 ^ (k + 1) := by
  have hpk : (128 : Nat) ^ k = 2 ^ (7 * k) := by rw [Nat.pow_mul]
  have hle : (128 : Nat) ^ k ≤ 128 ^ 9 := Nat.pow_le_pow_right (by omega) hk
  have e9 : (128 : Nat) ^ 9 = 9223372036854775808 := by rfl
  have hsum : u + p * 128 ^ k < 128 ^ (k + 1) := by
    rw [Nat.pow_succ]
    have : (p + 1) * 128 ^ k ≤ 128 * 128 ^ k := Nat.mul_le_mul_right _ (by omega)
    rw [Nat.add_mul] at this
    omega
  have hb : u + p * 128 ^ k < 18446744073709551616 := by
    rcases Nat.lt_or_ge k 9 with h | h
    · have : (128 : Nat) ^ (k + 1) ≤ 128 ^ 9 := Nat.pow_le_pow_right (by omega) (by omega)
      omega
    · obtain rfl : k = 9 := by omega
      have := h9 rfl
      have hp1 : p * 128 ^ 9 ≤ 1 * 128 ^ 9 := Nat.mul_le_mul_right _ this
      omega
  refine ⟨?_, by omega, hb, hsum⟩
  have h := u64_or_nat u (p * 128 ^ k) (by omega) (by omega)
  rw [h]
  congr 1
  rw [hpk] at hu ⊢
  rw [Nat.or_comm, Nat.mul_comm, ← Nat.two_pow_add_eq_or_of_lt hu, Nat.add_comm]

theorem or_val (x p k : Nat) (hk : k ≤ 9) (hx : x < 128 ^ k) (hp : p < 128) (h9 : k = 9 → p ≤ 1) : bits .or .u64 (x : Int) (IntKind.u64.wrap ((p : Int) * 2 ^ (7 * k))) = (x : Int) + (p : Int) * 128 ^ k := by
  obtain ⟨o1, o2, -, -⟩ := or_shift x p k hk hx hp h9
  have e0 : ((128 ^ k : Nat) : Int) = 2 ^ (7 * k) := by
    rw [show (128 : Nat) = 2 ^ 7 from rfl, ← Nat.pow_mul]
    exact_mod_cast rfl
  have e : ((p : Int) * 2 ^ (7 * k)) = ((p * 128 ^ k : Nat) : Int) := by
    rw [Int.natCast_mul, e0]
  rw [e, IntKind.wrap_u64, Int.emod_eq_of_lt (by omega) (by omega), o1, Int.natCast_add, Int.natCast_mul]
  rfl
theorem or_val9 (x p : Nat) (hx : x < 128 ^ 9) (h9 : p ≤ 1) : bits .or .u64 (x : Int) ((p : Int) * 9223372036854775808) = (x : Int) + (p : Int) * 9223372036854775808 := by
  obtain ⟨o1, o2, -, -⟩ := or_shift x p 9 (by omega) hx (by omega) (fun _ => h9)
  have e : ((p : Int) * 9223372036854775808) = ((p * 128 ^ 9 : Nat) : Int) := by
    rw [Int.natCast_mul]; rfl
  rw [e, o1, Int.natCast_add]
theorem u64_ext {a b : Int} (h : a = b) : Value.int .u64 a = Value.int .u64 b := by rw [h]

set_option maxRecDepth 100000 in
theorem in_groups (s : Option (List UInt8)) (g D : Nat) (w : World) (h : InIs w g D s) (n u : Nat) (hr : Hid (readF (s.getD []) 0 0 = (n, u))) :
    Calls Try.prog 99 #[.pointer (some ⟨g, 0, none⟩)] w fun e w' => e = .returned (.tuple #[.int .i64 (n : Int), .int .u64 (u : Int)]) ∧ w = w' := by
  obtain ⟨⟨a, m, cap, hb, hsl, -⟩, -⟩ := h
  obtain ⟨l, hl⟩ : ∃ l, s.getD [] = l := ⟨_, rfl⟩
  rw [hl] at hsl hr
  obtain ⟨a', c', e, h1, h2, -⟩ := hsl
  simp only [Value.slice.injEq] at e
  obtain ⟨rfl, rfl, rfl⟩ := e
  have hc0 : w.cell? ⟨g, 0, none⟩ = some (.slice a l.length cap) := by rw [hb.cell]; rfl
  clear hl hb
  go_enter Try.func99, Try.ntmps99
  go_wp2
  go_loop [4, 13] (fun v4 v13 => ∃ k x : Nat, v4 = .int .u64 x ∧ v13 = .int .i64 k ∧ k ≤ l.length ∧ k ≤ 10 ∧ x < 128 ^ k ∧ x < 18446744073709551616 ∧ Hid (readF (l.drop k) k x = (n, u))) (fun _ v13 => l.length - (intOf v13).toNat)
  case atStart => exact ⟨0, 0, rfl, rfl, by omega, by omega, by decide, by omega, hr⟩
  case round =>
    obtain ⟨k, x, rfl, rfl, hk, hk10, hx, hx64, hrk⟩ := hrel
    by_cases hlt : k < l.length
    · obtain ⟨b, off, c, rfl, hcc, -, hd, -⟩ := h2.byte k hlt
      have hr2 := hrk.out
      rw [hd, readF] at hr2
      clear hd hrk
      have hc256 := c.toNat_lt
      by_cases h10 : k = 10
      · subst h10
        rw [if_pos rfl] at hr2
        simp only [Prod.mk.injEq] at hr2
        obtain ⟨rfl, rfl⟩ := hr2
        clear hx
        go_wp2
        go_ret2
        exact ⟨rfl, rfl⟩
      · rw [if_neg h10] at hr2
        have e1 := andNot128 c.toNat hc256
        obtain ⟨p, hp⟩ : ∃ p, p = c.toNat % 128 := ⟨_, rfl⟩
        rw [← hp] at e1 hr2
        have hp128 : p < 128 := by omega
        have h10b : ((k : Int) == 10) = false := by simp; omega
        by_cases h9 : k = 9 ∧ 1 < p
        · rw [if_pos h9] at hr2
          simp only [Prod.mk.injEq] at hr2
          obtain ⟨rfl, rfl⟩ := hr2
          obtain ⟨rfl, h9p⟩ := h9
          clear hx hp h10
          go_wp2
          go_ret2
          exact ⟨rfl, rfl⟩
        · rw [if_neg h9] at hr2
          obtain ⟨-, -, o3, o4⟩ := or_shift x p k (by omega) hx hp128 (fun h => by omega)
          by_cases hk9 : k = 9
          · subst hk9
            have hp1 : ¬ 1 < p := fun h => h9 ⟨rfl, h⟩
            have HV := hid (or_val9 x p hx (by omega))
            have HP := hid hp
            clear h9 h10 hx hx64 hp
            by_cases hc : c.toNat < 128
            · rw [if_pos hc] at hr2
              by_cases hz : c.toNat = 0
              · rw [if_pos ⟨by omega, hz⟩] at hr2
                simp only [Prod.mk.injEq] at hr2
                obtain ⟨rfl, rfl⟩ := hr2
                have hzb : ((c.toNat : Int) == 0) = true := by simp; omega
                clear o3 o4 hz
                go_wp2
                go_ret2
                exact ⟨rfl, rfl⟩
              · rw [if_neg (by omega)] at hr2
                simp only [Prod.mk.injEq] at hr2
                obtain ⟨rfl, rfl⟩ := hr2
                have hzb : ((c.toNat : Int) == 0) = false := by simp; omega
                clear o3 o4 hz
                go_wp2
                go_ret2
                exact ⟨by rw [u64_ext HV.out]; rfl, rfl⟩
            · have HR := hid (show readF (l.drop (9 + 1)) (9 + 1) (x + p * 128 ^ 9) = (n, u) by rw [if_neg hc] at hr2; exact hr2)
              have O3 := hid o3
              have O4 := hid o4
              clear hr2 o3 o4
              go_wp2
              go_round
              case rel => exact ⟨9 + 1, x + p * 128 ^ 9, u64_ext (HV.out.trans (by simp)), by go_num, by omega, by omega, O4.out, O3.out, HR⟩
              case measure => simp [intOf]; omega
          · have hk9b : ((k : Int) == 9) = false := by simp; omega
            have hk8 : k ≤ 8 := by omega
            have HV := hid (or_val x p k (by omega) hx hp128 (fun h => absurd h hk9))
            have HP := hid hp
            clear h9 h10 hx hx64 hk9 hp hk10
            by_cases hc : c.toNat < 128
            · rw [if_pos hc] at hr2
              by_cases hz : 0 < k ∧ c.toNat = 0
              · rw [if_pos hz] at hr2
                simp only [Prod.mk.injEq] at hr2
                obtain ⟨rfl, rfl⟩ := hr2
                obtain ⟨hz1, hz2⟩ := hz
                have hzb : ((c.toNat : Int) == 0) = true := by simp; omega
                clear o3 o4 hz2
                go_wp2
                go_ret2
                exact ⟨rfl, rfl⟩
              · rw [if_neg hz] at hr2
                simp only [Prod.mk.injEq] at hr2
                obtain ⟨rfl, rfl⟩ := hr2
                clear o3 o4
                by_cases hk0 : 0 < k
                · have hzb : ((c.toNat : Int) == 0) = false := by simp; omega
                  clear hz
                  go_wp2
                  go_ret2
                  exact ⟨by rw [u64_ext HV.out]; rfl, rfl⟩
                · clear hz
                  go_wp2
                  go_ret2
                  exact ⟨by rw [u64_ext HV.out]; rfl, rfl⟩
            · have HR := hid (show readF (l.drop (k + 1)) (k + 1) (x + p * 128 ^ k) = (n, u) by rw [if_neg hc] at hr2; exact hr2)
              have O3 := hid o3
              have O4 := hid o4
              clear hr2 o3 o4
              go_wp2
              go_round
              case rel => exact ⟨k + 1, x + p * 128 ^ k, u64_ext (HV.out.trans (by simp)), by go_num, by omega, by omega, O4.out, O3.out, HR⟩
              case measure => simp [intOf]; omega
    · have hr2 := hrk.out
      rw [List.drop_of_length_le (by omega), readF] at hr2
      simp only [Prod.mk.injEq] at hr2
      obtain ⟨rfl, rfl⟩ := hr2
      clear hrk hx hx64
      go_wp2
      go_ret2
      exact ⟨rfl, rfl⟩
end Go.Proofs.Ytohknblokejldaa
end
section
/- Contracts of the package varint: an In, continued: its calls as steps on what is left. -/
namespace Go.Proofs.Ytohknblokejldaa
open Go.RowKit
open Go.Lib (hid)
set_option linter.unusedVariables false

theorem InIs.lt {w : World} {g D : Nat} {s : Option (List UInt8)} (h : InIs w g D s) : g < w.heap.size := by
  obtain ⟨⟨a, n, cap, hb, -⟩, -⟩ := h
  exact hb.lt
/-- an In while blocks of others turn -/
theorem InIs.upd {S : Nat → Prop} {w w' : World} {g D : Nat} {s : Option (List UInt8)} (h : InIs w g D s) (hu : Upd S w w') (hg : ¬ S g) (hD : D < w.heap.size → ¬ S D) : InIs w' g D s := by
  obtain ⟨⟨a, n, cap, hb, hs, hd⟩, hne⟩ := h
  exact ⟨⟨a, n, cap, hb.upd hu hg, hu.slb hs (fun b off ha x => by obtain ⟨rfl, hlt⟩ := hd b off ha; exact hD hlt x), fun b off ha => ⟨(hd b off ha).1, Nat.lt_of_lt_of_le (hd b off ha).2 hu.size⟩⟩, hne⟩
theorem InIs.below {w w' : World} {g D : Nat} {s : Option (List UInt8)} (h : InIs w g D s) (hu : Below w.heap.size w w') : InIs w' g D s :=
  h.upd (S := fun _ => False) (Upd.of_below hu) (fun x => x) (fun _ x => x)

/-- was all read just so? -/
def inDone (s : Option (List UInt8)) : Bool := s == some []
theorem in_Done (s : Option (List UInt8)) (g D : Nat) (w : World) (h : InIs w g D s) :
    Calls Try.prog 59 #[.pointer (some ⟨g, 0, none⟩)] w fun e w' => e = .returned (.bool (inDone s)) ∧ w = w' := by
  obtain ⟨⟨a, m, cap, hb, hs, -⟩, -⟩ := h
  have hc1 : w.cell? ⟨g, 1, none⟩ = some (.bool s.isNone) := by rw [hb.cell]; rfl
  have hc0 : w.cell? ⟨g, 0, none⟩ = some (.slice a m cap) := by rw [hb.cell]; rfl
  obtain ⟨a', c', e, -⟩ := hs
  simp only [Value.slice.injEq] at e
  obtain ⟨rfl, rfl, rfl⟩ := e
  clear hb
  cases s with
  | none =>
    have hd : inDone none = false := rfl
    rw [hd]
    simp only [Option.isNone_none] at hc1
    clear hd hc0
    go_enter Try.func59, Try.ntmps59
    go_wp2
    go_ret
    exact ⟨rfl, rfl⟩
  | some l =>
    simp only [Option.isNone_some, Option.getD_some] at hc1 hc0
    cases l with
    | nil =>
      have hd : inDone (some []) = true := rfl
      rw [hd]
      simp only [List.length_nil] at hc0
      clear hd
      go_enter Try.func59, Try.ntmps59
      go_wp2
      go_ret
      exact ⟨rfl, rfl⟩
    | cons y ys =>
      have hd : inDone (some (y :: ys)) = false := by simp [inDone]
      rw [hd]
      obtain ⟨n, hn⟩ : ∃ n, (y :: ys).length = n := ⟨_, rfl⟩
      have hp : ((n : Int) == 0) = false := by simp; simp at hn; omega
      rw [hn] at hc0
      clear hd hn
      go_enter Try.func59, Try.ntmps59
      go_wp2
      go_ret
      exact ⟨rfl, rfl⟩

theorem in_fails (s : Option (List UInt8)) (g D : Nat) (w : World) (h : InIs w g D s) :
    Calls Try.prog 100 #[.pointer (some ⟨g, 0, none⟩)] w fun e w' => e = .returned (.tuple #[]) ∧ InIs w' g D none ∧ Upd (fun k => k = g) w w' := by
  obtain ⟨⟨a, m, cap, hb, hs, -⟩, hne⟩ := h
  have hc1 : w.cell? ⟨g, 1, none⟩ = some (.bool s.isNone) := by rw [hb.cell]; rfl
  have hc0 : w.cell? ⟨g, 0, none⟩ = some (.slice a m cap) := by rw [hb.cell]; rfl
  have hf0 := hb.unfrozen 0
  have hf1 := hb.unfrozen 1
  have HO : Hid (InIs ((w.setCell ⟨g, 1, none⟩ (.bool true)).setCell ⟨g, 0, none⟩ (.slice none 0 0)) g D none ∧ Upd (fun k => k = g) w ((w.setCell ⟨g, 1, none⟩ (.bool true)).setCell ⟨g, 0, none⟩ (.slice none 0 0))) := hid
    ⟨⟨⟨none, 0, 0, by simpa using (hb.set 1 (.bool true)).set 0 (.slice none 0 0), ⟨none, 0, rfl, by simp, Rd.nil _ _, by simp, by omega, fun _ => rfl⟩, nofun⟩, hne⟩,
     (Upd.setCell w g 1 _).trans (Upd.setCell _ g 0 _) (fun _ _ x => x)⟩
  clear hb hs
  go_enter Try.func100, Try.ntmps100
  go_wp2
  go_end0
  exact ⟨rfl, HO.out.1, HO.out.2⟩

/-- the next bytes -/
def inTake (n : Nat) : Option (List UInt8) → List UInt8 × Option (List UInt8)
  | none => ([], none)
  | some l => if l.length < n then ([], none) else (l.take n, some (l.drop n))
theorem in_take (n : Nat) (N : Int) (hN : N = (n : Int)) (s : Option (List UInt8)) (g D : Nat) (w : World) (h : InIs w g D s) :
    Calls Try.prog 101 #[.pointer (some ⟨g, 0, none⟩), .int .i64 N] w fun e w' => ∃ a m cap, e = .returned (.slice a m cap) ∧ SlB w' (.slice a m cap) (inTake n s).1 ∧ (∀ b off, a = some ⟨b, off, none⟩ → b = D) ∧ InIs w' g D (inTake n s).2 ∧ Upd (fun k => k = g) w w' := by
  subst hN
  have H := hid h
  obtain ⟨⟨a, m, cap, hb, hs, hD⟩, hne⟩ := h
  have hc1 : w.cell? ⟨g, 1, none⟩ = some (.bool s.isNone) := by rw [hb.cell]; rfl
  have hc0 : w.cell? ⟨g, 0, none⟩ = some (.slice a m cap) := by rw [hb.cell]; rfl
  have hf0 := hb.unfrozen 0
  have HNIL : ∀ w' : World, SlB w' (.slice none 0 0) [] := fun w' => ⟨none, 0, rfl, by simp, Rd.nil _ _, by simp, by omega, fun _ => rfl⟩
  have HN := hid HNIL
  clear HNIL
  cases s with
  | none =>
    simp only [Option.isNone_none] at hc1
    clear hc0 hb hs
    go_enter Try.func101, Try.ntmps101
    go_wp2_with (go_at_call 100; (with_reducible refine (in_fails none g D _ H.out).mono ?_); rintro e w1 ⟨rfl, hi, hu⟩)
    go_ret
    exact ⟨none, 0, 0, rfl, HN.out _, nofun, hi, hu⟩
  | some l =>
    simp only [Option.isNone_some] at hc1
    simp only [Option.getD_some] at hs
    have HS := hid hs
    obtain ⟨a', c', e, h1, h2, h3, h4, h5⟩ := hs
    simp only [Value.slice.injEq] at e
    obtain ⟨rfl, rfl, rfl⟩ := e
    by_cases hlt : l.length < n
    · have hr : inTake n (some l) = ([], none) := by simp [inTake, hlt]
      rw [hr]
      clear hr hb h2
      go_enter Try.func101, Try.ntmps101
      go_wp2_with (go_at_call 100; (with_reducible refine (in_fails (some l) g D _ H.out).mono ?_); rintro e w1 ⟨rfl, hi, hu⟩)
      go_ret
      exact ⟨none, 0, 0, rfl, HN.out _, nofun, hi, hu⟩
    · have hr : inTake n (some l) = (l.take n, some (l.drop n)) := by simp [inTake, hlt]
      rw [hr]
      clear hr
      have hn1 : n ≤ l.length := by omega
      have hn2 : (n : Int) ≤ (l.length : Int) := by omega
      have hn3 : (n : Int) ≤ (cap : Int) := by omega
      have hn0 : (0 : Int) ≤ (n : Int) := by omega
      by_cases hz : l = []
      · obtain rfl : n = 0 := by subst hz; simpa using hn1
        subst hz
        have HR : ∀ (w' : World) (x : Option Addr) (c : Nat), c ≤ 9223372036854775807 → (x = none → c = 0) → SlB w' (.slice x 0 c) [] := fun w' x c hc hx => ⟨x, c, rfl, by simp, Rd.nil _ _, by simp, hc, hx⟩
        have HR2 := hid HR
        have HD2 := hid hD
        have H5 := hid h5
        simp only [List.length_nil] at hc0
        clear hlt HR hD h5 h2 hn1 hn2 hn3 h1 h3
        cases a with
        | none =>
          obtain rfl := H5.out rfl
          have HO : Hid (InIs (w.setCell ⟨g, 0, none⟩ (.slice none 0 0)) g D (some []) ∧ Upd (fun k => k = g) w (w.setCell ⟨g, 0, none⟩ (.slice none 0 0))) := hid
            ⟨⟨⟨none, 0, 0, by simpa using hb.set 0 (.slice none 0 0), HR2.out _ _ _ (by omega) (fun _ => rfl), nofun⟩, hne⟩, Upd.setCell w g 0 _⟩
          clear hb
          go_enter Try.func101, Try.ntmps101
          go_wp2
          go_ret
          exact ⟨none, 0, 0, rfl, HN.out _, nofun, HO.out.1, HO.out.2⟩
        | some ad =>
          by_cases hcz : cap = 0
          · subst hcz
            have HO : Hid (InIs (w.setCell ⟨g, 0, none⟩ (.slice (some ad) 0 0)) g D (some []) ∧ Upd (fun k => k = g) w (w.setCell ⟨g, 0, none⟩ (.slice (some ad) 0 0))) := hid
              ⟨⟨⟨some ad, 0, 0, by simpa using hb.set 0 (.slice (some ad) 0 0), HR2.out _ _ _ (by omega) nofun, fun b off e => by simpa using HD2.out b off e⟩, hne⟩, Upd.setCell w g 0 _⟩
            clear hb
            go_enter Try.func101, Try.ntmps101
            go_wp2
            go_ret
            exact ⟨some ad, 0, 0, rfl, HR2.out _ _ _ (by omega) nofun, fun b off e => (HD2.out b off e).1, HO.out.1, HO.out.2⟩
          · have HO : Hid (InIs (w.setCell ⟨g, 0, none⟩ (.slice (some ad) 0 cap)) g D (some []) ∧ Upd (fun k => k = g) w (w.setCell ⟨g, 0, none⟩ (.slice (some ad) 0 cap))) := hid
              ⟨⟨⟨some ad, 0, cap, by simpa using hb.set 0 (.slice (some ad) 0 cap), HR2.out _ _ _ h4 nofun, fun b off e => by simpa using HD2.out b off e⟩, hne⟩, Upd.setCell w g 0 _⟩
            clear hb
            go_enter Try.func101, Try.ntmps101
            go_wp2
            go_ret
            exact ⟨some ad, 0, 0, rfl, HR2.out _ _ _ (by omega) nofun, fun b off e => (HD2.out b off e).1, HO.out.1, HO.out.2⟩
      · obtain ⟨b, off, rfl, -⟩ := h2 0 (by rw [bv_length]; cases l <;> simp_all)
        obtain ⟨rfl, hDlt⟩ := hD b off rfl
        have hs1 : ∀ w' : World, w'.heap[b]? = w.heap[b]? → SlB w' (.slice (some ⟨b, off, none⟩) n n) (l.take n) := by
          intro w' hw
          refine ⟨some ⟨b, off, none⟩, n, by simp [List.length_take]; omega, by simp; omega, ?_, by simp; omega, by omega, nofun⟩
          have := (h2.sub 0 n).congr (w' := w') (fun b' off' e hlt => by simp at e; obtain ⟨rfl, rfl⟩ := e; exact hw)
          simpa [bv, List.map_take] using this
        have hs2 : ∀ w' : World, w'.heap[b]? = w.heap[b]? → ∀ x, (n < l.length → x = some ⟨b, off + n, none⟩) → x ≠ none → SlB w' (.slice x (l.length - n) (cap - n)) (l.drop n) := by
          intro w' hw x hx hx2
          refine ⟨x, cap - n, by simp, by simp; omega, ?_, by simp; omega, by omega, fun e => absurd e hx2⟩
          intro i hi
          simp [bv] at hi
          have := hx (by omega)
          subst this
          have h := (h2.sub n (l.length - n)).congr (w' := w') (fun b' off' e hlt => by simp at e; obtain ⟨rfl, rfl⟩ := e; exact hw)
          have h' := h i (by simp [bv]; omega)
          have e : bv (l.drop n) = ((bv l).drop n).take (l.length - n) := by
            rw [List.take_of_length_le (by simp [bv])]
            simp [bv, List.map_drop]
          rw [e]; exact h'
        have HS1 := hid hs1
        have HS2 := hid hs2
        clear hlt hD h2 h5 hz hs1 hs2 hn1
        by_cases hcn : cap = n
        · subst hcn
          have hl0 : l.length - cap = 0 := by omega
          have HO : Hid (InIs (w.setCell ⟨g, 0, none⟩ (.slice (some ⟨b, off, none⟩) 0 0)) g b (some (l.drop cap)) ∧ Upd (fun k => k = g) w (w.setCell ⟨g, 0, none⟩ (.slice (some ⟨b, off, none⟩) 0 0))) := hid
            ⟨⟨⟨some ⟨b, off, none⟩, 0, 0, by simpa using hb.set 0 (.slice (some ⟨b, off, none⟩) 0 0), by
                have := HS2.out (w.setCell ⟨g, 0, none⟩ (.slice (some ⟨b, off, none⟩) 0 0)) (heap_setCell_other w ⟨g, 0, none⟩ b _ (fun e => hne e)) (some ⟨b, off, none⟩) (fun h => by omega) nofun
                rw [hl0] at this; simpa using this, fun b' off' e => by simp at e; obtain ⟨rfl, rfl⟩ := e; exact ⟨rfl, by simpa using hDlt⟩⟩, hne⟩, Upd.setCell w g 0 _⟩
          have hbo : Hid ((w.setCell ⟨g, 0, none⟩ (.slice (some ⟨b, off, none⟩) 0 0)).heap[b]? = w.heap[b]?) := hid (heap_setCell_other w ⟨g, 0, none⟩ b _ (fun e => hne e))
          clear hb hl0
          go_enter Try.func101, Try.ntmps101
          go_wp2
          go_ret
          exact ⟨some ⟨b, off, none⟩, cap, cap, rfl, HS1.out _ hbo.out, fun b' off' e => by simp at e; exact e.1.symm, HO.out.1, HO.out.2⟩
        · have HO : Hid (InIs (w.setCell ⟨g, 0, none⟩ (.slice (some ⟨b, off + n, none⟩) (l.length - n) (cap - n))) g b (some (l.drop n)) ∧ Upd (fun k => k = g) w (w.setCell ⟨g, 0, none⟩ (.slice (some ⟨b, off + n, none⟩) (l.length - n) (cap - n)))) := hid
            ⟨⟨⟨some ⟨b, off + n, none⟩, l.length - n, cap - n, by simpa using hb.set 0 (.slice (some ⟨b, off + n, none⟩) (l.length - n) (cap - n)), by
                have := HS2.out (w.setCell ⟨g, 0, none⟩ (.slice (some ⟨b, off + n, none⟩) (l.length - n) (cap - n))) (heap_setCell_other w ⟨g, 0, none⟩ b _ (fun e => hne e)) (some ⟨b, off + n, none⟩) (fun _ => rfl) nofun
                simpa using this, fun b' off' e => by simp at e; obtain ⟨rfl, rfl⟩ := e; exact ⟨rfl, by simpa using hDlt⟩⟩, hne⟩, Upd.setCell w g 0 _⟩
          have hbo : Hid ((w.setCell ⟨g, 0, none⟩ (.slice (some ⟨b, off + n, none⟩) (l.length - n) (cap - n))).heap[b]? = w.heap[b]?) := hid (heap_setCell_other w ⟨g, 0, none⟩ b _ (fun e => hne e))
          clear hb
          go_enter Try.func101, Try.ntmps101
          go_wp2
          go_ret
          exact ⟨some ⟨b, off, none⟩, n, n, rfl, HS1.out _ hbo.out, fun b' off' e => by simp at e; exact e.1.symm, HO.out.1, HO.out.2⟩
end Go.Proofs.Ytohknblokejldaa
end
