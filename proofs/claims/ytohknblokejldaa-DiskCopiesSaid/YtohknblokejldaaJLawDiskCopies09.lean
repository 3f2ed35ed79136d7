/- Joined texts, in this order: VarNum, VarObj, VarIn. Each one's first remark says what it proves; no condition beyond those that its theorems name. -/
import Derived.Test.YtohknblokejldaaJLawDiskCopies08
import Derived.Deep.RegionWith
section
/- Contracts of the package varint: numbers and their signs. -/
namespace Go.Proofs.Ytohknblokejldaa
open Go.RowKit
open Go.Lib (hid)
set_option linter.unusedVariables false

theorem xor_u64_zero (x : Nat) (hx : x < 18446744073709551616) : bits .xor .u64 (x : Int) 0 = (x : Int) := by
  have h := u64_xor_nat x 0 hx (by omega)
  rw [Nat.xor_zero] at h
  exact h
theorem xor_u64_ones (x : Nat) (hx : x < 18446744073709551616) : bits .xor .u64 (x : Int) 18446744073709551615 = 18446744073709551615 - (x : Int) := by
  have h := u64_xor_nat x 18446744073709551615 hx (by omega)
  have h2 : x ^^^ 18446744073709551615 = 18446744073709551615 - x := by
    have h := congrArg BitVec.toNat (BitVec.xor_allOnes (x := BitVec.ofNat 64 x))
    rw [BitVec.toNat_xor, BitVec.toNat_not, BitVec.toNat_allOnes, BitVec.toNat_ofNat, Nat.mod_eq_of_lt (by omega)] at h
    simpa using h
  rw [h2] at h
  rw [show ((18446744073709551615 : Nat) : Int) = 18446744073709551615 from rfl] at h
  rw [h]; omega
theorem xor_i64_zero (x : Int) (h1 : 0 ≤ x) (h2 : x ≤ 9223372036854775807) : bits .xor .i64 x 0 = x := by
  show IntKind.i64.wrap ((BitVec.ofInt 64 x ^^^ BitVec.ofInt 64 0).toNat : Int) = x
  have e0 : BitVec.ofInt 64 0 = 0#64 := by decide
  rw [e0, BitVec.xor_zero]
  obtain ⟨X, rfl⟩ := Int.eq_ofNat_of_zero_le h1
  rw [BitVec.ofInt_natCast, BitVec.toNat_ofNat, Nat.mod_eq_of_lt (by omega), IntKind.wrap_i64]
  omega
theorem xor_i64_ones (x : Int) (h1 : 0 ≤ x) (h2 : x ≤ 9223372036854775807) : bits .xor .i64 x (-1) = -x - 1 := by
  show IntKind.i64.wrap ((BitVec.ofInt 64 x ^^^ BitVec.ofInt 64 (-1)).toNat : Int) = -x - 1
  have e0 : BitVec.ofInt 64 (-1) = BitVec.allOnes 64 := by decide
  rw [e0, BitVec.xor_allOnes, BitVec.toNat_not]
  obtain ⟨X, rfl⟩ := Int.eq_ofNat_of_zero_le h1
  rw [BitVec.ofInt_natCast, BitVec.toNat_ofNat, Nat.mod_eq_of_lt (by omega), IntKind.wrap_i64]
  omega
theorem turned_pos (n : Int) (h0 : 0 ≤ n) (h2 : n ≤ 9223372036854775807) : bits .xor .u64 (n * 2) (n / 9223372036854775808) = ((zz n : Nat) : Int) := by
  rw [show n / 9223372036854775808 = 0 by omega]
  have h := xor_u64_zero (2 * n).toNat (by omega)
  rw [show (((2 * n).toNat : Nat) : Int) = n * 2 by omega] at h
  rw [h]; unfold zz; rw [if_pos h0]; omega
theorem turned_neg (n : Int) (h0 : n < 0) (h1 : -9223372036854775808 ≤ n) : bits .xor .u64 (IntKind.u64.wrap (IntKind.u64.wrap n * 2)) (IntKind.u64.wrap (n / 9223372036854775808)) = ((zz n : Nat) : Int) := by
  rw [show n / 9223372036854775808 = -1 by omega, IntKind.wrap_u64, IntKind.wrap_u64, IntKind.wrap_u64]
  have e1 : (n % 18446744073709551616 * 2) % 18446744073709551616 = ((2 * n + 18446744073709551616).toNat : Int) := by omega
  have e2 : (-1 : Int) % 18446744073709551616 = 18446744073709551615 := by decide
  rw [e1, e2, xor_u64_ones _ (by omega)]
  unfold zz; rw [if_neg (by omega)]; omega
theorem back_eq (u : Nat) (hu : u < 18446744073709551616) : bits .xor .i64 ((u : Int) / 2) (wrap64 (-wrap64 (bits .and .u64 (u : Int) 1))) = unzz u := by
  rw [and_one_u64 (u : Int) (by omega) (by omega)]
  unfold unzz
  by_cases h : u % 2 = 0
  · rw [if_pos h, show ((u : Int) % 2) = 0 by omega]
    have e : wrap64 (-wrap64 0) = 0 := by unfold wrap64; omega
    rw [e, xor_i64_zero _ (by omega) (by omega)]
    omega
  · rw [if_neg h, show ((u : Int) % 2) = 1 by omega]
    have e : wrap64 (-wrap64 1) = -1 := by unfold wrap64; omega
    rw [e, xor_i64_ones _ (by omega) (by omega)]
    omega

theorem var_turned (n : Int) (h1 : -9223372036854775808 ≤ n) (h2 : n ≤ 9223372036854775807) (w : World) :
    Calls Try.prog 94 #[.int .i64 n] w fun e w' => e = .returned (.int .u64 ((zz n : Nat) : Int)) ∧ w = w' := by
  by_cases h0 : 0 ≤ n
  · go_enter Try.func94, Try.ntmps94
    go_wp2
    go_ret
    exact ⟨ret_int (turned_pos n h0 h2), rfl⟩
  · go_enter Try.func94, Try.ntmps94
    go_wp2
    go_ret
    exact ⟨ret_int (turned_neg n (by omega) h1), rfl⟩
theorem var_back (u : Nat) (hu : u < 18446744073709551616) (w : World) :
    Calls Try.prog 102 #[.int .u64 (u : Int)] w fun e w' => e = .returned (.int .i64 (unzz u)) ∧ w = w' := by
  by_cases h0 : u % 2 = 0
  · go_enter Try.func102, Try.ntmps102
    go_wp2
    go_ret
    exact ⟨ret_int (back_eq u hu), rfl⟩
  · go_enter Try.func102, Try.ntmps102
    go_wp2
    go_ret
    exact ⟨ret_int (back_eq u hu), rfl⟩
theorem ref_Twice (n : Int) (h1 : -9223372036854775808 ≤ n) (h2 : n ≤ 9223372036854775807) (w : World) :
    Calls Try.prog 114 #[.int .i64 n] w fun e w' => e = .returned (.int .u64 ((zz n : Nat) : Int)) ∧ w = w' := by
  by_cases h0 : n < 0
  · go_enter Try.func114, Try.ntmps114
    go_wp2
    go_ret
    exact ⟨ret_int (by unfold zz; split <;> omega), rfl⟩
  · go_enter Try.func114, Try.ntmps114
    go_wp2
    go_ret
    exact ⟨ret_int (by unfold zz; split <;> omega), rfl⟩
end Go.Proofs.Ytohknblokejldaa
end
section
/- Contracts of the package varint: an Out. -/
namespace Go.Proofs.Ytohknblokejldaa
open Go.RowKit
open Go.Lib (hid)
set_option linter.unusedVariables false

/-- at block g stands an Out that has written l, in the slice v -/
structure OutIs (w : World) (g : Nat) (v : Value) (l : List UInt8) : Prop where
  blk : Blk w g #[v]
  own : w.ownsRow 0 5 1 v l.length (bv l)
  ne : v.ownBlock ≠ some g
/-- what writing does to the memory -/
structure OutStep (g : Nat) (v v' : Value) (w w' : World) : Prop where
  upd : Upd (fun k => k = g ∨ v.ownBlock = some k) w w'
  wh : ∀ k, v'.ownBlock = some k → v.ownBlock = some k ∨ w.heap.size ≤ k
theorem OutStep.trans {g : Nat} {u v x : Value} {a b c : World} (h : OutStep g u v a b) (k : OutStep g v x b c) : OutStep g u x a c :=
  ⟨h.upd.trans k.upd (fun i hi hs => by rcases hs with h1 | h1; exact .inl h1; rcases h.wh i h1 with h2 | h2; exact .inr h2; omega),
   fun i hi => by rcases k.wh i hi with h1 | h1; exact h.wh i h1; exact .inr (by have := h.upd.size; omega)⟩

theorem out_stored {g : Nat} {v v1 : Value} {l m : List UInt8} {w w0 w1 : World} (h : OutIs w g v l) (hd : Below w.heap.size w w0) (hown : w1.ownsRow 0 5 1 v1 m.length (bv m)) (hupd : Upd (fun k => v.ownBlock = some k) w0 w1)
    (hwh : ∀ k, v1.ownBlock = some k → v.ownBlock = some k ∨ w0.heap.size ≤ k) : OutIs (w1.setCell ⟨g, 0, none⟩ v1) g v1 m ∧ OutStep g v v1 w (w1.setCell ⟨g, 0, none⟩ v1) := by
  have hg : g < w.heap.size := h.blk.lt
  have hne : ∀ k, v1.ownBlock = some k → k ≠ g := by
    intro k hk e
    subst e
    rcases hwh k hk with x | x
    · exact h.ne x
    · have := hd.size; omega
  have hb1 : Blk w1 g #[v] := (Blk.below hd h.blk).upd hupd h.ne
  have hu : Upd (fun k => k = g ∨ v.ownBlock = some k) w w1 := (Upd.of_below hd).trans hupd (fun i _ x => .inr x)
  refine ⟨⟨by simpa using hb1.set 0 v1, (Upd.setCell w1 g 0 v1).owns hown (fun k hk e => hne k hk e), fun e => hne g e rfl⟩,
    ⟨hu.trans (Upd.setCell w1 g 0 v1) (fun i _ x => .inl x), fun k hk => by rcases hwh k hk with x | x; exact .inl x; exact .inr (by have := hd.size; omega)⟩⟩

set_option maxRecDepth 100000 in
theorem var_Out_Int (n : Int) (h1 : -9223372036854775808 ≤ n) (h2 : n ≤ 9223372036854775807) (g : Nat) (v : Value) (l : List UInt8) (w : World) (h : OutIs w g v l) (hl : l.length ≤ 1048576) :
    Calls Try.prog 46 #[.pointer (some ⟨g, 0, none⟩), .int .i64 n] w fun e w' => ∃ v', e = .returned (.pointer (some ⟨g, 0, none⟩)) ∧ OutIs w' g v' (l ++ enc (zz n)) ∧ OutStep g v v' w w' ∧ v' ≠ .slice none 0 0 := by
  have hc : w.cell? ⟨g, 0, none⟩ = some v := by rw [h.blk.cell]; rfl
  have hz := hid (zz_lt n h1 h2)
  have H := hid h
  go_enter Try.func46, Try.ntmps46
  go_wp2
  go_region_with (first
    | (go_at_call 94; (with_reducible refine (var_turned n h1 h2 _).mono ?_); rintro e w' ⟨rfl, rfl⟩)
    | (go_at_call 93; (with_reducible refine (var_appended l (zz n) hz.out v _ ?_ hl).mono ?_); exact H.out.own; rintro e w1 ⟨v1, rfl, hown, hupd, hwh, hne⟩; (obtain ⟨g1, c1, rfl⟩ := Joins.ownsRow_form hown (by have := enc_pos (zz n); simp; omega)); (have hb1 : Blk w1 g #[v] := (Blk.below (Below.refl _ _).drew H.out.blk).upd hupd H.out.ne); (have hf : w1.frozen? ⟨g, 0, none⟩ = false := hb1.unfrozen 0); (have hc1 : w1.cell? ⟨g, 0, none⟩ = some v := by rw [hb1.cell]; rfl)))
  all_goals
    have HO : Hid (OutIs (w1.setCell ⟨g, 0, none⟩ (.slice (some ⟨g1, 0, none⟩) (l.length + (enc (zz n)).length) c1)) g (.slice (some ⟨g1, 0, none⟩) (l.length + (enc (zz n)).length) c1) (l ++ enc (zz n)) ∧ OutStep g v (.slice (some ⟨g1, 0, none⟩) (l.length + (enc (zz n)).length) c1) w (w1.setCell ⟨g, 0, none⟩ (.slice (some ⟨g1, 0, none⟩) (l.length + (enc (zz n)).length) c1))) := hid (by
      have := out_stored H.out (Below.refl _ _).drew hown hupd hwh
      simpa using this)
    clear hown hupd hwh hb1 hf hc1
    go_wp2
    go_ret
    exact ⟨_, rfl, HO.out.1, HO.out.2, by simp⟩
end Go.Proofs.Ytohknblokejldaa
end
section
/- Contracts of the package varint: an In. -/
namespace Go.Proofs.Ytohknblokejldaa
open Go.RowKit
open Go.Lib (hid)
set_option linter.unusedVariables false

/-- at block g stands an In; s: what is left to be read (none: it is bad), in block D -/
structure InIs (w : World) (g D : Nat) (s : Option (List UInt8)) : Prop where
  ex : ∃ a n cap, Blk w g #[.slice a n cap, .bool s.isNone] ∧ SlB w (.slice a n cap) (s.getD []) ∧ (∀ b off, a = some ⟨b, off, none⟩ → b = D ∧ b < w.heap.size)
  ne : D ≠ g

theorem andNot128 (c : Nat) (hc : c < 256) : bits .andNot .u8 (c : Int) 128 = ((c % 128 : Nat) : Int) := by
  have h := u8_andNot_nat c 128 hc (by omega)
  rw [show c &&& (255 - 128) = c % 2 ^ 7 from Nat.and_two_pow_sub_one_eq_mod c 7] at h
  exact h

theorem or_shift (u p k : Nat) (hk : k ≤ 9) (hu : u < 128 ^ k) (hp : p < 128) (h9 : k = 9 → p ≤ 1) : bits .or .u64 (u : Int) ((p * 128 ^ k : Nat) : Int) = ((u + p * 128 ^ k : Nat) : Int) ∧ p * 128 ^ k < 18446744073709551616 ∧ u + p * 128 ^ k < 18446744073709551616 ∧ u + p * 128 ^ k < 128 ^ (k + 1) := by
  have hpk : (128 : Nat) ^ k = 2 ^ (7 * k) := by rw [Nat.pow_mul]
  have hle : (128 : Nat) ^ k ≤ 128 ^ 9 := Nat.pow_le_pow_right (by omega) hk
  have e9 : (128 : Nat) ^ 9 = 9223372036854775808 := by rfl
  have hsum : u + p * 128 ^ k < 128 ^ (k + 1) := by
    rw [Nat.pow_succ]
    have : (p + 1) * 128 ^ k ≤ 128 * 128 ^ k := Nat.mul_le_mul_right _ (by omega)
    rw [Nat.add_mul] at this
    omega
  have hb : u + p * 128 ^ k < 18446744073709551616 := by
    rcases Nat.lt_or_ge k 9 with h | h
    · have : (128 : Nat) ^ (k + 1) ≤ 128 ^ 9 := Nat.pow_le_pow_right (by omega) (by omega)
      omega
    · obtain rfl : k = 9 := by omega
      have := h9 rfl
      have hp1 : p * 128 ^ 9 ≤ 1 * 128 ^ 9 := Nat.mul_le_mul_right _ this
      omega
  refine ⟨?_, by omega, hb, hsum⟩
  have h := u64_or_nat u (p * 128 ^ k) (by omega) (by omega)
  rw [h]
  congr 1
  rw [hpk] at hu ⊢
  rw [Nat.or_comm, Nat.mul_comm, ← Nat.two_pow_add_eq_or_of_lt hu, Nat.add_comm]

theorem or_val (x p k : Nat) (hk : k ≤ 9) (hx : x < 128 ^ k) (hp : p < 128) (h9 : k = 9 → p ≤ 1) : bits .or .u64 (x : Int) (IntKind.u64.wrap ((p : Int) * 2 ^ (7 * k))) = (x : Int) + (p : Int) * 128 ^ k := by
  obtain ⟨o1, o2, -, -⟩ := or_shift x p k hk hx hp h9
  have e0 : ((128 ^ k : Nat) : Int) = 2 ^ (7 * k) := by
    rw [show (128 : Nat) = 2 ^ 7 from rfl, ← Nat.pow_mul]
    exact_mod_cast rfl
  have e : ((p : Int) * 2 ^ (7 * k)) = ((p * 128 ^ k : Nat) : Int) := by
    rw [Int.natCast_mul, e0]
  rw [e, IntKind.wrap_u64, Int.emod_eq_of_lt (by omega) (by omega), o1, Int.natCast_add, Int.natCast_mul]
  rfl
theorem or_val9 (x p : Nat) (hx : x < 128 ^ 9) (h9 : p ≤ 1) : bits .or .u64 (x : Int) ((p : Int) * 9223372036854775808) = (x : Int) + (p : Int) * 9223372036854775808 := by
  obtain ⟨o1, o2, -, -⟩ := or_shift x p 9 (by omega) hx (by omega) (fun _ => h9)
  have e : ((p : Int) * 9223372036854775808) = ((p * 128 ^ 9 : Nat) : Int) := by
    rw [Int.natCast_mul]; rfl
  rw [e, o1, Int.natCast_add]
theorem u64_ext {a b : Int} (h : a = b) : Value.int .u64 a = Value.int .u64 b := by rw [h]

set_option maxRecDepth 100000 in
theorem in_groups (s : Option (List UInt8)) (g D : Nat) (w : World) (h : InIs w g D s) (n u : Nat) (hr : Hid (readF (s.getD []) 0 0 = (n, u))) :
    Calls Try.prog 99 #[.pointer (some ⟨g, 0, none⟩)] w fun e w' => e = .returned (.tuple #[.int .i64 (n : Int), .int .u64 (u : Int)]) ∧ w = w' := by
  obtain ⟨⟨a, m, cap, hb, hsl, -⟩, -⟩ := h
  obtain ⟨l, hl⟩ : ∃ l, s.getD [] = l := ⟨_, rfl⟩
  rw [hl] at hsl hr
  obtain ⟨a', c', e, h1, h2, -⟩ := hsl
  simp only [Value.slice.injEq] at e
  obtain ⟨rfl, rfl, rfl⟩ := e
  have hc0 : w.cell? ⟨g, 0, none⟩ = some (.slice a l.length cap) := by rw [hb.cell]; rfl
  clear hl hb
  go_enter Try.func99, Try.ntmps99
  go_wp2
  go_loop [4, 13] (fun v4 v13 => ∃ k x : Nat, v4 = .int .u64 x ∧ v13 = .int .i64 k ∧ k ≤ l.length ∧ k ≤ 10 ∧ x < 128 ^ k ∧ x < 18446744073709551616 ∧ Hid (readF (l.drop k) k x = (n, u))) (fun _ v13 => l.length - (intOf v13).toNat)
  case atStart => exact ⟨0, 0, rfl, rfl, by omega, by omega, by decide, by omega, hr⟩
  case round =>
    obtain ⟨k, x, rfl, rfl, hk, hk10, hx, hx64, hrk⟩ := hrel
    by_cases hlt : k < l.length
    · obtain ⟨b, off, c, rfl, hcc, -, hd, -⟩ := h2.byte k hlt
      have hr2 := hrk.out
      rw [hd, readF] at hr2
      clear hd hrk
      have hc256 := c.toNat_lt
      by_cases h10 : k = 10
      · subst h10
        rw [if_pos rfl] at hr2
        simp only [Prod.mk.injEq] at hr2
        obtain ⟨rfl, rfl⟩ := hr2
        clear hx
        go_wp2
        go_ret2
        exact ⟨rfl, rfl⟩
      · rw [if_neg h10] at hr2
        have e1 := andNot128 c.toNat hc256
        obtain ⟨p, hp⟩ : ∃ p, p = c.toNat % 128 := ⟨_, rfl⟩
        rw [← hp] at e1 hr2
        have hp128 : p < 128 := by omega
        have h10b : ((k : Int) == 10) = false := by simp; omega
        by_cases h9 : k = 9 ∧ 1 < p
        · rw [if_pos h9] at hr2
          simp only [Prod.mk.injEq] at hr2
          obtain ⟨rfl, rfl⟩ := hr2
          obtain ⟨rfl, h9p⟩ := h9
          clear hx hp h10
          go_wp2
          go_ret2
          exact ⟨rfl, rfl⟩
        · rw [if_neg h9] at hr2
          obtain ⟨-, -, o3, o4⟩ := or_shift x p k (by omega) hx hp128 (fun h => by omega)
          by_cases hk9 : k = 9
          · subst hk9
            have hp1 : ¬ 1 < p := fun h => h9 ⟨rfl, h⟩
            have HV := hid (or_val9 x p hx (by omega))
            have HP := hid hp
            clear h9 h10 hx hx64 hp
            by_cases hc : c.toNat < 128
            · rw [if_pos hc] at hr2
              by_cases hz : c.toNat = 0
              · rw [if_pos ⟨by omega, hz⟩] at hr2
                simp only [Prod.mk.injEq] at hr2
                obtain ⟨rfl, rfl⟩ := hr2
                have hzb : ((c.toNat : Int) == 0) = true := by simp; omega
                clear o3 o4 hz
                go_wp2
                go_ret2
                exact ⟨rfl, rfl⟩
              · rw [if_neg (by omega)] at hr2
                simp only [Prod.mk.injEq] at hr2
                obtain ⟨rfl, rfl⟩ := hr2
                have hzb : ((c.toNat : Int) == 0) = false := by simp; omega
                clear o3 o4 hz
                go_wp2
                go_ret2
                exact ⟨by rw [u64_ext HV.out]; rfl, rfl⟩
            · have HR := hid (show readF (l.drop (9 + 1)) (9 + 1) (x + p * 128 ^ 9) = (n, u) by rw [if_neg hc] at hr2; exact hr2)
              have O3 := hid o3
              have O4 := hid o4
              clear hr2 o3 o4
              go_wp2
              go_round
              case rel => exact ⟨9 + 1, x + p * 128 ^ 9, u64_ext (HV.out.trans (by simp)), by go_num, by omega, by omega, O4.out, O3.out, HR⟩
              case measure => simp [intOf]; omega
          · have hk9b : ((k : Int) == 9) = false := by simp; omega
            have hk8 : k ≤ 8 := by omega
            have HV := hid (or_val x p k (by omega) hx hp128 (fun h => absurd h hk9))
            have HP := hid hp
            clear h9 h10 hx hx64 hk9 hp hk10
            by_cases hc : c.toNat < 128
            · rw [if_pos hc] at hr2
              by_cases hz : 0 < k ∧ c.toNat = 0
              · rw [if_pos hz] at hr2
                simp only [Prod.mk.injEq] at hr2
                obtain ⟨rfl, rfl⟩ := hr2
                obtain ⟨hz1, hz2⟩ := hz
                have hzb : ((c.toNat : Int) == 0) = true := by simp; omega
                clear o3 o4 hz2
                go_wp2
                go_ret2
                exact ⟨rfl, rfl⟩
              · rw [if_neg hz] at hr2
                simp only [Prod.mk.injEq] at hr2
                obtain ⟨rfl, rfl⟩ := hr2
                clear o3 o4
                by_cases hk0 : 0 < k
                · have hzb : ((c.toNat : Int) == 0) = false := by simp; omega
                  clear hz
                  go_wp2
                  go_ret2
                  exact ⟨by rw [u64_ext HV.out]; rfl, rfl⟩
                · clear hz
                  go_wp2
                  go_ret2
                  exact ⟨by rw [u64_ext HV.out]; rfl, rfl⟩
            · have HR := hid (show readF (l.drop (k + 1)) (k + 1) (x + p * 128 ^ k) = (n, u) by rw [if_neg hc] at hr2; exact hr2)
              have O3 := hid o3
              have O4 := hid o4
              clear hr2 o3 o4
              go_wp2
              go_round
              case rel => exact ⟨k + 1, x + p * 128 ^ k, u64_ext (HV.out.trans (by simp)), by go_num, by omega, by omega, O4.out, O3.out, HR⟩
              case measure => simp [intOf]; omega
    · have hr2 := hrk.out
      rw [List.drop_of_length_le (by omega), readF] at hr2
      simp only [Prod.mk.injEq] at hr2
      obtain ⟨rfl, rfl⟩ := hr2
      clear hrk hx hx64
      go_wp2
      go_ret2
      exact ⟨rfl, rfl⟩
end Go.Proofs.Ytohknblokejldaa
end
