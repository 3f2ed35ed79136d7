/- Contracts: seal.low, seal.Close, and the reference's Low, Sum. -/
import Derived.Test.YtopdcjekdmaopaaSeal
import Derived.Test.YtopdcjekdmaopaaBytes
namespace Go.Proofs.Ytopdcjekdmaopaa
open Go.RowKit
open Go.Lib (hid)
set_option linter.unusedVariables false

/-- a number's n bytes, the lowest first -/
def lowB : Nat → Nat → List UInt8
  | _, 0 => []
  | x, n + 1 => UInt8.ofNat (x % 256) :: lowB (x / 256) n
theorem lowB_length (x n : Nat) : (lowB x n).length = n := by
  induction n generalizing x with
  | zero => rfl
  | succ n ih => simp [lowB, ih]
theorem lowB_snoc (x n : Nat) : lowB x (n + 1) = lowB x n ++ [UInt8.ofNat (x / 256 ^ n % 256)] := by
  induction n generalizing x with
  | zero => simp [lowB]
  | succ n ih =>
    rw [lowB, ih (x / 256), lowB, List.cons_append, Nat.div_div_eq_div_mul, Nat.pow_succ, Nat.mul_comm]

theorem seal_low (x : Nat) (hx : x < 4294967296) (w : World) : Calls Try.prog 46 #[.int .u32 (x : Int)] w fun e w' =>
    e = .returned (.slice (some ⟨w.heap.size, 0, none⟩) 4 4) ∧ w'.ownsRow w.heap.size 5 1 (.slice (some ⟨w.heap.size, 0, none⟩) 4 4) 4 (bv (lowB x 4)) ∧ Below w.heap.size w w' := by
  go_enter Try.func46, Try.ntmps46
  have hown := World.ownsRow_lit (base := w.heap.size) (e := 5) (size := 1) w #[.int .u8 ((x : Int) % 256), .int .u8 ((x : Int) / 256 % 256), .int .u8 ((x : Int) / 65536 % 256), .int .u8 ((x : Int) / 16777216)] 4 (Nat.le_refl _) (by decide) rfl
  have hbv : bv (lowB x 4) = [.int .u8 ((x : Int) % 256), .int .u8 ((x : Int) / 256 % 256), .int .u8 ((x : Int) / 65536 % 256), .int .u8 ((x : Int) / 16777216)] := by
    simp only [lowB, bv, List.map_cons, List.map_nil, List.cons.injEq, Value.int.injEq, true_and, and_true]
    simp only [UInt8.toNat_ofNat']
    omega
  have HOWN : Hid ((w.alloc (.cells #[.int .u8 ((x : Int) % 256), .int .u8 ((x : Int) / 256 % 256), .int .u8 ((x : Int) / 65536 % 256), .int .u8 ((x : Int) / 16777216)] 5)).ownsRow w.heap.size 5 1 (.slice (some ⟨w.heap.size, 0, none⟩) 4 4) 4 (bv (lowB x 4))) := hid (by rw [hbv]; exact hown)
  clear hown hbv
  go_wp2
  go_ret
  exact ⟨rfl, HOWN.out, (Below.refl _ _).alloc (Nat.le_refl _) _⟩

/-- n bits -/
def bitN : Nat → Nat → Nat
  | 0, x => x
  | n + 1, x => bitN n (bit1 x)
theorem bitN8 (x : Nat) (b : UInt8) : crcStep x b = bitN 8 (x ^^^ b.toNat) := by
  unfold crcStep
  rw [nib_bits, nib_bits]
  rfl
theorem bit1_odd (y : Nat) (hy : y < 4294967296) (h : y % 2 = 1) : bits .xor .u32 ((y : Int) / 2) 3988292384 = ((bit1 y : Nat) : Int) := by
  have := u32_xor_nat (y / 2) 3988292384 (by omega) (by omega)
  unfold bit1
  rw [if_pos h]
  exact this
theorem bit1_ev (y : Nat) (h : ¬ y % 2 = 1) : ((y : Int) / 2) = ((bit1 y : Nat) : Int) := by
  unfold bit1
  rw [if_neg h]
  omega

theorem ref_Sum (l : List UInt8) (u : Value) (w : World) (hl : SlB w u l) : Calls Try.prog 29 #[u] w fun e w' => e = .returned (.int .u32 ((crc l : Nat) : Int)) ∧ w = w' := by
  obtain ⟨a, c, rfl, h1, h2, -⟩ := hl
  go_enter Try.func29, Try.ntmps29
  go_wp2
  go_loop [3, 4] (fun v3 v4 => ∃ k x : Nat, v3 = .int .u32 x ∧ v4 = .int .i64 k ∧ x < 4294967296 ∧ k ≤ l.length ∧ Hid (crcFrom x (l.drop k) = crcFrom 4294967295 l)) (fun _ v4 => l.length - (intOf v4).toNat)
  case atStart => exact ⟨0, 4294967295, rfl, rfl, by omega, by omega, hid rfl⟩
  case round =>
    obtain ⟨k, x, rfl, rfl, hx, hk, hcrc⟩ := hrel
    by_cases hlt : k < l.length
    · obtain ⟨bb, oo, c, rfl, hcc, -, hd, -⟩ := h2.byte k hlt
      have HD := hid hd
      clear hd
      have hc1 := c.toNat_lt
      have e1 := u32_xor_c x c.toNat hx hc1
      obtain ⟨z, hz⟩ : ∃ z, z = x ^^^ c.toNat := ⟨_, rfl⟩
      have hz1 : z < 4294967296 := by rw [hz]; exact xor_lt _ _ hx hc1
      rw [← hz] at e1
      have HZ := hid hz
      clear hz
      go_wp2
      go_loop [3, 5] (fun v3 v5 => ∃ j y : Nat, v3 = .int .u32 y ∧ v5 = .int .i64 j ∧ y < 4294967296 ∧ j ≤ 8 ∧ Hid (bitN (8 - j) y = bitN 8 z)) (fun _ v5 => 8 - (intOf v5).toNat)
      case atStart => exact ⟨0, z, rfl, rfl, hz1, by omega, hid rfl⟩
      case round =>
        obtain ⟨j, y, rfl, rfl, hy, hj, hby⟩ := hrel
        by_cases hj8 : j < 8
        · have hnext : Hid (bitN (8 - (j + 1)) (bit1 y) = bitN 8 z) := hid (by
            rw [← hby.out, show 8 - j = (8 - (j + 1)) + 1 from by omega]; rfl)
          have hlt := bit1_lt y hy
          by_cases hodd : y % 2 = 1
          · have hb : ((y : Int) % 2 == 1) = true := by simp; omega
            have e3 := bit1_odd y hy hodd
            clear hodd
            go_wp2
            go_round
            case rel => exact ⟨j + 1, bit1 y, rfl, by go_num, hlt, by omega, hnext⟩
            case measure => simp [intOf]; omega
          · have hb : ((y : Int) % 2 == 1) = false := by simp; omega
            have e3 := bit1_ev y hodd
            clear hodd
            go_wp2
            go_round
            case rel => exact ⟨j + 1, bit1 y, rfl, by go_num, hlt, by omega, hnext⟩
            case measure => simp [intOf]; omega
        · obtain rfl : j = 8 := by omega
          have hstep : Hid (y = crcStep x c) := hid (by rw [bitN8, ← HZ.out, ← hby.out]; rfl)
          have hc2 : Hid (crcFrom y (l.drop (k + 1)) = crcFrom 4294967295 l) := hid (by rw [hstep.out, ← hcrc.out, HD.out]; rfl)
          go_wp2
          go_round
          case rel => exact ⟨k + 1, y, rfl, by go_num, hy, by omega, hc2⟩
          case measure => simp [intOf]; omega
    · obtain rfl : k = l.length := by omega
      have hx2 : x = crcFrom 4294967295 l := by
        have := hcrc.out
        rw [List.drop_of_length_le (by omega)] at this
        simpa [crcFrom] using this
      have hres : Hid (((crc l : Nat) : Int) = 4294967295 - (x : Int)) := hid (by rw [crc, ← hx2]; omega)
      clear hx2
      go_wp2
      go_ret
      exact ⟨ret_int (by rw [hres.out]), rfl⟩
end Go.Proofs.Ytopdcjekdmaopaa
