/- Contracts of the package seal, and of its reference. -/
import Derived.Test.YtopdcjekdmaopaaSealHalves
namespace Go.Proofs.Ytopdcjekdmaopaa
open Go.RowKit
open Go.Lib (hid)
set_option linter.unusedVariables false

theorem u32_xor_c (x c : Nat) (hx : x < 4294967296) (hc : c < 256) : bits .xor .u32 (x : Int) (c : Int) = ((x ^^^ c : Nat) : Int) := u32_xor_nat x c hx (by omega)
theorem u32_and15 (x : Nat) (hx : x < 4294967296) : bits .and .u32 (x : Int) 15 = ((x % 16 : Nat) : Int) := by
  have := u32_and_nat x 15 hx (by omega)
  rw [show ((15 : Nat) : Int) = 15 from rfl] at this
  rw [this, show x &&& 15 = x % 2 ^ 4 from Nat.and_two_pow_sub_one_eq_mod x 4]

theorem xor_ones (x : Nat) (hx : x < 4294967296) : 4294967295 ^^^ x = 4294967295 - x := by
  have h := congrArg BitVec.toNat (BitVec.allOnes_xor (x := BitVec.ofNat 32 x))
  rw [BitVec.toNat_xor, BitVec.toNat_not, BitVec.toNat_allOnes, BitVec.toNat_ofNat, Nat.mod_eq_of_lt (by omega)] at h
  simpa using h
theorem u32_not (x : Nat) (hx : x < 4294967296) : bits .xor .u32 IntKind.u32.max (x : Int) = 4294967295 - (x : Int) := by
  have h := u32_xor_nat 4294967295 x (by omega) hx
  rw [xor_ones x hx] at h
  rw [show IntKind.u32.max = ((4294967295 : Nat) : Int) from rfl, h]
  omega

theorem bit1_lt (x : Nat) (hx : x < 4294967296) : bit1 x < 4294967296 := by
  unfold bit1
  split
  · exact Nat.xor_lt_two_pow (n := 32) (by omega) (by omega)
  · omega
theorem tab_lt (i : Nat) (hi : i < 16) : tab i < 4294967296 := bit1_lt _ (bit1_lt _ (bit1_lt _ (bit1_lt _ (by omega))))
theorem nib_lt (x : Nat) (hx : x < 4294967296) : nib x < 4294967296 := by
  unfold nib
  exact Nat.xor_lt_two_pow (n := 32) (by omega) (tab_lt _ (by omega))
theorem xor_lt (x c : Nat) (hx : x < 4294967296) (hc : c < 256) : x ^^^ c < 4294967296 := Nat.xor_lt_two_pow (n := 32) hx (by omega)
theorem crcStep_lt (x : Nat) (b : UInt8) (hx : x < 4294967296) : crcStep x b < 4294967296 := nib_lt _ (nib_lt _ (xor_lt _ _ hx b.toNat_lt))
theorem nib_eq (x : Nat) (hx : x < 4294967296) : bits .xor .u32 ((x : Int) / 16) ((tab (x % 16) : Nat) : Int) = ((nib x : Nat) : Int) := u32_xor_nat (x / 16) (tab (x % 16)) (by omega) (tab_lt _ (by omega))

theorem tab_cells (w : World) : ∀ i, i < 16 → (w.alloc (.cells #[.int .u32 0, .int .u32 498536548, .int .u32 997073096, .int .u32 651767980, .int .u32 1994146192, .int .u32 1802195444, .int .u32 1303535960, .int .u32 1342533948, .int .u32 3988292384, .int .u32 4027552580, .int .u32 3604390888, .int .u32 3412177804, .int .u32 2607071920, .int .u32 2262029012, .int .u32 2685067896, .int .u32 3183342108] 64)).cell? ⟨w.heap.size, i, none⟩ = some (.int .u32 ((tab i : Nat) : Int)) := by
  intro i hi
  rw [World.cell?_alloc_new]
  match i, hi with
  | 0, _ => rfl
  | 1, _ => rfl
  | 2, _ => rfl
  | 3, _ => rfl
  | 4, _ => rfl
  | 5, _ => rfl
  | 6, _ => rfl
  | 7, _ => rfl
  | 8, _ => rfl
  | 9, _ => rfl
  | 10, _ => rfl
  | 11, _ => rfl
  | 12, _ => rfl
  | 13, _ => rfl
  | 14, _ => rfl
  | 15, _ => rfl
  | n + 16, h => omega

theorem seal_Sum (ls : List (List UInt8)) (vs : List Value) (a : Option Addr) (n cap : Nat) (hn : Hid (n = ls.length)) (hm : n ≤ 9223372036854775807) (w : World) (hr : Rd w a vs) (hv : vs.length = n) (hvs : ∀ (i : Nat) (v : Value) (l : List UInt8), vs[i]? = some v → ls[i]? = some l → SlB w v l) :
   Calls Try.prog 28 #[.slice a n cap] w fun e w' => e = .returned (.int .u32 ((crc ls.flatten : Nat) : Int)) ∧ Below w.heap.size w w' := by
  have HVS := hid hvs
  clear hvs
  go_enter Try.func28, Try.ntmps28
  go_wp2_with (go_at_call 45; (with_reducible refine (seal_halves _).mono ?_); rintro e w1 ⟨rfl, hb⟩)
  obtain ⟨w2, hw2⟩ : ∃ w2, w2 = w1.alloc (.cells #[.int .u32 0, .int .u32 498536548, .int .u32 997073096, .int .u32 651767980, .int .u32 1994146192, .int .u32 1802195444, .int .u32 1303535960, .int .u32 1342533948, .int .u32 3988292384, .int .u32 4027552580, .int .u32 3604390888, .int .u32 3412177804, .int .u32 2607071920, .int .u32 2262029012, .int .u32 2685067896, .int .u32 3183342108] 64) := ⟨_, rfl⟩
  rw [← hw2]
  have htab : Hid (∀ i, i < 16 → w2.cell? ⟨w1.heap.size, i, none⟩ = some (.int .u32 ((tab i : Nat) : Int))) := by rw [hw2]; exact hid (tab_cells w1)
  have HB : Hid (Below w.heap.size w w2) := by rw [hw2]; exact hid (hb.alloc hb.size _)
  have hr2 : Rd w2 a vs := hr.below' HB.out
  obtain ⟨g, hg⟩ : ∃ g, g = w1.heap.size := ⟨_, rfl⟩
  rw [← hg] at htab ⊢
  clear hb hw2 hr hg
  go_loop [4, 12] (fun v4 v12 => ∃ k x : Nat, v4 = .int .u32 x ∧ v12 = .int .i64 k ∧ x < 4294967296 ∧ k ≤ n ∧ Hid (crcFrom x (ls.drop k).flatten = crcFrom 4294967295 ls.flatten)) (fun _ v12 => n - (intOf v12).toNat)
  case atStart => exact ⟨0, 4294967295, rfl, rfl, by omega, by omega, hid rfl⟩
  case round =>
    obtain ⟨k, x, rfl, rfl, hx, hk, hcrc⟩ := hrel
    by_cases hlt : k < n
    · obtain ⟨b, off, rfl, hc⟩ := hr2 k (by omega)
      obtain ⟨v, hvk⟩ : ∃ v, vs[k]? = some v := ⟨_, List.getElem?_eq_getElem (by omega)⟩
      obtain ⟨l, hlk⟩ : ∃ l, ls[k]? = some l := ⟨_, List.getElem?_eq_getElem (by have := hn.out; omega)⟩
      obtain ⟨al, capl, rfl, hll, hrl, -⟩ := HVS.out k v l hvk hlk
      have hrl2 := hrl.below' HB.out
      rw [hvk] at hc
      clear hvk hrl
      have HLK := hid hlk
      clear hlk
      go_wp2
      go_loop [4, 18] (fun v4 v18 => ∃ j y : Nat, v4 = .int .u32 y ∧ v18 = .int .i64 j ∧ y < 4294967296 ∧ j ≤ l.length ∧ Hid (crcFrom y (l.drop j) = crcFrom x l)) (fun _ v18 => l.length - (intOf v18).toNat)
      case atStart => exact ⟨0, x, rfl, rfl, by omega, by omega, hid rfl⟩
      case round =>
        obtain ⟨j, y, rfl, rfl, hy, hj, hcy⟩ := hrel
        by_cases hjl : j < l.length
        · obtain ⟨bb, oo, c, rfl, hcc, -, hd, -⟩ := hrl2.byte j hjl
          have HD := hid hd
          clear hd
          have hc1 := c.toNat_lt
          have e1 := u32_xor_c y c.toNat hy hc1
          obtain ⟨z, hz⟩ : ∃ z, z = y ^^^ c.toNat := ⟨_, rfl⟩
          have hz1 : z < 4294967296 := by rw [hz]; exact xor_lt _ _ hy hc1
          rw [← hz] at e1
          have e2 := u32_and15 z hz1
          have e3 := nib_eq z hz1
          have t1 := htab.out (z % 16) (by omega)
          have hz2 := nib_lt z hz1
          have e4 := u32_and15 (nib z) hz2
          have e5 := nib_eq (nib z) hz2
          have t2 := htab.out (nib z % 16) (by omega)
          have HZ := hid hz
          clear hz
          go_wp2
          go_round
          case rel => exact ⟨j + 1, nib (nib z), rfl, by go_num, nib_lt _ hz2, by omega, hid (by rw [← hcy.out, HD.out, HZ.out]; rfl)⟩
          case measure => simp [intOf]; omega
        · obtain rfl : j = l.length := by omega
          have hcy2 : y = crcFrom x l := by have := hcy.out; simpa [crcFrom] using this
          have hcrc2 : Hid (crcFrom y (ls.drop (k + 1)).flatten = crcFrom 4294967295 ls.flatten) := hid (by
            rw [← hcrc.out, hcy2]
            have hd : ls.drop k = l :: ls.drop (k + 1) := by
              have h := HLK.out
              obtain ⟨hk', hl'⟩ := List.getElem?_eq_some_iff.1 h
              rw [← hl']; exact List.drop_eq_getElem_cons hk'
            rw [hd, List.flatten_cons, crcFrom, crcFrom, crcFrom, List.foldl_append])
          clear hcy2
          go_wp2
          go_round
          case rel => exact ⟨k + 1, y, rfl, by go_num, hy, by omega, hcrc2⟩
          case measure => simp [intOf]; omega
    · obtain rfl : k = n := by omega
      have hx2 : x = crcFrom 4294967295 ls.flatten := by
        have := hcrc.out
        rw [List.drop_of_length_le (by have := hn.out; omega)] at this
        simpa [crcFrom] using this
      have hres : Hid (((crc ls.flatten : Nat) : Int) = 4294967295 - (x : Int)) := hid (by rw [crc, ← hx2]; omega)
      have hnot := u32_not x hx
      clear hx2
      go_wp2
      go_ret
      exact ⟨ret_int (by rw [hres.out]), HB.out⟩
end Go.Proofs.Ytopdcjekdmaopaa
