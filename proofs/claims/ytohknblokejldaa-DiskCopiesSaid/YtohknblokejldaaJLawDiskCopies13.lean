/- Joined texts, in this order: Seal, SealLow, SealClose, SealOpen, SealRefFit. Each one's first remark says what it proves; no condition beyond those that its theorems name. -/
import Derived.Test.YtohknblokejldaaJLawDiskCopies12
import Derived.Test.YtohknblokejldaaJLawDiskCopies01
import Derived.Test.YtohknblokejldaaJLawDiskCopies11
import Derived.Deep.QuietTactic
import Derived.BigQuiet
section
/- Contracts of the package seal, and of its reference. -/
namespace Go.Proofs.Ytohknblokejldaa
open Go.RowKit
open Go.Lib (hid)
set_option linter.unusedVariables false

theorem u32_xor_c (x c : Nat) (hx : x < 4294967296) (hc : c < 256) : bits .xor .u32 (x : Int) (c : Int) = ((x ^^^ c : Nat) : Int) := u32_xor_nat x c hx (by omega)
theorem u32_and15 (x : Nat) (hx : x < 4294967296) : bits .and .u32 (x : Int) 15 = ((x % 16 : Nat) : Int) := by
  have := u32_and_nat x 15 hx (by omega)
  rw [show ((15 : Nat) : Int) = 15 from rfl] at this
  rw [this, show x &&& 15 = x % 2 ^ 4 from Nat.and_two_pow_sub_one_eq_mod x 4]

theorem xor_ones (x : Nat) (hx : x < 4294967296) : 4294967295 ^^^ x = 4294967295 - x := by
  have h := congrArg BitVec.toNat (BitVec.allOnes_xor (x := BitVec.ofNat 32 x))
  rw [BitVec.toNat_xor, BitVec.toNat_not, BitVec.toNat_allOnes, BitVec.toNat_ofNat, Nat.mod_eq_of_lt (by omega)] at h
  simpa using h
theorem u32_not (x : Nat) (hx : x < 4294967296) : bits .xor .u32 IntKind.u32.max (x : Int) = 4294967295 - (x : Int) := by
  have h := u32_xor_nat 4294967295 x (by omega) hx
  rw [xor_ones x hx] at h
  rw [show IntKind.u32.max = ((4294967295 : Nat) : Int) from rfl, h]
  omega

theorem bit1_lt (x : Nat) (hx : x < 4294967296) : bit1 x < 4294967296 := by
  unfold bit1
  split
  · exact Nat.xor_lt_two_pow (n := 32) (by omega) (by omega)
  · omega
theorem tab_lt (i : Nat) (hi : i < 16) : tab i < 4294967296 := bit1_lt _ (bit1_lt _ (bit1_lt _ (bit1_lt _ (by omega))))
theorem nib_lt (x : Nat) (hx : x < 4294967296) : nib x < 4294967296 := by
  unfold nib
  exact Nat.xor_lt_two_pow (n := 32) (by omega) (tab_lt _ (by omega))
theorem xor_lt (x c : Nat) (hx : x < 4294967296) (hc : c < 256) : x ^^^ c < 4294967296 := Nat.xor_lt_two_pow (n := 32) hx (by omega)
theorem crcStep_lt (x : Nat) (b : UInt8) (hx : x < 4294967296) : crcStep x b < 4294967296 := nib_lt _ (nib_lt _ (xor_lt _ _ hx b.toNat_lt))
theorem nib_eq (x : Nat) (hx : x < 4294967296) : bits .xor .u32 ((x : Int) / 16) ((tab (x % 16) : Nat) : Int) = ((nib x : Nat) : Int) := u32_xor_nat (x / 16) (tab (x % 16)) (by omega) (tab_lt _ (by omega))

theorem tab_cells (w : World) : ∀ i, i < 16 → (w.alloc (.cells #[.int .u32 0, .int .u32 498536548, .int .u32 997073096, .int .u32 651767980, .int .u32 1994146192, .int .u32 1802195444, .int .u32 1303535960, .int .u32 1342533948, .int .u32 3988292384, .int .u32 4027552580, .int .u32 3604390888, .int .u32 3412177804, .int .u32 2607071920, .int .u32 2262029012, .int .u32 2685067896, .int .u32 3183342108] 164)).cell? ⟨w.heap.size, i, none⟩ = some (.int .u32 ((tab i : Nat) : Int)) := by
  intro i hi
  rw [World.cell?_alloc_new]
  match i, hi with
  | 0, _ => rfl
  | 1, _ => rfl
  | 2, _ => rfl
  | 3, _ => rfl
  | 4, _ => rfl
  | 5, _ => rfl
  | 6, _ => rfl
  | 7, _ => rfl
  | 8, _ => rfl
  | 9, _ => rfl
  | 10, _ => rfl
  | 11, _ => rfl
  | 12, _ => rfl
  | 13, _ => rfl
  | 14, _ => rfl
  | 15, _ => rfl
  | n + 16, h => omega

theorem seal_Sum (ls : List (List UInt8)) (vs : List Value) (a : Option Addr) (n cap : Nat) (hn : Hid (n = ls.length)) (hm : n ≤ 9223372036854775807) (w : World) (hr : Rd w a vs) (hv : vs.length = n) (hvs : ∀ (i : Nat) (v : Value) (l : List UInt8), vs[i]? = some v → ls[i]? = some l → SlB w v l) :
   Calls Try.prog 92 #[.slice a n cap] w fun e w' => e = .returned (.int .u32 ((crc ls.flatten : Nat) : Int)) ∧ Below w.heap.size w w' := by
  have HVS := hid hvs
  clear hvs
  go_enter Try.func92, Try.ntmps92
  go_wp2_with (go_at_call 113; (with_reducible refine (seal_halves _).mono ?_); rintro e w1 ⟨rfl, hb⟩)
  obtain ⟨w2, hw2⟩ : ∃ w2, w2 = w1.alloc (.cells #[.int .u32 0, .int .u32 498536548, .int .u32 997073096, .int .u32 651767980, .int .u32 1994146192, .int .u32 1802195444, .int .u32 1303535960, .int .u32 1342533948, .int .u32 3988292384, .int .u32 4027552580, .int .u32 3604390888, .int .u32 3412177804, .int .u32 2607071920, .int .u32 2262029012, .int .u32 2685067896, .int .u32 3183342108] 164) := ⟨_, rfl⟩
  rw [← hw2]
  have htab : Hid (∀ i, i < 16 → w2.cell? ⟨w1.heap.size, i, none⟩ = some (.int .u32 ((tab i : Nat) : Int))) := by rw [hw2]; exact hid (tab_cells w1)
  have HB : Hid (Below w.heap.size w w2) := by rw [hw2]; exact hid (hb.alloc hb.size _)
  have hr2 : Rd w2 a vs := hr.below' HB.out
  obtain ⟨g, hg⟩ : ∃ g, g = w1.heap.size := ⟨_, rfl⟩
  rw [← hg] at htab ⊢
  clear hb hw2 hr hg
  go_loop [4, 12] (fun v4 v12 => ∃ k x : Nat, v4 = .int .u32 x ∧ v12 = .int .i64 k ∧ x < 4294967296 ∧ k ≤ n ∧ Hid (crcFrom x (ls.drop k).flatten = crcFrom 4294967295 ls.flatten)) (fun _ v12 => n - (intOf v12).toNat)
  case atStart => exact ⟨0, 4294967295, rfl, rfl, by omega, by omega, hid rfl⟩
  case round =>
    obtain ⟨k, x, rfl, rfl, hx, hk, hcrc⟩ := hrel
    by_cases hlt : k < n
    · obtain ⟨b, off, rfl, hc⟩ := hr2 k (by omega)
      obtain ⟨v, hvk⟩ : ∃ v, vs[k]? = some v := ⟨_, List.getElem?_eq_getElem (by omega)⟩
      obtain ⟨l, hlk⟩ : ∃ l, ls[k]? = some l := ⟨_, List.getElem?_eq_getElem (by have := hn.out; omega)⟩
      obtain ⟨al, capl, rfl, hll, hrl, -⟩ := HVS.out k v l hvk hlk
      have hrl2 := hrl.below' HB.out
      rw [hvk] at hc
      clear hvk hrl
      have HLK := hid hlk
      clear hlk
      go_wp2
      go_loop [4, 18] (fun v4 v18 => ∃ j y : Nat, v4 = .int .u32 y ∧ v18 = .int .i64 j ∧ y < 4294967296 ∧ j ≤ l.length ∧ Hid (crcFrom y (l.drop j) = crcFrom x l)) (fun _ v18 => l.length - (intOf v18).toNat)
      case atStart => exact ⟨0, x, rfl, rfl, by omega, by omega, hid rfl⟩
      case round =>
        obtain ⟨j, y, rfl, rfl, hy, hj, hcy⟩ := hrel
        by_cases hjl : j < l.length
        · obtain ⟨bb, oo, c, rfl, hcc, -, hd, -⟩ := hrl2.byte j hjl
          have HD := hid hd
          clear hd
          have hc1 := c.toNat_lt
          have e1 := u32_xor_c y c.toNat hy hc1
          obtain ⟨z, hz⟩ : ∃ z, z = y ^^^ c.toNat := ⟨_, rfl⟩
          have hz1 : z < 4294967296 := by rw [hz]; exact xor_lt _ _ hy hc1
          rw [← hz] at e1
          have e2 := u32_and15 z hz1
          have e3 := nib_eq z hz1
          have t1 := htab.out (z % 16) (by omega)
          have hz2 := nib_lt z hz1
          have e4 := u32_and15 (nib z) hz2
          have e5 := nib_eq (nib z) hz2
          have t2 := htab.out (nib z % 16) (by omega)
          have HZ := hid hz
          clear hz
          go_wp2
          go_round
          case rel => exact ⟨j + 1, nib (nib z), rfl, by go_num, nib_lt _ hz2, by omega, hid (by rw [← hcy.out, HD.out, HZ.out]; rfl)⟩
          case measure => simp [intOf]; omega
        · obtain rfl : j = l.length := by omega
          have hcy2 : y = crcFrom x l := by have := hcy.out; simpa [crcFrom] using this
          have hcrc2 : Hid (crcFrom y (ls.drop (k + 1)).flatten = crcFrom 4294967295 ls.flatten) := hid (by
            rw [← hcrc.out, hcy2]
            have hd : ls.drop k = l :: ls.drop (k + 1) := by
              have h := HLK.out
              obtain ⟨hk', hl'⟩ := List.getElem?_eq_some_iff.1 h
              rw [← hl']; exact List.drop_eq_getElem_cons hk'
            rw [hd, List.flatten_cons, crcFrom, crcFrom, crcFrom, List.foldl_append])
          clear hcy2
          go_wp2
          go_round
          case rel => exact ⟨k + 1, y, rfl, by go_num, hy, by omega, hcrc2⟩
          case measure => simp [intOf]; omega
    · obtain rfl : k = n := by omega
      have hx2 : x = crcFrom 4294967295 ls.flatten := by
        have := hcrc.out
        rw [List.drop_of_length_le (by have := hn.out; omega)] at this
        simpa [crcFrom] using this
      have hres : Hid (((crc ls.flatten : Nat) : Int) = 4294967295 - (x : Int)) := hid (by rw [crc, ← hx2]; omega)
      have hnot := u32_not x hx
      clear hx2
      go_wp2
      go_ret
      exact ⟨ret_int (by rw [hres.out]), HB.out⟩
end Go.Proofs.Ytohknblokejldaa
end
section
/- Contracts: seal.low, seal.Close, and the reference's Low, Sum. -/
namespace Go.Proofs.Ytohknblokejldaa
open Go.RowKit
open Go.Lib (hid)
set_option linter.unusedVariables false

/-- a number's n bytes, the lowest first -/
def lowB : Nat → Nat → List UInt8
  | _, 0 => []
  | x, n + 1 => UInt8.ofNat (x % 256) :: lowB (x / 256) n
theorem lowB_length (x n : Nat) : (lowB x n).length = n := by
  induction n generalizing x with
  | zero => rfl
  | succ n ih => simp [lowB, ih]
theorem lowB_snoc (x n : Nat) : lowB x (n + 1) = lowB x n ++ [UInt8.ofNat (x / 256 ^ n % 256)] := by
  induction n generalizing x with
  | zero => simp [lowB]
  | succ n ih =>
    rw [lowB, ih (x / 256), lowB, List.cons_append, Nat.div_div_eq_div_mul, Nat.pow_succ, Nat.mul_comm]

theorem seal_low (x : Nat) (hx : x < 4294967296) (w : World) : Calls Try.prog 91 #[.int .u32 (x : Int)] w fun e w' =>
    e = .returned (.slice (some ⟨w.heap.size, 0, none⟩) 4 4) ∧ w'.ownsRow w.heap.size 5 1 (.slice (some ⟨w.heap.size, 0, none⟩) 4 4) 4 (bv (lowB x 4)) ∧ Below w.heap.size w w' := by
  go_enter Try.func91, Try.ntmps91
  have hown := World.ownsRow_lit (base := w.heap.size) (e := 5) (size := 1) w #[.int .u8 ((x : Int) % 256), .int .u8 ((x : Int) / 256 % 256), .int .u8 ((x : Int) / 65536 % 256), .int .u8 ((x : Int) / 16777216)] 4 (Nat.le_refl _) (by decide) rfl
  have hbv : bv (lowB x 4) = [.int .u8 ((x : Int) % 256), .int .u8 ((x : Int) / 256 % 256), .int .u8 ((x : Int) / 65536 % 256), .int .u8 ((x : Int) / 16777216)] := by
    simp only [lowB, bv, List.map_cons, List.map_nil, List.cons.injEq, Value.int.injEq, true_and, and_true]
    simp only [UInt8.toNat_ofNat']
    omega
  have HOWN : Hid ((w.alloc (.cells #[.int .u8 ((x : Int) % 256), .int .u8 ((x : Int) / 256 % 256), .int .u8 ((x : Int) / 65536 % 256), .int .u8 ((x : Int) / 16777216)] 5)).ownsRow w.heap.size 5 1 (.slice (some ⟨w.heap.size, 0, none⟩) 4 4) 4 (bv (lowB x 4))) := hid (by rw [hbv]; exact hown)
  clear hown hbv
  go_wp2
  go_ret
  exact ⟨rfl, HOWN.out, (Below.refl _ _).alloc (Nat.le_refl _) _⟩

/-- n bits -/
def bitN : Nat → Nat → Nat
  | 0, x => x
  | n + 1, x => bitN n (bit1 x)
theorem bitN8 (x : Nat) (b : UInt8) : crcStep x b = bitN 8 (x ^^^ b.toNat) := by
  unfold crcStep
  rw [nib_bits, nib_bits]
  rfl
theorem bit1_odd (y : Nat) (hy : y < 4294967296) (h : y % 2 = 1) : bits .xor .u32 ((y : Int) / 2) 3988292384 = ((bit1 y : Nat) : Int) := by
  have := u32_xor_nat (y / 2) 3988292384 (by omega) (by omega)
  unfold bit1
  rw [if_pos h]
  exact this
theorem bit1_ev (y : Nat) (h : ¬ y % 2 = 1) : ((y : Int) / 2) = ((bit1 y : Nat) : Int) := by
  unfold bit1
  rw [if_neg h]
  omega

theorem ref_Sum (l : List UInt8) (u : Value) (w : World) (hl : SlB w u l) : Calls Try.prog 98 #[u] w fun e w' => e = .returned (.int .u32 ((crc l : Nat) : Int)) ∧ w = w' := by
  obtain ⟨a, c, rfl, h1, h2, -⟩ := hl
  go_enter Try.func98, Try.ntmps98
  go_wp2
  go_loop [3, 4] (fun v3 v4 => ∃ k x : Nat, v3 = .int .u32 x ∧ v4 = .int .i64 k ∧ x < 4294967296 ∧ k ≤ l.length ∧ Hid (crcFrom x (l.drop k) = crcFrom 4294967295 l)) (fun _ v4 => l.length - (intOf v4).toNat)
  case atStart => exact ⟨0, 4294967295, rfl, rfl, by omega, by omega, hid rfl⟩
  case round =>
    obtain ⟨k, x, rfl, rfl, hx, hk, hcrc⟩ := hrel
    by_cases hlt : k < l.length
    · obtain ⟨bb, oo, c, rfl, hcc, -, hd, -⟩ := h2.byte k hlt
      have HD := hid hd
      clear hd
      have hc1 := c.toNat_lt
      have e1 := u32_xor_c x c.toNat hx hc1
      obtain ⟨z, hz⟩ : ∃ z, z = x ^^^ c.toNat := ⟨_, rfl⟩
      have hz1 : z < 4294967296 := by rw [hz]; exact xor_lt _ _ hx hc1
      rw [← hz] at e1
      have HZ := hid hz
      clear hz
      go_wp2
      go_loop [3, 5] (fun v3 v5 => ∃ j y : Nat, v3 = .int .u32 y ∧ v5 = .int .i64 j ∧ y < 4294967296 ∧ j ≤ 8 ∧ Hid (bitN (8 - j) y = bitN 8 z)) (fun _ v5 => 8 - (intOf v5).toNat)
      case atStart => exact ⟨0, z, rfl, rfl, hz1, by omega, hid rfl⟩
      case round =>
        obtain ⟨j, y, rfl, rfl, hy, hj, hby⟩ := hrel
        by_cases hj8 : j < 8
        · have hnext : Hid (bitN (8 - (j + 1)) (bit1 y) = bitN 8 z) := hid (by
            rw [← hby.out, show 8 - j = (8 - (j + 1)) + 1 from by omega]; rfl)
          have hlt := bit1_lt y hy
          by_cases hodd : y % 2 = 1
          · have hb : ((y : Int) % 2 == 1) = true := by simp; omega
            have e3 := bit1_odd y hy hodd
            clear hodd
            go_wp2
            go_round
            case rel => exact ⟨j + 1, bit1 y, rfl, by go_num, hlt, by omega, hnext⟩
            case measure => simp [intOf]; omega
          · have hb : ((y : Int) % 2 == 1) = false := by simp; omega
            have e3 := bit1_ev y hodd
            clear hodd
            go_wp2
            go_round
            case rel => exact ⟨j + 1, bit1 y, rfl, by go_num, hlt, by omega, hnext⟩
            case measure => simp [intOf]; omega
        · obtain rfl : j = 8 := by omega
          have hstep : Hid (y = crcStep x c) := hid (by rw [bitN8, ← HZ.out, ← hby.out]; rfl)
          have hc2 : Hid (crcFrom y (l.drop (k + 1)) = crcFrom 4294967295 l) := hid (by rw [hstep.out, ← hcrc.out, HD.out]; rfl)
          go_wp2
          go_round
          case rel => exact ⟨k + 1, y, rfl, by go_num, hy, by omega, hc2⟩
          case measure => simp [intOf]; omega
    · obtain rfl : k = l.length := by omega
      have hx2 : x = crcFrom 4294967295 l := by
        have := hcrc.out
        rw [List.drop_of_length_le (by omega)] at this
        simpa [crcFrom] using this
      have hres : Hid (((crc l : Nat) : Int) = 4294967295 - (x : Int)) := hid (by rw [crc, ← hx2]; omega)
      clear hx2
      go_wp2
      go_ret
      exact ⟨ret_int (by rw [hres.out]), rfl⟩
end Go.Proofs.Ytohknblokejldaa
end
section
/- Contracts: seal.Sum of one part, seal.Close, the reference's Low. -/
namespace Go.Proofs.Ytohknblokejldaa
open Go.RowKit
open Go.Lib (hid)
set_option linter.unusedVariables false

/-- the sum of one part -/
theorem seal_Sum1 (l : List UInt8) (u : Value) (g : Nat) (w : World) (hc : w.cell? ⟨g, 0, none⟩ = some u) (hl : SlB w u l) :
   Calls Try.prog 92 #[.slice (some ⟨g, 0, none⟩) 1 1] w fun e w' => e = .returned (.int .u32 ((crc l : Nat) : Int)) ∧ Below w.heap.size w w' := by
  have h := seal_Sum [l] [u] (some ⟨g, 0, none⟩) 1 1 (hid rfl) (by omega) w (fun i hi => by
      have : i = 0 := by simpa using hi
      subst this
      exact ⟨g, 0, rfl, hc⟩) rfl (fun i v m hv hm => by
      have : i = 0 := by
        have := (List.getElem?_eq_some_iff.1 hv).1
        simpa using this
      subst this
      simp at hv hm
      subst hv; subst hm
      exact hl)
  simpa using h

/-- the reference's bytes of a number -/
theorem ref_Low (x n : Nat) (X N : Int) (hX : X = (x : Int)) (hN : N = (n : Int)) (hx : x < 4294967296) (hn : n ≤ 4) (w : World) : Calls Try.prog 54 #[.int .u32 X, .int .i64 N] w fun e w' =>
    ∃ v, e = .returned v ∧ w'.ownsRow w.heap.size 5 1 v n (bv (lowB x n)) ∧ Below w.heap.size w w' := by
  subst hX hN
  go_enter Try.func54, Try.ntmps54
  go_wp2
  go_loopw [0, 5, 6] (fun v0 v5 v6 wr => ∃ k y : Nat, v0 = .int .u32 y ∧ v6 = .int .i64 k ∧ k ≤ n ∧ y < 4294967296 ∧ Hid (y = x / 256 ^ k) ∧ wr.ownsRow w.heap.size 5 1 v5 k (bv (lowB x k)) ∧ Below w.heap.size w wr) (fun _ _ v6 _ => n - (intOf v6).toNat)
  case atStart => exact ⟨0, x, rfl, rfl, by omega, hx, hid (by simp), World.ownsRow_nil _ _ _ _, Below.refl _ _⟩
  case round =>
    obtain ⟨k, y, rfl, rfl, hk, hy, hyx, hown, hb⟩ := hrel
    by_cases hlt : k < n
    · have hc : Hid (bv (lowB x (k + 1)) = bv (lowB x k) ++ [.int .u8 ((y : Int) % 256)]) := hid (by
        rw [lowB_snoc, bv_append, ← hyx.out, bv_one]
        congr 3
        simp)
      go_wp2_with (at_builtin; refine wpList_append1 T_bytes _ rfl _ _ #[.int .u8 ((y : Int) % 256)] rfl w.heap.size _ _ _ rfl hown rfl rfl ?c1 ?c2 ?c3 ?_)
      case c1 => rfl
      case c2 => omega
      case c3 => exact hb.size
      intro v' w1 hown' hgrow hne
      have hb' : Below w.heap.size w w1 := hb.grown hgrow hb.size (fun k hk => (hown.lt k hk).1)
      have HO : Hid (w1.ownsRow w.heap.size 5 1 v' (k + 1) (bv (lowB x (k + 1)))) := hid (by rw [hc.out]; exact hown')
      have HY : Hid (y / 256 = x / 256 ^ (k + 1)) := hid (by rw [hyx.out, Nat.pow_succ, Nat.div_div_eq_div_mul])
      clear hown' hown hgrow hb
      go_wp2
      go_roundw
      case rel => exact ⟨k + 1, y / 256, rfl, by go_num, by omega, by omega, HY, HO.out, hb'⟩
      case measure => simp [intOf]; omega
    · obtain rfl : k = n := by omega
      go_wp2
      go_ret
      exact ⟨_, rfl, hown, hb⟩
end Go.Proofs.Ytohknblokejldaa
end
section
/- Contracts: seal.Open. -/
namespace Go.Proofs.Ytohknblokejldaa
open Go.RowKit
open Go.Lib (hid)
set_option linter.unusedVariables false

end Go.Proofs.Ytohknblokejldaa
end
section
/- Contract: the reference's Fit. -/
namespace Go.Proofs.Ytohknblokejldaa
open Go.RowKit
open Go.Lib (hid)
set_option linter.unusedVariables false

/-- what is fitted, ahead of its sum -/
def fitL (l : List UInt8) (size : Nat) : List UInt8 := lowB l.length 2 ++ l ++ List.replicate (size - 6 - l.length) 0
theorem fitL_length (l : List UInt8) (size : Nat) (h : l.length + 6 ≤ size) : (fitL l size).length = size - 4 := by
  unfold fitL
  simp [lowB_length]; omega
def lenOf : Value → Nat
  | .slice _ n _ => n
  | _ => 0

attribute [local irreducible] crc lowB
set_option maxHeartbeats 800000 in
theorem ref_Fit (l : List UInt8) (u : Value) (w : World) (hl : SlB w u l) (size : Nat) (S : Int) (hS : S = (size : Int)) (h6 : l.length + 6 ≤ size) (hsz : size ≤ 65536) (f : List UInt8) (hf : Hid (f = fitL l size)) :
    Calls Try.prog 53 #[u, .int .i64 S] w fun e w' => ∃ v, e = .returned v ∧ w'.ownsRow w.heap.size 5 1 v (f ++ lowB (crc f) 4).length (bv (f ++ lowB (crc f) 4)) ∧ Below w.heap.size w w' := by
  subst hS
  have HL := hid hl
  obtain ⟨a, c, rfl, h1, h2, -, -, h5⟩ := hl
  have HR := hid h2
  have H5 := hid h5
  have hflen : f.length = size - 4 := by rw [hf.out]; exact fitL_length l size h6
  have HFL := hid hflen
  clear h2 h5 hflen
  go_enter Try.func53, Try.ntmps53
  go_wp2_with fail
  refine (ref_Low l.length 2 _ _ (by rfl) (by simp) (by omega) (by omega) _).mono ?_
  rintro e w1 ⟨v1, rfl, hown1, hb1⟩
  obtain ⟨a1, c1, rfl, -, -, hr1, hn1⟩ := ownsRow.rd hown1
  have HR1 := hid hr1
  have HN1 := hid hn1
  have HB1 := hid hb1
  have hown0 := World.ownsRow_nil w1 w.heap.size 5 1
  have HOWN0 := hid hown0
  have hsz1 := hb1.size
  clear hown1 hb1 hr1 hn1 hown0
  go_wp2_with (at_builtin; refine wpList_appendN T_bytes _ rfl _ _ rfl w.heap.size _ _ _ rfl HOWN0.out _ _ _ (bv (lowB l.length 2)) rfl ?c1 (fun _ h => HN1.out h) HR1.out (bv_oneCell _) ?c2 hsz1 ?_)
  case c1 => simp [bv_length, lowB_length]
  case c2 => omega
  intro v2 w2 hown2 hg2 hnil2
  have hb2 := HB1.out.grown hg2 hsz1 (fun k hk => by simp [Value.ownBlock] at hk)
  have HB2 := hid hb2
  have HOWN2 := hid hown2
  have HR2 := hid (HR.out.below' hb2)
  have hsz2 := hb2.size
  clear hown2 hg2 hnil2 hb2 hsz1
  go_wp2_with (at_builtin; refine wpList_appendN T_bytes _ rfl _ _ rfl w.heap.size _ _ _ rfl HOWN2.out _ _ _ (bv l) rfl ?c3 (fun _ h => H5.out h) HR2.out (bv_oneCell _) ?c4 hsz2 ?_)
  case c3 => simp [bv_length]
  case c4 => omega
  intro v3 w3 hown3 hg3 hnil3
  have hb3 := HB2.out.grown hg3 hsz2 (fun k hk => (HOWN2.out.lt k hk).1)
  have HB3 := hid hb3
  obtain ⟨p, hp⟩ : ∃ p, p = lowB l.length 2 ++ l := ⟨_, rfl⟩
  have hpl : p.length = 2 + l.length := by rw [hp]; simp [lowB_length]
  replace hown3 : w3.ownsRow w.heap.size 5 1 v3 p.length (bv p) := by rw [hp, bv_append, List.length_append, lowB_length]; simpa using hown3
  obtain ⟨a3, c3, rfl⟩ : ∃ a c, v3 = .slice a p.length c := by obtain ⟨a, c, e, -⟩ := ownsRow.rd hown3; exact ⟨a, c, e⟩
  have HOWN3 := hid hown3
  have HP := hid (show f = p ++ List.replicate (size - 6 - l.length) 0 by rw [hf.out, hp]; rfl)
  have HPL := hid hpl
  clear hown3 hg3 hnil3 hb3 hp hpl
  go_wp2_with fail
  go_loopw [5] (fun v5 wr => ∃ (j : Nat) (m : List UInt8) (a : Option Addr) (c : Nat), v5 = .slice a m.length c ∧ wr.ownsRow w.heap.size 5 1 (.slice a m.length c) m.length (bv m) ∧ Hid (m = p ++ List.replicate j 0) ∧ m.length ≤ size - 4 ∧ Hid (Below w.heap.size w wr)) (fun v5 _ => size - lenOf v5)
  case atStart => exact ⟨0, p, a3, c3, rfl, HOWN3.out, hid (by simp), by have := HPL.out; omega, HB3⟩
  case round =>
    obtain ⟨j, m, a5, c5, rfl, hown, hm, hml, hb⟩ := hrel
    by_cases hlt : m.length < size - 4
    · have hsz5 := hb.out.size
      have HO := hid hown
      clear hown
      go_wp2_with (at_builtin; refine wpList_append1 T_bytes _ rfl _ _ #[.int .u8 0] rfl w.heap.size _ _ _ rfl HO.out rfl rfl ?c5 ?c6 hsz5 ?_)
      case c5 => rfl
      case c6 => omega
      intro v' w4 hown4 hg4 hne4
      have HB4 := hid (hb.out.grown hg4 hsz5 (fun k hk => (HO.out.lt k hk).1))
      replace hown4 : w4.ownsRow w.heap.size 5 1 v' (m ++ [0]).length (bv (m ++ [0])) := by rw [bv_append, bv_one]; simpa using hown4
      obtain ⟨a6, c6, rfl⟩ : ∃ a c, v' = .slice a (m ++ [0]).length c := by obtain ⟨a, c, e, -⟩ := ownsRow.rd hown4; exact ⟨a, c, e⟩
      have HO4 := hid hown4
      clear hown4 hg4
      go_wp2_with fail
      go_roundw
      case rel => exact ⟨j + 1, m ++ [0], a6, c6, rfl, HO4.out, hid (by rw [hm.out, List.append_assoc, ← List.replicate_succ']), by simp; omega, HB4⟩
      case measure => simp [lenOf]; omega
    · have HM := hid (show m = f by
        have h1 := hm.out
        have h2 := HP.out
        have h3 := HPL.out
        have h4 := congrArg List.length h1
        rw [List.length_append, List.length_replicate] at h4
        rw [h1, h2, show j = size - 6 - l.length by omega])
      have HO := hid hown
      have HSL := hid (ownsRow.slb hown (by omega))
      have hsz5 := hb.out.size
      clear hown hm
      go_wp2_with fail
      refine (ref_Sum m _ wr HSL.out).mono ?_
      rintro e w' ⟨rfl, rfl⟩
      have hcrc : crc m < 4294967296 := by unfold crc; omega
      go_wp2_with fail
      refine (ref_Low (crc m) 4 _ _ (by rfl) (by simp) hcrc (by omega) _).mono ?_
      rintro e w4 ⟨v4, rfl, hown4, hb4⟩
      obtain ⟨a4, c4, rfl, -, -, hr4, hn4⟩ := ownsRow.rd hown4
      have HR4 := hid hr4
      have HN4 := hid hn4
      have HO4 := hid (ownsRow_below HO.out hb4)
      have HB4 := hid (Below.next hb.out hb4)
      have hsz4 := HB4.out.size
      clear hown4 hr4 hn4 hb4
      go_wp2_with (at_builtin; refine wpList_appendN T_bytes _ rfl _ _ rfl w.heap.size _ _ _ rfl HO4.out _ _ _ (bv (lowB (crc m) 4)) rfl ?c7 (fun _ h => HN4.out h) HR4.out (bv_oneCell _) ?c8 hsz4 ?_)
      case c7 => simp [bv_length, lowB_length]
      case c8 => omega
      intro v5 w5 hown5 hg5 hnil5
      have HB5 := hid (HB4.out.grown hg5 hsz4 (fun k hk => (HO4.out.lt k hk).1))
      have HO5 : Hid (w5.ownsRow w.heap.size 5 1 v5 (f ++ lowB (crc f) 4).length (bv (f ++ lowB (crc f) 4))) := hid (by rw [← HM.out, bv_append, List.length_append, lowB_length]; exact hown5)
      clear hown5 hg5 hnil5
      go_wp2_with fail
      go_ret
      exact ⟨_, rfl, HO5.out, HB5.out⟩
end Go.Proofs.Ytohknblokejldaa
end
