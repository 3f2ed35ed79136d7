/- Contracts: seal.Sum of one part, seal.Close, the reference's Low. -/
import Derived.Test.YtopdcjekdmaopaaSealLow
namespace Go.Proofs.Ytopdcjekdmaopaa
open Go.RowKit
open Go.Lib (hid)
set_option linter.unusedVariables false

/-- the sum of one part -/
theorem seal_Sum1 (l : List UInt8) (u : Value) (g : Nat) (w : World) (hc : w.cell? ⟨g, 0, none⟩ = some u) (hl : SlB w u l) :
   Calls Try.prog 28 #[.slice (some ⟨g, 0, none⟩) 1 1] w fun e w' => e = .returned (.int .u32 ((crc l : Nat) : Int)) ∧ Below w.heap.size w w' := by
  have h := seal_Sum [l] [u] (some ⟨g, 0, none⟩) 1 1 (hid rfl) (by omega) w (fun i hi => by
      have : i = 0 := by simpa using hi
      subst this
      exact ⟨g, 0, rfl, hc⟩) rfl (fun i v m hv hm => by
      have : i = 0 := by
        have := (List.getElem?_eq_some_iff.1 hv).1
        simpa using this
      subst this
      simp at hv hm
      subst hv; subst hm
      exact hl)
  simpa using h

theorem seal_Close (l : List UInt8) (u : Value) (w : World) (hl : SlB w u l) (hlen : l.length ≤ 1048576) : Calls Try.prog 30 #[u] w fun e w' =>
    ∃ v, e = .returned v ∧ w'.ownsRow w.heap.size 5 1 v (l.length + 4) (bv (l ++ lowB (crc l) 4)) ∧ Below w.heap.size w w' := by
  have HL := hid hl
  obtain ⟨a, c, rfl, h1, h2, -, -, h5⟩ := hl
  have hcrc : crc l < 4294967296 := by unfold crc; omega
  have H5 := hid h5
  clear h5
  go_enter Try.func30, Try.ntmps30
  go_wp2_with (at_make; refine wpList_make T_bytes rfl _ rfl _ _ rfl w.heap.size _ _ _ _ 0 (l.length + 4) rfl rfl rfl ?b0 (Nat.zero_le _) ?b1 ?b2 ?_)
  case b0 => omega
  case b1 => omega
  case b2 => omega
  intro w1 hown1 hg1
  have hb1 : Below w.heap.size w w1 := (Below.refl _ _).grown hg1 (Nat.le_refl _) (fun k h => by cases h)
  have hr1 := h2.below' hb1
  clear hg1
  go_wp2_with (at_builtin; refine wpList_appendN T_bytes _ rfl _ _ rfl w.heap.size _ _ _ rfl hown1 _ _ _ (bv l) rfl ?c1 (fun _ h => H5.out h) hr1 (bv_oneCell l) ?c2 ?c3 ?_)
  case c1 => simp [bv_length]
  case c2 => omega
  case c3 => exact hb1.size
  intro v2 w2 hown2 hg2 hnil
  have hb2 : Below w.heap.size w w2 := hb1.grown hg2 hb1.size (fun k hk => (hown1.lt k hk).1)
  have hs2 : SlB (w2.alloc (.cells #[.slice a l.length c] 35)) (.slice a l.length c) l := HL.out.below (Below.next hb2 (Below.new _ _))
  clear hg2 hnil hown1 hr1
  go_wp2_with fail
  refine (seal_Sum1 l _ w2.heap.size _ (cell_block0 _ _ _) hs2).mono ?_
  rintro e w3 ⟨rfl, hb3⟩
  have hb3' := Below.next (Below.new w2 (.cells #[.slice a l.length c] 35)) hb3
  have hown3 := ownsRow_below hown2 hb3'
  have HB3 := hid (Below.next hb2 hb3')
  clear hs2 hb3 hb3' hown2 hb2
  go_wp2_with fail
  refine (seal_low (crc l) hcrc _).mono ?_
  rintro e w4 ⟨rfl, hlow, hb4⟩
  have hown4 := ownsRow_below hown3 hb4
  have HB4 := hid (Below.next HB3.out hb4)
  obtain ⟨a4, cap4, ha4, -, -, hr4, -⟩ := ownsRow.rd hlow
  simp only [Value.slice.injEq] at ha4
  obtain ⟨rfl, -, rfl⟩ := ha4
  clear hown3 hb4 hlow
  go_wp2_with (at_builtin; refine wpList_appendN T_bytes _ rfl _ _ rfl w.heap.size _ _ _ rfl hown4 _ _ _ (bv (lowB (crc l) 4)) rfl ?c1 (fun h => nomatch h) hr4 (bv_oneCell _) ?c2 ?c3 ?_)
  case c1 => simp [bv_length, lowB_length]
  case c2 => omega
  case c3 => exact HB4.out.size
  intro v5 w5 hown5 hg5 hnil
  have hb5 : Below w.heap.size w w5 := HB4.out.grown hg5 HB4.out.size (fun k hk => (hown4.lt k hk).1)
  have HO : Hid (w5.ownsRow w.heap.size 5 1 v5 (l.length + 4) (bv (l ++ lowB (crc l) 4))) := hid (by rw [bv_append]; simpa using hown5)
  clear hg5 hown5 hown4 hnil hr4
  go_wp2
  go_ret
  exact ⟨_, rfl, HO.out, hb5⟩

/-- the reference's bytes of a number -/
theorem ref_Low (x n : Nat) (X N : Int) (hX : X = (x : Int)) (hN : N = (n : Int)) (hx : x < 4294967296) (hn : n ≤ 4) (w : World) : Calls Try.prog 32 #[.int .u32 X, .int .i64 N] w fun e w' =>
    ∃ v, e = .returned v ∧ w'.ownsRow w.heap.size 5 1 v n (bv (lowB x n)) ∧ Below w.heap.size w w' := by
  subst hX hN
  go_enter Try.func32, Try.ntmps32
  go_wp2
  go_loopw [0, 5, 6] (fun v0 v5 v6 wr => ∃ k y : Nat, v0 = .int .u32 y ∧ v6 = .int .i64 k ∧ k ≤ n ∧ y < 4294967296 ∧ Hid (y = x / 256 ^ k) ∧ wr.ownsRow w.heap.size 5 1 v5 k (bv (lowB x k)) ∧ Below w.heap.size w wr) (fun _ _ v6 _ => n - (intOf v6).toNat)
  case atStart => exact ⟨0, x, rfl, rfl, by omega, hx, hid (by simp), World.ownsRow_nil _ _ _ _, Below.refl _ _⟩
  case round =>
    obtain ⟨k, y, rfl, rfl, hk, hy, hyx, hown, hb⟩ := hrel
    by_cases hlt : k < n
    · have hc : Hid (bv (lowB x (k + 1)) = bv (lowB x k) ++ [.int .u8 ((y : Int) % 256)]) := hid (by
        rw [lowB_snoc, bv_append, ← hyx.out, bv_one]
        congr 3
        simp)
      go_wp2_with (at_builtin; refine wpList_append1 T_bytes _ rfl _ _ #[.int .u8 ((y : Int) % 256)] rfl w.heap.size _ _ _ rfl hown rfl rfl ?c1 ?c2 ?c3 ?_)
      case c1 => rfl
      case c2 => omega
      case c3 => exact hb.size
      intro v' w1 hown' hgrow hne
      have hb' : Below w.heap.size w w1 := hb.grown hgrow hb.size (fun k hk => (hown.lt k hk).1)
      have HO : Hid (w1.ownsRow w.heap.size 5 1 v' (k + 1) (bv (lowB x (k + 1)))) := hid (by rw [hc.out]; exact hown')
      have HY : Hid (y / 256 = x / 256 ^ (k + 1)) := hid (by rw [hyx.out, Nat.pow_succ, Nat.div_div_eq_div_mul])
      clear hown' hown hgrow hb
      go_wp2
      go_roundw
      case rel => exact ⟨k + 1, y / 256, rfl, by go_num, by omega, by omega, HY, HO.out, hb'⟩
      case measure => simp [intOf]; omega
    · obtain rfl : k = n := by omega
      go_wp2
      go_ret
      exact ⟨_, rfl, hown, hb⟩
end Go.Proofs.Ytopdcjekdmaopaa
