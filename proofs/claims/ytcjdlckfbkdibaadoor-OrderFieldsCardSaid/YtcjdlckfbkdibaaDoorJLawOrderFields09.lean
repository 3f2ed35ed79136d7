/- Joined texts, in this order: VarInts, VarRead, VarIntsLaw, Iv. Each one's first remark says what it proves; no condition beyond those that its theorems name. -/
import Derived.Test.YtcjdlckfbkdibaaDoorJLawOrderFields05
import Derived.Test.YtcjdlckfbkdibaaDoorJLawOrderFields08
import Derived.Test.YtcjdlckfbkdibaaDoorJLawOrderFields04
import Derived.Deep.QuietTactic
import Derived.Deep.RegionHeld3
import Derived.Test.YtcjdlckfbkdibaaDoorJLawOrderFields01
section
/- Contracts: All, Len, Size, the reference's Int, awake; the law VarintInts. -/
namespace Go.Proofs.YtcjdlckfbkdibaaDoor
open Go.RowKit
open Go.Lib (hid)
set_option linter.unusedVariables false

theorem OutIs.slb {w : World} {g : Nat} {v : Value} {l : List UInt8} (h : OutIs w g v l) (hl : l.length ≤ 9223372036854775807) : SlB w v l := ownsRow.slb (ownsRow_base h.own (Nat.zero_le _)) hl
theorem OutIs.below {w w' : World} {g : Nat} {v : Value} {l : List UInt8} (h : OutIs w g v l) (hb : Below w.heap.size w w') : OutIs w' g v l :=
  ⟨Blk.below hb h.blk, ownsRow_below h.own hb, h.ne⟩

theorem out_All (g : Nat) (v : Value) (l : List UInt8) (w : World) (h : OutIs w g v l) (hl : l.length ≤ 1048576) :
    Calls Tryd.prog 62 #[.pointer (some ⟨g, 0, none⟩)] w fun e w' => ∃ u, e = .returned u ∧ w'.ownsRow w.heap.size 5 1 u l.length (bv l) ∧ Below w.heap.size w w' := by
  have hc0 : w.cell? ⟨g, 0, none⟩ = some v := by rw [h.blk.cell]; rfl
  have HS := hid (h.slb (by omega))
  clear h
  go_enter Tryd.func62, Tryd.ntmps62
  go_wp2_with fail
  refine (bytes_Clone l v w HS.out (by omega)).mono ?_
  rintro e w1 ⟨v1, rfl, hown, hb⟩
  go_wp2
  go_ret
  exact ⟨_, rfl, hown, hb⟩

set_option maxRecDepth 100000 in
/-- the reference's bytes of a number -/
theorem ref_Int (n : Int) (h1 : -9223372036854775808 ≤ n) (h2 : n ≤ 9223372036854775807) (w : World) :
    Calls Tryd.prog 71 #[.int .i64 n] w fun e w' => ∃ v, e = .returned v ∧ w'.ownsRow w.heap.size 5 1 v (enc (zz n)).length (bv (enc (zz n))) ∧ Below w.heap.size w w' := by
  have hlen := enc_len10 (zz n) (zz_lt n h1 h2)
  have hz := hid (zz_lt n h1 h2)
  go_enter Tryd.func71, Tryd.ntmps71
  go_wp2_with (go_at_call 98; (with_reducible refine (ref_Twice n h1 h2 _).mono ?_); rintro e w' ⟨rfl, rfl⟩)
  go_loopw [3, 4] (fun v3 v4 wr => ∃ (m : List UInt8) (x : Nat), v4 = .int .u64 x ∧ x < 18446744073709551616 ∧ wr.ownsRow w.heap.size 5 1 v3 m.length (bv m) ∧ m.length ≤ 10 ∧ Hid (m ++ enc x = enc (zz n)) ∧ Below w.heap.size w wr) (fun _ v4 _ => (intOf v4).toNat)
  case atStart => exact ⟨[], zz n, rfl, hz.out, World.ownsRow_nil _ _ _ _, by simp, hid rfl, Below.refl _ _⟩
  case round =>
    obtain ⟨m, x, rfl, hx, ho, hm, henc, hb⟩ := hrel
    have hml : m.length + (enc x).length = (enc (zz n)).length := by
      have := congrArg List.length henc.out
      simpa using this
    have hpos := enc_pos x
    by_cases h128 : x < 128
    · have HE := hid (enc_small x h128)
      have hb1 : m.length + 1 ≤ 140737488355328 := by omega
      clear hml hpos hlen
      go_wp2_with (at_builtin; refine wpList_append1 T_bytes _ rfl _ _ #[.int .u8 (x : Int)] rfl w.heap.size _ _ _ rfl ho rfl rfl ?c1 ?c2 ?c3 ?_)
      case c1 => rfl
      case c2 => omega
      case c3 => exact hb.size
      intro v' w1 hown' hgrow hne
      have hbv : Hid (bv (enc (zz n)) = bv m ++ [.int .u8 (x : Int)]) := hid (by
        rw [← henc.out, HE.out, bv_append, bv_one]
        congr 3
        simp; omega)
      have hlu : Hid ((enc (zz n)).length = m.length + 1) := hid (by rw [← henc.out, HE.out]; simp)
      have HO : Hid (w1.ownsRow w.heap.size 5 1 v' (enc (zz n)).length (bv (enc (zz n)))) := hid (by rw [hbv.out, hlu.out]; exact hown')
      have HB : Hid (Below w.heap.size w w1) := hid (hb.grown hgrow hb.size (fun k hk => (ho.lt k hk).1))
      clear hown' hgrow
      go_wp2
      go_ret
      exact ⟨_, rfl, HO.out, HB.out⟩
    · have HE := hid (enc_big x h128)
      have hb1 : m.length + 1 ≤ 10 := by have := enc_pos (x / 128); rw [HE.out] at hml; simp at hml; omega
      clear hml hpos hlen
      go_wp2_with (at_builtin; refine wpList_append1 T_bytes _ rfl _ _ #[.int .u8 ((x : Int) % 128 + 128)] rfl w.heap.size _ _ _ rfl ho rfl rfl ?c1 ?c2 ?c3 ?_)
      case c1 => rfl
      case c2 => omega
      case c3 => exact hb.size
      intro v' w1 hown' hgrow hne
      have hbv : Hid (bv (m ++ [UInt8.ofNat (x % 128 + 128)]) = bv m ++ [.int .u8 ((x : Int) % 128 + 128)]) := hid (by
        rw [bv_append, bv_one]
        congr 3
        simp; omega)
      have HO : Hid (w1.ownsRow w.heap.size 5 1 v' (m ++ [UInt8.ofNat (x % 128 + 128)]).length (bv (m ++ [UInt8.ofNat (x % 128 + 128)]))) := hid (by rw [hbv.out]; simpa using hown')
      have HB : Below w.heap.size w w1 := hb.grown hgrow hb.size (fun k hk => (ho.lt k hk).1)
      have henc2 : Hid ((m ++ [UInt8.ofNat (x % 128 + 128)]) ++ enc (x / 128) = enc (zz n)) := hid (by rw [← henc.out, HE.out]; simp)
      clear hown' hgrow hne hb
      go_wp2
      go_roundw
      case rel => exact ⟨m ++ [UInt8.ofNat (x % 128 + 128)], x / 128, rfl, by omega, HO.out, by simp; omega, henc2, HB⟩
      case measure => simp [intOf]; omega

/-- a new Out -/
theorem OutIs.new (w : World) : OutIs (w.alloc (.cells #[.slice none 0 0] 96)) w.heap.size (.slice none 0 0) [] :=
  ⟨Blk.new _ _ _, World.ownsRow_nil _ _ _ _, by simp [Value.ownBlock]⟩

end Go.Proofs.YtcjdlckfbkdibaaDoor
end
section
/- Contract: the reference's Read. -/
namespace Go.Proofs.YtcjdlckfbkdibaaDoor
open Go.RowKit
open Go.Lib (hid)
set_option linter.unusedVariables false

theorem cong_step (a b c : Int) : (a % 18446744073709551616 + (b * (c % 18446744073709551616)) % 18446744073709551616) % 18446744073709551616 = (a + b * c) % 18446744073709551616 := by
  rw [← Int.add_emod, Int.add_emod, Int.mul_emod, Int.emod_emod_of_dvd _ (Int.dvd_refl _), ← Int.mul_emod, ← Int.add_emod]

theorem cong_mul (a b : Int) : (a % 18446744073709551616 * b) % 18446744073709551616 = (a * b) % 18446744073709551616 := by
  rw [Int.mul_emod, Int.emod_emod_of_dvd _ (Int.dvd_refl _), ← Int.mul_emod]

end Go.Proofs.YtcjdlckfbkdibaaDoor
end
section
/- The law VarintInts, walked. -/
namespace Go.Proofs.YtcjdlckfbkdibaaDoor
open Go.RowKit
open Go.Lib (hid)
set_option linter.unusedVariables false

theorem inInt_enc (n : Int) (h1 : -9223372036854775808 ≤ n) (h2 : n ≤ 9223372036854775807) (t : List UInt8) : inInt (some (enc (zz n) ++ t)) = (n, some t) := by
  have hz := zz_lt n h1 h2
  have hr := readF_enc (zz n) t 0 0 (by omega) (by simpa using hz) (by omega)
  have hp := enc_pos (zz n)
  simp only [Nat.zero_add, Nat.pow_zero, Nat.mul_one] at hr
  unfold inInt
  simp only [Option.getD_some, hr]
  rw [if_neg (by omega)]
  have hno : ¬ (enc (zz n)).length + t.length < (enc (zz n)).length := by omega
  simp [inTake, unzz_zz, hno]

end Go.Proofs.YtcjdlckfbkdibaaDoor
end
section
/- Numbers as the cells of a row. No program in sight. -/
namespace Go.Proofs.YtcjdlckfbkdibaaDoor
def iv (l : List Int) : List Value := l.map (Value.int .i64)
end Go.Proofs.YtcjdlckfbkdibaaDoor
end
