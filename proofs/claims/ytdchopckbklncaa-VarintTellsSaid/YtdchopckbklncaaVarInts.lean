/- Contracts: All, Len, Size, the reference's Int, awake; the law VarintInts. -/
import Derived.Test.YtdchopckbklncaaVarObj
import Derived.Test.YtdchopckbklncaaVarIn3
namespace Go.Proofs.Ytdchopckbklncaa
open Go.RowKit
open Go.Lib (hid)
set_option linter.unusedVariables false

theorem OutIs.slb {w : World} {g : Nat} {v : Value} {l : List UInt8} (h : OutIs w g v l) (hl : l.length ≤ 9223372036854775807) : SlB w v l := ownsRow.slb (ownsRow_base h.own (Nat.zero_le _)) hl
theorem OutIs.below {w w' : World} {g : Nat} {v : Value} {l : List UInt8} (h : OutIs w g v l) (hb : Below w.heap.size w w') : OutIs w' g v l :=
  ⟨Blk.below hb h.blk, ownsRow_below h.own hb, h.ne⟩

theorem out_All (g : Nat) (v : Value) (l : List UInt8) (w : World) (h : OutIs w g v l) (hl : l.length ≤ 1048576) :
    Calls Try.prog 16 #[.pointer (some ⟨g, 0, none⟩)] w fun e w' => ∃ u, e = .returned u ∧ w'.ownsRow w.heap.size 5 1 u l.length (bv l) ∧ Below w.heap.size w w' := by
  have hc0 : w.cell? ⟨g, 0, none⟩ = some v := by rw [h.blk.cell]; rfl
  have HS := hid (h.slb (by omega))
  clear h
  go_enter Try.func16, Try.ntmps16
  go_wp2_with fail
  refine (bytes_Clone l v w HS.out (by omega)).mono ?_
  rintro e w1 ⟨v1, rfl, hown, hb⟩
  go_wp2
  go_ret
  exact ⟨_, rfl, hown, hb⟩

theorem out_Len (g : Nat) (v : Value) (l : List UInt8) (w : World) (h : OutIs w g v l) (hl : l.length ≤ 1048576) :
    Calls Try.prog 42 #[.pointer (some ⟨g, 0, none⟩)] w fun e w' => e = .returned (.int .i64 (l.length : Int)) ∧ w = w' := by
  have hc0 : w.cell? ⟨g, 0, none⟩ = some v := by rw [h.blk.cell]; rfl
  obtain ⟨a, c, rfl, -⟩ := h.slb (by omega)
  clear h
  go_enter Try.func42, Try.ntmps42
  go_wp2
  go_ret
  exact ⟨rfl, rfl⟩

theorem var_Size (n : Int) (h1 : -9223372036854775808 ≤ n) (h2 : n ≤ 9223372036854775807) (w : World) :
    Calls Try.prog 19 #[.int .i64 n] w fun e w' => e = .returned (.int .i64 ((enc (zz n)).length : Int)) ∧ Below w.heap.size w w' := by
  have hz := hid (zz_lt n h1 h2)
  have hown := World.ownsRow_nil w 0 5 1
  have HOWN := hid hown
  clear hown
  go_enter Try.func19, Try.ntmps19
  go_wp2_with (go_at_call 77; (with_reducible refine (var_turned n h1 h2 _).mono ?_); rintro e w' ⟨rfl, rfl⟩)
  refine (var_appended [] (zz n) hz.out _ w HOWN.out (by simp)).mono ?_
  rintro e w1 ⟨v1, rfl, hown, hupd, -, -⟩
  rw [List.nil_append] at hown
  have HB : Hid (Below w.heap.size w w1) := hid (hupd.below (Nat.le_refl _) (fun k _ h => by simp [Value.ownBlock] at h))
  obtain ⟨a, c, rfl, -⟩ := ownsRow.slb hown (by have := enc_len10 (zz n) hz.out; omega)
  clear hown hupd
  go_wp2
  go_ret
  exact ⟨rfl, HB.out⟩

set_option maxRecDepth 100000 in
/-- the reference's bytes of a number -/
theorem ref_Int (n : Int) (h1 : -9223372036854775808 ≤ n) (h2 : n ≤ 9223372036854775807) (w : World) :
    Calls Try.prog 18 #[.int .i64 n] w fun e w' => ∃ v, e = .returned v ∧ w'.ownsRow w.heap.size 5 1 v (enc (zz n)).length (bv (enc (zz n))) ∧ Below w.heap.size w w' := by
  have hlen := enc_len10 (zz n) (zz_lt n h1 h2)
  have hz := hid (zz_lt n h1 h2)
  go_enter Try.func18, Try.ntmps18
  go_wp2_with (go_at_call 79; (with_reducible refine (ref_Twice n h1 h2 _).mono ?_); rintro e w' ⟨rfl, rfl⟩)
  go_loopw [3, 4] (fun v3 v4 wr => ∃ (m : List UInt8) (x : Nat), v4 = .int .u64 x ∧ x < 18446744073709551616 ∧ wr.ownsRow w.heap.size 5 1 v3 m.length (bv m) ∧ m.length ≤ 10 ∧ Hid (m ++ enc x = enc (zz n)) ∧ Below w.heap.size w wr) (fun _ v4 _ => (intOf v4).toNat)
  case atStart => exact ⟨[], zz n, rfl, hz.out, World.ownsRow_nil _ _ _ _, by simp, hid rfl, Below.refl _ _⟩
  case round =>
    obtain ⟨m, x, rfl, hx, ho, hm, henc, hb⟩ := hrel
    have hml : m.length + (enc x).length = (enc (zz n)).length := by
      have := congrArg List.length henc.out
      simpa using this
    have hpos := enc_pos x
    by_cases h128 : x < 128
    · have HE := hid (enc_small x h128)
      have hb1 : m.length + 1 ≤ 140737488355328 := by omega
      clear hml hpos hlen
      go_wp2_with (at_builtin; refine wpList_append1 T_bytes _ rfl _ _ #[.int .u8 (x : Int)] rfl w.heap.size _ _ _ rfl ho rfl rfl ?c1 ?c2 ?c3 ?_)
      case c1 => rfl
      case c2 => omega
      case c3 => exact hb.size
      intro v' w1 hown' hgrow hne
      have hbv : Hid (bv (enc (zz n)) = bv m ++ [.int .u8 (x : Int)]) := hid (by
        rw [← henc.out, HE.out, bv_append, bv_one]
        congr 3
        simp; omega)
      have hlu : Hid ((enc (zz n)).length = m.length + 1) := hid (by rw [← henc.out, HE.out]; simp)
      have HO : Hid (w1.ownsRow w.heap.size 5 1 v' (enc (zz n)).length (bv (enc (zz n)))) := hid (by rw [hbv.out, hlu.out]; exact hown')
      have HB : Hid (Below w.heap.size w w1) := hid (hb.grown hgrow hb.size (fun k hk => (ho.lt k hk).1))
      clear hown' hgrow
      go_wp2
      go_ret
      exact ⟨_, rfl, HO.out, HB.out⟩
    · have HE := hid (enc_big x h128)
      have hb1 : m.length + 1 ≤ 10 := by have := enc_pos (x / 128); rw [HE.out] at hml; simp at hml; omega
      clear hml hpos hlen
      go_wp2_with (at_builtin; refine wpList_append1 T_bytes _ rfl _ _ #[.int .u8 ((x : Int) % 128 + 128)] rfl w.heap.size _ _ _ rfl ho rfl rfl ?c1 ?c2 ?c3 ?_)
      case c1 => rfl
      case c2 => omega
      case c3 => exact hb.size
      intro v' w1 hown' hgrow hne
      have hbv : Hid (bv (m ++ [UInt8.ofNat (x % 128 + 128)]) = bv m ++ [.int .u8 ((x : Int) % 128 + 128)]) := hid (by
        rw [bv_append, bv_one]
        congr 3
        simp; omega)
      have HO : Hid (w1.ownsRow w.heap.size 5 1 v' (m ++ [UInt8.ofNat (x % 128 + 128)]).length (bv (m ++ [UInt8.ofNat (x % 128 + 128)]))) := hid (by rw [hbv.out]; simpa using hown')
      have HB : Below w.heap.size w w1 := hb.grown hgrow hb.size (fun k hk => (ho.lt k hk).1)
      have henc2 : Hid ((m ++ [UInt8.ofNat (x % 128 + 128)]) ++ enc (x / 128) = enc (zz n)) := hid (by rw [← henc.out, HE.out]; simp)
      clear hown' hgrow hne hb
      go_wp2
      go_roundw
      case rel => exact ⟨m ++ [UInt8.ofNat (x % 128 + 128)], x / 128, rfl, by omega, HO.out, by simp; omega, henc2, HB⟩
      case measure => simp [intOf]; omega

/-- a new Out -/
theorem OutIs.new (w : World) : OutIs (w.alloc (.cells #[.slice none 0 0] 24)) w.heap.size (.slice none 0 0) [] :=
  ⟨Blk.new _ _ _, World.ownsRow_nil _ _ _ _, by simp [Value.ownBlock]⟩

set_option maxHeartbeats 800000 in
theorem var_awake (w : World) : Calls Try.prog 22 #[] w fun e w' => e = .returned (.bool true) ∧ Below w.heap.size w w' := by
  have e0 : Hid (enc (zz 0) = [0]) := hid (by decide +kernel)
  have e1 : Hid (enc (zz (-1)) = [1]) := hid (by decide +kernel)
  have e2 : Hid (enc (zz 63) = [126]) := hid (by decide +kernel)
  have e3 : Hid (enc (zz 64) = [128, 1]) := hid (by decide +kernel)
  have e4 : Hid (enc (zz (-65)) = [129, 1]) := hid (by decide +kernel)
  go_enter Try.func22, Try.ntmps22
  have hu0 := Below.new w (.cells #[.slice none 0 0] 24)
  go_wp2_with fail
  refine (var_Out_Int 0 (by omega) (by omega) w.heap.size _ [] _ (OutIs.new w) (by simp)).mono ?_
  rintro e w1 ⟨v1, rfl, ho1, hs1, -⟩
  rw [e0.out, List.nil_append] at ho1
  have HO1 := hid ho1
  have HS1 := hid hs1
  clear ho1 hs1
  go_wp2_with fail
  refine (var_Out_Int (-1) (by omega) (by omega) w.heap.size _ [0] _ HO1.out (by simp)).mono ?_
  rintro e w2 ⟨v2, rfl, ho2, hx2, -⟩
  rw [e1.out] at ho2
  have hs2 := HS1.out.trans hx2
  clear hx2
  have HO2 := hid ho2
  have HS2 := hid hs2
  clear ho2 hs2
  go_wp2_with fail
  refine (var_Out_Int 63 (by omega) (by omega) w.heap.size _ [0, 1] _ HO2.out (by simp)).mono ?_
  rintro e w3 ⟨v3, rfl, ho3, hx3, -⟩
  rw [e2.out] at ho3
  have hs3 := HS2.out.trans hx3
  clear hx3
  have HO3 := hid ho3
  have HS3 := hid hs3
  clear ho3 hs3
  go_wp2_with fail
  refine (var_Out_Int 64 (by omega) (by omega) w.heap.size _ [0, 1, 126] _ HO3.out (by simp)).mono ?_
  rintro e w4 ⟨v4, rfl, ho4, hx4, -⟩
  rw [e3.out] at ho4
  have hs4 := HS3.out.trans hx4
  clear hx4
  have HO4 := hid ho4
  have HS4 := hid hs4
  clear ho4 hs4
  go_wp2_with fail
  refine (var_Out_Int (-65) (by omega) (by omega) w.heap.size _ [0, 1, 126, 128, 1] _ HO4.out (by simp)).mono ?_
  rintro e w5 ⟨v5, rfl, ho5, hx5, -⟩
  rw [e4.out] at ho5
  have hs5 := HS4.out.trans hx5
  clear hx5
  have HO5 := hid ho5
  have HB5 := hid (hu0.trans (hs5.upd.below (B := w.heap.size) (by simp) (fun k _ h => by rcases h with h | h; omega; simp [Value.ownBlock] at h)))
  clear ho5 hs5 hu0
  go_wp2_with fail
  refine (out_All w.heap.size _ [0, 1, 126, 128, 1, 129, 1] _ HO5.out (by simp)).mono ?_
  rintro e w6 ⟨v6, rfl, hown, hb6⟩
  obtain ⟨a, c, rfl, -⟩ := ownsRow.slb hown (by simp)
  have hst := (ownsRow.slb hown (by simp)).str w6 (Below.refl _ _)
  simp only [List.length_cons, List.length_nil, Nat.zero_add, Nat.reduceAdd] at hst
  have HB6 := hid (Below.next HB5.out hb6)
  have HO6 := hid (HO5.out.below hb6)
  clear hown hb6
  go_wp2_with (go_at_call 42; (with_reducible refine (out_Len w.heap.size _ [0, 1, 126, 128, 1, 129, 1] _ HO6.out (by simp)).mono ?_); rintro e w' ⟨rfl, rfl⟩)
  go_ret
  exact ⟨rfl, HB6.out⟩
end Go.Proofs.Ytdchopckbklncaa
