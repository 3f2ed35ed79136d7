/- Joined texts, in this order: VarIntsLaw, Iv, VarInInts, SlParts, VarReadsLaw. Each one's first remark says what it proves; no condition beyond those that its theorems name. -/
import Derived.Test.YtcjdlckfbkdibaaDoorJLawOrderReplies07
import Derived.Deep.RegionHeld3
import Derived.Test.YtcjdlckfbkdibaaDoorJLawOrderReplies01
section
/- The law VarintInts, walked. -/
namespace Go.Proofs.YtcjdlckfbkdibaaDoor
open Go.RowKit
open Go.Lib (hid)
set_option linter.unusedVariables false

theorem inInt_enc (n : Int) (h1 : -9223372036854775808 ≤ n) (h2 : n ≤ 9223372036854775807) (t : List UInt8) : inInt (some (enc (zz n) ++ t)) = (n, some t) := by
  have hz := zz_lt n h1 h2
  have hr := readF_enc (zz n) t 0 0 (by omega) (by simpa using hz) (by omega)
  have hp := enc_pos (zz n)
  simp only [Nat.zero_add, Nat.pow_zero, Nat.mul_one] at hr
  unfold inInt
  simp only [Option.getD_some, hr]
  rw [if_neg (by omega)]
  have hno : ¬ (enc (zz n)).length + t.length < (enc (zz n)).length := by omega
  simp [inTake, unzz_zz, hno]

end Go.Proofs.YtcjdlckfbkdibaaDoor
end
section
/- Numbers as the cells of a row. No program in sight. -/
namespace Go.Proofs.YtcjdlckfbkdibaaDoor
def iv (l : List Int) : List Value := l.map (Value.int .i64)
end Go.Proofs.YtcjdlckfbkdibaaDoor
end
section
/- Contract: In.Ints. -/
namespace Go.Proofs.YtcjdlckfbkdibaaDoor
open Go.RowKit
open Go.Lib (hid)
set_option linter.unusedVariables false

theorem T_ints : SlT Tryd.prog 33 3 (.int .i64 0) 1 8 := SlT.mk' Tryd.underlying33 (by kernel_rfl) rfl (by decide) (by decide)
theorem iv_len (l : List Int) : (iv l).length = l.length := by simp [iv]
def inIntsF : Nat → List Int → Option (List UInt8) → List Int × Option (List UInt8)
  | 0, acc, s => (acc, s)
  | n + 1, acc, s => if (inInt s).2 = none then ([], none) else inIntsF n (acc ++ [(inInt s).1]) (inInt s).2
def inInts (most : Int) (s : Option (List UInt8)) : List Int × Option (List UInt8) := inIntsF (inWithin 0 most s).1.toNat [] (inWithin 0 most s).2
theorem inInt_less (s : Option (List UInt8)) (t : List UInt8) (h : (inInt s).2 = some t) : t.length < (s.getD []).length := by
  unfold inInt at h
  by_cases h0 : (readF (s.getD []) 0 0).1 = 0
  · rw [if_pos h0] at h; simp at h
  · rw [if_neg h0] at h
    cases s with
    | none => simp [readF] at h0
    | some l =>
      rcases readF_le l 0 0 with h1 | h1
      · simp at h0; exact absurd h1 h0
      · simp only [Option.getD_some] at h ⊢
        simp only [inTake] at h
        rw [if_neg (by omega)] at h
        simp at h
        rw [← h]; simp; omega
theorem inWithin_less (lo hi : Int) (s : Option (List UInt8)) : ((inWithin lo hi s).2.getD []).length ≤ (s.getD []).length := by
  unfold inWithin
  split
  · simp
  · cases hs : (inInt s).2 with
    | none => simp
    | some t => have := inInt_less s t hs; simp; omega
theorem inWithin_zero (lo hi : Int) (s : Option (List UInt8)) (h : (inWithin lo hi s).1 ≠ 0) : s.getD [] ≠ [] := by
  unfold inWithin at h
  intro he
  apply h
  rw [if_pos]
  left
  unfold inInt
  rw [he]
  simp [readF]
theorem InIs.some {w : World} {g D : Nat} {s : Option (List UInt8)} (h : InIs w g D s) (he : s.getD [] ≠ []) : D < w.heap.size := by
  obtain ⟨⟨a, n, cap, -, ⟨a', c', e, -, h2, -⟩, hd⟩, -⟩ := h
  simp only [Value.slice.injEq] at e
  obtain ⟨rfl, -, rfl⟩ := e
  obtain ⟨b, off, x, ha, -⟩ := h2.byte 0 (List.length_pos_iff.2 he)
  obtain ⟨rfl, hlt⟩ := hd b off ha
  exact hlt
theorem inWithin_hi (lo hi : Int) (s : Option (List UInt8)) : (inWithin lo hi s).1 ≤ 9223372036854775807 := by
  have := inInt_bd s
  unfold inWithin
  split
  · simp
  · exact this.2

set_option maxHeartbeats 800000 in
theorem in_Ints (most : Int) (s : Option (List UInt8)) (g D : Nat) (w : World) (h : InIs w g D s) (hlen : (s.getD []).length ≤ 1048576) (l : List Int) (s' : Option (List UInt8)) (hs : Hid (inInts most s = (l, s'))) :
    Calls Tryd.prog 74 #[.pointer (some ⟨g, 0, none⟩), .int .i64 most] w fun e w' => ∃ v, e = .returned v ∧ w'.ownsRow w.heap.size 3 1 v l.length (iv l) ∧ InIs w' g D s' ∧ Upd (fun k => k = g) w w' := by
  obtain ⟨x, s1, hx⟩ : ∃ x s1, inWithin 0 most s = (x, s1) := ⟨_, _, rfl⟩
  have hx0 := inWithin_lo 0 most s (by omega)
  have hx1 := inWithin_hi 0 most s
  have hle := inWithin_less 0 most s
  have hDn := inWithin_zero 0 most s
  rw [hx] at hx0 hx1 hle hDn
  obtain ⟨N, rfl⟩ := Int.eq_ofNat_of_zero_le hx0
  have HD : Hid (0 < N → D < w.heap.size) := hid (fun h0 => h.some (hDn (by simp; omega)))
  have hs2 := hs.out
  unfold inInts at hs2
  rw [hx] at hs2
  simp only [Int.toNat_natCast] at hs2
  have hN63 : (N : Int) ≤ 9223372036854775807 := hx1
  have HX := hid hx
  have H := hid h
  have HG := hid h.lt
  have HS2 := hid hs2
  have HLE := hid (Nat.le_trans hle hlen)
  clear hx h hs hx0 hx1 hle hDn hs2 hlen
  go_enter Tryd.func74, Tryd.ntmps74
  go_wp2_with fail
  refine (in_Within 0 most s g D w H.out N s1 HX).mono ?_
  rintro e w1 ⟨rfl, hi1, hu1⟩
  have HI1 := hid hi1
  have HU1 := hid hu1
  clear hi1 hu1
  go_wp2_with fail
  go_loopw [6, 12] (fun v6 v12 wr => ∃ (j : Nat) (acc : List Int) (s1 : Option (List UInt8)), v12 = .int .i64 j ∧ j ≤ N ∧ wr.ownsRow w.heap.size 3 1 v6 acc.length (iv acc) ∧ Hid (InIs wr g D s1) ∧ Hid (Upd (fun k => k = g) w wr) ∧ Hid (inIntsF (N - j) acc s1 = (l, s')) ∧ Hid (acc.length + (s1.getD []).length ≤ 1048576)) (fun _ v12 _ => N - (intOf v12).toNat)
  case atStart => exact ⟨0, [], s1, rfl, by omega, World.ownsRow_nil _ _ _ _, HI1, HU1, HS2, hid (by have := HLE.out; simpa using this)⟩
  case round =>
    obtain ⟨j, acc, s2, rfl, hj, hown, hi, hu, hf, hl⟩ := hrel
    by_cases hjN : j < N
    · obtain ⟨y, s3, hy⟩ : ∃ y s3, inInt s2 = (y, s3) := ⟨_, _, rfl⟩
      have HY := hid hy
      have hf2 := hf.out
      obtain ⟨r, hr⟩ : ∃ r, N - j = r + 1 := ⟨N - j - 1, by omega⟩
      rw [hr, inIntsF, hy] at hf2
      have HD2 := HD.out (by omega)
      have hl2 := hl.out
      have hless := inInt_less s2
      rw [hy] at hless
      have HF2 := hid hf2
      have HOWN := hid hown
      clear hf hf2 hy hown
      go_wp2_with fail
      refine (in_Int s2 g D wr hi.out y s3 HY).mono ?_
      rintro e w2 ⟨rfl, hi2, hu2⟩
      have HI2 := hid hi2
      have HU2 := hid (hu.out.trans hu2 (fun _ _ x => x))
      have HO2 := hid (hu2.owns HOWN.out (fun k hk e => by have := (HOWN.out.lt k hk).1; have := HG.out; omega))
      obtain ⟨⟨a, m, cap, hb, -, -⟩, -⟩ := hi2
      have hc1 : w2.cell? ⟨g, 1, none⟩ = some (.bool s3.isNone) := by rw [hb.cell]; rfl
      clear hb hu2
      cases s3 with
      | none =>
        simp only [Option.isNone_none] at hc1
        have hf2 := HF2.out
        rw [if_pos rfl] at hf2
        simp only [Prod.mk.injEq] at hf2
        obtain ⟨rfl, rfl⟩ := hf2
        clear hless hl2
        go_wp2_with fail
        go_ret
        exact ⟨_, rfl, World.ownsRow_nil _ _ _ _, HI2.out, HU2.out⟩
      | some t =>
        simp only [Option.isNone_some] at hc1
        have hf2 := HF2.out
        rw [if_neg (by simp)] at hf2
        have HF3 := hid hf2
        have hlt := hless t rfl
        have hb1 : acc.length + 1 ≤ 1048576 := by omega
        have HLT := hid (show acc.length + 1 + t.length ≤ 1048576 by omega)
        have hsz := HU2.out.size
        clear hless hl2 hf2 hlt
        go_wp2_with (at_builtin; refine wpList_append1w T_ints _ rfl _ _ #[.int .i64 y] rfl w.heap.size _ _ _ rfl HO2.out rfl rfl ?c1 ?c2 hsz ?_)
        case c1 => rfl
        case c2 => omega
        intro v' w3 hown' hgrow hne hwh
        have hu3 := Upd.of_grown hgrow
        have HU3 := hid (HU2.out.trans hu3 (fun k hk h => by have := (HO2.out.lt k h).1; omega))
        have HI3 := hid (HI2.out.upd hu3 (fun h => by have := (HO2.out.lt g h).1; have := HG.out; omega) (fun _ h => by have := (HO2.out.lt D h).1; omega))
        have HO3 : Hid (w3.ownsRow w.heap.size 3 1 v' (acc ++ [y]).length (iv (acc ++ [y]))) := hid (by simpa [iv] using hown')
        clear hown' hgrow hu3
        go_wp2_with fail
        go_roundw
        case rel => exact ⟨j + 1, acc ++ [y], some t, by go_num, by omega, HO3.out, HI3, HU3, hid (by rw [show N - (j + 1) = r by omega]; exact HF3.out), hid (by have := HLT.out; simpa using this)⟩
        case measure => simp [intOf]; omega
    · have hf2 := hf.out
      rw [show N - j = 0 by omega, inIntsF] at hf2
      simp only [Prod.mk.injEq] at hf2
      obtain ⟨rfl, rfl⟩ := hf2
      have HOWN := hid hown
      clear hf hown
      go_wp2_with fail
      go_ret
      exact ⟨_, rfl, HOWN.out, hi.out, hu.out⟩
end Go.Proofs.YtcjdlckfbkdibaaDoor
end
section
/- The parts of a slice of bytes that reads. -/
namespace Go.Proofs.YtcjdlckfbkdibaaDoor
open Go.RowKit
set_option linter.unusedVariables false

theorem SlB.parts {w : World} {u : Value} {x y : List UInt8} (h : SlB w u (x ++ y)) (hy : 0 < y.length) :
    ∃ b off c, u = .slice (some ⟨b, off, none⟩) (x.length + y.length) c ∧ x.length + y.length ≤ c ∧ c ≤ 9223372036854775807 ∧ x.length + y.length ≤ 9223372036854775807 ∧
      SlB w (.slice (some ⟨b, off, none⟩) x.length c) x ∧ SlB w (.slice (some ⟨b, off + x.length, none⟩) y.length (c - x.length)) y := by
  obtain ⟨a, c, rfl, h1, h2, h3, h4, h5⟩ := h
  obtain ⟨b, off, rfl, -⟩ := h2 0 (by simp [bv]; omega)
  simp only [List.length_append] at h1 h3
  refine ⟨b, off, c, by simp, h3, h4, h1, ⟨_, c, rfl, by omega, ?_, by omega, h4, nofun⟩, ⟨_, _, rfl, by omega, ?_, by omega, by omega, nofun⟩⟩
  · have := h2.sub 0 x.length
    rw [bv_append] at this
    simpa [bv_length, List.take_left'] using this
  · have := h2.sub x.length y.length
    rw [bv_append] at this
    rw [show (bv x ++ bv y).drop x.length = bv y from by rw [← bv_length x, List.drop_left], List.take_of_length_le (by simp [bv_length])] at this
    exact this
end Go.Proofs.YtcjdlckfbkdibaaDoor
end
section
/- The law VarintReads, walked. -/
namespace Go.Proofs.YtcjdlckfbkdibaaDoor
open Go.RowKit
open Go.Lib (hid)
set_option linter.unusedVariables false

theorem refRead_in (m : List UInt8) (n : Int) (k : Nat) (h : refRead m = (n, k)) : inInt (some m) = if k = 0 then (0, none) else (n, some (m.drop k)) := by
  unfold refRead at h
  unfold inInt
  simp only [Option.getD_some]
  by_cases h0 : (readF m 0 0).1 = 0
  · rw [if_pos h0] at h ⊢
    simp only [Prod.mk.injEq] at h
    rw [if_pos h.2.symm]
  · rw [if_neg h0] at h ⊢
    simp only [Prod.mk.injEq] at h
    obtain ⟨rfl, rfl⟩ := h
    rw [if_neg h0]
    rcases readF_le m 0 0 with h1 | h1
    · exact absurd h1 h0
    · simp only [inTake]
      rw [if_neg (by omega)]
theorem refRead_le (m : List UInt8) (n : Int) (k : Nat) (h : refRead m = (n, k)) : k ≤ m.length ∧ (k = 0 → n = 0) ∧ -9223372036854775808 ≤ n ∧ n ≤ 9223372036854775807 := by
  have hb := inInt_bd (some m)
  have hi := refRead_in m n k h
  by_cases hk : k = 0
  · unfold refRead at h
    by_cases h0 : (readF m 0 0).1 = 0
    · rw [if_pos h0] at h; simp only [Prod.mk.injEq] at h; omega
    · rw [if_neg h0] at h; simp only [Prod.mk.injEq] at h; omega
  · rw [if_neg hk] at hi
    rw [hi] at hb
    refine ⟨?_, fun h => absurd h hk, hb.1, hb.2⟩
    unfold refRead at h
    rcases readF_le m 0 0 with h1 | h1
    · rw [if_pos h1] at h; simp only [Prod.mk.injEq] at h; omega
    · rw [if_neg (by omega)] at h; simp only [Prod.mk.injEq] at h; omega
/-- an In that has nothing to do with a slice -/
theorem slb_upd {w w' : World} {g : Nat} {a : Option Addr} {n c : Nat} {l : List UInt8} (h : SlB w (.slice a n c) l) (hu : Upd (fun k => k = g) w w') (hg : ∀ b off, a = some ⟨b, off, none⟩ → b ≠ g) : SlB w' (.slice a n c) l :=
  hu.slb h (fun b off ha e => hg b off ha e)
theorem below_upd {w w1 w2 : World} {g : Nat} (h : Below w.heap.size w w1) (hu : Upd (fun k => k = g) w1 w2) (hg : w.heap.size ≤ g) : Below w.heap.size w w2 :=
  h.trans (hu.below (B := w.heap.size) h.size (fun k _ e => by omega))
theorem ownsRow_len0 {w : World} {base : Nat} {e : TypeId} {v : Value} {n : Nat} {xs : List Value} {size : Nat} (h : w.ownsRow base e size v n xs) : ∃ a c, v = .slice a n c := by
  rcases h.2 with ⟨rfl, rfl⟩ | ⟨g, cap, cur, rfl, -⟩
  · exact ⟨_, _, rfl⟩
  · exact ⟨_, _, rfl⟩
theorem inInt_none : inInt none = (0, none) := rfl
theorem inBool_none : inBool none = (false, none) := rfl
theorem inBytes_none : inBytes 9 none = ([], none) := rfl
theorem inInts_none : inInts 9 none = ([], none) := rfl
theorem inDone_none : inDone none = false := rfl

end Go.Proofs.YtcjdlckfbkdibaaDoor
end
