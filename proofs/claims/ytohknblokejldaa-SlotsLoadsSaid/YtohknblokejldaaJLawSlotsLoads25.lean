/- Joined texts, in this order: SlotsBytesLaw, SealTurn, SealTurn2, SealPartsTurn. Each one's first remark says what it proves; no condition beyond those that its theorems name. -/
import Derived.Test.YtohknblokejldaaJLawSlotsLoads23
import Derived.Test.YtohknblokejldaaJLawSlotsLoads24
import Derived.Test.YtohknblokejldaaJLawSlotsLoads09
import Derived.Test.YtohknblokejldaaJLawSlotsLoads11
import Derived.Test.YtohknblokejldaaJLawSlotsLoads22
import Derived.StillTailTactics
section
/- The law SlotsBytes, walked. -/
namespace Go.Proofs.Ytohknblokejldaa
open Go.RowKit Go.ChangeShapes Go.WideShapes Go.Deep Go.Joins
open Go.Lib (hid)
set_option linter.unusedVariables false

set_option maxRecDepth 100000 in
theorem open_sliE {H : Type} {enc : TypeId × Value → H} {w : World} {n : Nat} {v : Value} {y : DataW H × List MemPlace} (t4 : DataW.trod enc Try.prog w 0 (fun _ => true) true n 22 [v] = some y) : ∃ l : List Int, SlI w v l ∧ ∀ x ∈ l, (Lit.int .i64 x).wf = true := by
  have hrow : ∃ (a : Option Addr) (len cap : Nat) (zs : List Int), v = .slice a len cap ∧ ((a = none ∧ len = 0 ∧ cap = 0 ∧ zs = []) ∨
      ∃ x, a = some x ∧ len ≤ cap ∧ cap ≤ maxLen ∧ zs.length = cap ∧ (∀ i, i < zs.length → w.cell? (x.add i) = some (.int .i64 (zs.getD i 0))) ∧ ∀ n ∈ zs, (Lit.int .i64 n).wf = true) := by
    rcases open_ints Try.underlying22 Try.underlying3 (by kernel_rfl) t4 with ⟨hcs, _⟩ | ⟨x, l, c, zs, hcs, _, hl, hm, hz, _, hcell, hwz⟩
    · simp at hcs
      exact ⟨none, 0, 0, [], hcs, .inl ⟨rfl, rfl, rfl, rfl⟩⟩
    · simp at hcs
      exact ⟨some x, l, c, zs, hcs, .inr ⟨_, rfl, hl, hm, by simpa using hz, hcell, hwz⟩⟩
  obtain ⟨la, len, lc, zs, rfl, hr⟩ := hrow
  obtain ⟨l, -, h, hw⟩ := sli_of_row hr
  exact ⟨l, h, hw⟩
set_option maxRecDepth 100000 in
theorem open_root {H : Type} {enc : TypeId × Value → H} {w : World} {b0 : Nat} {d0 : DataW H} {p0 : List MemPlace} {v0 : Value} (ok0 : Value.okWide Try.prog w .any b0 24 v0) (k0 : DataW.Trod enc Try.prog w 0 (fun _ => true) true 24 v0 d0 p0) :
    ∃ e v l, v0 = .agg #[.int .i64 e, v] ∧ SlI w v l ∧ (Lit.int .i64 e).wf = true ∧ ∀ x ∈ l, (Lit.int .i64 x).wf = true := by
  obtain ⟨x0, v, y0, y1, n, rfl, -, -, t0, t1⟩ := open_agg2 Try.underlying24 (by kernel_rfl) (by kernel_rfl) ok0 k0
  obtain ⟨e, e0, -, he⟩ := DataW.trod_int Try.underlying3 t0
  simp only [List.cons.injEq, and_true] at e0
  subst e0
  obtain ⟨l, hl, hw⟩ := open_sliE t1
  exact ⟨e, v, l, rfl, hl, he, hw⟩
set_option maxRecDepth 100000 in
set_option maxHeartbeats 8000000 in
theorem law06_Bytes (e : Int) (l : List Int) (v : Value) (size : Int) (w : World) (hs : SlI w v l) (hz1 : -9223372036854775808 ≤ size) (hz2 : size ≤ 9223372036854775807) (hl : l.length ≤ 100) (hsz : size ≤ 5000 ∨ 131072 < size) :
    Calls Try.prog 3 #[.agg #[.int .i64 e, v], .int .i64 size] w fun en w' => en = .returned (.bool true) ∧ Below w.heap.size w w' := by
  have HS0 := hid hs
  obtain ⟨a, c, rfl, -⟩ := hs
  obtain ⟨wb, hwb⟩ : ∃ wb, wb = w.alloc (.cells #[.int .i64 e, .slice a l.length c] 24) := ⟨_, rfl⟩
  have HWB := hid hwb
  have HKB : Hid (Below w.heap.size w wb) := hid (by rw [hwb]; exact Below.new _ _)
  have HBX : Hid (Blk wb w.heap.size #[.int .i64 e, .slice a l.length c]) := hid (by rw [hwb]; exact Blk.new _ _ _)
  have HS := hid (HS0.out.below HKB.out)
  have hli : (l.length : Int) ≤ 100 := by omega
  obtain ⟨b, hb⟩ : ∃ b, rightR e l = b := ⟨_, rfl⟩
  obtain ⟨r, er, hr⟩ : ∃ r er, outB e l size = (r, er) := ⟨_, _, rfl⟩
  have HB := hid hb
  have HR := hid hr
  obtain ⟨hx0, hx1, -⟩ := HBX.out.c2
  have hee : (e == e) = true := by simp
  have hsz2 : size ≤ 5000 ∨ (5000 < size ∧ ¬ size ≤ 131072) := by omega
  have hrl : r.length ≤ 70000 := by
    unfold outB at hr
    split at hr
    · cases hbr : bytesR e l size with
      | none => rw [hbr] at hr; simp only [Prod.mk.injEq] at hr; rw [← hr.1]; simp
      | some bb =>
        rw [hbr] at hr; simp only [Prod.mk.injEq] at hr
        have := bytesR_form hbr
        rw [← hr.1]; omega
    · simp only [Prod.mk.injEq] at hr; rw [← hr.1]; simp
  clear hwb hb hr hl hsz
  have main : ∀ (P : Prop), P → P := fun _ h => h
  rcases hsz2 with hg | ⟨hg, hg2⟩
  all_goals
    go_enter Try.func3, Try.ntmps3
    go_wp2_with fail
    rw [← HWB.out]
    refine (ref06_Right e l _ wb HS.out b HB).mono ?_
    rintro en w' ⟨rfl, rfl⟩
    go_wp2_with fail
    refine (slots_Bytes e l _ size wb HS.out hz1 hz2 r er HR).mono ?_
    rintro en w1 ⟨v1, rfl, hown1, hb1⟩
    have HV1 := hid (ownsRow.slb hown1 (by omega))
    obtain ⟨q1, d1, rfl, -⟩ := ownsRow.rd hown1
    have HB1 := hid hb1
    clear hx0 hx1 hown1
    obtain ⟨hx0, hx1, -⟩ := (HBX.out.below hb1).c2
    clear hb1
    go_wp2_with fail
    refine (slots_Right e l _ w1 (HS.out.below HB1.out) b HB).mono ?_
    rintro en w2 ⟨rfl, hb2⟩
    have HB2 := hid (Below.next HB1.out hb2)
    have HK2 := hid hb2
    clear hx0 hx1
    obtain ⟨hx0, hx1, -⟩ := (HBX.out.below HB2.out).c2
    clear hb2
    go_wp2_with fail
    refine (slots_Equal e e l l _ _ w2 (HS.out.below HB2.out) (HS.out.below HB2.out) true true hee (hid (by simp))).mono ?_
    rintro en w3 ⟨rfl, hb3⟩
    have HB3 := hid (Below.next HB2.out hb3)
    have HK3 := hid (Below.next HK2.out hb3)
    clear hx0 hx1
    obtain ⟨hx0, hx1, -⟩ := (HBX.out.below HB3.out).c2
    clear hb3
    cases b with
    | false =>
      have h := HR.out
      unfold outB at h
      rw [if_neg (by rw [HB.out]; simp)] at h
      simp only [Prod.mk.injEq] at h
      obtain ⟨rfl, rfl⟩ := h
      go_wp2_with fail
      refine (law06_awake w3).mono ?_
      rintro en w4 ⟨rfl, hb4⟩
      have HB4 := hid (Below.next HKB.out (Below.next HB3.out hb4))
      clear hb4
      go_wp2_with fail
      go_ret
      exact ⟨rfl, HB4.out⟩
    | true =>
      have h := HR.out
      unfold outB at h
      rw [if_pos HB.out] at h
      obtain ⟨g1, g2, -, -⟩ := right_bd HB.out
      obtain ⟨n, hn⟩ : ∃ n : Nat, e = (n : Int) := ⟨e.toNat, by omega⟩
      subst hn
      obtain ⟨bo, hbo⟩ : ∃ bo, bytesR (n : Int) l size = bo := ⟨_, rfl⟩
      rw [hbo] at h
      have HBO := hid hbo
      have H := hid h
      clear hbo h
      go_wp2_with fail
      refine (ref06_Bytes n l _ size w3 (HS.out.below HB3.out) hz1 hz2 HB.out bo HBO).mono ?_
      rintro en w4 ⟨v4, rfl, hown4, hb4⟩
      have HB4 := hid (Below.next HB3.out hb4)
      have HK4 := hid (Below.next HK3.out hb4)
      cases bo with
      | none =>
        have h := H.out
        simp only [Prod.mk.injEq] at h
        obtain ⟨rfl, rfl⟩ := h
        clear hown4 hb4 hx0 hx1
        go_wp2_with fail
        refine (law06_awake w4).mono ?_
        rintro en w5 ⟨rfl, hb5⟩
        have HB5 := hid (Below.next HKB.out (Below.next HB4.out hb5))
        clear hb5
        go_wp2_with fail
        go_ret
        exact ⟨rfl, HB5.out⟩
      | some bb =>
        have h := H.out
        simp only [Prod.mk.injEq] at h
        obtain ⟨rfl, rfl⟩ := h
        simp only [Option.getD_some] at hown4
        have HV4 := hid (ownsRow.slb hown4 (by omega))
        obtain ⟨q4, d4, rfl, -⟩ := ownsRow.rd hown4
        have HPB := hid (parse_bytes HB.out HBO.out).1
        clear hown4 hb4 hx0 hx1
        go_wp2_with fail
        refine (slots_Parse bb _ w4 (HV1.out.below HK4.out) (by omega) _ HPB).mono ?_
        rintro en w5 ⟨v5, rfl, hs5, hb5, -⟩
        simp only [Option.getD_some] at hs5
        obtain ⟨q5, d5, rfl, -⟩ := id hs5
        simp only [Option.getD_some, Option.isSome_some]
        have HS5 := hid hs5
        have HB5 := hid (Below.next HB4.out hb5)
        have HK5 := hid (Below.next HK4.out hb5)
        have HV5 := hid (HV4.out.below hb5)
        clear hs5 hb5
        go_upto_region 13 with fail
        obtain ⟨w6, hw6⟩ : ∃ w6, w6 = w5.alloc (.cells #[.int .i64 (n : Int), .slice q5 l.length d5] 24) := ⟨_, rfl⟩
        rw [← hw6]
        have hb6 : Below w5.heap.size w5 w6 := by rw [hw6]; exact Below.new _ _
        have hx6 : Blk w6 w5.heap.size #[.int .i64 (n : Int), .slice q5 l.length d5] := by rw [hw6]; exact Blk.new _ _ _
        have HB6 := hid (Below.next HB5.out hb6)
        have HS6 := hid (HS5.out.below hb6)
        obtain ⟨hy0, hy1, -⟩ := hx6.c2
        obtain ⟨hx0, hx1, -⟩ := (HBX.out.below HB6.out).c2
        have hst1 := ((HV1.out.below HK5.out).below hb6).str w6 (Below.refl _ _)
        have hst2 := (HV5.out.below hb6).str w6 (Below.refl _ _)
        clear hw6 hb6 hx6
        go_wp2_with fail
        refine (slots_Equal (n : Int) (n : Int) l l _ _ w6 HS6.out (HS.out.below HB6.out) true true hee (hid (by simp))).mono ?_
        rintro en w7 ⟨rfl, hb7⟩
        have HB7 := hid (Below.next HB6.out hb7)
        clear hb7 hx0 hx1 hy0 hy1 hst1 hst2
        go_wp2_with fail
        refine (law06_awake w7).mono ?_
        rintro en w8 ⟨rfl, hb8⟩
        have HB8 := hid (Below.next HKB.out (Below.next HB7.out hb8))
        clear hb8
        go_wp2_with fail
        go_ret
        exact ⟨rfl, HB8.out⟩
set_option maxRecDepth 100000 in
set_option maxHeartbeats 2000000 in
theorem SlotsBytes_walk {H : Type} {enc : TypeId × Value → H} {b0 : Nat} {d0 : DataW H} {p0 : List MemPlace} (v0 : Value) (size : Int) (w : World) (ok0 : Value.okWide Try.prog w .any b0 24 v0) (k0 : DataW.Trod enc Try.prog w 0 (fun _ => true) true 24 v0 d0 p0)
    (wz : (Lit.int .i64 size).wf = true) :
    Calls Try.prog 3 #[v0, .int .i64 size] w fun e w' => e = .returned (.bool true) ∧ Below w.heap.size w w' := by
  obtain ⟨e, v, l, rfl, hl, -, -⟩ := open_root ok0 k0
  obtain ⟨z1, z2⟩ := wf64 wz
  clear ok0 k0 wz
  by_cases h : l.length ≤ 100 ∧ (size ≤ 5000 ∨ 131072 < size)
  · exact law06_Bytes e l v size w hl z1 z2 h.1 h.2
  · obtain ⟨a, c, rfl, -, g1, g2, -⟩ := hl
    have h63 : l.length ≤ 9223372036854775807 := by omega
    have HK : Hid (∀ x, Below w.heap.size w (w.alloc x)) := hid fun x => Below.new w x
    clear g1 g2
    by_cases h1 : 100 < l.length
    · have h2 : (100 : Int) < (l.length : Int) := by omega
      clear h h1
      go_enter Try.func3, Try.ntmps3
      go_wp2_with fail
      refine (law06_awake _).mono ?_
      rintro en w4 ⟨rfl, hb4⟩
      have HB4 := hid (Below.next (HK.out _) hb4)
      clear hb4
      go_wp2_with fail
      go_ret
      exact ⟨rfl, HB4.out⟩
    · have h2 : (l.length : Int) ≤ 100 := by omega
      have h3 : 5000 < size := by omega
      have h4 : size ≤ 131072 := by omega
      clear h h1
      go_enter Try.func3, Try.ntmps3
      go_wp2_with fail
      refine (law06_awake _).mono ?_
      rintro en w4 ⟨rfl, hb4⟩
      have HB4 := hid (Below.next (HK.out _) hb4)
      clear hb4
      go_wp2_with fail
      go_ret
      exact ⟨rfl, HB4.out⟩
end Go.Proofs.Ytohknblokejldaa
end
section
/- Plain: a sum of bytes of which one is turned differs. -/
namespace Go.Proofs.Ytohknblokejldaa
set_option linter.unusedVariables false

theorem bit1_zero (z : Nat) (hz : z < 4294967296) (h : bit1 z = 0) : z = 0 := by
  unfold bit1 at h
  by_cases h1 : z % 2 = 1
  · rw [if_pos h1] at h
    have e : z / 2 = 3988292384 := by
      have h2 : (z / 2 ^^^ 3988292384) ^^^ 3988292384 = 0 ^^^ 3988292384 := by rw [h]
      rwa [Nat.xor_assoc, Nat.xor_self, Nat.xor_zero, Nat.zero_xor] at h2
    omega
  · rw [if_neg h1] at h; omega
theorem bit1_lt32 (x : Nat) (hx : x < 4294967296) : bit1 x < 4294967296 := by
  unfold bit1
  split
  · exact Nat.xor_lt_two_pow (n := 32) (by omega) (by omega)
  · omega
theorem xor_ne (x y : Nat) (h : x ^^^ y = 0) : x = y := by
  have h2 : (x ^^^ y) ^^^ y = 0 ^^^ y := by rw [h]
  rwa [Nat.xor_assoc, Nat.xor_self, Nat.xor_zero, Nat.zero_xor] at h2
theorem bit1_inj (x y : Nat) (hx : x < 4294967296) (hy : y < 4294967296) (h : bit1 x = bit1 y) : x = y := by
  apply xor_ne
  apply bit1_zero _ (Nat.xor_lt_two_pow (n := 32) hx hy)
  rw [bit1_xor, h, Nat.xor_self]
theorem nib_lt32 (x : Nat) (hx : x < 4294967296) : nib x < 4294967296 := by
  rw [nib_bits]; exact bit1_lt32 _ (bit1_lt32 _ (bit1_lt32 _ (bit1_lt32 _ hx)))
theorem nib_inj (x y : Nat) (hx : x < 4294967296) (hy : y < 4294967296) (h : nib x = nib y) : x = y := by
  rw [nib_bits, nib_bits] at h
  exact bit1_inj _ _ hx hy (bit1_inj _ _ (bit1_lt32 _ hx) (bit1_lt32 _ hy) (bit1_inj _ _ (bit1_lt32 _ (bit1_lt32 _ hx)) (bit1_lt32 _ (bit1_lt32 _ hy)) (bit1_inj _ _ (bit1_lt32 _ (bit1_lt32 _ (bit1_lt32 _ hx))) (bit1_lt32 _ (bit1_lt32 _ (bit1_lt32 _ hy))) h)))
theorem xorb_lt (x : Nat) (b : UInt8) (hx : x < 4294967296) : x ^^^ b.toNat < 4294967296 := Nat.xor_lt_two_pow (n := 32) hx (by have := b.toNat_lt; omega)
theorem crcStep_lt32 (x : Nat) (b : UInt8) (hx : x < 4294967296) : crcStep x b < 4294967296 := nib_lt32 _ (nib_lt32 _ (xorb_lt x b hx))
theorem crcStep_inj (x y : Nat) (b c : UInt8) (hx : x < 4294967296) (hy : y < 4294967296) (h : crcStep x b = crcStep y c) : x ^^^ b.toNat = y ^^^ c.toNat :=
  nib_inj _ _ (xorb_lt x b hx) (xorb_lt y c hy) (nib_inj _ _ (nib_lt32 _ (xorb_lt x b hx)) (nib_lt32 _ (xorb_lt y c hy)) h)
theorem crcFrom_lt32 : ∀ (l : List UInt8) (x : Nat), x < 4294967296 → crcFrom x l < 4294967296
  | [], x, h => h
  | b :: t, x, h => crcFrom_lt32 t _ (crcStep_lt32 x b h)
theorem crcFrom_inj : ∀ (l : List UInt8) (x y : Nat), x < 4294967296 → y < 4294967296 → crcFrom x l = crcFrom y l → x = y
  | [], x, y, _, _, h => h
  | b :: t, x, y, hx, hy, h => by
    have h2 := crcFrom_inj t _ _ (crcStep_lt32 x b hx) (crcStep_lt32 y b hy) h
    have h3 := crcStep_inj x y b b hx hy h2
    have h4 : (x ^^^ b.toNat) ^^^ b.toNat = (y ^^^ b.toNat) ^^^ b.toNat := by rw [h3]
    rwa [Nat.xor_assoc, Nat.xor_self, Nat.xor_zero, Nat.xor_assoc, Nat.xor_self, Nat.xor_zero] at h4
theorem crcFrom_append (x : Nat) (a b : List UInt8) : crcFrom x (a ++ b) = crcFrom (crcFrom x a) b := List.foldl_append
/-- one byte that is turned turns the sum -/
theorem crc_turned (p t : List UInt8) (b c : UInt8) (h : crc (p ++ b :: t) = crc (p ++ c :: t)) : b = c := by
  unfold crc at h
  have l1 := crcFrom_lt32 (p ++ b :: t) 4294967295 (by omega)
  have l2 := crcFrom_lt32 (p ++ c :: t) 4294967295 (by omega)
  have h2 : crcFrom 4294967295 (p ++ b :: t) = crcFrom 4294967295 (p ++ c :: t) := by omega
  rw [crcFrom_append, crcFrom_append] at h2
  have l3 := crcFrom_lt32 p 4294967295 (by omega)
  have h3 := crcFrom_inj t _ _ (crcStep_lt32 _ b l3) (crcStep_lt32 _ c l3) h2
  have h4 := crcStep_inj _ _ b c l3 l3 h3
  have h5 : crcFrom 4294967295 p ^^^ (crcFrom 4294967295 p ^^^ b.toNat) = crcFrom 4294967295 p ^^^ (crcFrom 4294967295 p ^^^ c.toNat) := by rw [h4]
  rw [← Nat.xor_assoc, ← Nat.xor_assoc, Nat.xor_self, Nat.zero_xor, Nat.zero_xor] at h5
  exact UInt8.toNat_inj.1 h5
end Go.Proofs.Ytohknblokejldaa
end
section
/- Plain: of fitted bytes of which one is turned there is no part. -/
namespace Go.Proofs.Ytohknblokejldaa
set_option linter.unusedVariables false

theorem lowB_inj (x y : Nat) (hx : x < 4294967296) (hy : y < 4294967296) (h : lowB x 4 = lowB y 4) : x = y := by
  simp only [lowB, List.cons.injEq, and_true] at h
  obtain ⟨h0, h1, h2, h3⟩ := h
  have e0 := congrArg UInt8.toNat h0
  have e1 := congrArg UInt8.toNat h1
  have e2 := congrArg UInt8.toNat h2
  have e3 := congrArg UInt8.toNat h3
  simp at e0 e1 e2 e3
  omega
theorem crc_lt32 (l : List UInt8) : crc l < 4294967296 := by unfold crc; omega
theorem partL_form (l x : List UInt8) (h : partL l = some x) : 6 ≤ l.length ∧ ∃ B, l = B ++ lowB (crc B) 4 := by
  unfold partL at h
  by_cases h0 : 6 ≤ l.length ∧ l.length ≤ 65536 ∧ partN l + 6 ≤ l.length ∧ fitted ((l.drop 2).take (partN l)) l.length = l
  · exact ⟨h0.1, _, h0.2.2.2.symm⟩
  · rw [if_neg h0] at h; simp at h
theorem partL_turned (p t : List UInt8) (b c : UInt8) (x : List UInt8) (h : partL (p ++ b :: t) = some x) (hbc : b ≠ c) : partL (p ++ c :: t) = none := by
  cases h' : partL (p ++ c :: t) with
  | none => rfl
  | some y =>
    exfalso
    obtain ⟨l6, B, hB⟩ := partL_form _ _ h
    obtain ⟨l6', C, hC⟩ := partL_form _ _ h'
    have lB := congrArg List.length hB
    have lC := congrArg List.length hC
    simp only [List.length_append, List.length_cons, lowB_length] at lB lC
    apply hbc
    have b1 : B = (p ++ b :: t).take B.length := by rw [hB]; simp
    have b2 : lowB (crc B) 4 = (p ++ b :: t).drop B.length := by rw [hB]; simp
    have c1 : C = (p ++ c :: t).take B.length := by rw [show B.length = C.length by omega, hC]; simp
    have c2 : lowB (crc C) 4 = (p ++ c :: t).drop B.length := by rw [show B.length = C.length by omega, hC]; simp
    obtain ⟨n, hn⟩ : ∃ n, n = B.length := ⟨_, rfl⟩
    rw [← hn] at b1 b2 c1 c2
    by_cases hp : p.length < n
    · obtain ⟨k, hk⟩ : ∃ k, n = p.length + (k + 1) := ⟨n - p.length - 1, by omega⟩
      rw [hk, List.take_length_add_append, List.take_succ_cons] at b1 c1
      rw [hk, List.drop_length_add_append, List.drop_succ_cons] at b2 c2
      have hs := lowB_inj _ _ (crc_lt32 B) (crc_lt32 C) (b2.trans c2.symm)
      rw [b1, c1] at hs
      exact crc_turned p _ b c hs
    · rw [List.take_append_of_le_length (by omega)] at b1 c1
      have hBC : B = C := b1.trans c1.symm
      rw [← hBC] at hC
      have := hB.trans hC.symm
      simpa using this
end Go.Proofs.Ytohknblokejldaa
end
section
/- The law SealParts, walked where its bytes are fitted ones and a bit is turned. -/
namespace Go.Proofs.Ytohknblokejldaa
open Go.RowKit
open Go.Lib (hid)
set_option linter.unusedVariables false

attribute [local irreducible] crc lowB

theorem Below.next3 {B : Nat} {w w1 w2 : World} (h : Below B w w1) (k : Below w1.heap.size w1 w2) (hB : B ≤ w1.heap.size) : Below B w w2 := h.trans (k.mono hB)
theorem turn_byte (z : UInt8) (j : Nat) (hj : j < 8) : ∃ y : UInt8, bits .xor .u8 (z.toNat : Int) (IntKind.u8.wrap (2 ^ j)) = (y.toNat : Int) ∧ z ≠ y := by
  have key : ∀ m : UInt8, m ≠ 0 → bits .xor .u8 (z.toNat : Int) (m.toNat : Int) = ((z ^^^ m).toNat : Int) ∧ z ≠ z ^^^ m := by
    intro m hm
    refine ⟨?_, fun h => hm ?_⟩
    · show IntKind.u8.wrap ((BitVec.ofInt 8 (z.toNat : Int) ^^^ BitVec.ofInt 8 (m.toNat : Int)).toNat : Int) = _
      have q0 : z.toNat < 256 := z.toNat_lt
      have q1 : m.toNat < 256 := m.toNat_lt
      rw [BitVec.ofInt_natCast, BitVec.ofInt_natCast, BitVec.toNat_xor, BitVec.toNat_ofNat, BitVec.toNat_ofNat, Nat.mod_eq_of_lt (by omega), Nat.mod_eq_of_lt (by omega), UInt8.toNat_xor]
      have q2 : z.toNat ^^^ m.toNat < 256 := Nat.xor_lt_two_pow (n := 8) q0 q1
      rw [IntKind.wrap_u8]
      omega
    · have : z ^^^ z = z ^^^ (z ^^^ m) := by rw [← h]
      rw [← UInt8.xor_assoc, UInt8.xor_self, UInt8.zero_xor] at this
      exact this.symm
  have pw : ∀ j, j < 8 → IntKind.u8.wrap (2 ^ j) = ((UInt8.ofNat (2 ^ j)).toNat : Int) ∧ UInt8.ofNat (2 ^ j) ≠ 0 := by decide
  rw [(pw j hj).1]
  exact ⟨_, key _ (pw j hj).2⟩

end Go.Proofs.Ytohknblokejldaa
end
