/- Joined texts, in this order: VarBoundMath, RefInts, VarOuts. Each one's first remark says what it proves; no condition beyond those that its theorems name. -/
import Derived.Test.YtcjdlckfbkdibaaDoorJLawOrderReplies08
section
/- Plain: lists of numbers, written and read. -/
namespace Go.Proofs.YtcjdlckfbkdibaaDoor
open Go.RowKit
open Go.Lib (hid)
set_option linter.unusedVariables false

def encs : List Int → List UInt8
  | [] => []
  | n :: t => enc (zz n) ++ encs t
theorem encs_append : ∀ (a b : List Int), encs (a ++ b) = encs a ++ encs b
  | [], b => rfl
  | x :: a, b => by rw [List.cons_append, encs, encs, encs_append a b, List.append_assoc]
set_option maxRecDepth 100000 in
theorem inInt_sound (m : List UInt8) (n : Int) (t : List UInt8) (h : inInt (some m) = (n, some t)) : m = enc (zz n) ++ t := by
  unfold inInt at h
  simp only [Option.getD_some] at h
  by_cases h0 : (readF m 0 0).1 = 0
  · rw [if_pos h0] at h; simp at h
  · rw [if_neg h0] at h
    obtain ⟨u, r, e1, e2, e3, e4, e5⟩ := readF_sound m 0 0 (by omega) h0
    simp only [Prod.mk.injEq] at h
    obtain ⟨rfl, h2⟩ := h
    rw [e3, Nat.zero_add, Nat.pow_zero, Nat.mul_one, zz_unzz]
    rw [e2, Nat.zero_add] at h2
    unfold inTake at h2
    have hlen : ¬ m.length < (enc u).length := by rw [e1]; simp
    simp only [hlen, if_false] at h2
    rw [e1] at h2
    simp at h2
    rw [e1, h2]
theorem inIntsF_none : ∀ (n : Nat) (acc : List Int) (s : Option (List UInt8)), (s = none → acc = []) → (inIntsF n acc s).2 = none → (inIntsF n acc s).1 = []
  | 0, acc, s, h, h2 => by rw [inIntsF] at h2 ⊢; exact h h2
  | n + 1, acc, s, h, h2 => by
    rw [inIntsF] at h2 ⊢
    by_cases h0 : (inInt s).2 = none
    · rw [if_pos h0]
    · rw [if_neg h0] at h2 ⊢
      exact inIntsF_none n _ _ (fun e => absurd e h0) h2
theorem inIntsF_some : ∀ (n : Nat) (acc : List Int) (m t : List UInt8) (li : List Int), inIntsF n acc (some m) = (li, some t) → ∃ r, li = acc ++ r ∧ r.length = n ∧ m = encs r ++ t ∧ ∀ x ∈ r, -9223372036854775808 ≤ x ∧ x ≤ 9223372036854775807
  | 0, acc, m, t, li, h => by
    rw [inIntsF] at h
    simp only [Prod.mk.injEq, Option.some.injEq] at h
    obtain ⟨rfl, rfl⟩ := h
    exact ⟨[], by simp, rfl, rfl, by simp⟩
  | n + 1, acc, m, t, li, h => by
    rw [inIntsF] at h
    obtain ⟨x, s, hx⟩ : ∃ x s, inInt (some m) = (x, s) := ⟨_, _, rfl⟩
    have hb := inInt_bd (some m)
    rw [hx] at h hb
    cases s with
    | none => simp at h
    | some m2 =>
      rw [if_neg (by simp)] at h
      obtain ⟨r, rfl, h2, h3, h4⟩ := inIntsF_some n _ m2 t li h
      refine ⟨x :: r, by simp, by simp [h2], ?_, ?_⟩
      · rw [inInt_sound m x m2 hx, encs, h3, List.append_assoc]
      · intro y hy
        rcases List.mem_cons.1 hy with rfl | hy
        · exact hb
        · exact h4 y hy
/-- within bounds, as the law asks -/
theorem inWithin_ok (lo hi : Int) (m : List UInt8) (n : Int) (k : Nat) (h : refRead m = (n, k)) : inWithin lo hi (some m) = if 0 < k ∧ lo ≤ n ∧ n ≤ hi then (n, some (m.drop k)) else (0, none) := by
  unfold inWithin
  rw [refRead_in m n k h]
  by_cases hk : k = 0
  · rw [if_pos hk, if_pos (.inl rfl), if_neg (by omega)]
  · rw [if_neg hk]
    by_cases hb : n < lo ∨ hi < n
    · rw [if_pos (.inr hb), if_neg (by omega)]
    · rw [if_neg (by simp; omega), if_pos (by omega)]
theorem inBytes_ok (hi : Int) (m : List UInt8) (n : Int) (k : Nat) (h : refRead m = (n, k)) : inBytes hi (some m) = if 0 < k ∧ 0 ≤ n ∧ n ≤ hi ∧ n ≤ (m.length : Int) - k then ((m.drop k).take n.toNat, some (m.drop (k + n.toNat))) else ([], none) := by
  have hk := (refRead_le m n k h).1
  unfold inBytes
  rw [inWithin_ok 0 hi m n k h]
  by_cases h1 : 0 < k ∧ 0 ≤ n ∧ n ≤ hi
  · rw [if_pos h1]
    simp only [inTake, List.length_drop, List.drop_drop]
    by_cases h2 : n ≤ (m.length : Int) - k
    · rw [if_neg (by omega), if_pos ⟨h1.1, h1.2.1, h1.2.2, h2⟩]
    · rw [if_pos (by omega), if_neg (by omega)]
  · rw [if_neg h1, if_neg (by omega)]
    rfl
theorem inInts_bad (hi : Int) (s : Option (List UInt8)) (h : (inInts hi s).2 = none) : (inInts hi s).1 = [] := by
  unfold inInts at h ⊢
  exact inIntsF_none _ _ _ (fun _ => rfl) h
theorem inInts_good (hi : Int) (m t : List UInt8) (li : List Int) (n : Int) (k : Nat) (hr : refRead m = (n, k)) (h : inInts hi (some m) = (li, some t)) :
    n = (li.length : Int) ∧ n ≤ hi ∧ m = enc (zz (li.length : Int)) ++ encs li ++ t ∧ ∀ x ∈ li, -9223372036854775808 ≤ x ∧ x ≤ 9223372036854775807 := by
  unfold inInts at h
  rw [inWithin_ok 0 hi m n k hr] at h
  by_cases h1 : 0 < k ∧ 0 ≤ n ∧ n ≤ hi
  · rw [if_pos h1] at h
    obtain ⟨r, e1, e2, e3, e4⟩ := inIntsF_some _ _ _ _ _ h
    simp only [List.nil_append] at e1
    subst e1
    have hn : n = (li.length : Int) := by omega
    have hi2 := refRead_in m n k hr
    rw [if_neg (by omega)] at hi2
    have := inInt_sound m n _ hi2
    refine ⟨hn, h1.2.2, ?_, e4⟩
    rw [← hn, List.append_assoc, ← e3]
    exact this
  · rw [if_neg h1] at h
    simp [inIntsF] at h
end Go.Proofs.YtcjdlckfbkdibaaDoor
end
section
/- Contract: the reference's Ints. -/
namespace Go.Proofs.YtcjdlckfbkdibaaDoor
open Go.RowKit
open Go.Lib (hid)
set_option linter.unusedVariables false

theorem encs_drop (li : List Int) (i : Nat) (x : Int) (h : li.drop i = x :: li.drop (i + 1)) : encs (li.drop i) = enc (zz x) ++ encs (li.drop (i + 1)) := by
  rw [h, encs]

set_option maxRecDepth 100000 in
set_option maxHeartbeats 1000000 in
/-- the reference's bytes of a list of numbers -/
theorem ref_Ints (li : List Int) (hb : Hid (∀ x ∈ li, -9223372036854775808 ≤ x ∧ x ≤ 9223372036854775807)) (a : Option Addr) (n c : Nat) (hn : n = li.length) (hlen : li.length ≤ 1048576) (w : World) (hr : Rd w a (iv li)) (all : List UInt8) (HALL : Hid (all = enc (zz (li.length : Int)) ++ encs li)) :
    Calls Tryd.prog 75 #[.slice a n c] w fun e w' => ∃ v, e = .returned v ∧ w'.ownsRow w.heap.size 5 1 v all.length (bv all) ∧ Below w.heap.size w w' := by
  subst hn
  have HR := hid hr
  clear hr
  go_enter Tryd.func75, Tryd.ntmps75
  go_wp2_with fail
  refine (ref_Int (li.length : Int) (by omega) (by omega) _).mono ?_
  rintro e w1 ⟨v1, rfl, hown1, hb1⟩
  have HO1 := hid hown1
  have HB1 := hid hb1
  have HL1 := hid (enc_len10 (zz (li.length : Int)) (zz_lt _ (by omega) (by omega)))
  clear hown1 hb1
  go_wp2_with fail
  go_loopw [3, 4] (fun v3 v4 wr => ∃ (i : Nat) (m : List UInt8), v4 = .int .i64 i ∧ i ≤ li.length ∧ wr.ownsRow w.heap.size 5 1 v3 m.length (bv m) ∧ Hid (m ++ encs (li.drop i) = all) ∧ Hid (Below w.heap.size w wr) ∧ Hid (m.length ≤ 10 * (i + 1))) (fun _ v4 _ => li.length - (intOf v4).toNat)
  case atStart => exact ⟨0, _, rfl, by omega, HO1.out, hid (by rw [HALL.out]; simp), HB1, hid (by have := HL1.out; omega)⟩
  case round =>
    obtain ⟨i, m, rfl, hi, hown, hm, hbw, hml⟩ := hrel
    by_cases hil : i < li.length
    · obtain ⟨b, off, x, rfl, hcc, -, hd, -, hmem⟩ := (HR.out.below' hbw.out).int i hil
      obtain ⟨hx1, hx2⟩ := hb.out x hmem
      have HD := hid hd
      have HOWN := hid hown
      clear hd hmem hown
      go_wp2_with fail
      refine (ref_Int x hx1 hx2 _).mono ?_
      rintro e w2 ⟨v2, rfl, hown2, hb2⟩
      obtain ⟨q, hq⟩ : ∃ q, q = enc (zz x) := ⟨_, rfl⟩
      rw [← hq] at hown2
      have hq10 : q.length ≤ 10 := by rw [hq]; exact enc_len10 (zz x) (zz_lt x hx1 hx2)
      obtain ⟨g2, c2, rfl⟩ := Joins.ownsRow_form hown2 (by rw [hq]; exact enc_pos _)
      have HG2 := hid (show wr.heap.size ≤ g2 ∧ g2 < w2.heap.size from hown2.lt g2 rfl)
      have hq2 : Hid (Rd w2 (some ⟨g2, 0, none⟩) (bv q)) := hid (by
        obtain ⟨a', c', e, -, -, h, -⟩ := ownsRow.rd hown2
        simp only [Value.slice.injEq] at e
        rw [e.1]; exact h)
      have HO2 := hid (ownsRow_below HOWN.out hb2)
      have HNE := hid (fun k hk => (HOWN.out.lt k hk).2)
      have HB2 := hid (Below.next hbw.out hb2)
      have HM : Hid (m ++ q ++ encs (li.drop (i + 1)) = all) := hid (by rw [hq, List.append_assoc, ← encs_drop li i x HD.out]; exact hm.out)
      have HML := hid (show m.length + q.length ≤ 10 * (i + 1 + 1) by have := hml.out; omega)
      clear hown2 hb2 hq
      go_wp2_with fail
      go_loopw [3, 6] (fun v3 v6 w3 => ∃ (k : Nat) (m3 : List UInt8), v6 = .int .i64 k ∧ k ≤ q.length ∧ w3.ownsRow w.heap.size 5 1 v3 m3.length (bv m3) ∧ Hid (m3 = m ++ q.take k) ∧ Hid (Below w.heap.size w w3) ∧ Hid (Rd w3 (some ⟨g2, 0, none⟩) (bv q)) ∧ Hid (v3.ownBlock ≠ some g2) ∧ Hid (g2 < w3.heap.size)) (fun _ v6 _ => q.length - (intOf v6).toNat)
      case atStart => exact ⟨0, m, rfl, by omega, HO2.out, hid (by simp), HB2, hq2, hid (fun h => by have := HNE.out _ h; have := HG2.out.1; omega), hid HG2.out.2⟩
      case round =>
        obtain ⟨k, m3, rfl, hk, hown3, hm3, hbw3, hq3, hne3, hg3⟩ := hrel
        by_cases hkq : k < q.length
        · obtain ⟨b', off', y, e', hcc', -, -, htk⟩ := hq3.out.byte k hkq
          simp only [Option.some.injEq, Addr.mk.injEq, and_true] at e'
          obtain ⟨rfl, rfl⟩ := e'
          rw [Nat.zero_add] at hcc'
          have HTK := hid htk
          have HO3 := hid hown3
          have hm3l : m3.length ≤ 10485790 := by
            have := HML.out
            rw [hm3.out]; simp; omega
          have hsz3 := hbw3.out.size
          clear htk hown3
          go_wp2_with (at_builtin; refine wpList_append1w T_bytes _ rfl _ _ #[.int .u8 (y.toNat : Int)] rfl w.heap.size _ _ _ rfl HO3.out rfl rfl ?c1 ?c2 hsz3 ?_)
          case c1 => rfl
          case c2 => omega
          intro v' w4 hown4 hgrow hne hwh
          have hu := Upd.of_grown hgrow
          have HQ4 := hid (hu.rd hq3.out (fun b off e h => by simp at e; obtain ⟨rfl, -⟩ := e; exact hne3.out h))
          have HB4 := hid (hbw3.out.trans (hu.below (B := w.heap.size) hsz3 (fun k _ h => (HO3.out.lt k h).1)))
          have HNE4 := hid (show v'.ownBlock ≠ some g2 from fun h => by rcases hwh _ h with h | h; exact hne3.out h; have := hg3.out; omega)
          have HG4 := hid (Nat.lt_of_lt_of_le hg3.out hu.size)
          have HO4 : Hid (w4.ownsRow w.heap.size 5 1 v' (m3 ++ [y]).length (bv (m3 ++ [y]))) := hid (by rw [bv_append, bv_one]; simpa using hown4)
          clear hown4 hgrow hwh hu
          go_wp2_with fail
          go_roundw
          case rel => exact ⟨k + 1, m3 ++ [y], by go_num, by omega, HO4.out, hid (by rw [hm3.out, HTK.out, List.append_assoc]), HB4, HQ4, HNE4, HG4⟩
          case measure => simp [intOf]; omega
        · have HM3 := hid (show m3 = m ++ q by rw [hm3.out, List.take_of_length_le (by omega)])
          have HO3 := hid hown3
          clear hm3 hown3
          go_wp2_with fail
          go_roundw
          case rel => exact ⟨i + 1, m3, by go_num, by omega, HO3.out, hid (by rw [HM3.out]; exact HM.out), hbw3, hid (by rw [HM3.out]; simpa using HML.out)⟩
          case measure => simp [intOf]; omega
    · have hm2 := hm.out
      rw [List.drop_of_length_le (by omega), encs, List.append_nil] at hm2
      subst hm2
      have HOWN := hid hown
      clear hm hown
      go_wp2_with fail
      go_ret
      exact ⟨_, rfl, HOWN.out, hbw.out⟩
end Go.Proofs.YtcjdlckfbkdibaaDoor
end
section
/- Contracts: Out.Bytes, Out.Ints. -/
namespace Go.Proofs.YtcjdlckfbkdibaaDoor
open Go.RowKit
open Go.Lib (hid)
set_option linter.unusedVariables false

set_option maxRecDepth 100000 in
theorem out_Bytes (lb : List UInt8) (a : Option Addr) (n c : Nat) (hn : n = lb.length) (hlb : lb.length ≤ 40000) (g : Nat) (v : Value) (l : List UInt8) (w : World) (h : OutIs w g v l) (hl : l.length ≤ 900000) (hs : SlB w (.slice a n c) lb)
    (hub : Hid (0 < lb.length → ∀ b off, a = some ⟨b, off, none⟩ → b ≠ g ∧ v.ownBlock ≠ some b)) (all : List UInt8) (hall : Hid (all = l ++ enc (zz (lb.length : Int)) ++ lb)) :
    Calls Tryd.prog 91 #[.pointer (some ⟨g, 0, none⟩), .slice a n c] w fun e w' => ∃ v', e = .returned (.pointer (some ⟨g, 0, none⟩)) ∧ OutIs w' g v' all ∧ OutStep g v v' w w' := by
  subst hn
  have H := hid h
  have HS := hid hs
  clear h hs
  go_enter Tryd.func91, Tryd.ntmps91
  go_wp2_with fail
  refine (var_Out_Int (lb.length : Int) (by omega) (by omega) g v l w H.out (by omega)).mono ?_
  rintro e w1 ⟨v1, rfl, ho1, hs1, -⟩
  have HS1 := hid hs1
  have HO1 := hid ho1
  have hsl : SlB w1 (.slice a lb.length c) lb := by
    by_cases h0 : 0 < lb.length
    · exact hs1.upd.slb HS.out (fun b off ha hS => by obtain ⟨n1, n2⟩ := hub.out h0 b off ha; rcases hS with h | h; exact n1 h; exact n2 h)
    · obtain ⟨a', c', e, q1, -, q3⟩ := HS.out
      have : lb = [] := List.eq_nil_of_length_eq_zero (by omega)
      subst this
      exact ⟨a', c', e, q1, Rd.nil _ _, q3⟩
  obtain ⟨a', c', e, -, hrd, hle, -, hnil⟩ := hsl
  simp only [Value.slice.injEq] at e
  obtain ⟨rfl, -, rfl⟩ := e
  have HRD := hid hrd
  have HNIL := hid hnil
  have hl10 := enc_len10 (zz (lb.length : Int)) (zz_lt _ (by omega) (by omega))
  have hm : (l ++ enc (zz (lb.length : Int))).length ≤ 900010 := by rw [List.length_append]; omega
  obtain ⟨m, hmm⟩ : ∃ m, m = l ++ enc (zz (lb.length : Int)) := ⟨_, rfl⟩
  rw [← hmm] at hm HO1
  have HM := hid hmm
  have hc1 : w1.cell? ⟨g, 0, none⟩ = some v1 := by rw [HO1.out.blk.cell]; rfl
  clear hs1 ho1 hrd hle hnil hmm hl10
  go_wp2_with (at_builtin; refine wpList_appendNw T_bytes _ rfl _ _ rfl 0 _ _ _ rfl HO1.out.own _ _ _ (bv lb) rfl ?c1 (fun _ h => HNIL.out h) HRD.out (bv_oneCell lb) ?c2 (Nat.zero_le _) ?_)
  case c1 => simp [bv_length]
  case c2 => omega
  intro v2 w2 hown2 hgrow hnl hwh
  have hu2 := Upd.of_grown hgrow
  obtain ⟨a2, c2, rfl⟩ := ownsRow_len0 hown2
  have hb2 : Blk w2 g #[v1] := HO1.out.blk.upd hu2 HO1.out.ne
  have hf : w2.frozen? ⟨g, 0, none⟩ = false := hb2.unfrozen 0
  have hc2 : w2.cell? ⟨g, 0, none⟩ = some v1 := by rw [hb2.cell]; rfl
  have HO2 := hid (out_stored HO1.out (Below.refl _ _) (m := all) (by rw [hall.out, ← HM.out]; simpa [bv_append] using hown2) hu2 hwh)
  have HST := hid (HS1.out.trans HO2.out.2)
  clear hown2 hgrow hnl hwh hu2 hb2 hc1
  go_wp2_with fail
  go_ret
  exact ⟨_, rfl, HO2.out.1, HST.out⟩

set_option maxRecDepth 100000 in
set_option maxHeartbeats 800000 in
theorem out_Ints (li : List Int) (hbd : Hid (∀ x ∈ li, -9223372036854775808 ≤ x ∧ x ≤ 9223372036854775807)) (a : Option Addr) (n c : Nat) (hn : n = li.length) (hli : li.length ≤ 10000) (g : Nat) (v : Value) (l : List UInt8) (w : World) (h : OutIs w g v l) (hl : l.length ≤ 900000) (hs : Rd w a (iv li))
    (hub : Hid (0 < li.length → ∀ b off, a = some ⟨b, off, none⟩ → b ≠ g ∧ v.ownBlock ≠ some b)) (all : List UInt8) (hall : Hid (all = l ++ enc (zz (li.length : Int)) ++ encs li)) :
    Calls Tryd.prog 73 #[.pointer (some ⟨g, 0, none⟩), .slice a n c] w fun e w' => ∃ v', e = .returned (.pointer (some ⟨g, 0, none⟩)) ∧ OutIs w' g v' all ∧ OutStep g v v' w w' := by
  subst hn
  have H := hid h
  have HS := hid hs
  clear h hs
  go_enter Tryd.func73, Tryd.ntmps73
  go_wp2_with fail
  refine (var_Out_Int (li.length : Int) (by omega) (by omega) g v l w H.out (by omega)).mono ?_
  rintro e w1 ⟨v1, rfl, ho1, hs1, -⟩
  have HS1 := hid hs1
  have HO1 := hid ho1
  have hl10 := enc_len10 (zz (li.length : Int)) (zz_lt _ (by omega) (by omega))
  have HM1 := hid (show (l ++ enc (zz (li.length : Int))).length ≤ l.length + 10 by rw [List.length_append]; omega)
  clear ho1 hs1 hl10
  go_wp2_with fail
  go_loopw [13] (fun v13 wr => ∃ (i : Nat) (v' : Value) (m : List UInt8), v13 = .int .i64 i ∧ i ≤ li.length ∧ Hid (OutIs wr g v' m) ∧ Hid (OutStep g v v' w wr) ∧ Hid (m ++ encs (li.drop i) = all) ∧ Hid (m.length ≤ l.length + 10 * (i + 1))) (fun v13 _ => li.length - (intOf v13).toNat)
  case atStart => exact ⟨0, v1, _, rfl, by omega, HO1, HS1, hid (by rw [hall.out]; simp), hid (by have := HM1.out; omega)⟩
  case round =>
    obtain ⟨i, v', m, rfl, hi, ho, hst, hm, hml⟩ := hrel
    by_cases hil : i < li.length
    · obtain ⟨b, off, x, e, hcc, -, hd, -, hmem⟩ := (hst.out.upd.rd HS.out (fun b off ha hS => by obtain ⟨n1, n2⟩ := hub.out (by omega) b off ha; rcases hS with h | h; exact n1 h; exact n2 h)).int i hil
      obtain ⟨hx1, hx2⟩ := hbd.out x hmem
      have HD := hid hd
      subst e
      have hxl := enc_len10 (zz x) (zz_lt x hx1 hx2)
      have HXL := hid hxl
      clear hd hmem hxl
      go_wp2_with fail
      refine (var_Out_Int x hx1 hx2 g v' m wr ho.out (by have := hml.out; omega)).mono ?_
      rintro e w2 ⟨v2, rfl, ho2, hs2, -⟩
      have HO2 := hid ho2
      have HS2 := hid (hst.out.trans hs2)
      clear ho2 hs2
      go_wp2_with fail
      go_roundw
      case rel => exact ⟨i + 1, v2, _, by go_num, by omega, HO2, HS2, hid (by rw [List.append_assoc, ← encs_drop li i x HD.out]; exact hm.out), hid (by have := hml.out; have := HXL.out; rw [List.length_append]; omega)⟩
      case measure => simp [intOf]; omega
    · have hm2 := hm.out
      rw [List.drop_of_length_le (by omega), encs, List.append_nil] at hm2
      subst hm2
      clear hm
      go_wp2_with fail
      go_ret
      exact ⟨_, rfl, ho.out, hst.out⟩

theorem encs_le : ∀ (li : List Int), (∀ x ∈ li, -9223372036854775808 ≤ x ∧ x ≤ 9223372036854775807) → (encs li).length ≤ 10 * li.length
  | [], _ => by simp [encs]
  | x :: t, h => by
    have := encs_le t (fun y hy => h y (by simp [hy]))
    have hx := h x (by simp)
    have := enc_len10 (zz x) (zz_lt x hx.1 hx.2)
    rw [encs]; simp; omega
theorem inIntsF_encs : ∀ (li acc : List Int) (t : List UInt8), (∀ x ∈ li, -9223372036854775808 ≤ x ∧ x ≤ 9223372036854775807) → inIntsF li.length acc (some (encs li ++ t)) = (acc ++ li, some t)
  | [], acc, t, _ => by simp [inIntsF, encs]
  | x :: r, acc, t, h => by
    have hx := h x (by simp)
    rw [List.length_cons, inIntsF, encs, List.append_assoc, inInt_enc x hx.1 hx.2, if_neg (by simp), inIntsF_encs r _ t (fun y hy => h y (by simp [hy]))]
    simp
theorem inWithin_enc (hi n : Int) (h0 : 0 ≤ n) (h1 : n ≤ hi) (h2 : n ≤ 9223372036854775807) (t : List UInt8) : inWithin 0 hi (some (enc (zz n) ++ t)) = (n, some t) := by
  unfold inWithin
  rw [inInt_enc n (by omega) h2, if_neg (by simp; omega)]
theorem inBytes_enc (hi : Int) (l t : List UInt8) (h1 : (l.length : Int) ≤ hi) (h2 : l.length ≤ 1000) : inBytes hi (some (enc (zz (l.length : Int)) ++ (l ++ t))) = (l, some t) := by
  unfold inBytes
  rw [inWithin_enc hi _ (by omega) h1 (by omega)]
  simp [inTake]
theorem inInts_enc (hi : Int) (li : List Int) (h : ∀ x ∈ li, -9223372036854775808 ≤ x ∧ x ≤ 9223372036854775807) (h1 : (li.length : Int) ≤ hi) (h2 : li.length ≤ 1000) : inInts hi (some (enc (zz (li.length : Int)) ++ encs li)) = (li, some []) := by
  unfold inInts
  rw [inWithin_enc hi _ (by omega) h1 (by omega)]
  have := inIntsF_encs li [] [] h
  simpa using this
end Go.Proofs.YtcjdlckfbkdibaaDoor
end
