/- Joined texts, in this order: VarBoundMath, RefInts. Each one's first remark says what it proves; no condition beyond those that its theorems name. -/
import Derived.Test.YtcjdlckfbkdibaaDoorJLawOrderApart08
section
/- Plain: lists of numbers, written and read. -/
namespace Go.Proofs.YtcjdlckfbkdibaaDoor
open Go.RowKit
open Go.Lib (hid)
set_option linter.unusedVariables false

def encs : List Int → List UInt8
  | [] => []
  | n :: t => enc (zz n) ++ encs t
theorem encs_append : ∀ (a b : List Int), encs (a ++ b) = encs a ++ encs b
  | [], b => rfl
  | x :: a, b => by rw [List.cons_append, encs, encs, encs_append a b, List.append_assoc]
set_option maxRecDepth 100000 in
theorem inInt_sound (m : List UInt8) (n : Int) (t : List UInt8) (h : inInt (some m) = (n, some t)) : m = enc (zz n) ++ t := by
  unfold inInt at h
  simp only [Option.getD_some] at h
  by_cases h0 : (readF m 0 0).1 = 0
  · rw [if_pos h0] at h; simp at h
  · rw [if_neg h0] at h
    obtain ⟨u, r, e1, e2, e3, e4, e5⟩ := readF_sound m 0 0 (by omega) h0
    simp only [Prod.mk.injEq] at h
    obtain ⟨rfl, h2⟩ := h
    rw [e3, Nat.zero_add, Nat.pow_zero, Nat.mul_one, zz_unzz]
    rw [e2, Nat.zero_add] at h2
    unfold inTake at h2
    have hlen : ¬ m.length < (enc u).length := by rw [e1]; simp
    simp only [hlen, if_false] at h2
    rw [e1] at h2
    simp at h2
    rw [e1, h2]
theorem inIntsF_none : ∀ (n : Nat) (acc : List Int) (s : Option (List UInt8)), (s = none → acc = []) → (inIntsF n acc s).2 = none → (inIntsF n acc s).1 = []
  | 0, acc, s, h, h2 => by rw [inIntsF] at h2 ⊢; exact h h2
  | n + 1, acc, s, h, h2 => by
    rw [inIntsF] at h2 ⊢
    by_cases h0 : (inInt s).2 = none
    · rw [if_pos h0]
    · rw [if_neg h0] at h2 ⊢
      exact inIntsF_none n _ _ (fun e => absurd e h0) h2
theorem inIntsF_some : ∀ (n : Nat) (acc : List Int) (m t : List UInt8) (li : List Int), inIntsF n acc (some m) = (li, some t) → ∃ r, li = acc ++ r ∧ r.length = n ∧ m = encs r ++ t ∧ ∀ x ∈ r, -9223372036854775808 ≤ x ∧ x ≤ 9223372036854775807
  | 0, acc, m, t, li, h => by
    rw [inIntsF] at h
    simp only [Prod.mk.injEq, Option.some.injEq] at h
    obtain ⟨rfl, rfl⟩ := h
    exact ⟨[], by simp, rfl, rfl, by simp⟩
  | n + 1, acc, m, t, li, h => by
    rw [inIntsF] at h
    obtain ⟨x, s, hx⟩ : ∃ x s, inInt (some m) = (x, s) := ⟨_, _, rfl⟩
    have hb := inInt_bd (some m)
    rw [hx] at h hb
    cases s with
    | none => simp at h
    | some m2 =>
      rw [if_neg (by simp)] at h
      obtain ⟨r, rfl, h2, h3, h4⟩ := inIntsF_some n _ m2 t li h
      refine ⟨x :: r, by simp, by simp [h2], ?_, ?_⟩
      · rw [inInt_sound m x m2 hx, encs, h3, List.append_assoc]
      · intro y hy
        rcases List.mem_cons.1 hy with rfl | hy
        · exact hb
        · exact h4 y hy
/-- within bounds, as the law asks -/
theorem inWithin_ok (lo hi : Int) (m : List UInt8) (n : Int) (k : Nat) (h : refRead m = (n, k)) : inWithin lo hi (some m) = if 0 < k ∧ lo ≤ n ∧ n ≤ hi then (n, some (m.drop k)) else (0, none) := by
  unfold inWithin
  rw [refRead_in m n k h]
  by_cases hk : k = 0
  · rw [if_pos hk, if_pos (.inl rfl), if_neg (by omega)]
  · rw [if_neg hk]
    by_cases hb : n < lo ∨ hi < n
    · rw [if_pos (.inr hb), if_neg (by omega)]
    · rw [if_neg (by simp; omega), if_pos (by omega)]
theorem inBytes_ok (hi : Int) (m : List UInt8) (n : Int) (k : Nat) (h : refRead m = (n, k)) : inBytes hi (some m) = if 0 < k ∧ 0 ≤ n ∧ n ≤ hi ∧ n ≤ (m.length : Int) - k then ((m.drop k).take n.toNat, some (m.drop (k + n.toNat))) else ([], none) := by
  have hk := (refRead_le m n k h).1
  unfold inBytes
  rw [inWithin_ok 0 hi m n k h]
  by_cases h1 : 0 < k ∧ 0 ≤ n ∧ n ≤ hi
  · rw [if_pos h1]
    simp only [inTake, List.length_drop, List.drop_drop]
    by_cases h2 : n ≤ (m.length : Int) - k
    · rw [if_neg (by omega), if_pos ⟨h1.1, h1.2.1, h1.2.2, h2⟩]
    · rw [if_pos (by omega), if_neg (by omega)]
  · rw [if_neg h1, if_neg (by omega)]
    rfl
theorem inInts_bad (hi : Int) (s : Option (List UInt8)) (h : (inInts hi s).2 = none) : (inInts hi s).1 = [] := by
  unfold inInts at h ⊢
  exact inIntsF_none _ _ _ (fun _ => rfl) h
theorem inInts_good (hi : Int) (m t : List UInt8) (li : List Int) (n : Int) (k : Nat) (hr : refRead m = (n, k)) (h : inInts hi (some m) = (li, some t)) :
    n = (li.length : Int) ∧ n ≤ hi ∧ m = enc (zz (li.length : Int)) ++ encs li ++ t ∧ ∀ x ∈ li, -9223372036854775808 ≤ x ∧ x ≤ 9223372036854775807 := by
  unfold inInts at h
  rw [inWithin_ok 0 hi m n k hr] at h
  by_cases h1 : 0 < k ∧ 0 ≤ n ∧ n ≤ hi
  · rw [if_pos h1] at h
    obtain ⟨r, e1, e2, e3, e4⟩ := inIntsF_some _ _ _ _ _ h
    simp only [List.nil_append] at e1
    subst e1
    have hn : n = (li.length : Int) := by omega
    have hi2 := refRead_in m n k hr
    rw [if_neg (by omega)] at hi2
    have := inInt_sound m n _ hi2
    refine ⟨hn, h1.2.2, ?_, e4⟩
    rw [← hn, List.append_assoc, ← e3]
    exact this
  · rw [if_neg h1] at h
    simp [inIntsF] at h
end Go.Proofs.YtcjdlckfbkdibaaDoor
end
section
/- Contract: the reference's Ints. -/
namespace Go.Proofs.YtcjdlckfbkdibaaDoor
open Go.RowKit
open Go.Lib (hid)
set_option linter.unusedVariables false

theorem encs_drop (li : List Int) (i : Nat) (x : Int) (h : li.drop i = x :: li.drop (i + 1)) : encs (li.drop i) = enc (zz x) ++ encs (li.drop (i + 1)) := by
  rw [h, encs]

set_option maxRecDepth 100000 in
set_option maxHeartbeats 1000000 in
/-- the reference's bytes of a list of numbers -/
theorem ref_Ints (li : List Int) (hb : Hid (∀ x ∈ li, -9223372036854775808 ≤ x ∧ x ≤ 9223372036854775807)) (a : Option Addr) (n c : Nat) (hn : n = li.length) (hlen : li.length ≤ 1048576) (w : World) (hr : Rd w a (iv li)) (all : List UInt8) (HALL : Hid (all = enc (zz (li.length : Int)) ++ encs li)) :
    Calls Tryd.prog 75 #[.slice a n c] w fun e w' => ∃ v, e = .returned v ∧ w'.ownsRow w.heap.size 5 1 v all.length (bv all) ∧ Below w.heap.size w w' := by
  subst hn
  have HR := hid hr
  clear hr
  go_enter Tryd.func75, Tryd.ntmps75
  go_wp2_with fail
  refine (ref_Int (li.length : Int) (by omega) (by omega) _).mono ?_
  rintro e w1 ⟨v1, rfl, hown1, hb1⟩
  have HO1 := hid hown1
  have HB1 := hid hb1
  have HL1 := hid (enc_len10 (zz (li.length : Int)) (zz_lt _ (by omega) (by omega)))
  clear hown1 hb1
  go_wp2_with fail
  go_loopw [3, 4] (fun v3 v4 wr => ∃ (i : Nat) (m : List UInt8), v4 = .int .i64 i ∧ i ≤ li.length ∧ wr.ownsRow w.heap.size 5 1 v3 m.length (bv m) ∧ Hid (m ++ encs (li.drop i) = all) ∧ Hid (Below w.heap.size w wr) ∧ Hid (m.length ≤ 10 * (i + 1))) (fun _ v4 _ => li.length - (intOf v4).toNat)
  case atStart => exact ⟨0, _, rfl, by omega, HO1.out, hid (by rw [HALL.out]; simp), HB1, hid (by have := HL1.out; omega)⟩
  case round =>
    obtain ⟨i, m, rfl, hi, hown, hm, hbw, hml⟩ := hrel
    by_cases hil : i < li.length
    · obtain ⟨b, off, x, rfl, hcc, -, hd, -, hmem⟩ := (HR.out.below' hbw.out).int i hil
      obtain ⟨hx1, hx2⟩ := hb.out x hmem
      have HD := hid hd
      have HOWN := hid hown
      clear hd hmem hown
      go_wp2_with fail
      refine (ref_Int x hx1 hx2 _).mono ?_
      rintro e w2 ⟨v2, rfl, hown2, hb2⟩
      obtain ⟨q, hq⟩ : ∃ q, q = enc (zz x) := ⟨_, rfl⟩
      rw [← hq] at hown2
      have hq10 : q.length ≤ 10 := by rw [hq]; exact enc_len10 (zz x) (zz_lt x hx1 hx2)
      obtain ⟨g2, c2, rfl⟩ := Joins.ownsRow_form hown2 (by rw [hq]; exact enc_pos _)
      have HG2 := hid (show wr.heap.size ≤ g2 ∧ g2 < w2.heap.size from hown2.lt g2 rfl)
      have hq2 : Hid (Rd w2 (some ⟨g2, 0, none⟩) (bv q)) := hid (by
        obtain ⟨a', c', e, -, -, h, -⟩ := ownsRow.rd hown2
        simp only [Value.slice.injEq] at e
        rw [e.1]; exact h)
      have HO2 := hid (ownsRow_below HOWN.out hb2)
      have HNE := hid (fun k hk => (HOWN.out.lt k hk).2)
      have HB2 := hid (Below.next hbw.out hb2)
      have HM : Hid (m ++ q ++ encs (li.drop (i + 1)) = all) := hid (by rw [hq, List.append_assoc, ← encs_drop li i x HD.out]; exact hm.out)
      have HML := hid (show m.length + q.length ≤ 10 * (i + 1 + 1) by have := hml.out; omega)
      clear hown2 hb2 hq
      go_wp2_with fail
      go_loopw [3, 6] (fun v3 v6 w3 => ∃ (k : Nat) (m3 : List UInt8), v6 = .int .i64 k ∧ k ≤ q.length ∧ w3.ownsRow w.heap.size 5 1 v3 m3.length (bv m3) ∧ Hid (m3 = m ++ q.take k) ∧ Hid (Below w.heap.size w w3) ∧ Hid (Rd w3 (some ⟨g2, 0, none⟩) (bv q)) ∧ Hid (v3.ownBlock ≠ some g2) ∧ Hid (g2 < w3.heap.size)) (fun _ v6 _ => q.length - (intOf v6).toNat)
      case atStart => exact ⟨0, m, rfl, by omega, HO2.out, hid (by simp), HB2, hq2, hid (fun h => by have := HNE.out _ h; have := HG2.out.1; omega), hid HG2.out.2⟩
      case round =>
        obtain ⟨k, m3, rfl, hk, hown3, hm3, hbw3, hq3, hne3, hg3⟩ := hrel
        by_cases hkq : k < q.length
        · obtain ⟨b', off', y, e', hcc', -, -, htk⟩ := hq3.out.byte k hkq
          simp only [Option.some.injEq, Addr.mk.injEq, and_true] at e'
          obtain ⟨rfl, rfl⟩ := e'
          rw [Nat.zero_add] at hcc'
          have HTK := hid htk
          have HO3 := hid hown3
          have hm3l : m3.length ≤ 10485790 := by
            have := HML.out
            rw [hm3.out]; simp; omega
          have hsz3 := hbw3.out.size
          clear htk hown3
          go_wp2_with (at_builtin; refine wpList_append1w T_bytes _ rfl _ _ #[.int .u8 (y.toNat : Int)] rfl w.heap.size _ _ _ rfl HO3.out rfl rfl ?c1 ?c2 hsz3 ?_)
          case c1 => rfl
          case c2 => omega
          intro v' w4 hown4 hgrow hne hwh
          have hu := Upd.of_grown hgrow
          have HQ4 := hid (hu.rd hq3.out (fun b off e h => by simp at e; obtain ⟨rfl, -⟩ := e; exact hne3.out h))
          have HB4 := hid (hbw3.out.trans (hu.below (B := w.heap.size) hsz3 (fun k _ h => (HO3.out.lt k h).1)))
          have HNE4 := hid (show v'.ownBlock ≠ some g2 from fun h => by rcases hwh _ h with h | h; exact hne3.out h; have := hg3.out; omega)
          have HG4 := hid (Nat.lt_of_lt_of_le hg3.out hu.size)
          have HO4 : Hid (w4.ownsRow w.heap.size 5 1 v' (m3 ++ [y]).length (bv (m3 ++ [y]))) := hid (by rw [bv_append, bv_one]; simpa using hown4)
          clear hown4 hgrow hwh hu
          go_wp2_with fail
          go_roundw
          case rel => exact ⟨k + 1, m3 ++ [y], by go_num, by omega, HO4.out, hid (by rw [hm3.out, HTK.out, List.append_assoc]), HB4, HQ4, HNE4, HG4⟩
          case measure => simp [intOf]; omega
        · have HM3 := hid (show m3 = m ++ q by rw [hm3.out, List.take_of_length_le (by omega)])
          have HO3 := hid hown3
          clear hm3 hown3
          go_wp2_with fail
          go_roundw
          case rel => exact ⟨i + 1, m3, by go_num, by omega, HO3.out, hid (by rw [HM3.out]; exact HM.out), hbw3, hid (by rw [HM3.out]; simpa using HML.out)⟩
          case measure => simp [intOf]; omega
    · have hm2 := hm.out
      rw [List.drop_of_length_le (by omega), encs, List.append_nil] at hm2
      subst hm2
      have HOWN := hid hown
      clear hm hown
      go_wp2_with fail
      go_ret
      exact ⟨_, rfl, HOWN.out, hbw.out⟩
end Go.Proofs.YtcjdlckfbkdibaaDoor
end
