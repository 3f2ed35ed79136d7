/- Contract: the reference's Ints. -/
import Derived.Test.YtdchopckbklncaaVarBoundMath
namespace Go.Proofs.Ytdchopckbklncaa
open Go.RowKit
open Go.Lib (hid)
set_option linter.unusedVariables false

theorem encs_drop (li : List Int) (i : Nat) (x : Int) (h : li.drop i = x :: li.drop (i + 1)) : encs (li.drop i) = enc (zz x) ++ encs (li.drop (i + 1)) := by
  rw [h, encs]

set_option maxRecDepth 100000 in
set_option maxHeartbeats 1000000 in
/-- the reference's bytes of a list of numbers -/
theorem ref_Ints (li : List Int) (hb : Hid (∀ x ∈ li, -9223372036854775808 ≤ x ∧ x ≤ 9223372036854775807)) (a : Option Addr) (n c : Nat) (hn : n = li.length) (hlen : li.length ≤ 1048576) (w : World) (hr : Rd w a (iv li)) (all : List UInt8) (HALL : Hid (all = enc (zz (li.length : Int)) ++ encs li)) :
    Calls Try.prog 28 #[.slice a n c] w fun e w' => ∃ v, e = .returned v ∧ w'.ownsRow w.heap.size 5 1 v all.length (bv all) ∧ Below w.heap.size w w' := by
  subst hn
  have HR := hid hr
  clear hr
  go_enter Try.func28, Try.ntmps28
  go_wp2_with fail
  refine (ref_Int (li.length : Int) (by omega) (by omega) _).mono ?_
  rintro e w1 ⟨v1, rfl, hown1, hb1⟩
  have HO1 := hid hown1
  have HB1 := hid hb1
  have HL1 := hid (enc_len10 (zz (li.length : Int)) (zz_lt _ (by omega) (by omega)))
  clear hown1 hb1
  go_wp2_with fail
  go_loopw [3, 4] (fun v3 v4 wr => ∃ (i : Nat) (m : List UInt8), v4 = .int .i64 i ∧ i ≤ li.length ∧ wr.ownsRow w.heap.size 5 1 v3 m.length (bv m) ∧ Hid (m ++ encs (li.drop i) = all) ∧ Hid (Below w.heap.size w wr) ∧ Hid (m.length ≤ 10 * (i + 1))) (fun _ v4 _ => li.length - (intOf v4).toNat)
  case atStart => exact ⟨0, _, rfl, by omega, HO1.out, hid (by rw [HALL.out]; simp), HB1, hid (by have := HL1.out; omega)⟩
  case round =>
    obtain ⟨i, m, rfl, hi, hown, hm, hbw, hml⟩ := hrel
    by_cases hil : i < li.length
    · obtain ⟨b, off, x, rfl, hcc, -, hd, -, hmem⟩ := (HR.out.below' hbw.out).int i hil
      obtain ⟨hx1, hx2⟩ := hb.out x hmem
      have HD := hid hd
      have HOWN := hid hown
      clear hd hmem hown
      go_wp2_with fail
      refine (ref_Int x hx1 hx2 _).mono ?_
      rintro e w2 ⟨v2, rfl, hown2, hb2⟩
      obtain ⟨q, hq⟩ : ∃ q, q = enc (zz x) := ⟨_, rfl⟩
      rw [← hq] at hown2
      have hq10 : q.length ≤ 10 := by rw [hq]; exact enc_len10 (zz x) (zz_lt x hx1 hx2)
      obtain ⟨g2, c2, rfl⟩ := Joins.ownsRow_form hown2 (by rw [hq]; exact enc_pos _)
      have HG2 := hid (show wr.heap.size ≤ g2 ∧ g2 < w2.heap.size from hown2.lt g2 rfl)
      have hq2 : Hid (Rd w2 (some ⟨g2, 0, none⟩) (bv q)) := hid (by
        obtain ⟨a', c', e, -, -, h, -⟩ := ownsRow.rd hown2
        simp only [Value.slice.injEq] at e
        rw [e.1]; exact h)
      have HO2 := hid (ownsRow_below HOWN.out hb2)
      have HNE := hid (fun k hk => (HOWN.out.lt k hk).2)
      have HB2 := hid (Below.next hbw.out hb2)
      have HM : Hid (m ++ q ++ encs (li.drop (i + 1)) = all) := hid (by rw [hq, List.append_assoc, ← encs_drop li i x HD.out]; exact hm.out)
      have HML := hid (show m.length + q.length ≤ 10 * (i + 1 + 1) by have := hml.out; omega)
      clear hown2 hb2 hq
      go_wp2_with fail
      go_loopw [3, 6] (fun v3 v6 w3 => ∃ (k : Nat) (m3 : List UInt8), v6 = .int .i64 k ∧ k ≤ q.length ∧ w3.ownsRow w.heap.size 5 1 v3 m3.length (bv m3) ∧ Hid (m3 = m ++ q.take k) ∧ Hid (Below w.heap.size w w3) ∧ Hid (Rd w3 (some ⟨g2, 0, none⟩) (bv q)) ∧ Hid (v3.ownBlock ≠ some g2) ∧ Hid (g2 < w3.heap.size)) (fun _ v6 _ => q.length - (intOf v6).toNat)
      case atStart => exact ⟨0, m, rfl, by omega, HO2.out, hid (by simp), HB2, hq2, hid (fun h => by have := HNE.out _ h; have := HG2.out.1; omega), hid HG2.out.2⟩
      case round =>
        obtain ⟨k, m3, rfl, hk, hown3, hm3, hbw3, hq3, hne3, hg3⟩ := hrel
        by_cases hkq : k < q.length
        · obtain ⟨b', off', y, e', hcc', -, -, htk⟩ := hq3.out.byte k hkq
          simp only [Option.some.injEq, Addr.mk.injEq, and_true] at e'
          obtain ⟨rfl, rfl⟩ := e'
          rw [Nat.zero_add] at hcc'
          have HTK := hid htk
          have HO3 := hid hown3
          have hm3l : m3.length ≤ 10485790 := by
            have := HML.out
            rw [hm3.out]; simp; omega
          have hsz3 := hbw3.out.size
          clear htk hown3
          go_wp2_with (at_builtin; refine wpList_append1w T_bytes _ rfl _ _ #[.int .u8 (y.toNat : Int)] rfl w.heap.size _ _ _ rfl HO3.out rfl rfl ?c1 ?c2 hsz3 ?_)
          case c1 => rfl
          case c2 => omega
          intro v' w4 hown4 hgrow hne hwh
          have hu := Upd.of_grown hgrow
          have HQ4 := hid (hu.rd hq3.out (fun b off e h => by simp at e; obtain ⟨rfl, -⟩ := e; exact hne3.out h))
          have HB4 := hid (hbw3.out.trans (hu.below (B := w.heap.size) hsz3 (fun k _ h => (HO3.out.lt k h).1)))
          have HNE4 := hid (show v'.ownBlock ≠ some g2 from fun h => by rcases hwh _ h with h | h; exact hne3.out h; have := hg3.out; omega)
          have HG4 := hid (Nat.lt_of_lt_of_le hg3.out hu.size)
          have HO4 : Hid (w4.ownsRow w.heap.size 5 1 v' (m3 ++ [y]).length (bv (m3 ++ [y]))) := hid (by rw [bv_append, bv_one]; simpa using hown4)
          clear hown4 hgrow hwh hu
          go_wp2_with fail
          go_roundw
          case rel => exact ⟨k + 1, m3 ++ [y], by go_num, by omega, HO4.out, hid (by rw [hm3.out, HTK.out, List.append_assoc]), HB4, HQ4, HNE4, HG4⟩
          case measure => simp [intOf]; omega
        · have HM3 := hid (show m3 = m ++ q by rw [hm3.out, List.take_of_length_le (by omega)])
          have HO3 := hid hown3
          clear hm3 hown3
          go_wp2_with fail
          go_roundw
          case rel => exact ⟨i + 1, m3, by go_num, by omega, HO3.out, hid (by rw [HM3.out]; exact HM.out), hbw3, hid (by rw [HM3.out]; simpa using HML.out)⟩
          case measure => simp [intOf]; omega
    · have hm2 := hm.out
      rw [List.drop_of_length_le (by omega), encs, List.append_nil] at hm2
      subst hm2
      have HOWN := hid hown
      clear hm hown
      go_wp2_with fail
      go_ret
      exact ⟨_, rfl, HOWN.out, hbw.out⟩
end Go.Proofs.Ytdchopckbklncaa
