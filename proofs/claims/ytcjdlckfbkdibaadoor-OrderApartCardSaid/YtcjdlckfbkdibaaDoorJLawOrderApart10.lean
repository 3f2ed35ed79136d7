/- Joined texts, in this order: VarOuts. Each one's first remark says what it proves; no condition beyond those that its theorems name. -/
import Derived.Test.YtcjdlckfbkdibaaDoorJLawOrderApart09
section
/- Contracts: Out.Bytes, Out.Ints. -/
namespace Go.Proofs.YtcjdlckfbkdibaaDoor
open Go.RowKit
open Go.Lib (hid)
set_option linter.unusedVariables false

set_option maxRecDepth 100000 in
theorem out_Bytes (lb : List UInt8) (a : Option Addr) (n c : Nat) (hn : n = lb.length) (hlb : lb.length ≤ 40000) (g : Nat) (v : Value) (l : List UInt8) (w : World) (h : OutIs w g v l) (hl : l.length ≤ 900000) (hs : SlB w (.slice a n c) lb)
    (hub : Hid (0 < lb.length → ∀ b off, a = some ⟨b, off, none⟩ → b ≠ g ∧ v.ownBlock ≠ some b)) (all : List UInt8) (hall : Hid (all = l ++ enc (zz (lb.length : Int)) ++ lb)) :
    Calls Tryd.prog 91 #[.pointer (some ⟨g, 0, none⟩), .slice a n c] w fun e w' => ∃ v', e = .returned (.pointer (some ⟨g, 0, none⟩)) ∧ OutIs w' g v' all ∧ OutStep g v v' w w' := by
  subst hn
  have H := hid h
  have HS := hid hs
  clear h hs
  go_enter Tryd.func91, Tryd.ntmps91
  go_wp2_with fail
  refine (var_Out_Int (lb.length : Int) (by omega) (by omega) g v l w H.out (by omega)).mono ?_
  rintro e w1 ⟨v1, rfl, ho1, hs1, -⟩
  have HS1 := hid hs1
  have HO1 := hid ho1
  have hsl : SlB w1 (.slice a lb.length c) lb := by
    by_cases h0 : 0 < lb.length
    · exact hs1.upd.slb HS.out (fun b off ha hS => by obtain ⟨n1, n2⟩ := hub.out h0 b off ha; rcases hS with h | h; exact n1 h; exact n2 h)
    · obtain ⟨a', c', e, q1, -, q3⟩ := HS.out
      have : lb = [] := List.eq_nil_of_length_eq_zero (by omega)
      subst this
      exact ⟨a', c', e, q1, Rd.nil _ _, q3⟩
  obtain ⟨a', c', e, -, hrd, hle, -, hnil⟩ := hsl
  simp only [Value.slice.injEq] at e
  obtain ⟨rfl, -, rfl⟩ := e
  have HRD := hid hrd
  have HNIL := hid hnil
  have hl10 := enc_len10 (zz (lb.length : Int)) (zz_lt _ (by omega) (by omega))
  have hm : (l ++ enc (zz (lb.length : Int))).length ≤ 900010 := by rw [List.length_append]; omega
  obtain ⟨m, hmm⟩ : ∃ m, m = l ++ enc (zz (lb.length : Int)) := ⟨_, rfl⟩
  rw [← hmm] at hm HO1
  have HM := hid hmm
  have hc1 : w1.cell? ⟨g, 0, none⟩ = some v1 := by rw [HO1.out.blk.cell]; rfl
  clear hs1 ho1 hrd hle hnil hmm hl10
  go_wp2_with (at_builtin; refine wpList_appendNw T_bytes _ rfl _ _ rfl 0 _ _ _ rfl HO1.out.own _ _ _ (bv lb) rfl ?c1 (fun _ h => HNIL.out h) HRD.out (bv_oneCell lb) ?c2 (Nat.zero_le _) ?_)
  case c1 => simp [bv_length]
  case c2 => omega
  intro v2 w2 hown2 hgrow hnl hwh
  have hu2 := Upd.of_grown hgrow
  obtain ⟨a2, c2, rfl⟩ := ownsRow_len0 hown2
  have hb2 : Blk w2 g #[v1] := HO1.out.blk.upd hu2 HO1.out.ne
  have hf : w2.frozen? ⟨g, 0, none⟩ = false := hb2.unfrozen 0
  have hc2 : w2.cell? ⟨g, 0, none⟩ = some v1 := by rw [hb2.cell]; rfl
  have HO2 := hid (out_stored HO1.out (Below.refl _ _) (m := all) (by rw [hall.out, ← HM.out]; simpa [bv_append] using hown2) hu2 hwh)
  have HST := hid (HS1.out.trans HO2.out.2)
  clear hown2 hgrow hnl hwh hu2 hb2 hc1
  go_wp2_with fail
  go_ret
  exact ⟨_, rfl, HO2.out.1, HST.out⟩

set_option maxRecDepth 100000 in
set_option maxHeartbeats 800000 in
theorem out_Ints (li : List Int) (hbd : Hid (∀ x ∈ li, -9223372036854775808 ≤ x ∧ x ≤ 9223372036854775807)) (a : Option Addr) (n c : Nat) (hn : n = li.length) (hli : li.length ≤ 10000) (g : Nat) (v : Value) (l : List UInt8) (w : World) (h : OutIs w g v l) (hl : l.length ≤ 900000) (hs : Rd w a (iv li))
    (hub : Hid (0 < li.length → ∀ b off, a = some ⟨b, off, none⟩ → b ≠ g ∧ v.ownBlock ≠ some b)) (all : List UInt8) (hall : Hid (all = l ++ enc (zz (li.length : Int)) ++ encs li)) :
    Calls Tryd.prog 73 #[.pointer (some ⟨g, 0, none⟩), .slice a n c] w fun e w' => ∃ v', e = .returned (.pointer (some ⟨g, 0, none⟩)) ∧ OutIs w' g v' all ∧ OutStep g v v' w w' := by
  subst hn
  have H := hid h
  have HS := hid hs
  clear h hs
  go_enter Tryd.func73, Tryd.ntmps73
  go_wp2_with fail
  refine (var_Out_Int (li.length : Int) (by omega) (by omega) g v l w H.out (by omega)).mono ?_
  rintro e w1 ⟨v1, rfl, ho1, hs1, -⟩
  have HS1 := hid hs1
  have HO1 := hid ho1
  have hl10 := enc_len10 (zz (li.length : Int)) (zz_lt _ (by omega) (by omega))
  have HM1 := hid (show (l ++ enc (zz (li.length : Int))).length ≤ l.length + 10 by rw [List.length_append]; omega)
  clear ho1 hs1 hl10
  go_wp2_with fail
  go_loopw [13] (fun v13 wr => ∃ (i : Nat) (v' : Value) (m : List UInt8), v13 = .int .i64 i ∧ i ≤ li.length ∧ Hid (OutIs wr g v' m) ∧ Hid (OutStep g v v' w wr) ∧ Hid (m ++ encs (li.drop i) = all) ∧ Hid (m.length ≤ l.length + 10 * (i + 1))) (fun v13 _ => li.length - (intOf v13).toNat)
  case atStart => exact ⟨0, v1, _, rfl, by omega, HO1, HS1, hid (by rw [hall.out]; simp), hid (by have := HM1.out; omega)⟩
  case round =>
    obtain ⟨i, v', m, rfl, hi, ho, hst, hm, hml⟩ := hrel
    by_cases hil : i < li.length
    · obtain ⟨b, off, x, e, hcc, -, hd, -, hmem⟩ := (hst.out.upd.rd HS.out (fun b off ha hS => by obtain ⟨n1, n2⟩ := hub.out (by omega) b off ha; rcases hS with h | h; exact n1 h; exact n2 h)).int i hil
      obtain ⟨hx1, hx2⟩ := hbd.out x hmem
      have HD := hid hd
      subst e
      have hxl := enc_len10 (zz x) (zz_lt x hx1 hx2)
      have HXL := hid hxl
      clear hd hmem hxl
      go_wp2_with fail
      refine (var_Out_Int x hx1 hx2 g v' m wr ho.out (by have := hml.out; omega)).mono ?_
      rintro e w2 ⟨v2, rfl, ho2, hs2, -⟩
      have HO2 := hid ho2
      have HS2 := hid (hst.out.trans hs2)
      clear ho2 hs2
      go_wp2_with fail
      go_roundw
      case rel => exact ⟨i + 1, v2, _, by go_num, by omega, HO2, HS2, hid (by rw [List.append_assoc, ← encs_drop li i x HD.out]; exact hm.out), hid (by have := hml.out; have := HXL.out; rw [List.length_append]; omega)⟩
      case measure => simp [intOf]; omega
    · have hm2 := hm.out
      rw [List.drop_of_length_le (by omega), encs, List.append_nil] at hm2
      subst hm2
      clear hm
      go_wp2_with fail
      go_ret
      exact ⟨_, rfl, ho.out, hst.out⟩

theorem encs_le : ∀ (li : List Int), (∀ x ∈ li, -9223372036854775808 ≤ x ∧ x ≤ 9223372036854775807) → (encs li).length ≤ 10 * li.length
  | [], _ => by simp [encs]
  | x :: t, h => by
    have := encs_le t (fun y hy => h y (by simp [hy]))
    have hx := h x (by simp)
    have := enc_len10 (zz x) (zz_lt x hx.1 hx.2)
    rw [encs]; simp; omega
theorem inIntsF_encs : ∀ (li acc : List Int) (t : List UInt8), (∀ x ∈ li, -9223372036854775808 ≤ x ∧ x ≤ 9223372036854775807) → inIntsF li.length acc (some (encs li ++ t)) = (acc ++ li, some t)
  | [], acc, t, _ => by simp [inIntsF, encs]
  | x :: r, acc, t, h => by
    have hx := h x (by simp)
    rw [List.length_cons, inIntsF, encs, List.append_assoc, inInt_enc x hx.1 hx.2, if_neg (by simp), inIntsF_encs r _ t (fun y hy => h y (by simp [hy]))]
    simp
theorem inWithin_enc (hi n : Int) (h0 : 0 ≤ n) (h1 : n ≤ hi) (h2 : n ≤ 9223372036854775807) (t : List UInt8) : inWithin 0 hi (some (enc (zz n) ++ t)) = (n, some t) := by
  unfold inWithin
  rw [inInt_enc n (by omega) h2, if_neg (by simp; omega)]
theorem inBytes_enc (hi : Int) (l t : List UInt8) (h1 : (l.length : Int) ≤ hi) (h2 : l.length ≤ 1000) : inBytes hi (some (enc (zz (l.length : Int)) ++ (l ++ t))) = (l, some t) := by
  unfold inBytes
  rw [inWithin_enc hi _ (by omega) h1 (by omega)]
  simp [inTake]
theorem inInts_enc (hi : Int) (li : List Int) (h : ∀ x ∈ li, -9223372036854775808 ≤ x ∧ x ≤ 9223372036854775807) (h1 : (li.length : Int) ≤ hi) (h2 : li.length ≤ 1000) : inInts hi (some (enc (zz (li.length : Int)) ++ encs li)) = (li, some []) := by
  unfold inInts
  rw [inWithin_enc hi _ (by omega) h1 (by omega)]
  have := inIntsF_encs li [] [] h
  simpa using this
end Go.Proofs.YtcjdlckfbkdibaaDoor
end
