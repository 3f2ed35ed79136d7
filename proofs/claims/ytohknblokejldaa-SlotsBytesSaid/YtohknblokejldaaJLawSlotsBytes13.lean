/- Joined texts, in this order: SealPart. Each one's first remark says what it proves; no condition beyond those that its theorems name. -/
import Derived.Test.YtohknblokejldaaJLawSlotsBytes12
import Derived.Deep.QuietTactic
import Derived.BigQuiet
section
/- Contract: seal.Part. -/
namespace Go.Proofs.Ytohknblokejldaa
open Go.RowKit
open Go.Lib (hid)
set_option linter.unusedVariables false

theorem or_i64 (x y : Nat) (hx : x < 256) (hy : y < 256) : bits .or .i64 (x : Int) ((y : Int) * 256) = ((x + 256 * y : Nat) : Int) := by
  show IntKind.i64.wrap ((BitVec.ofInt 64 (x : Int) ||| BitVec.ofInt 64 ((y : Int) * 256)).toNat : Int) = _
  have e : ((y : Int) * 256) = ((y * 256 : Nat) : Int) := by omega
  rw [e, BitVec.ofInt_natCast, BitVec.ofInt_natCast, BitVec.toNat_or, BitVec.toNat_ofNat, BitVec.toNat_ofNat, Nat.mod_eq_of_lt (by omega), Nat.mod_eq_of_lt (by omega), IntKind.wrap_i64]
  have h := Nat.two_pow_add_eq_or_of_lt (i := 8) (b := x) (by omega) y
  rw [Nat.or_comm, show y * 256 = 2 ^ 8 * y by omega, ← h]
  omega
theorem bv_drop_take (l : List UInt8) (i n : Nat) : ((bv l).drop i).take n = bv ((l.drop i).take n) := by
  unfold bv; rw [List.map_take, List.map_drop]
theorem ownsRow_slice {w : World} {base : Nat} {e : TypeId} {v : Value} {n : Nat} {xs : List Value} {size : Nat} (h : w.ownsRow base e size v n xs) : ∃ a c, v = .slice a n c := by
  rcases h.2 with ⟨rfl, rfl⟩ | ⟨g, cap, cur, rfl, -⟩
  · exact ⟨_, _, rfl⟩
  · exact ⟨_, _, rfl⟩
/-- what is fitted, with its sum -/
def fitted (l : List UInt8) (size : Nat) : List UInt8 := fitL l size ++ lowB (crc (fitL l size)) 4
def partN (l : List UInt8) : Nat := (l.getD 0 0).toNat + 256 * (l.getD 1 0).toNat
def partL (l : List UInt8) : Option (List UInt8) :=
  if 6 ≤ l.length ∧ l.length ≤ 65536 ∧ partN l + 6 ≤ l.length ∧ fitted ((l.drop 2).take (partN l)) l.length = l then some ((l.drop 2).take (partN l)) else none

attribute [local irreducible] crc lowB
set_option maxHeartbeats 800000 in
theorem seal_Part (l : List UInt8) (u : Value) (w : World) (hl : SlB w u l) (r : Option (List UInt8)) (hr : Hid (partL l = r)) :
    Calls Try.prog 55 #[u] w fun e w' => ∃ v, e = .returned (.tuple #[v, .bool r.isSome]) ∧ w'.ownsRow w.heap.size 5 1 v (r.getD []).length (bv (r.getD [])) ∧ Below w.heap.size w w' := by
  have HL := hid hl
  obtain ⟨a, c, rfl, h1, h2, h3, h4, h5⟩ := hl
  have HR := hid h2
  by_cases c1 : l.length < 6
  · obtain rfl : r = none := by rw [← hr.out, partL, if_neg (by omega)]
    clear h2 h5
    go_enter Try.func55, Try.ntmps55
    go_wp2
    go_ret2
    exact ⟨_, rfl, World.ownsRow_nil _ _ _ _, Below.refl _ _⟩
  by_cases c2 : 65536 < l.length
  · obtain rfl : r = none := by rw [← hr.out, partL, if_neg (by omega)]
    clear h2 h5
    go_enter Try.func55, Try.ntmps55
    go_wp2
    go_ret2
    exact ⟨_, rfl, World.ownsRow_nil _ _ _ _, Below.refl _ _⟩
  obtain ⟨b, off, x0, rfl, hc0, hx0, -⟩ := h2.byte 0 (by omega)
  obtain ⟨b', off', x1, e1, hc1, hx1, -⟩ := h2.byte 1 (by omega)
  simp only [Option.some.injEq, Addr.mk.injEq, and_true] at e1
  obtain ⟨rfl, rfl⟩ := e1
  rw [Nat.add_zero] at hc0
  have HX0 := hid hx0
  have HX1 := hid hx1
  have hor : bits .or .i64 (wrap64 (x0.toNat : Int)) (wrap64 (wrap64 (x1.toNat : Int) * 256)) = ((x0.toNat + 256 * x1.toNat : Nat) : Int) := by
    have q0 : x0.toNat < 256 := x0.toNat_lt
    have q1 : x1.toNat < 256 := x1.toNat_lt
    rw [← or_i64 x0.toNat x1.toNat q0 q1]
    have e1 : wrap64 (x0.toNat : Int) = x0.toNat := by unfold wrap64; omega
    have e2 : wrap64 (x1.toNat : Int) = x1.toNat := by unfold wrap64; omega
    have e3 : wrap64 ((x1.toNat : Int) * 256) = (x1.toNat : Int) * 256 := by unfold wrap64; omega
    rw [e1, e2, e3]
  obtain ⟨n, hn⟩ : ∃ n, n = x0.toNat + 256 * x1.toNat := ⟨_, rfl⟩
  rw [← hn] at hor
  have HN : Hid (partN l = n) := hid (by unfold partN; rw [List.getD_eq_getElem?_getD, List.getD_eq_getElem?_getD, hx0, hx1, hn]; rfl)
  have hn64 : n < 65536 := by have := x0.toNat_lt; have := x1.toNat_lt; omega
  have HNN := hid hn
  clear h2 h5 hx0 hx1 hn
  go_enter Try.func55, Try.ntmps55
  go_wp2_with fail
  go_quiet (fail)
  have hb1 := Below.drawn w nq
  obtain ⟨w1, hw1⟩ : ∃ w1, w1 = w.drewN nq := ⟨_, rfl⟩
  rw [← hw1] at hb1 ⊢
  have HB1 := hid hb1
  clear hb1 hw1 hc0 hc1
  by_cases c3 : n + 6 ≤ l.length
  · obtain ⟨x, hx⟩ : ∃ x, x = (l.drop 2).take n := ⟨_, rfl⟩
    have hxl : x.length = n := by rw [hx, List.length_take, List.length_drop]; omega
    have hsub := (HR.out.below' HB1.out).sub 2 n
    rw [bv_drop_take, ← hx] at hsub
    have sx : SlB w1 (.slice (some ⟨b, off + 2, none⟩) n (c - 2)) x := ⟨_, _, by rw [hxl], by omega, hsub, by omega, by omega, nofun⟩
    have HSX := hid sx
    have hne : ¬ c = 2 := by omega
    have HX := hid hx
    have HXL := hid hxl
    clear hsub sx hx hxl
    go_wp2_with fail
    refine (bytes_Clone x _ w1 HSX.out (by have := HXL.out; omega)).mono ?_
    rintro e w2 ⟨v2, rfl, hown2, hb2⟩
    have HO2 := hid hown2
    have HS2 := hid (ownsRow.slb hown2 (by have := HXL.out; omega))
    have HB2 := hid (Below.next HB1.out hb2)
    obtain ⟨a2, k2, rfl⟩ := ownsRow_slice hown2
    clear hown2 hb2
    go_wp2_with fail
    refine (seal_Fit_yes x _ w2 HS2.out l.length _ rfl (by have := HXL.out; omega) (by omega) (fitL x l.length) (hid rfl)).mono ?_
    rintro e w3 ⟨v3, rfl, hown3, hb3⟩
    obtain ⟨F, hF⟩ : ∃ F, F = fitL x l.length ++ lowB (crc (fitL x l.length)) 4 := ⟨_, rfl⟩
    rw [← hF] at hown3
    have hFl : F.length = l.length := by rw [hF, List.length_append, lowB_length, fitL_length _ _ (by have := HXL.out; omega)]; omega
    have HF := hid hF
    have HS3 := hid (ownsRow.slb hown3 (by omega))
    have HO3 := hid (ownsRow_base (ownsRow_below HO2.out hb3) HB1.out.size)
    have HB3 := hid (Below.next HB2.out hb3)
    obtain ⟨a3, k3, rfl⟩ := ownsRow_slice hown3
    clear hown3 hb3 hF hFl
    by_cases hq : F = l
    · have hqb : (F == l) = true := by simpa using hq
      have HQ := hid (show partL l = some x by unfold partL; rw [HN.out, ← HX.out, if_pos ⟨by omega, by omega, c3, by unfold fitted; rw [← HF.out]; exact hq⟩])
      clear hq
      go_wp2_with (go_at_call 60; (with_reducible refine (bytes_Equal F l _ _ _ HS3.out (HL.out.below HB3.out)).mono ?_); rintro e w' ⟨rfl, rfl⟩)
      go_ret2
      obtain rfl := HQ.out.symm.trans hr.out
      exact ⟨_, rfl, HO3.out, HB3.out⟩
    · have hqb : (F == l) = false := by simpa using hq
      have HQ := hid (show partL l = none by unfold partL; rw [HN.out, ← HX.out, if_neg (fun h => hq (by rw [HF.out]; exact h.2.2.2))])
      clear hq
      go_wp2_with (go_at_call 60; (with_reducible refine (bytes_Equal F l _ _ _ HS3.out (HL.out.below HB3.out)).mono ?_); rintro e w' ⟨rfl, rfl⟩)
      go_ret2
      obtain rfl := HQ.out.symm.trans hr.out
      exact ⟨_, rfl, World.ownsRow_nil _ _ _ _, HB3.out⟩
  · obtain rfl : r = none := by rw [← hr.out, partL, if_neg (by have := HN.out; omega)]
    go_wp2_with fail
    go_ret2
    exact ⟨_, rfl, World.ownsRow_nil _ _ _ _, HB1.out⟩
end Go.Proofs.Ytohknblokejldaa
end
