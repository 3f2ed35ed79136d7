/- Plain: of fitted bytes of which one is turned there is no part. -/
import Derived.Test.YtopdcjekdmaopaaSealTurn
import Derived.Test.YtopdcjekdmaopaaSealPart
namespace Go.Proofs.Ytopdcjekdmaopaa
set_option linter.unusedVariables false

theorem lowB_inj (x y : Nat) (hx : x < 4294967296) (hy : y < 4294967296) (h : lowB x 4 = lowB y 4) : x = y := by
  simp only [lowB, List.cons.injEq, and_true] at h
  obtain ⟨h0, h1, h2, h3⟩ := h
  have e0 := congrArg UInt8.toNat h0
  have e1 := congrArg UInt8.toNat h1
  have e2 := congrArg UInt8.toNat h2
  have e3 := congrArg UInt8.toNat h3
  simp at e0 e1 e2 e3
  omega
theorem crc_lt32 (l : List UInt8) : crc l < 4294967296 := by unfold crc; omega
theorem partL_form (l x : List UInt8) (h : partL l = some x) : 6 ≤ l.length ∧ ∃ B, l = B ++ lowB (crc B) 4 := by
  unfold partL at h
  by_cases h0 : 6 ≤ l.length ∧ l.length ≤ 65536 ∧ partN l + 6 ≤ l.length ∧ fitted ((l.drop 2).take (partN l)) l.length = l
  · exact ⟨h0.1, _, h0.2.2.2.symm⟩
  · rw [if_neg h0] at h; simp at h
theorem partL_turned (p t : List UInt8) (b c : UInt8) (x : List UInt8) (h : partL (p ++ b :: t) = some x) (hbc : b ≠ c) : partL (p ++ c :: t) = none := by
  cases h' : partL (p ++ c :: t) with
  | none => rfl
  | some y =>
    exfalso
    obtain ⟨l6, B, hB⟩ := partL_form _ _ h
    obtain ⟨l6', C, hC⟩ := partL_form _ _ h'
    have lB := congrArg List.length hB
    have lC := congrArg List.length hC
    simp only [List.length_append, List.length_cons, lowB_length] at lB lC
    apply hbc
    have b1 : B = (p ++ b :: t).take B.length := by rw [hB]; simp
    have b2 : lowB (crc B) 4 = (p ++ b :: t).drop B.length := by rw [hB]; simp
    have c1 : C = (p ++ c :: t).take B.length := by rw [show B.length = C.length by omega, hC]; simp
    have c2 : lowB (crc C) 4 = (p ++ c :: t).drop B.length := by rw [show B.length = C.length by omega, hC]; simp
    obtain ⟨n, hn⟩ : ∃ n, n = B.length := ⟨_, rfl⟩
    rw [← hn] at b1 b2 c1 c2
    by_cases hp : p.length < n
    · obtain ⟨k, hk⟩ : ∃ k, n = p.length + (k + 1) := ⟨n - p.length - 1, by omega⟩
      rw [hk, List.take_length_add_append, List.take_succ_cons] at b1 c1
      rw [hk, List.drop_length_add_append, List.drop_succ_cons] at b2 c2
      have hs := lowB_inj _ _ (crc_lt32 B) (crc_lt32 C) (b2.trans c2.symm)
      rw [b1, c1] at hs
      exact crc_turned p _ b c hs
    · rw [List.take_append_of_le_length (by omega)] at b1 c1
      have hBC : B = C := b1.trans c1.symm
      rw [← hBC] at hC
      have := hB.trans hC.symm
      simpa using this
end Go.Proofs.Ytopdcjekdmaopaa
