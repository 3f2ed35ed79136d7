/- Plain: lists of numbers, written and read. -/
import Derived.Test.YtdchopckbklncaaVarReadsLaw
namespace Go.Proofs.Ytdchopckbklncaa
open Go.RowKit
open Go.Lib (hid)
set_option linter.unusedVariables false

def encs : List Int → List UInt8
  | [] => []
  | n :: t => enc (zz n) ++ encs t
theorem encs_append : ∀ (a b : List Int), encs (a ++ b) = encs a ++ encs b
  | [], b => rfl
  | x :: a, b => by rw [List.cons_append, encs, encs, encs_append a b, List.append_assoc]
set_option maxRecDepth 100000 in
theorem inInt_sound (m : List UInt8) (n : Int) (t : List UInt8) (h : inInt (some m) = (n, some t)) : m = enc (zz n) ++ t := by
  unfold inInt at h
  simp only [Option.getD_some] at h
  by_cases h0 : (readF m 0 0).1 = 0
  · rw [if_pos h0] at h; simp at h
  · rw [if_neg h0] at h
    obtain ⟨u, r, e1, e2, e3, e4, e5⟩ := readF_sound m 0 0 (by omega) h0
    simp only [Prod.mk.injEq] at h
    obtain ⟨rfl, h2⟩ := h
    rw [e3, Nat.zero_add, Nat.pow_zero, Nat.mul_one, zz_unzz]
    rw [e2, Nat.zero_add] at h2
    unfold inTake at h2
    have hlen : ¬ m.length < (enc u).length := by rw [e1]; simp
    simp only [hlen, if_false] at h2
    rw [e1] at h2
    simp at h2
    rw [e1, h2]
theorem inIntsF_none : ∀ (n : Nat) (acc : List Int) (s : Option (List UInt8)), (s = none → acc = []) → (inIntsF n acc s).2 = none → (inIntsF n acc s).1 = []
  | 0, acc, s, h, h2 => by rw [inIntsF] at h2 ⊢; exact h h2
  | n + 1, acc, s, h, h2 => by
    rw [inIntsF] at h2 ⊢
    by_cases h0 : (inInt s).2 = none
    · rw [if_pos h0]
    · rw [if_neg h0] at h2 ⊢
      exact inIntsF_none n _ _ (fun e => absurd e h0) h2
theorem inIntsF_some : ∀ (n : Nat) (acc : List Int) (m t : List UInt8) (li : List Int), inIntsF n acc (some m) = (li, some t) → ∃ r, li = acc ++ r ∧ r.length = n ∧ m = encs r ++ t ∧ ∀ x ∈ r, -9223372036854775808 ≤ x ∧ x ≤ 9223372036854775807
  | 0, acc, m, t, li, h => by
    rw [inIntsF] at h
    simp only [Prod.mk.injEq, Option.some.injEq] at h
    obtain ⟨rfl, rfl⟩ := h
    exact ⟨[], by simp, rfl, rfl, by simp⟩
  | n + 1, acc, m, t, li, h => by
    rw [inIntsF] at h
    obtain ⟨x, s, hx⟩ : ∃ x s, inInt (some m) = (x, s) := ⟨_, _, rfl⟩
    have hb := inInt_bd (some m)
    rw [hx] at h hb
    cases s with
    | none => simp at h
    | some m2 =>
      rw [if_neg (by simp)] at h
      obtain ⟨r, rfl, h2, h3, h4⟩ := inIntsF_some n _ m2 t li h
      refine ⟨x :: r, by simp, by simp [h2], ?_, ?_⟩
      · rw [inInt_sound m x m2 hx, encs, h3, List.append_assoc]
      · intro y hy
        rcases List.mem_cons.1 hy with rfl | hy
        · exact hb
        · exact h4 y hy
/-- within bounds, as the law asks -/
theorem inWithin_ok (lo hi : Int) (m : List UInt8) (n : Int) (k : Nat) (h : refRead m = (n, k)) : inWithin lo hi (some m) = if 0 < k ∧ lo ≤ n ∧ n ≤ hi then (n, some (m.drop k)) else (0, none) := by
  unfold inWithin
  rw [refRead_in m n k h]
  by_cases hk : k = 0
  · rw [if_pos hk, if_pos (.inl rfl), if_neg (by omega)]
  · rw [if_neg hk]
    by_cases hb : n < lo ∨ hi < n
    · rw [if_pos (.inr hb), if_neg (by omega)]
    · rw [if_neg (by simp; omega), if_pos (by omega)]
theorem inBytes_ok (hi : Int) (m : List UInt8) (n : Int) (k : Nat) (h : refRead m = (n, k)) : inBytes hi (some m) = if 0 < k ∧ 0 ≤ n ∧ n ≤ hi ∧ n ≤ (m.length : Int) - k then ((m.drop k).take n.toNat, some (m.drop (k + n.toNat))) else ([], none) := by
  have hk := (refRead_le m n k h).1
  unfold inBytes
  rw [inWithin_ok 0 hi m n k h]
  by_cases h1 : 0 < k ∧ 0 ≤ n ∧ n ≤ hi
  · rw [if_pos h1]
    simp only [inTake, List.length_drop, List.drop_drop]
    by_cases h2 : n ≤ (m.length : Int) - k
    · rw [if_neg (by omega), if_pos ⟨h1.1, h1.2.1, h1.2.2, h2⟩]
    · rw [if_pos (by omega), if_neg (by omega)]
  · rw [if_neg h1, if_neg (by omega)]
    rfl
theorem inInts_bad (hi : Int) (s : Option (List UInt8)) (h : (inInts hi s).2 = none) : (inInts hi s).1 = [] := by
  unfold inInts at h ⊢
  exact inIntsF_none _ _ _ (fun _ => rfl) h
theorem inInts_good (hi : Int) (m t : List UInt8) (li : List Int) (n : Int) (k : Nat) (hr : refRead m = (n, k)) (h : inInts hi (some m) = (li, some t)) :
    n = (li.length : Int) ∧ n ≤ hi ∧ m = enc (zz (li.length : Int)) ++ encs li ++ t ∧ ∀ x ∈ li, -9223372036854775808 ≤ x ∧ x ≤ 9223372036854775807 := by
  unfold inInts at h
  rw [inWithin_ok 0 hi m n k hr] at h
  by_cases h1 : 0 < k ∧ 0 ≤ n ∧ n ≤ hi
  · rw [if_pos h1] at h
    obtain ⟨r, e1, e2, e3, e4⟩ := inIntsF_some _ _ _ _ _ h
    simp only [List.nil_append] at e1
    subst e1
    have hn : n = (li.length : Int) := by omega
    have hi2 := refRead_in m n k hr
    rw [if_neg (by omega)] at hi2
    have := inInt_sound m n _ hi2
    refine ⟨hn, h1.2.2, ?_, e4⟩
    rw [← hn, List.append_assoc, ← e3]
    exact this
  · rw [if_neg h1] at h
    simp [inIntsF] at h
end Go.Proofs.Ytdchopckbklncaa
