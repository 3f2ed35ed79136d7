/- Contracts: gold.Sum; the law GoldSums. -/
import Derived.Test.YtopdcjekdmaopaaGold
namespace Go.Proofs.Ytopdcjekdmaopaa
open Go.RowKit
open Go.Lib (hid)
set_option linter.unusedVariables false

/-- what gold.Sum answers from a sum and an error on -/
def sumF : List Int → Int → Int → Int × Int
  | [], s, e => (s, e)
  | n :: l, s, e => if goldR n then (if e = 0 then sumF l (addV s n) (addE s n) else sumF l s e) else (0, 11)

theorem gold_Sum (zs : List Int) (a : Option Addr) (n cap : Nat) (hn : Hid (n = zs.length)) (hm : zs.length ≤ 9223372036854775807) (w : World) (hr : Rd w a (zs.map (.int .i64))) (s e : Int) (hs : Hid (sumF zs 0 0 = (s, e))) :
    Calls Try.prog 25 #[.slice a n cap] w fun r w' => r = .returned (.tuple #[.int .i64 s, .int .i64 e]) ∧ w = w' := by
  obtain rfl := hn.out
  go_enter Try.func25, Try.ntmps25
  go_wp2
  go_loop [4, 5, 10] (fun vs ve vi => ∃ (k : Nat) (s1 e1 : Int), vs = .int .i64 s1 ∧ ve = .int .i64 e1 ∧ vi = .int .i64 k ∧ k ≤ zs.length ∧ Hid (sumF (zs.drop k) s1 e1 = (s, e))) (fun _ _ vi => zs.length - (intOf vi).toNat)
  case atStart => exact ⟨0, 0, 0, rfl, rfl, rfl, by omega, hs⟩
  case round =>
    obtain ⟨k, s1, e1, rfl, rfl, rfl, hk, hsum⟩ := hrel
    by_cases hlt : k < zs.length
    · obtain ⟨b, off, x, rfl, hc, -, hd, -, -⟩ := hr.int k hlt
      cases hx : goldR x
      · have he : s = 0 ∧ e = 11 := by
          have := hsum.out
          rw [hd, sumF, hx] at this
          simp at this
          omega
        obtain ⟨rfl, rfl⟩ := he
        clear hd
        go_wp2_with (first | (go_at_call 15; (with_reducible refine (gold_Right _ _).mono ?_); rintro e w' ⟨rfl, rfl⟩) | (go_at_call 17; (with_reducible refine (gold_Add _ _ _).mono ?_); rintro e w' ⟨rfl, rfl⟩))
        go_ret2
        exact ⟨rfl, rfl⟩
      · by_cases he : e1 = 0
        · subst he
          have hn : sumF (zs.drop (k + 1)) (addV s1 x) (addE s1 x) = (s, e) := by
            have := hsum.out
            rw [hd, sumF, hx] at this
            simpa using this
          have HN := hid hn
          clear hn hd
          go_wp2_with (first | (go_at_call 15; (with_reducible refine (gold_Right _ _).mono ?_); rintro e w' ⟨rfl, rfl⟩) | (go_at_call 17; (with_reducible refine (gold_Add _ _ _).mono ?_); rintro e w' ⟨rfl, rfl⟩))
          go_round
          case rel => exact ⟨k + 1, _, _, rfl, rfl, by go_num, by omega, HN⟩
          case measure => simp [intOf]; omega
        · have hn : sumF (zs.drop (k + 1)) s1 e1 = (s, e) := by
            have := hsum.out
            rw [hd, sumF, hx] at this
            simpa [he] using this
          have HN := hid hn
          have he' : (e1 == 0) = false := by simpa using he
          clear hn hd
          go_wp2_with (first | (go_at_call 15; (with_reducible refine (gold_Right _ _).mono ?_); rintro e w' ⟨rfl, rfl⟩) | (go_at_call 17; (with_reducible refine (gold_Add _ _ _).mono ?_); rintro e w' ⟨rfl, rfl⟩))
          go_round
          case rel => exact ⟨k + 1, _, _, rfl, rfl, by go_num, by omega, HN⟩
          case measure => simp [intOf]; omega
    · have he : s1 = s ∧ e1 = e := by
        have := hsum.out
        rw [List.drop_of_length_le (by omega), sumF] at this
        simpa using this
      obtain ⟨rfl, rfl⟩ := he
      go_wp2
      go_ret2
      exact ⟨rfl, rfl⟩

theorem sum_ge0 (l : List Int) (h : ∀ x ∈ l, goldR x = true) : 0 ≤ l.sum := by
  induction l with
  | nil => simp
  | cons x l ih =>
    have hx : 0 ≤ x ∧ x ≤ 1099511627776 := by simpa [goldR] using h x (by simp)
    have := ih (fun y hy => h y (by simp [hy]))
    simp; omega

/-- all are amounts, and their sum is one: it is told -/
theorem sumF_ok (l : List Int) (h : ∀ x ∈ l, goldR x = true) : ∀ s, 0 ≤ s → s + l.sum ≤ 1099511627776 → sumF l s 0 = (s + l.sum, 0) := by
  induction l with
  | nil => intro s _ _; simp [sumF]
  | cons x l ih =>
    intro s s0 hs
    have hx : goldR x = true := h x (by simp)
    have hxb : 0 ≤ x ∧ x ≤ 1099511627776 := by simpa [goldR] using hx
    have h0 := sum_ge0 l (fun y hy => h y (by simp [hy]))
    simp at hs
    have hsr : goldR s = true := goldR_true ⟨s0, by omega⟩
    have he : addE s x = 0 := by simp [addE, hsr, hx]; omega
    have hv : addV s x = s + x := by simp [addV, he]
    rw [sumF, if_pos hx, if_pos rfl, he, hv, ih (fun y hy => h y (by simp [hy])) (s + x) (by omega) (by omega)]
    simp; omega

/-- an error stays, while all are amounts -/
theorem sumF_err (l : List Int) (h : ∀ x ∈ l, goldR x = true) (s e : Int) (he : e ≠ 0) : sumF l s e = (s, e) := by
  induction l with
  | nil => rfl
  | cons x l ih => rw [sumF, if_pos (h x (by simp)), if_neg he]; exact ih (fun y hy => h y (by simp [hy]))

theorem sum_reverse (l : List Int) : l.reverse.sum = l.sum := by
  induction l with
  | nil => rfl
  | cons x l ih => simp [ih]; omega
end Go.Proofs.Ytopdcjekdmaopaa
