/- Joined texts, in this order: ChestMath. Each one's first remark says what it proves; no condition beyond those that its theorems name. -/
import Derived.Test.YtohknblokejldaaJLawChestRestores07
import Derived.Test.YtohknblokejldaaJLawChestRestores09
section
/- Plain: the map of chests, and the list of chests. -/
namespace Go.Proofs.Ytohknblokejldaa
open Go.RowKit
set_option linter.unusedVariables false

/-- what the list says of a house -/
def liOf (X : List (Int × Int)) (h : Int) : List Int := (X.filter fun p => p.1 = h).map (·.2)
def ChRel (m : List (Int × List Int)) (X : List (Int × Int)) : Prop := ∀ h, chOf m h = liOf X h
theorem ChRel.nil : ChRel [] [] := fun h => rfl
theorem liOf_append (X Y : List (Int × Int)) (h : Int) : liOf (X ++ Y) h = liOf X h ++ liOf Y h := by unfold liOf; rw [List.filter_append, List.map_append]
theorem liOf_len (X : List (Int × Int)) (h : Int) : lenF X h 0 = (liOf X h).length := by unfold liOf; rw [lenF_eq, List.length_map]; omega
theorem liOf_le (X : List (Int × Int)) (h : Int) : (liOf X h).length ≤ X.length := by unfold liOf; rw [List.length_map]; exact List.length_filter_le _ _
theorem ChRel.build {m : List (Int × List Int)} {X : List (Int × Int)} (hr : ChRel m X) (h n : Int) : ChRel (aput m h (chOf m h ++ [n])) (X ++ [(h, n)]) := by
  intro j
  rw [chOf_aput, liOf_append]
  by_cases hj : j = h
  · subst hj; rw [if_pos rfl, hr]; simp [liOf]
  · have : ¬ h = j := fun e => hj e.symm
    rw [if_neg hj, hr]; simp [liOf, this]
theorem ChRel.clear {m : List (Int × List Int)} {X : List (Int × Int)} (hr : ChRel m X) (h : Int) : ChRel (adel m h) (withoutL X h) := by
  intro j
  rw [chOf_adel]
  unfold liOf withoutL
  rw [List.filter_filter]
  by_cases hj : j = h
  · subst hj
    rw [if_pos rfl]
    symm
    simp
  · rw [if_neg hj, hr]
    unfold liOf
    congr 1
    apply List.filter_congr
    intro p _
    by_cases hp : p.1 = j
    · have : ¬ j = h := hj
      simp [hp, this]
    · simp [hp]

/-- the place of the k-th of a house -/
def posF : List (Int × Int) → Int → Nat → Nat → Option Nat
  | [], _, _, _ => none
  | p :: X, h, k, i => if p.1 = h then (if k = 0 then some i else posF X h (k - 1) (i + 1)) else posF X h k (i + 1)
theorem placeF_pos : ∀ (X : List (Int × Int)) (h n : Int) (i : Nat), 1 ≤ n → n ≤ 9223372036854775807 → placeF X h n i = posF X h (n - 1).toNat i
  | [], _, _, _, _, _ => rfl
  | p :: X, h, n, i, h1, h2 => by
    rw [placeF, posF]
    have e : wrap64 (n - 1) = n - 1 := by unfold wrap64; omega
    rw [e]
    by_cases hp : p.1 = h
    · rw [if_pos hp, if_pos hp]
      by_cases hn : n - 1 = 0
      · rw [if_pos hn, if_pos (by omega)]
      · rw [if_neg hn, if_neg (by omega), placeF_pos X h (n - 1) (i + 1) (by omega) (by omega)]
        congr 1
        omega
    · rw [if_neg hp, if_neg hp, placeF_pos X h n (i + 1) h1 h2]
theorem posF_none : ∀ (X : List (Int × Int)) (h : Int) (k i : Nat), X.length ≤ k → posF X h k i = none
  | [], _, _, _, _ => rfl
  | p :: X, h, k, i, hk => by
    simp at hk
    rw [posF]
    by_cases hp : p.1 = h
    · rw [if_pos hp, if_neg (by omega)]; exact posF_none X h (k - 1) (i + 1) (by omega)
    · rw [if_neg hp]; exact posF_none X h k (i + 1) (by omega)
theorem placeF_neg : ∀ (X : List (Int × Int)) (h n : Int) (i : Nat), n ≤ 0 → -9223372036854775808 ≤ n → X.length ≤ 1000000 → placeF X h n i = none
  | [], _, _, _, _, _, _ => rfl
  | p :: X, h, n, i, h1, h2, h3 => by
    simp at h3
    rw [placeF]
    by_cases hp : p.1 = h
    · rw [if_pos hp]
      by_cases hm : n = -9223372036854775808
      · have e : wrap64 (n - 1) = 9223372036854775807 := by unfold wrap64; omega
        rw [e, if_neg (by omega), placeF_pos X h _ _ (by omega) (by omega)]
        exact posF_none _ _ _ _ (by omega)
      · have e : wrap64 (n - 1) = n - 1 := by unfold wrap64; omega
        rw [e, if_neg (by omega)]
        exact placeF_neg X h (n - 1) (i + 1) (by omega) (by omega) (by omega)
    · rw [if_neg hp]
      exact placeF_neg X h n (i + 1) h1 h2 (by omega)
theorem pos_spec : ∀ (X : List (Int × Int)) (h : Int) (k i : Nat), (posF X h k i = none ∧ (liOf X h)[k]? = none) ∨
    ∃ j x, posF X h k i = some (i + j) ∧ X[j]? = some (h, x) ∧ (liOf X h)[k]? = some x ∧ ∀ y, liOf (X.set j (h, y)) h = (liOf X h).set k y ∧ ∀ h', h' ≠ h → liOf (X.set j (h, y)) h' = liOf X h'
  | [], h, k, i => .inl ⟨rfl, by simp [liOf]⟩
  | p :: X, h, k, i => by
    obtain ⟨a, b⟩ := p
    by_cases hp : a = h
    · subst hp
      have e : liOf ((a, b) :: X) a = b :: liOf X a := by simp [liOf]
      by_cases hk : k = 0
      · subst hk
        refine .inr ⟨0, b, by rw [posF, if_pos rfl, if_pos rfl]; simp, rfl, by rw [e]; rfl, fun y => ⟨by rw [e]; simp [liOf], fun h' hne => ?_⟩⟩
        have : ¬ a = h' := fun e => hne e.symm
        simp [liOf, this]
      · obtain ⟨q, rfl⟩ : ∃ q, k = q + 1 := ⟨k - 1, by omega⟩
        rcases pos_spec X a q (i + 1) with ⟨h1, h2⟩ | ⟨j, x, h1, h2, h3, h4⟩
        · exact .inl ⟨by rw [posF, if_pos rfl, if_neg hk]; exact h1, by rw [e]; simpa using h2⟩
        · refine .inr ⟨j + 1, x, by rw [posF, if_pos rfl, if_neg hk]; simp only [Nat.add_sub_cancel]; rw [h1]; congr 1; omega, by simpa using h2, by rw [e]; simpa using h3, fun y => ⟨?_, fun h' hne => ?_⟩⟩
          · rw [e, List.set_cons_succ, List.set_cons_succ, ← (h4 y).1]; simp [liOf]
          · have : ¬ a = h' := fun e => hne e.symm
            rw [List.set_cons_succ]
            have h5 := (h4 y).2 h' hne
            simp [liOf, this] at h5 ⊢
            exact h5
    · have e : liOf ((a, b) :: X) h = liOf X h := by simp [liOf, hp]
      rcases pos_spec X h k (i + 1) with ⟨h1, h2⟩ | ⟨j, x, h1, h2, h3, h4⟩
      · exact .inl ⟨by rw [posF, if_neg hp]; exact h1, by rw [e]; exact h2⟩
      · refine .inr ⟨j + 1, x, by rw [posF, if_neg hp, h1]; congr 1; omega, by simpa using h2, by rw [e]; exact h3, fun y => ⟨?_, fun h' hne => ?_⟩⟩
        · rw [e, List.set_cons_succ, ← (h4 y).1]; simp [liOf, hp]
        · rw [List.set_cons_succ]
          have h5 := (h4 y).2 h' hne
          by_cases ha : a = h'
          · simp [liOf, ha] at h5 ⊢; exact h5
          · simp [liOf, ha] at h5 ⊢; exact h5
/-- place and need agree -/
theorem place_need {m : List (Int × List Int)} {X : List (Int × Int)} (hr : ChRel m X) (h n : Int) (h1 : -9223372036854775808 ≤ n) (h2 : n ≤ 9223372036854775807) (hX : X.length ≤ 1000000) :
    (placeF X h n 0 = none ∧ chNeed m h n = none) ∨ ∃ j x, placeF X h n 0 = some j ∧ X[j]? = some (h, x) ∧ chNeed m h n = some x ∧ ∀ y, ChRel (aput m h ((chOf m h).set (n - 1).toNat y)) (X.set j (h, y)) := by
  by_cases hn : n < 1
  · left; exact ⟨placeF_neg X h n 0 (by omega) h1 hX, by unfold chNeed; rw [if_pos hn]⟩
  · rw [placeF_pos X h n 0 (by omega) h2]
    unfold chNeed
    rw [if_neg hn, hr h]
    rcases pos_spec X h (n - 1).toNat 0 with ⟨g1, g2⟩ | ⟨j, x, g1, g2, g3, g4⟩
    · exact .inl ⟨g1, g2⟩
    · refine .inr ⟨j, x, by simpa using g1, g2, g3, fun y q => ?_⟩
      rw [chOf_aput]
      by_cases hq : q = h
      · subst hq; rw [if_pos rfl, (g4 y).1]
      · rw [if_neg hq, (g4 y).2 q hq, hr]
end Go.Proofs.Ytohknblokejldaa
end
