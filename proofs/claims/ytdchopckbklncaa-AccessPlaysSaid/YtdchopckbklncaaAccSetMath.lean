/- The plain laws of lists for AccessSets and AccessPlays. -/
import Derived.Test.YtdchopckbklncaaAccWith
import Derived.Test.YtdchopckbklncaaAccRefRight
namespace Go.Proofs.Ytdchopckbklncaa
open Go.RowKit
open Go.Lib (hid)
set_option linter.unusedVariables false

theorem rgtF_iff (o : Int) : ∀ (l : List Int) (prev : Option Int), rgtF prev l o = true ↔ (∀ x ∈ l, 1 ≤ x ∧ x ≤ 256 ∧ x ≠ o) ∧ l.Pairwise (· < ·) ∧ (∀ y, prev = some y → ∀ x ∈ l, y < x)
  | [], prev => by simp [rgtF]
  | x :: l, prev => by
    rw [rgtF_cons]
    simp only [Bool.and_eq_true, decide_eq_true_eq, rgtF_iff o l (some x), List.pairwise_cons, List.forall_mem_cons]
    constructor
    · rintro ⟨⟨⟨⟨h1, h2⟩, h3⟩, h4⟩, h5, h6, h7⟩
      refine ⟨⟨⟨h1, h2, h3⟩, h5⟩, ⟨h7 x rfl, h6⟩, fun y hy => ?_⟩
      subst hy
      simp only [decide_eq_true_eq] at h4
      exact ⟨h4, fun z hz => Int.lt_trans h4 (h7 x rfl z hz)⟩
    · rintro ⟨⟨⟨h1, h2, h3⟩, h5⟩, ⟨h7, h6⟩, h8⟩
      refine ⟨⟨⟨⟨h1, h2⟩, h3⟩, ?_⟩, h5, h6, fun y hy z hz => ?_⟩
      · cases prev with
        | none => rfl
        | some y => simpa using (h8 y rfl).1
      · simp only [Option.some.injEq] at hy
        subst hy
        exact h7 z hz
/-- a right list -/
def RightL (l : List Int) (o : Int) : Prop := (∀ x ∈ l, 1 ≤ x ∧ x ≤ 256 ∧ x ≠ o) ∧ l.Pairwise (· < ·) ∧ l.length ≤ 16
theorem rightL_iff (l : List Int) (o : Int) : rightL l o = true ↔ RightL l o := by
  unfold rightL RightL
  rw [Bool.and_eq_true, rgtF_iff, decide_eq_true_eq]
  constructor
  · rintro ⟨⟨h1, h2, -⟩, h3⟩; exact ⟨h1, h2, h3⟩
  · rintro ⟨h1, h2, h3⟩; exact ⟨⟨h1, h2, fun _ h => by cases h⟩, h3⟩
theorem RightL.le {l : List Int} {o : Int} (h : RightL l o) : l.Pairwise (· ≤ ·) := h.2.1.imp (fun h => by omega)
theorem withF_true : ∀ (l : List Int) (p : Int), withF l p true = l
  | [], p => rfl
  | x :: l, p => by rw [withF, if_pos rfl, withF_true l p]
theorem mem_withF (p : Int) : ∀ (l : List Int) (x : Int), x ∈ withF l p false ↔ x = p ∨ x ∈ l
  | [], x => by simp [withF]
  | y :: l, x => by
    rw [withF, if_neg (by simp)]
    split
    · rw [withF_true]; simp
    · rw [List.mem_cons, mem_withF p l x, List.mem_cons]
      constructor
      · rintro (h | h | h)
        · exact .inr (.inl h)
        · exact .inl h
        · exact .inr (.inr h)
      · rintro (h | h | h)
        · exact .inr (.inl h)
        · exact .inl h
        · exact .inr (.inr h)
theorem withF_len (p : Int) : ∀ (l : List Int), (withF l p false).length = l.length + 1
  | [] => by simp [withF]
  | y :: l => by
    rw [withF, if_neg (by simp)]
    split
    · rw [withF_true]; simp
    · simp [withF_len p l]
theorem withF_sorted (p : Int) : ∀ (l : List Int), l.Pairwise (· < ·) → p ∉ l → (withF l p false).Pairwise (· < ·)
  | [], _, _ => by simp [withF]
  | y :: l, hs, hp => by
    rw [List.pairwise_cons] at hs
    simp only [List.mem_cons, not_or] at hp
    rw [withF, if_neg (by simp)]
    split
    · rename_i h
      rw [withF_true, List.pairwise_cons, List.pairwise_cons]
      refine ⟨fun z hz => ?_, hs⟩
      rcases List.mem_cons.1 hz with rfl | hz
      · exact h
      · exact Int.lt_trans h (hs.1 z hz)
    · rename_i h
      rw [List.pairwise_cons]
      refine ⟨fun z hz => ?_, withF_sorted p l hs.2 hp.2⟩
      rcases (mem_withF p l z).1 hz with rfl | hz
      · have := hp.1; omega
      · exact hs.1 z hz
theorem newL_with (p : Int) : ∀ (l : List Int), l.Pairwise (· < ·) → p ∉ l → newL l p true = withF l p false
  | [], _, _ => by simp [newL, withF]
  | y :: l, hs, hp => by
    rw [List.pairwise_cons] at hs
    simp only [List.mem_cons, not_or] at hp
    have ih := newL_with p l hs.2 hp.2
    rw [newL, if_pos rfl] at ih ⊢
    rw [withF, if_neg (by simp)]
    by_cases h : p < y
    · have h0 : (y :: l).countP (fun x => decide (x < p)) = 0 := by
        rw [List.countP_eq_zero]
        intro z hz
        have : p < z := by
          rcases List.mem_cons.1 hz with rfl | hz
          · exact h
          · exact Int.lt_trans h (hs.1 z hz)
        simp; omega
      rw [h0, if_pos h, withF_true]
      simp
    · have h1 : (y :: l).countP (fun x => decide (x < p)) = l.countP (fun x => decide (x < p)) + 1 := by
        rw [List.countP_cons_of_pos]
        have := hp.1
        simp; omega
      rw [h1, if_neg h, ← ih]
      simp
theorem newL_without (p : Int) : ∀ (l : List Int), l.Pairwise (· < ·) → p ∈ l → newL l p false = l.filter (fun x => x != p)
  | [], _, hp => by cases hp
  | y :: l, hs, hp => by
    rw [List.pairwise_cons] at hs
    have key : newL (y :: l) p false = (y :: l).eraseIdx ((y :: l).countP (· < p)) := by rw [newL, if_neg (by simp)]
    rw [key]
    by_cases hy : y = p
    · subst hy
      have h0 : (y :: l).countP (fun x => decide (x < y)) = 0 := by
        rw [List.countP_eq_zero]
        intro z hz
        rcases List.mem_cons.1 hz with rfl | hz
        · simp
        · have := hs.1 z hz; simp; omega
      rw [h0, List.eraseIdx_zero, List.tail_cons, List.filter_cons, if_neg (by simp)]
      symm
      rw [List.filter_eq_self]
      intro z hz
      have := hs.1 z hz
      simp; omega
    · have hpl : p ∈ l := by
        rcases List.mem_cons.1 hp with h | h
        · exact absurd h.symm hy
        · exact h
      have hlt := hs.1 p hpl
      have ih := newL_without p l hs.2 hpl
      rw [newL, if_neg (by simp)] at ih
      have h1 : (y :: l).countP (fun x => decide (x < p)) = l.countP (fun x => decide (x < p)) + 1 := by
        rw [List.countP_cons_of_pos]; simpa using hlt
      rw [h1, List.eraseIdx_cons_succ, ih, List.filter_cons, if_pos (by simpa using hy)]
/-- what the document makes of a list -/
def docL (l : List Int) (p : Int) (on : Bool) : List Int := if on = true then withF l p false else l.filter (fun x => x != p)
theorem errS_zero {o : Int} {l : List Int} {p : Int} {on : Bool} (h : errS o l p on = 0) : p ≠ o ∧ (on = true → p ∉ l ∧ l.length < 16) ∧ (on = false → p ∈ l) := by
  unfold errS at h
  by_cases h1 : p = o
  · rw [if_pos h1] at h; omega
  rw [if_neg h1] at h
  cases on with
  | true =>
    rw [if_pos rfl] at h
    by_cases h2 : p ∈ l
    · rw [if_pos h2] at h; omega
    rw [if_neg h2] at h
    by_cases h3 : 16 ≤ l.length
    · rw [if_pos h3] at h; omega
    exact ⟨h1, fun _ => ⟨h2, by omega⟩, fun h => by cases h⟩
  | false =>
    rw [if_neg (by simp)] at h
    by_cases h2 : p ∈ l
    · exact ⟨h1, fun h => (by cases h), fun _ => h2⟩
    · rw [if_neg h2] at h; omega
theorem newL_doc {o : Int} {l : List Int} {p : Int} {on : Bool} (hr : RightL l o) (h : errS o l p on = 0) : newL l p on = docL l p on := by
  obtain ⟨-, h2, h3⟩ := errS_zero h
  cases on with
  | true => rw [docL, if_pos rfl]; exact newL_with p l hr.2.1 (h2 rfl).1
  | false => rw [docL, if_neg (by simp)]; exact newL_without p l hr.2.1 (h3 rfl)
theorem docL_right {o : Int} {l : List Int} {p : Int} {on : Bool} (hr : RightL l o) (h : errS o l p on = 0) (hp1 : 1 ≤ p) (hp2 : p ≤ 256) : RightL (docL l p on) o := by
  obtain ⟨h1, h2, h3⟩ := errS_zero h
  cases on with
  | true =>
    rw [docL, if_pos rfl]
    refine ⟨fun x hx => ?_, withF_sorted p l hr.2.1 (h2 rfl).1, by rw [withF_len]; have := (h2 rfl).2; omega⟩
    rcases (mem_withF p l x).1 hx with rfl | hx
    · exact ⟨hp1, hp2, h1⟩
    · exact hr.1 x hx
  | false =>
    rw [docL, if_neg (by simp)]
    refine ⟨fun x hx => hr.1 x (List.mem_filter.1 hx).1, hr.2.1.filter _, ?_⟩
    exact Nat.le_trans (List.length_filter_le _ _) hr.2.2
theorem wrongF_zero {o : Int} {lc lf lb : List Int} {n p : Int} {on : Bool} (h : wrongF o lc lf lb n p on = 0) : 1 ≤ n ∧ n ≤ 3 ∧ 1 ≤ p ∧ p ≤ 256 ∧ errS o (pickL n.toNat lc lf lb) p on = 0 := by
  unfold wrongF at h
  split at h
  · omega
  · exact ⟨by omega, by omega, by omega, by omega, h⟩
end Go.Proofs.Ytdchopckbklncaa
