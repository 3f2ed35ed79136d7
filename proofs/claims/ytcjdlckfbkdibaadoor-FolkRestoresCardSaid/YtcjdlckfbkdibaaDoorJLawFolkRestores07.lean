/- Joined texts, in this order: FolkMath. Each one's first remark says what it proves; no condition beyond those that its theorems name. -/
import Derived.Test.YtcjdlckfbkdibaaDoorJLawFolkRestores04
import Derived.Test.YtcjdlckfbkdibaaDoorJLawFolkRestores05
import Derived.Test.YtcjdlckfbkdibaaDoorJLawFolkRestores06
section
/- Plain: accounts as a list of names and gold; the memory of them. -/
namespace Go.Proofs.YtcjdlckfbkdibaaDoor
open Go.RowKit
open Go.Lib (hid)
set_option linter.unusedVariables false

/-- the number of an account; 0: there is none -/
def fkFind : List (List UInt8 × Int) → List UInt8 → Nat
  | [], _ => 0
  | p :: L, x => if p.1 = x then 1 else if fkFind L x = 0 then 0 else fkFind L x + 1
theorem fkFind_le : ∀ (L : List (List UInt8 × Int)) (x : List UInt8), fkFind L x ≤ L.length
  | [], x => by simp [fkFind]
  | p :: L, x => by
    have := fkFind_le L x
    unfold fkFind
    simp only [List.length_cons]
    split
    · omega
    · split <;> omega
theorem fkFind_zero : ∀ {L : List (List UInt8 × Int)} {x : List UInt8}, fkFind L x = 0 ↔ ∀ p ∈ L, p.1 ≠ x
  | [], x => by simp [fkFind]
  | p :: L, x => by
    have := fkFind_zero (L := L) (x := x)
    unfold fkFind
    by_cases h : p.1 = x
    · rw [if_pos h]
      constructor
      · intro h2; simp at h2
      · intro h2; exact absurd h (h2 p (by simp))
    · rw [if_neg h]
      by_cases h0 : fkFind L x = 0
      · rw [if_pos h0]
        have h1 := this.1 h0
        constructor
        · intro _ q hq
          rcases List.mem_cons.1 hq with rfl | hq
          · exact h
          · exact h1 q hq
        · intro _; rfl
      · rw [if_neg h0]
        constructor
        · intro h2; omega
        · intro h2; exact absurd (this.2 (fun q hq => h2 q (by simp [hq]))) h0
/-- what the map of names has -/
def namesV : Nat → List (List UInt8 × Int) → List (List UInt8 × Value)
  | _, [] => []
  | n, p :: L => (p.1, .int .i64 ((n + 1 : Nat) : Int)) :: namesV (n + 1) L
theorem names_look : ∀ (L : List (List UInt8 × Int)) (n : Nat) (x : List UInt8), (namesV n L).lookup x = if fkFind L x = 0 then none else some (.int .i64 ((n + fkFind L x : Nat) : Int))
  | [], n, x => by simp [namesV, fkFind]
  | p :: L, n, x => by
    rw [namesV, List.lookup_cons, names_look L (n + 1) x, fkFind]
    by_cases h : p.1 = x
    · subst h; simp
    · have hb : (x == p.1) = false := by simpa using fun e : x = p.1 => h e.symm
      rw [hb, if_neg h]
      by_cases h0 : fkFind L x = 0
      · simp [h0]
      · simp only [h0, if_false]
        rw [if_neg (by omega), show n + 1 + fkFind L x = n + (fkFind L x + 1) by omega]
theorem names_append : ∀ (L : List (List UInt8 × Int)) (n : Nat) (x : List UInt8) (g : Int), namesV n (L ++ [(x, g)]) = namesV n L ++ [(x, .int .i64 ((n + L.length + 1 : Nat) : Int))]
  | [], n, x, g => by simp [namesV]
  | p :: L, n, x, g => by
    rw [List.cons_append, namesV, namesV, names_append L (n + 1) x g, List.cons_append, List.length_cons, show n + 1 + L.length + 1 = n + (L.length + 1) + 1 by omega]
theorem names_put (L : List (List UInt8 × Int)) (x : List UInt8) (h : fkFind L x = 0) : MS.aput (namesV 0 L) x (.int .i64 ((L.length + 1 : Nat) : Int)) = namesV 0 (L ++ [(x, 0)]) := by
  unfold MS.aput
  rw [names_look, if_pos h, if_neg (by simp), names_append, Nat.zero_add]
theorem names_gold : ∀ (L : List (List UInt8 × Int)) (n i : Nat) (x : List UInt8) (g y : Int), L[i]? = some (x, g) → namesV n (L.set i (x, y)) = namesV n L
  | [], n, i, x, g, y, h => by simp at h
  | p :: L, n, 0, x, g, y, h => by simp at h; subst h; rfl
  | p :: L, n, i + 1, x, g, y, h => by
    simp at h
    rw [List.set_cons_succ, namesV, namesV, names_gold L (n + 1) i x g y h]
/-- the cells of the rows -/
def rvF (L : List (List UInt8 × Int)) : List Value := L.flatMap fun p => [Value.string ⟨p.1.toArray⟩, .int .i64 p.2]
theorem rvF_length (X : List (List UInt8 × Int)) : (rvF X).length = X.length * 2 := by
  unfold rvF
  induction X with
  | nil => rfl
  | cons p X ih => rw [List.flatMap_cons, List.length_append, ih]; simp; omega
theorem rvF_append (X Y : List (List UInt8 × Int)) : rvF (X ++ Y) = rvF X ++ rvF Y := by unfold rvF; rw [List.flatMap_append]
theorem rvF_at : ∀ (X : List (List UInt8 × Int)) (i : Nat) (p : List UInt8 × Int), X[i]? = some p → (rvF X)[i * 2]? = some (.string ⟨p.1.toArray⟩) ∧ (rvF X)[i * 2 + 1]? = some (.int .i64 p.2)
  | [], i, p, h => by simp at h
  | q :: X, 0, p, h => by simp at h; subst h; exact ⟨rfl, rfl⟩
  | q :: X, i + 1, p, h => by
    simp at h
    have := rvF_at X i p h
    have e : rvF (q :: X) = .string ⟨q.1.toArray⟩ :: .int .i64 q.2 :: rvF X := rfl
    rw [e, show (i + 1) * 2 = i * 2 + 1 + 1 by omega]
    simpa using this
theorem rvF_set : ∀ (X : List (List UInt8 × Int)) (j : Nat) (h : List UInt8) (x y : Int), X[j]? = some (h, x) → rvF (X.set j (h, y)) = (rvF X).set (j * 2 + 1) (.int .i64 y)
  | [], j, h, x, y, e => by simp at e
  | q :: X, 0, h, x, y, e => by simp at e; subst e; rfl
  | q :: X, j + 1, h, x, y, e => by
    simp at e
    have ih := rvF_set X j h x y e
    have e1 : ∀ X : List (List UInt8 × Int), rvF (q :: X) = .string ⟨q.1.toArray⟩ :: .int .i64 q.2 :: rvF X := fun _ => rfl
    rw [List.set_cons_succ, e1, e1, ih, show (j + 1) * 2 + 1 = (j * 2 + 1) + 1 + 1 by omega, List.set_cons_succ, List.set_cons_succ]
/-- a new account: what is told, and what there is then -/
def addFE (L : List (List UInt8 × Int)) (x : List UInt8) : Int := if nameB x then (if fkFind L x = 0 then (if L.length < 256 then 0 else 12) else 13) else 16
def addFI (L : List (List UInt8 × Int)) (x : List UInt8) : Int := if addFE L x = 0 then ((L.length + 1 : Nat) : Int) else 0
def addFL (L : List (List UInt8 × Int)) (x : List UInt8) : List (List UInt8 × Int) := if addFE L x = 0 then L ++ [(x, 0)] else L
/-- may an account, and an amount, be? -/
def checkE (L : List (List UInt8 × Int)) (id n : Int) : Int := if 1 ≤ id ∧ id ≤ (L.length : Int) then (if 0 ≤ n ∧ n ≤ 1099511627776 then 0 else 11) else 14
end Go.Proofs.YtcjdlckfbkdibaaDoor
end
