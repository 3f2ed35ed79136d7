/- Joined texts, in this order: NameMath. Each one's first remark says what it proves; no condition beyond those that its theorems name. -/
import Derived.Lib.SlTrimSet
import Derived.Lib.Bytealg
section
/- What a name is (layers 17 and 27). No program in sight. -/
namespace Go.Proofs.YtdoflhiogoefjaaDoor
open Go.Lib (trimS trimLeftS trimRightS indexByte)

def isFirstB (c : UInt8) : Bool := decide (97 ≤ c.toNat) && decide (c.toNat ≤ 122)
def isLetB (c : UInt8) : Bool := isFirstB c || (decide (48 ≤ c.toNat) && decide (c.toNat ≤ 57)) || c == 45
def nameB (l : List UInt8) : Bool := decide (1 ≤ l.length) && decide (l.length ≤ 16) && isFirstB (l.getD 0 0) && l.all isLetB
def firstS : List UInt8 := [97, 98, 99, 100, 101, 102, 103, 104, 105, 106, 107, 108, 109, 110, 111, 112, 113, 114, 115, 116, 117, 118, 119, 120, 121, 122]
def lettersS : List UInt8 := firstS ++ [48, 49, 50, 51, 52, 53, 54, 55, 56, 57, 45]
theorem u8_all {P : UInt8 → Prop} (h : ∀ n : Fin 256, P (UInt8.ofNat n.val)) (c : UInt8) : P c := by
  have := h ⟨c.toNat, c.toNat_lt⟩
  simpa using this
set_option maxRecDepth 100000 in
theorem letters_contains (c : UInt8) : lettersS.contains c = isLetB c := u8_all (P := fun c => lettersS.contains c = isLetB c) (by decide) c
set_option maxRecDepth 100000 in
theorem index_first (c : UInt8) : decide (0 ≤ indexByte firstS c) = isFirstB c := u8_all (P := fun c => decide (0 ≤ indexByte firstS c) = isFirstB c) (by decide) c
theorem trimLeft_empty (l cs : List UInt8) : (trimLeftS l cs).isEmpty = l.all (cs.contains ·) := by
  unfold trimLeftS
  induction l with
  | nil => rfl
  | cons a l ih =>
    rw [List.dropWhile_cons]
    cases h : cs.contains a
    · simp only [Bool.false_eq_true, if_false, List.all_cons, h, Bool.false_and]; rfl
    · simp only [if_true, List.all_cons, h, Bool.true_and]; exact ih
theorem dropWhile_all (p : UInt8 → Bool) (l : List UInt8) : (l.dropWhile p).all p = l.all p := by
  induction l with
  | nil => rfl
  | cons a l ih =>
    rw [List.dropWhile_cons]
    cases h : p a
    · simp [h]
    · simp only [if_true, List.all_cons, h, Bool.true_and]; exact ih
theorem trim_empty (l cs : List UInt8) : (trimS l cs).isEmpty = l.all (cs.contains ·) := by
  unfold trimS
  rw [trimLeft_empty]
  unfold trimRightS
  rw [List.all_reverse, dropWhile_all, List.all_reverse]
theorem trim_letters (l : List UInt8) : (trimS l lettersS).isEmpty = l.all isLetB := by
  rw [trim_empty]
  congr 1
  funext c
  exact letters_contains c
/-- the program's word of it -/
theorem nameB_eq (l : List UInt8) : nameB l = (!l.isEmpty && decide (l.length ≤ 16) && (trimS l lettersS).isEmpty && decide (0 ≤ indexByte firstS (l.getD 0 0))) := by
  unfold nameB
  rw [trim_letters, index_first]
  cases l with
  | nil => rfl
  | cons a l =>
    have : decide (1 ≤ (a :: l).length) = true := by simp
    rw [this]
    simp only [List.isEmpty_cons, Bool.not_false, Bool.true_and]
    cases decide ((a :: l).length ≤ 16) <;> cases isFirstB ((a :: l).getD 0 0) <;> cases (a :: l).all isLetB <;> rfl
end Go.Proofs.YtdoflhiogoefjaaDoor
end
