/- Joined texts, in this order: StallResMath. Each one's first remark says what it proves; no condition beyond those that its theorems name. -/
import Derived.Test.YtajfjgekcjkedaaJLawStallRestores18
import Derived.Test.YtajfjgekcjkedaaJLawStallRestores25
section
/- Plain: rows from which stalls are told again; right just if every call of the document's goes well. -/
namespace Go.Proofs.Ytajfjgekcjkedaa
open Go.RowKit
open Go.Lib (hid)
set_option linter.unusedVariables false

/-- after i goods of a house's -/
def gX (X : StX) (h : Int) (gs : List (Int × Int)) : Nat → StX
  | 0 => X
  | i + 1 => match gs[i]? with
    | some g => putX (gX X h gs i) h g.1 g.2
    | none => gX X h gs i
def prevT (gs : List (Int × Int)) (i : Nat) : Int := ((gs[i - 1]?).map (·.1)).getD 0
def gOk (X : StX) (h : Int) (gs : List (Int × Int)) : Nat → Bool
  | 0 => true
  | i + 1 => match gs[i]? with
    | some g => gOk X h gs i && (putE (gX X h gs i) h g.1 g.2 == 0) && (i == 0 || decide (prevT gs i < g.1))
    | none => gOk X h gs i
def lastH (L : List R3) (k : Nat) : Int := if k = 0 then 0 else ((L[k - 1]?).map (·.1)).getD 0
def row0 (X : StX) (p : R3) : StX := setX (openX X p.1).1 p.1 p.2.1
def rX (L : List R3) : Nat → StX
  | 0 => ⟨[], []⟩
  | k + 1 => match L[k]? with
    | some p => gX (row0 (rX L k) p) p.1 p.2.2 p.2.2.length
    | none => rX L k
def headOk (X : StX) (last : Int) (p : R3) : Bool := ((openX X p.1).2 == 0) && decide (last < p.1) && decide (0 ≤ p.2.1) && decide (p.2.1 ≤ 1099511627776)
def rOk (L : List R3) : Nat → Bool
  | 0 => true
  | k + 1 => match L[k]? with
    | some p => rOk L k && headOk (rX L k) (lastH L k) p && gOk (row0 (rX L k) p) p.1 p.2.2 p.2.2.length
    | none => rOk L k
theorem gOk_le {X : StX} {h : Int} {gs : List (Int × Int)} {i : Nat} (e : gOk X h gs i = false) : ∀ d, gOk X h gs (i + d) = false
  | 0 => e
  | d + 1 => by
    have ih := gOk_le e d
    show gOk X h gs ((i + d) + 1) = false
    unfold gOk
    split
    · rw [ih]; rfl
    · exact ih
theorem rOk_le {L : List R3} {i : Nat} (e : rOk L i = false) : ∀ d, rOk L (i + d) = false
  | 0 => e
  | d + 1 => by
    have ih := rOk_le e d
    show rOk L ((i + d) + 1) = false
    unfold rOk
    split
    · rw [ih]; rfl
    · exact ih
theorem gX_step {X : StX} {h : Int} {gs : List (Int × Int)} {i : Nat} {g : Int × Int} (e : gs[i]? = some g) : gX X h gs (i + 1) = putX (gX X h gs i) h g.1 g.2 := by
  show (match gs[i]? with | some g => putX (gX X h gs i) h g.1 g.2 | none => gX X h gs i) = _
  rw [e]
theorem gOk_step {X : StX} {h : Int} {gs : List (Int × Int)} {i : Nat} {g : Int × Int} (e : gs[i]? = some g) : gOk X h gs (i + 1) = (gOk X h gs i && (putE (gX X h gs i) h g.1 g.2 == 0) && (i == 0 || decide (prevT gs i < g.1))) := by
  show (match gs[i]? with | some g => gOk X h gs i && (putE (gX X h gs i) h g.1 g.2 == 0) && (i == 0 || decide (prevT gs i < g.1)) | none => gOk X h gs i) = _
  rw [e]
theorem rX_step {L : List R3} {k : Nat} {p : R3} (e : L[k]? = some p) : rX L (k + 1) = gX (row0 (rX L k) p) p.1 p.2.2 p.2.2.length := by
  show (match L[k]? with | some p => gX (row0 (rX L k) p) p.1 p.2.2 p.2.2.length | none => rX L k) = _
  rw [e]
theorem rOk_step {L : List R3} {k : Nat} {p : R3} (e : L[k]? = some p) : rOk L (k + 1) = (rOk L k && headOk (rX L k) (lastH L k) p && gOk (row0 (rX L k) p) p.1 p.2.2 p.2.2.length) := by
  show (match L[k]? with | some p => rOk L k && headOk (rX L k) (lastH L k) p && gOk (row0 (rX L k) p) p.1 p.2.2 p.2.2.length | none => rOk L k) = _
  rw [e]
theorem lastH_step {L : List R3} {k : Nat} {p : R3} (e : L[k]? = some p) : lastH L (k + 1) = p.1 := by
  unfold lastH
  rw [if_neg (by omega), show k + 1 - 1 = k by omega, e]
  rfl
/-- what stays even behind a wrong row -/
structure SInv (X : StX) : Prop where
  t1 : SortK kT X.tills
  g1 : SortK kG X.goods
theorem SInv.open {X : StX} (h : SInv X) (k : Int) : SInv (openX X k).1 := by
  unfold openX
  split
  · exact h
  · split
    · exact h
    · rename_i q
      have hn : X.tills.lookup k = none := by cases e : X.tills.lookup k with | none => rfl | some g => rw [e] at q; simp at q
      exact ⟨insK_sorted kT h.t1 (fun y hy => lookup_none_iff.1 hn y hy), h.g1⟩
theorem SInv.set {X : StX} (h : SInv X) (k g : Int) : SInv (setX X k g) := ⟨setT_sorted h.t1 k g, h.g1⟩
theorem SInv.put {X : StX} (h : SInv X) (k t p : Int) : SInv (putX X k t p) := by
  by_cases e : putE X k t p = 0
  · unfold putX
    rw [if_pos e]
    have hf : fdX X.goods t = none := by
      cases q : fdX X.goods t with
      | none => rfl
      | some g =>
        exfalso
        unfold putE at e
        rw [q] at e
        repeat' split at e
        all_goals simp_all
    exact ⟨h.t1, insK_sorted kG h.g1 (fun y hy => fdX_none.1 hf y hy)⟩
  · unfold putX
    rw [if_neg e]
    exact h
theorem SInv.goods {X : StX} (hX : SInv X) (h : Int) (gs : List (Int × Int)) : ∀ i, SInv (gX X h gs i)
  | 0 => hX
  | i + 1 => by
    unfold gX
    split
    · exact (SInv.goods hX h gs i).put _ _ _
    · exact SInv.goods hX h gs i
theorem SInv.row {X : StX} (hX : SInv X) (p : R3) : SInv (row0 X p) := (hX.open p.1).set _ _
theorem SInv.rows (L : List R3) : ∀ k, SInv (rX L k)
  | 0 => ⟨List.Pairwise.nil, List.Pairwise.nil⟩
  | k + 1 => by
    unfold rX
    split
    · exact ((SInv.rows L k).row _).goods _ _ _
    · exact SInv.rows L k
theorem putX_len (X : StX) (k t p : Int) : (putX X k t p).tills.length = X.tills.length ∧ (putX X k t p).goods.length ≤ X.goods.length + 1 := by
  unfold putX
  split
  · exact ⟨rfl, by (try dsimp only); rw [insK_len]; exact Nat.le_refl _⟩
  · exact ⟨rfl, by omega⟩
theorem gX_len (X : StX) (h : Int) (gs : List (Int × Int)) : ∀ i, (gX X h gs i).tills.length = X.tills.length ∧ (gX X h gs i).goods.length ≤ X.goods.length + i
  | 0 => ⟨rfl, Nat.le_refl _⟩
  | i + 1 => by
    have ih := gX_len X h gs i
    unfold gX
    split
    · rename_i g _
      have := putX_len (gX X h gs i) h g.1 g.2
      omega
    · omega
theorem row0_len (X : StX) (p : R3) : (row0 X p).tills.length ≤ X.tills.length + 1 ∧ (row0 X p).goods.length = X.goods.length := by
  unfold row0 setX openX
  (try dsimp only)
  rw [setT_len]
  split
  · exact ⟨by (try dsimp only); omega, rfl⟩
  · split
    · exact ⟨by (try dsimp only); omega, rfl⟩
    · exact ⟨by (try dsimp only); rw [insK_len]; exact Nat.le_refl _, rfl⟩
theorem rX_len {L : List R3} (hg : ∀ p ∈ L, p.2.2.length ≤ 30) : ∀ k, (rX L k).tills.length ≤ k ∧ (rX L k).goods.length ≤ 30 * k
  | 0 => ⟨Nat.le_refl _, Nat.le_refl _⟩
  | k + 1 => by
    have ih := rX_len hg k
    unfold rX
    split
    · rename_i p hp
      have h1 := row0_len (rX L k) p
      have h2 := gX_len (row0 (rX L k) p) p.1 p.2.2 p.2.2.length
      have h3 := hg p (List.mem_of_getElem? hp)
      omega
    · omega
end Go.Proofs.Ytajfjgekcjkedaa
end
