/- Joined texts, in this order: SortK, NameMath. Each one's first remark says what it proves; no condition beyond those that its theorems name. -/
import Derived.Test.YtdoflhiogoefjaaDoorJLawThingCopies02
import Derived.Lib.SlTrimSet
import Derived.Lib.Bytealg
section
/- Plain: lists that rise by a key: insertion, places, taking out. No program in sight. -/
namespace Go.Proofs.YtdoflhiogoefjaaDoor
set_option linter.unusedVariables false

section
variable {α : Type} (key : α → Int)
/-- into a list that rises -/
def insK : List α → α → List α
  | [], x => [x]
  | q :: l, x => if key q < key x then q :: insK l x else x :: q :: l
/-- how many stand ahead of a key -/
def posK : List α → Int → Nat
  | [], _ => 0
  | q :: l, t => if key q < t then posK l t + 1 else 0
def SortK (l : List α) : Prop := l.Pairwise (fun a b => key a < key b)
theorem insK_nil (x : α) : insK key [] x = [x] := rfl
theorem insK_cons (q : α) (l : List α) (x : α) : insK key (q :: l) x = if key q < key x then q :: insK key l x else x :: q :: l := rfl
theorem posK_le : ∀ (l : List α) (t : Int), posK key l t ≤ l.length
  | [], t => by simp [posK]
  | q :: l, t => by
    have := posK_le l t
    unfold posK
    split <;> simp <;> omega
theorem insK_split : ∀ (l : List α) (x : α), insK key l x = l.take (posK key l (key x)) ++ x :: l.drop (posK key l (key x))
  | [], x => rfl
  | q :: l, x => by
    unfold insK posK
    by_cases h : key q < key x
    · rw [if_pos h, if_pos h, insK_split l x]; simp
    · rw [if_neg h, if_neg h]; simp
theorem insK_perm (l : List α) (x : α) : (insK key l x).Perm (x :: l) := by
  rw [insK_split]
  have : (x :: (l.take (posK key l (key x)) ++ l.drop (posK key l (key x)))).Perm (x :: l) := by rw [List.take_append_drop]
  exact List.perm_middle.trans this
theorem insK_len (l : List α) (x : α) : (insK key l x).length = l.length + 1 := by rw [(insK_perm key l x).length_eq]; rfl
theorem mem_insK {l : List α} {x y : α} : y ∈ insK key l x ↔ y = x ∨ y ∈ l := by rw [(insK_perm key l x).mem_iff, List.mem_cons]
theorem posK_lt : ∀ {l : List α} {t : Int} {i : Nat} {x : α}, l[i]? = some x → i < posK key l t → key x < t
  | [], t, i, x, h, _ => by simp at h
  | q :: l, t, 0, x, h, hi => by
    simp at h; subst h
    unfold posK at hi
    by_cases h : key q < t
    · exact h
    · rw [if_neg h] at hi; omega
  | q :: l, t, i + 1, x, h, hi => by
    simp at h
    unfold posK at hi
    by_cases h2 : key q < t
    · rw [if_pos h2] at hi; exact posK_lt h (by omega)
    · rw [if_neg h2] at hi; omega
theorem posK_ge : ∀ {l : List α} {t : Int} {i : Nat} {x : α}, SortK key l → l[i]? = some x → posK key l t ≤ i → t ≤ key x
  | [], t, i, x, _, h, _ => by simp at h
  | q :: l, t, 0, x, hs, h, hi => by
    simp at h; subst h
    unfold posK at hi
    by_cases h : key q < t
    · rw [if_pos h] at hi; omega
    · omega
  | q :: l, t, i + 1, x, hs, h, hi => by
    simp at h
    have hs2 := List.pairwise_cons.1 hs
    unfold posK at hi
    by_cases h2 : key q < t
    · rw [if_pos h2] at hi; exact posK_ge hs2.2 h (by omega)
    · have := hs2.1 x (List.mem_of_getElem? h); omega
/-- the place is told by its two sides -/
theorem posK_unique {l : List α} {t : Int} {i : Nat} (hs : SortK key l) (hi : i ≤ l.length) (h1 : ∀ j x, l[j]? = some x → j < i → key x < t) (h2 : ∀ j x, l[j]? = some x → i ≤ j → t ≤ key x) : posK key l t = i := by
  have hp := posK_le key l t
  rcases Nat.lt_trichotomy (posK key l t) i with h | h | h
  · have hl : posK key l t < l.length := by omega
    have a := h1 _ _ (List.getElem?_eq_getElem hl) h
    have b := posK_ge key hs (List.getElem?_eq_getElem hl) (Nat.le_refl _)
    omega
  · exact h
  · have hl : i < l.length := by omega
    have a := h2 _ _ (List.getElem?_eq_getElem hl) (Nat.le_refl _)
    have b := posK_lt key (List.getElem?_eq_getElem hl) h
    omega
theorem insK_sorted {l : List α} {x : α} (hs : SortK key l) (hx : ∀ y ∈ l, key y ≠ key x) : SortK key (insK key l x) := by
  rw [insK_split]
  have h0 := hs
  rw [← List.take_append_drop (posK key l (key x)) l] at h0
  unfold SortK at h0 ⊢
  rw [List.pairwise_append] at h0 ⊢
  have ha : ∀ y ∈ l.take (posK key l (key x)), key y < key x := by
    intro y hy
    obtain ⟨i, hi⟩ := List.getElem?_of_mem hy
    rw [List.getElem?_take] at hi
    split at hi
    · exact posK_lt key hi (by assumption)
    · simp at hi
  have hb : ∀ y ∈ l.drop (posK key l (key x)), key x < key y := by
    intro y hy
    obtain ⟨i, hi⟩ := List.getElem?_of_mem hy
    rw [List.getElem?_drop] at hi
    have := posK_ge key hs hi (by omega : posK key l (key x) ≤ posK key l (key x) + i)
    have := hx y (List.mem_of_getElem? hi)
    omega
  refine ⟨h0.1, List.pairwise_cons.2 ⟨hb, h0.2.1⟩, ?_⟩
  intro a hm b hb2
  rcases List.mem_cons.1 hb2 with rfl | hb2
  · exact ha a hm
  · exact h0.2.2 a hm b hb2
theorem filter_insK (f : α → Bool) : ∀ {l : List α} {x : α}, SortK key l → (insK key l x).filter f = if f x then insK key (l.filter f) x else l.filter f
  | [], x, _ => by cases h : f x <;> simp [h, insK]
  | q :: l, x, hs => by
    have hs2 := List.pairwise_cons.1 hs
    rw [insK_cons]
    by_cases h : key q < key x
    · rw [if_pos h]
      have ih := filter_insK f (x := x) hs2.2
      cases hq : f q with
      | true =>
        rw [List.filter_cons_of_pos hq, ih, List.filter_cons_of_pos hq]
        cases f x with
        | true => rw [if_pos rfl, if_pos rfl, insK_cons, if_pos h]
        | false => simp
      | false => rw [List.filter_cons_of_neg (by simp [hq]), ih, List.filter_cons_of_neg (by simp [hq])]
    · rw [if_neg h]
      have hins : ∀ m : List α, (∀ y ∈ m, key x ≤ key y) → insK key m x = x :: m := by
        intro m hm
        cases m with
        | nil => rfl
        | cons y m => rw [insK_cons, if_neg (by have := hm y (by simp); omega)]
      have hall : ∀ y ∈ (q :: l).filter f, key x ≤ key y := by
        intro y hy
        rcases List.mem_cons.1 (List.mem_filter.1 hy).1 with rfl | hy
        · omega
        · have := hs2.1 y hy; omega
      cases hx : f x with
      | true => rw [List.filter_cons_of_pos hx, if_pos rfl, hins _ hall]
      | false => rw [List.filter_cons_of_neg (by simp [hx])]; simp
theorem map_insK {β : Type} (g : α → β) (key' : β → Int) (e : ∀ a, key' (g a) = key a) : ∀ (l : List α) (x : α), (insK key l x).map g = insK key' (l.map g) (g x)
  | [], x => rfl
  | q :: l, x => by
    rw [insK_cons, List.map_cons, insK_cons, e, e]
    by_cases h : key q < key x
    · rw [if_pos h, if_pos h, List.map_cons, map_insK g key' e l x]
    · rw [if_neg h, if_neg h, List.map_cons, List.map_cons]
theorem SortK.filter {l : List α} (hs : SortK key l) (f : α → Bool) : SortK key (l.filter f) := List.Pairwise.filter f hs
theorem SortK.nodup {l : List α} (hs : SortK key l) : (l.map key).Nodup := by
  unfold List.Nodup
  rw [List.pairwise_map]
  exact List.Pairwise.imp (fun h e => by omega) hs
theorem sortK_inj {l : List α} (hs : SortK key l) {x y : α} (hx : x ∈ l) (hy : y ∈ l) (e : key x = key y) : x = y := by
  obtain ⟨i, hi⟩ := List.getElem?_of_mem hx
  obtain ⟨j, hj⟩ := List.getElem?_of_mem hy
  have li := (List.getElem?_eq_some_iff.1 hi).1
  have lj := (List.getElem?_eq_some_iff.1 hj).1
  have ei := (List.getElem?_eq_some_iff.1 hi).2
  have ej := (List.getElem?_eq_some_iff.1 hj).2
  have hp := List.pairwise_iff_getElem.1 hs
  rcases Nat.lt_trichotomy i j with h | h | h
  · have := hp i j li lj h; rw [ei, ej] at this; omega
  · subst h; rw [hi] at hj; exact Option.some.inj hj
  · have := hp j i lj li h; rw [ei, ej] at this; omega
/-- one that is there stands at its place -/
theorem posK_at {l : List α} (hs : SortK key l) {x : α} (hx : x ∈ l) : l[posK key l (key x)]? = some x := by
  obtain ⟨i, hi⟩ := List.getElem?_of_mem hx
  have li := (List.getElem?_eq_some_iff.1 hi).1
  have : posK key l (key x) = i := by
    refine posK_unique key hs (by omega) (fun j y hj hji => ?_) (fun j y hj hij => ?_)
    · have lj := (List.getElem?_eq_some_iff.1 hj).1
      have := List.pairwise_iff_getElem.1 hs j i lj li hji
      rw [(List.getElem?_eq_some_iff.1 hi).2, (List.getElem?_eq_some_iff.1 hj).2] at this
      exact this
    · have lj := (List.getElem?_eq_some_iff.1 hj).1
      rcases Nat.lt_or_ge i j with h | h
      · have := List.pairwise_iff_getElem.1 hs i j li lj h
        rw [(List.getElem?_eq_some_iff.1 hi).2, (List.getElem?_eq_some_iff.1 hj).2] at this
        omega
      · have : i = j := by omega
        subst this
        rw [hi] at hj
        obtain rfl := Option.some.inj hj
        omega
  rw [this]; exact hi
theorem erase_posK {l : List α} (hs : SortK key l) {x : α} (hx : x ∈ l) : l.take (posK key l (key x)) ++ l.drop (posK key l (key x) + 1) = l.filter (fun y => !decide (key y = key x)) := by
  have hat := posK_at key hs hx
  have hl := (List.getElem?_eq_some_iff.1 hat).1
  have hd : l.drop (posK key l (key x)) = x :: l.drop (posK key l (key x) + 1) := by
    rw [List.drop_eq_getElem_cons hl, (List.getElem?_eq_some_iff.1 hat).2]
  conv => rhs; rw [← List.take_append_drop (posK key l (key x)) l, hd]
  rw [List.filter_append, List.filter_cons_of_neg (by simp)]
  congr 1
  · symm
    rw [List.filter_eq_self]
    intro y hy
    obtain ⟨i, hi⟩ := List.getElem?_of_mem hy
    rw [List.getElem?_take] at hi
    split at hi
    · have := posK_lt key hi (by assumption)
      simp; omega
    · simp at hi
  · symm
    rw [List.filter_eq_self]
    intro y hy
    obtain ⟨i, hi⟩ := List.getElem?_of_mem hy
    rw [List.getElem?_drop] at hi
    have li := (List.getElem?_eq_some_iff.1 hi).1
    have := List.pairwise_iff_getElem.1 hs _ _ hl li (by omega)
    rw [(List.getElem?_eq_some_iff.1 hat).2, (List.getElem?_eq_some_iff.1 hi).2] at this
    simp; omega
end
/-- two association lists that tell the same are one but for the order -/
theorem perm_of_lookup {α : Type} {m n : List (Int × α)} (hm : (m.map (·.1)).Nodup) (hn : (n.map (·.1)).Nodup) (h : ∀ k, m.lookup k = n.lookup k) : m.Perm n := by
  classical
  have e1 : m.Nodup := nodup_of_map _ hm
  have e2 : n.Nodup := nodup_of_map _ hn
  rw [List.perm_ext_iff_of_nodup e1 e2]
  rintro ⟨k, v⟩
  rw [← lookup_mem_iff hm, ← lookup_mem_iff hn, h k]
end Go.Proofs.YtdoflhiogoefjaaDoor
end
section
/- What a name is (layers 17 and 27). No program in sight. -/
namespace Go.Proofs.YtdoflhiogoefjaaDoor
open Go.Lib (trimS trimLeftS trimRightS indexByte)

def isFirstB (c : UInt8) : Bool := decide (97 ≤ c.toNat) && decide (c.toNat ≤ 122)
def isLetB (c : UInt8) : Bool := isFirstB c || (decide (48 ≤ c.toNat) && decide (c.toNat ≤ 57)) || c == 45
def nameB (l : List UInt8) : Bool := decide (1 ≤ l.length) && decide (l.length ≤ 16) && isFirstB (l.getD 0 0) && l.all isLetB
def firstS : List UInt8 := [97, 98, 99, 100, 101, 102, 103, 104, 105, 106, 107, 108, 109, 110, 111, 112, 113, 114, 115, 116, 117, 118, 119, 120, 121, 122]
def lettersS : List UInt8 := firstS ++ [48, 49, 50, 51, 52, 53, 54, 55, 56, 57, 45]
theorem u8_all {P : UInt8 → Prop} (h : ∀ n : Fin 256, P (UInt8.ofNat n.val)) (c : UInt8) : P c := by
  have := h ⟨c.toNat, c.toNat_lt⟩
  simpa using this
set_option maxRecDepth 100000 in
theorem letters_contains (c : UInt8) : lettersS.contains c = isLetB c := u8_all (P := fun c => lettersS.contains c = isLetB c) (by decide) c
set_option maxRecDepth 100000 in
theorem index_first (c : UInt8) : decide (0 ≤ indexByte firstS c) = isFirstB c := u8_all (P := fun c => decide (0 ≤ indexByte firstS c) = isFirstB c) (by decide) c
theorem trimLeft_empty (l cs : List UInt8) : (trimLeftS l cs).isEmpty = l.all (cs.contains ·) := by
  unfold trimLeftS
  induction l with
  | nil => rfl
  | cons a l ih =>
    rw [List.dropWhile_cons]
    cases h : cs.contains a
    · simp only [Bool.false_eq_true, if_false, List.all_cons, h, Bool.false_and]; rfl
    · simp only [if_true, List.all_cons, h, Bool.true_and]; exact ih
theorem dropWhile_all (p : UInt8 → Bool) (l : List UInt8) : (l.dropWhile p).all p = l.all p := by
  induction l with
  | nil => rfl
  | cons a l ih =>
    rw [List.dropWhile_cons]
    cases h : p a
    · simp [h]
    · simp only [if_true, List.all_cons, h, Bool.true_and]; exact ih
theorem trim_empty (l cs : List UInt8) : (trimS l cs).isEmpty = l.all (cs.contains ·) := by
  unfold trimS
  rw [trimLeft_empty]
  unfold trimRightS
  rw [List.all_reverse, dropWhile_all, List.all_reverse]
theorem trim_letters (l : List UInt8) : (trimS l lettersS).isEmpty = l.all isLetB := by
  rw [trim_empty]
  congr 1
  funext c
  exact letters_contains c
/-- the program's word of it -/
theorem nameB_eq (l : List UInt8) : nameB l = (!l.isEmpty && decide (l.length ≤ 16) && (trimS l lettersS).isEmpty && decide (0 ≤ indexByte firstS (l.getD 0 0))) := by
  unfold nameB
  rw [trim_letters, index_first]
  cases l with
  | nil => rfl
  | cons a l =>
    have : decide (1 ≤ (a :: l).length) = true := by simp
    rw [this]
    simp only [List.isEmpty_cons, Bool.not_false, Bool.true_and]
    cases decide ((a :: l).length ≤ 16) <;> cases isFirstB ((a :: l).getD 0 0) <;> cases (a :: l).all isLetB <;> rfl
end Go.Proofs.YtdoflhiogoefjaaDoor
end
