/- Joined texts, in this order: SortK, LandMath, MapRange. Each one's first remark says what it proves; no condition beyond those that its theorems name. -/
import Derived.Test.YtjbnfppnmljbmaaGreatJLawLandFinds18
import Derived.Test.YtjbnfppnmljbmaaGreatJLawLandFinds14
import Derived.Maps.RangeWalk
section
/- Plain: lists that rise by a key: insertion, places, taking out. No program in sight. -/
namespace Go.Proofs.YtjbnfppnmljbmaaGreat
set_option linter.unusedVariables false

section
variable {α : Type} (key : α → Int)
/-- into a list that rises -/
def insK : List α → α → List α
  | [], x => [x]
  | q :: l, x => if key q < key x then q :: insK l x else x :: q :: l
/-- how many stand ahead of a key -/
def posK : List α → Int → Nat
  | [], _ => 0
  | q :: l, t => if key q < t then posK l t + 1 else 0
def SortK (l : List α) : Prop := l.Pairwise (fun a b => key a < key b)
theorem insK_nil (x : α) : insK key [] x = [x] := rfl
theorem insK_cons (q : α) (l : List α) (x : α) : insK key (q :: l) x = if key q < key x then q :: insK key l x else x :: q :: l := rfl
theorem posK_le : ∀ (l : List α) (t : Int), posK key l t ≤ l.length
  | [], t => by simp [posK]
  | q :: l, t => by
    have := posK_le l t
    unfold posK
    split <;> simp <;> omega
theorem insK_split : ∀ (l : List α) (x : α), insK key l x = l.take (posK key l (key x)) ++ x :: l.drop (posK key l (key x))
  | [], x => rfl
  | q :: l, x => by
    unfold insK posK
    by_cases h : key q < key x
    · rw [if_pos h, if_pos h, insK_split l x]; simp
    · rw [if_neg h, if_neg h]; simp
theorem insK_perm (l : List α) (x : α) : (insK key l x).Perm (x :: l) := by
  rw [insK_split]
  have : (x :: (l.take (posK key l (key x)) ++ l.drop (posK key l (key x)))).Perm (x :: l) := by rw [List.take_append_drop]
  exact List.perm_middle.trans this
theorem insK_len (l : List α) (x : α) : (insK key l x).length = l.length + 1 := by rw [(insK_perm key l x).length_eq]; rfl
theorem mem_insK {l : List α} {x y : α} : y ∈ insK key l x ↔ y = x ∨ y ∈ l := by rw [(insK_perm key l x).mem_iff, List.mem_cons]
theorem posK_lt : ∀ {l : List α} {t : Int} {i : Nat} {x : α}, l[i]? = some x → i < posK key l t → key x < t
  | [], t, i, x, h, _ => by simp at h
  | q :: l, t, 0, x, h, hi => by
    simp at h; subst h
    unfold posK at hi
    by_cases h : key q < t
    · exact h
    · rw [if_neg h] at hi; omega
  | q :: l, t, i + 1, x, h, hi => by
    simp at h
    unfold posK at hi
    by_cases h2 : key q < t
    · rw [if_pos h2] at hi; exact posK_lt h (by omega)
    · rw [if_neg h2] at hi; omega
theorem posK_ge : ∀ {l : List α} {t : Int} {i : Nat} {x : α}, SortK key l → l[i]? = some x → posK key l t ≤ i → t ≤ key x
  | [], t, i, x, _, h, _ => by simp at h
  | q :: l, t, 0, x, hs, h, hi => by
    simp at h; subst h
    unfold posK at hi
    by_cases h : key q < t
    · rw [if_pos h] at hi; omega
    · omega
  | q :: l, t, i + 1, x, hs, h, hi => by
    simp at h
    have hs2 := List.pairwise_cons.1 hs
    unfold posK at hi
    by_cases h2 : key q < t
    · rw [if_pos h2] at hi; exact posK_ge hs2.2 h (by omega)
    · have := hs2.1 x (List.mem_of_getElem? h); omega
/-- the place is told by its two sides -/
theorem posK_unique {l : List α} {t : Int} {i : Nat} (hs : SortK key l) (hi : i ≤ l.length) (h1 : ∀ j x, l[j]? = some x → j < i → key x < t) (h2 : ∀ j x, l[j]? = some x → i ≤ j → t ≤ key x) : posK key l t = i := by
  have hp := posK_le key l t
  rcases Nat.lt_trichotomy (posK key l t) i with h | h | h
  · have hl : posK key l t < l.length := by omega
    have a := h1 _ _ (List.getElem?_eq_getElem hl) h
    have b := posK_ge key hs (List.getElem?_eq_getElem hl) (Nat.le_refl _)
    omega
  · exact h
  · have hl : i < l.length := by omega
    have a := h2 _ _ (List.getElem?_eq_getElem hl) (Nat.le_refl _)
    have b := posK_lt key (List.getElem?_eq_getElem hl) h
    omega
theorem insK_sorted {l : List α} {x : α} (hs : SortK key l) (hx : ∀ y ∈ l, key y ≠ key x) : SortK key (insK key l x) := by
  rw [insK_split]
  have h0 := hs
  rw [← List.take_append_drop (posK key l (key x)) l] at h0
  unfold SortK at h0 ⊢
  rw [List.pairwise_append] at h0 ⊢
  have ha : ∀ y ∈ l.take (posK key l (key x)), key y < key x := by
    intro y hy
    obtain ⟨i, hi⟩ := List.getElem?_of_mem hy
    rw [List.getElem?_take] at hi
    split at hi
    · exact posK_lt key hi (by assumption)
    · simp at hi
  have hb : ∀ y ∈ l.drop (posK key l (key x)), key x < key y := by
    intro y hy
    obtain ⟨i, hi⟩ := List.getElem?_of_mem hy
    rw [List.getElem?_drop] at hi
    have := posK_ge key hs hi (by omega : posK key l (key x) ≤ posK key l (key x) + i)
    have := hx y (List.mem_of_getElem? hi)
    omega
  refine ⟨h0.1, List.pairwise_cons.2 ⟨hb, h0.2.1⟩, ?_⟩
  intro a hm b hb2
  rcases List.mem_cons.1 hb2 with rfl | hb2
  · exact ha a hm
  · exact h0.2.2 a hm b hb2
theorem filter_insK (f : α → Bool) : ∀ {l : List α} {x : α}, SortK key l → (insK key l x).filter f = if f x then insK key (l.filter f) x else l.filter f
  | [], x, _ => by cases h : f x <;> simp [h, insK]
  | q :: l, x, hs => by
    have hs2 := List.pairwise_cons.1 hs
    rw [insK_cons]
    by_cases h : key q < key x
    · rw [if_pos h]
      have ih := filter_insK f (x := x) hs2.2
      cases hq : f q with
      | true =>
        rw [List.filter_cons_of_pos hq, ih, List.filter_cons_of_pos hq]
        cases f x with
        | true => rw [if_pos rfl, if_pos rfl, insK_cons, if_pos h]
        | false => simp
      | false => rw [List.filter_cons_of_neg (by simp [hq]), ih, List.filter_cons_of_neg (by simp [hq])]
    · rw [if_neg h]
      have hins : ∀ m : List α, (∀ y ∈ m, key x ≤ key y) → insK key m x = x :: m := by
        intro m hm
        cases m with
        | nil => rfl
        | cons y m => rw [insK_cons, if_neg (by have := hm y (by simp); omega)]
      have hall : ∀ y ∈ (q :: l).filter f, key x ≤ key y := by
        intro y hy
        rcases List.mem_cons.1 (List.mem_filter.1 hy).1 with rfl | hy
        · omega
        · have := hs2.1 y hy; omega
      cases hx : f x with
      | true => rw [List.filter_cons_of_pos hx, if_pos rfl, hins _ hall]
      | false => rw [List.filter_cons_of_neg (by simp [hx])]; simp
theorem map_insK {β : Type} (g : α → β) (key' : β → Int) (e : ∀ a, key' (g a) = key a) : ∀ (l : List α) (x : α), (insK key l x).map g = insK key' (l.map g) (g x)
  | [], x => rfl
  | q :: l, x => by
    rw [insK_cons, List.map_cons, insK_cons, e, e]
    by_cases h : key q < key x
    · rw [if_pos h, if_pos h, List.map_cons, map_insK g key' e l x]
    · rw [if_neg h, if_neg h, List.map_cons, List.map_cons]
theorem SortK.filter {l : List α} (hs : SortK key l) (f : α → Bool) : SortK key (l.filter f) := List.Pairwise.filter f hs
theorem SortK.nodup {l : List α} (hs : SortK key l) : (l.map key).Nodup := by
  unfold List.Nodup
  rw [List.pairwise_map]
  exact List.Pairwise.imp (fun h e => by omega) hs
theorem sortK_inj {l : List α} (hs : SortK key l) {x y : α} (hx : x ∈ l) (hy : y ∈ l) (e : key x = key y) : x = y := by
  obtain ⟨i, hi⟩ := List.getElem?_of_mem hx
  obtain ⟨j, hj⟩ := List.getElem?_of_mem hy
  have li := (List.getElem?_eq_some_iff.1 hi).1
  have lj := (List.getElem?_eq_some_iff.1 hj).1
  have ei := (List.getElem?_eq_some_iff.1 hi).2
  have ej := (List.getElem?_eq_some_iff.1 hj).2
  have hp := List.pairwise_iff_getElem.1 hs
  rcases Nat.lt_trichotomy i j with h | h | h
  · have := hp i j li lj h; rw [ei, ej] at this; omega
  · subst h; rw [hi] at hj; exact Option.some.inj hj
  · have := hp j i lj li h; rw [ei, ej] at this; omega
/-- one that is there stands at its place -/
theorem posK_at {l : List α} (hs : SortK key l) {x : α} (hx : x ∈ l) : l[posK key l (key x)]? = some x := by
  obtain ⟨i, hi⟩ := List.getElem?_of_mem hx
  have li := (List.getElem?_eq_some_iff.1 hi).1
  have : posK key l (key x) = i := by
    refine posK_unique key hs (by omega) (fun j y hj hji => ?_) (fun j y hj hij => ?_)
    · have lj := (List.getElem?_eq_some_iff.1 hj).1
      have := List.pairwise_iff_getElem.1 hs j i lj li hji
      rw [(List.getElem?_eq_some_iff.1 hi).2, (List.getElem?_eq_some_iff.1 hj).2] at this
      exact this
    · have lj := (List.getElem?_eq_some_iff.1 hj).1
      rcases Nat.lt_or_ge i j with h | h
      · have := List.pairwise_iff_getElem.1 hs i j li lj h
        rw [(List.getElem?_eq_some_iff.1 hi).2, (List.getElem?_eq_some_iff.1 hj).2] at this
        omega
      · have : i = j := by omega
        subst this
        rw [hi] at hj
        obtain rfl := Option.some.inj hj
        omega
  rw [this]; exact hi
theorem erase_posK {l : List α} (hs : SortK key l) {x : α} (hx : x ∈ l) : l.take (posK key l (key x)) ++ l.drop (posK key l (key x) + 1) = l.filter (fun y => !decide (key y = key x)) := by
  have hat := posK_at key hs hx
  have hl := (List.getElem?_eq_some_iff.1 hat).1
  have hd : l.drop (posK key l (key x)) = x :: l.drop (posK key l (key x) + 1) := by
    rw [List.drop_eq_getElem_cons hl, (List.getElem?_eq_some_iff.1 hat).2]
  conv => rhs; rw [← List.take_append_drop (posK key l (key x)) l, hd]
  rw [List.filter_append, List.filter_cons_of_neg (by simp)]
  congr 1
  · symm
    rw [List.filter_eq_self]
    intro y hy
    obtain ⟨i, hi⟩ := List.getElem?_of_mem hy
    rw [List.getElem?_take] at hi
    split at hi
    · have := posK_lt key hi (by assumption)
      simp; omega
    · simp at hi
  · symm
    rw [List.filter_eq_self]
    intro y hy
    obtain ⟨i, hi⟩ := List.getElem?_of_mem hy
    rw [List.getElem?_drop] at hi
    have li := (List.getElem?_eq_some_iff.1 hi).1
    have := List.pairwise_iff_getElem.1 hs _ _ hl li (by omega)
    rw [(List.getElem?_eq_some_iff.1 hat).2, (List.getElem?_eq_some_iff.1 hi).2] at this
    simp; omega
end
/-- two association lists that tell the same are one but for the order -/
theorem perm_of_lookup {α : Type} {m n : List (Int × α)} (hm : (m.map (·.1)).Nodup) (hn : (n.map (·.1)).Nodup) (h : ∀ k, m.lookup k = n.lookup k) : m.Perm n := by
  classical
  have e1 : m.Nodup := nodup_of_map _ hm
  have e2 : n.Nodup := nodup_of_map _ hn
  rw [List.perm_ext_iff_of_nodup e1 e2]
  rintro ⟨k, v⟩
  rw [← lookup_mem_iff hm, ← lookup_mem_iff hn, h k]
end Go.Proofs.YtjbnfppnmljbmaaGreat
end
section
/- Land, plain: stones, plots, what each call answers. -/
namespace Go.Proofs.YtjbnfppnmljbmaaGreat
open Go.RowKit
open Go.Lib (hid)
set_option linter.unusedVariables false

/-- a plot: its number, its rectangle -/
abbrev Pl := Int × R4
def keyP (p : Pl) : Int := p.1
def WithinR (r : R4) (S : Int) : Prop := RightR r ∧ r.1 + r.2.2.1 ≤ S ∧ r.2.1 + r.2.2.2 ≤ S
instance (r : R4) (S : Int) : Decidable (WithinR r S) := by unfold WithinR RightR; infer_instance
instance (r : R4) : Decidable (RightR r) := by unfold RightR; infer_instance
/-- is one of r's tiles blocked? -/
def blkX (B : List R4) (r : R4) : Bool := B.any fun b => decide (MeetsR b r)
def nearX (P : List Pl) (r : R4) : List Int := (P.filter fun p => decide (MeetsR p.2 r)).map (·.1)
def mayX (S : Int) (B : List R4) (P : List Pl) (r : R4) : Int :=
  if ¬ WithinR r S ∨ 16 < r.2.2.1 ∨ 16 < r.2.2.2 then 11 else if blkX B r = true then 33 else if nearX P r ≠ [] then 32 else if 256 ≤ P.length then 12 else 0
def claimE (S : Int) (B : List R4) (P : List Pl) (id : Int) (r : R4) : Int :=
  if id < 1 then 10 else if (P.lookup id).isSome then 13 else mayX S B P r
def claimP (S : Int) (B : List R4) (P : List Pl) (id : Int) (r : R4) : List Pl := if claimE S B P id r = 0 then insK keyP P (id, r) else P
def freeE (P : List Pl) (id : Int) : Int := if (P.lookup id).isSome then 0 else 14
def freeP (P : List Pl) (id : Int) : List Pl := P.filter fun p => !decide (p.1 = id)
/-- all is as it must be -/
structure PInv (S : Int) (B : List R4) (P : List Pl) : Prop where
  sorted : SortK keyP P
  within : ∀ p ∈ P, WithinR p.2 S ∧ p.2.2.2.1 ≤ 16 ∧ p.2.2.2.2 ≤ 16
  free : ∀ p ∈ P, blkX B p.2 = false
  apart : P.Pairwise fun p q => ¬ MeetsR p.2 q.2
  len : P.length ≤ 256
  pos : ∀ p ∈ P, 1 ≤ p.1
theorem PInv.nil (S : Int) (B : List R4) : PInv S B [] := ⟨List.Pairwise.nil, by simp, by simp, List.Pairwise.nil, by simp, by simp⟩
theorem may_zero {S : Int} {B : List R4} {P : List Pl} {r : R4} (h : mayX S B P r = 0) : WithinR r S ∧ r.2.2.1 ≤ 16 ∧ r.2.2.2 ≤ 16 ∧ blkX B r = false ∧ nearX P r = [] ∧ P.length < 256 := by
  unfold mayX at h
  split at h
  · simp at h
  · rename_i h1
    split at h
    · simp at h
    · rename_i h2
      split at h
      · simp at h
      · rename_i h3
        split at h
        · simp at h
        · rename_i h4
          exact ⟨Decidable.not_not.1 (fun q => h1 (.inl q)), by omega, by omega, by simpa using h2, Decidable.not_not.1 h3, by omega⟩
theorem claim_zero {S : Int} {B : List R4} {P : List Pl} {id : Int} {r : R4} (h : claimE S B P id r = 0) : 1 ≤ id ∧ P.lookup id = none ∧ mayX S B P r = 0 := by
  unfold claimE at h
  split at h
  · simp at h
  · split at h
    · simp at h
    · rename_i h1 h2
      exact ⟨by omega, by cases hq : P.lookup id with
        | none => rfl
        | some v => rw [hq] at h2; simp at h2, h⟩
theorem near_nil {P : List Pl} {r : R4} (h : nearX P r = []) : ∀ p ∈ P, ¬ MeetsR p.2 r := by
  unfold nearX at h
  rw [List.map_eq_nil_iff, List.filter_eq_nil_iff] at h
  intro p hp q
  exact h p hp (decide_eq_true q)
theorem pairwise_insK {P : List Pl} {x : Pl} {R : Pl → Pl → Prop} (hs : ∀ a b, R a b → R b a) (h : P.Pairwise R) (hx : ∀ p ∈ P, R p x) : (insK keyP P x).Pairwise R := by
  refine (List.Perm.pairwise_iff (fun {a b} q => hs a b q) (insK_perm keyP P x)).2 ?_
  rw [List.pairwise_cons]
  exact ⟨fun p hp => hs _ _ (hx p hp), h⟩
theorem PInv.claim {S : Int} {B : List R4} {P : List Pl} (h : PInv S B P) (id : Int) (r : R4) : PInv S B (claimP S B P id r) := by
  unfold claimP
  split
  · rename_i he
    obtain ⟨h1, h2, h3⟩ := claim_zero he
    obtain ⟨k1, k2, k3, k4, k5, k6⟩ := may_zero h3
    have hm : ∀ p, p ∈ insK keyP P (id, r) ↔ p = (id, r) ∨ p ∈ P := fun p => mem_insK keyP
    refine ⟨insK_sorted keyP h.sorted (fun y hy e => ?_), fun p hp => ?_, fun p hp => ?_, pairwise_insK (fun a b q z => q (meetsR_symm.1 z)) h.apart (near_nil k5), by rw [insK_len]; omega, fun p hp => ?_⟩
    · have := lookup_none_iff.1 h2 y hy
      exact this e
    · rcases (hm p).1 hp with rfl | hp
      · exact ⟨k1, k2, k3⟩
      · exact h.within p hp
    · rcases (hm p).1 hp with rfl | hp
      · exact k4
      · exact h.free p hp
    · rcases (hm p).1 hp with rfl | hp
      · exact h1
      · exact h.pos p hp
  · exact h
theorem PInv.free' {S : Int} {B : List R4} {P : List Pl} (h : PInv S B P) (id : Int) : PInv S B (freeP P id) := by
  have hsub : List.Sublist (freeP P id) P := List.filter_sublist
  exact ⟨h.sorted.sublist hsub, fun p hp => h.within p (hsub.subset hp), fun p hp => h.free p (hsub.subset hp), h.apart.sublist hsub, Nat.le_trans hsub.length_le h.len, fun p hp => h.pos p (hsub.subset hp)⟩
/-! ### what the quadtree tells of stones -/
def TileB (k : Nat) (s : Sq) (B : List R4) : Prop := ∀ x y, HoldsR (ownR k 0 0) x y → tl (lvS k s 0 0) x y = [if B.any (fun b => tHolds x y b) then 1 else 0]
theorem tileB_new {k : Nat} (h : OwnOk k 0 0) : TileB k sq0 [] := fun x y q => by
  rw [lv_leaf 0 0 (s := sq0) rfl, tl_one h, if_pos q]; rfl
theorem tileB_set {k : Nat} {s s' : Sq} {B : List R4} {r : R4} (h : TileB k s B) (hs : SetOk k s s' 0 0 r 1) : TileB k s' (B ++ [r]) := fun x y q => by
  rw [hs x y q]
  by_cases hr : HoldsR r x y
  · rw [if_pos hr]; simp [tHolds, hr]
  · have e : [r].any (fun b => tHolds x y b) = false := by simp [tHolds, hr]
    rw [if_neg hr, h x y q, List.any_append, e, Bool.or_false]
theorem within_all {k : Nat} {r : R4} (h : OwnOk k 0 0) : InR r (ownR k 0 0) ↔ WithinR r (sd k) := by
  unfold InR WithinR ownR
  constructor
  · rintro ⟨h1, h2, h3, h4, h5, h6⟩
    simp only at h3 h4 h5 h6
    exact ⟨h1, by omega, by omega⟩
  · rintro ⟨h1, h2, h3⟩
    have := h1
    unfold RightR at this
    exact ⟨h1, h.right, by simp only; omega, by simp only; omega, by simp only; omega, by simp only; omega⟩
theorem any_blk {k : Nat} {s : Sq} {B : List R4} (h : TileB k s B) (ho : OwnOk k 0 0) (hB : ∀ b ∈ B, WithinR b (sd k)) (r : R4) : anyQ (metS k s 0 0 r) 1 = blkX B r := by
  rw [Bool.eq_iff_iff]
  unfold anyQ blkX metS flR
  rw [List.any_eq_true, List.any_eq_true]
  have e1 : (∃ t, t ∈ (lvS k s 0 0).filter (fun x => mS r x.1) ∧ decide (t.2 = 1) = true) ↔ ∃ t ∈ lvS k s 0 0, MeetsR t.1 r ∧ t.2 = 1 := by
    constructor
    · rintro ⟨t, h1, h2⟩
      obtain ⟨h3, h4⟩ := List.mem_filter.1 h1
      exact ⟨t, h3, of_decide_eq_true h4, of_decide_eq_true h2⟩
    · rintro ⟨t, h1, h2, h3⟩
      exact ⟨t, List.mem_filter.2 ⟨h1, decide_eq_true h2⟩, decide_eq_true h3⟩
  rw [e1, any_iff ho]
  constructor
  · rintro ⟨x, y, h1, h2, h3⟩
    rw [h x y h1] at h3
    split at h3
    · rename_i hb
      obtain ⟨b, hb1, hb2⟩ := List.any_eq_true.1 hb
      exact ⟨b, hb1, decide_eq_true (tile_meets (of_decide_eq_true hb2) h2)⟩
    · simp at h3
  · rintro ⟨b, hb1, hb2⟩
    obtain ⟨x, y, h1, h2⟩ := meets_tile (of_decide_eq_true hb2)
    have hin := (within_all ho).2 (hB b hb1)
    have hx : HoldsR (ownR k 0 0) x y := by
      obtain ⟨z1, z2, z3, z4, z5, z6⟩ := hin
      obtain ⟨q1, q2, q3, q4, q5⟩ := h1
      exact ⟨z2, by omega, by omega, by omega, by omega⟩
    refine ⟨x, y, hx, h2, ?_⟩
    rw [h x y hx, if_pos]
    rw [List.any_eq_true]
    exact ⟨b, hb1, decide_eq_true h1⟩
/-- the tree of the plots -/
def tgP (P : List Pl) : List Tg := P.map fun p => (p.2, p.1)
theorem tgP_nodup {P : List Pl} (h : (P.map (·.1)).Nodup) : (tgP P).Nodup := by
  refine nodup_of_map (f := fun t : Tg => t.2) ?_
  have : (tgP P).map (fun t : Tg => t.2) = P.map (·.1) := by unfold tgP; rw [List.map_map]; rfl
  rw [this]; exact h
theorem near_tree (P : List Pl) (r : R4) : flR (tMeets r) (tgP P) = [] ↔ nearX P r = [] := by
  unfold flR tgP nearX
  rw [List.filter_map, List.map_eq_nil_iff, List.map_eq_nil_iff, List.filter_eq_nil_iff, List.filter_eq_nil_iff]
  constructor
  · intro h p hp q
    refine h p hp ?_
    simp only [Function.comp, tMeets, decide_eq_true_eq] at q ⊢
    exact meetsR_symm.1 q
  · intro h p hp q
    refine h p hp ?_
    simp only [Function.comp, tMeets, decide_eq_true_eq] at q ⊢
    exact meetsR_symm.1 q
end Go.Proofs.YtjbnfppnmljbmaaGreat
end
section
/- Ranging over a map from integers, entry by entry. No program in sight. -/
namespace Go.Proofs.YtjbnfppnmljbmaaGreat
open Go.RowKit
open Go.Lib (hid)
open Go.MapKept
set_option linter.unusedVariables false

def vkey : Value → Int
  | .int _ a => a
  | _ => 0
/-- at block r stands an iterator over the map at block b: what is left to come -/
def RangeE (w : World) (r b : Nat) (m left : List (Int × Value)) : Prop :=
  ∃ es clock since seen c0, w.heap[r]? = some (.mapIter (some b) since seen c0) ∧ w.heap[b]? = some (.map es clock) ∧ Stamped es clock ∧ es.toList.map (fun e => (e.key, e.val)) = m.map (fun p => (Value.int .i64 p.1, p.2)) ∧
    (∀ x ∈ es.toList, x.born < since) ∧ (since ≤ c0 ∧ since ≤ clock) ∧ (leftOf es seen).toList.map (fun e => (e.key, e.val)) = left.map (fun p => (Value.int .i64 p.1, p.2))
/-- how many are left to come -/
def rangeN (w : World) (r b : Nat) : Nat := match w.heap[r]?, w.heap[b]? with
  | some (.mapIter _ _ seen _), some (.map es _) => (leftOf es seen).size
  | _, _ => 0
theorem RangeE.len {w : World} {r b : Nat} {m left : List (Int × Value)} (h : RangeE w r b m left) : rangeN w r b = left.length := by
  obtain ⟨es, c, s, seen, c0, h1, h2, -, -, -, -, h7⟩ := h
  unfold rangeN
  rw [h1, h2]
  have := congrArg List.length h7
  simpa using this
theorem RangeE.map {w : World} {r b : Nat} {m left : List (Int × Value)} (h : RangeE w r b m left) : MapE w b m := by
  obtain ⟨es, c, s, seen, c0, h1, h2, h3, h4, -⟩ := h; exact ⟨es, c, h2, h3, h4⟩
theorem RangeE.lt {w : World} {r b : Nat} {m left : List (Int × Value)} (h : RangeE w r b m left) : r < w.heap.size := by
  obtain ⟨es, c, s, seen, c0, h1, -⟩ := h; exact (Array.getElem?_eq_some_iff.1 h1).1
theorem RangeE.ne {w : World} {r b : Nat} {m left : List (Int × Value)} (h : RangeE w r b m left) : r ≠ b := by
  obtain ⟨es, c, s, seen, c0, h1, h2, -⟩ := h
  intro e; subst e; rw [h1] at h2; simp at h2
theorem RangeE.upd {S : Nat → Prop} {w w' : World} {r b : Nat} {m left : List (Int × Value)} (h : RangeE w r b m left) (hu : Upd S w w') (hr : ¬ S r) (hb : ¬ S b) : RangeE w' r b m left := by
  obtain ⟨es, c, s, seen, c0, h1, h2, k⟩ := h; exact ⟨es, c, s, seen, c0, hu.heap h1 hr, hu.heap h2 hb, k⟩
/-- what is left are entries of the map, with keys apart -/
theorem RangeE.sub {w : World} {r b : Nat} {m left : List (Int × Value)} (h : RangeE w r b m left) : (∀ p ∈ left, p ∈ m) ∧ (left.map (·.1)).Nodup := by
  have hn := h.map.nodup
  obtain ⟨es, c, s, seen, c0, h1, h2, h3, h4, h5, h6, h7⟩ := h
  have hinj : ∀ {p q : Int × Value}, (Value.int .i64 p.1, p.2) = (Value.int .i64 q.1, q.2) → p = q := by
    intro p q e
    obtain ⟨a, b⟩ := p
    obtain ⟨c, d⟩ := q
    simp at e
    simp [e.1, e.2]
  have hsl : (leftOf es seen).toList.Sublist es.toList := by
    unfold leftOf
    rw [Array.toList_filter]
    exact List.filter_sublist
  have hsub : (left.map (fun p => (Value.int .i64 p.1, p.2))).Sublist (m.map (fun p => (Value.int .i64 p.1, p.2))) := by
    rw [← h7, ← h4]; exact hsl.map _
  refine ⟨fun p hp => ?_, ?_⟩
  · have := hsub.subset (List.mem_map_of_mem hp)
    obtain ⟨q, hq, e⟩ := List.mem_map.1 this
    rw [← hinj e]; exact hq
  · have h8 := hsub.map (fun q : Value × Value => q.1)
    rw [List.map_map, List.map_map] at h8
    have h9 : ((m.map (·.1)).map (Value.int .i64)).Nodup := by
      unfold List.Nodup
      rw [List.pairwise_map]
      exact List.Pairwise.imp (fun hab e => hab (by simpa using e)) hn
    have h10 : (left.map ((fun q : Value × Value => q.1) ∘ fun p : Int × Value => (Value.int .i64 p.1, p.2))).Nodup := h8.nodup (by rw [List.map_map] at h9; exact h9)
    have h11 : (left.map ((fun q : Value × Value => q.1) ∘ fun p : Int × Value => (Value.int .i64 p.1, p.2))) = (left.map (·.1)).map (Value.int .i64) := by rw [List.map_map]; rfl
    rw [h11] at h10
    exact nodup_of_map _ h10

theorem MapE.run_range {P : Program} {w : World} {b : Nat} {m : List (Int × Value)} {t kt et : TypeId} (h : MapE w b m) (ht : P.underlying t = some (.map kt et)) :
    ∃ w', (Instr.range t (.map (some b))).run P w = .ok (.pointer (some ⟨w.heap.size, 0, none⟩)) w' ∧ RangeE w' w.heap.size b m m ∧ Below w.heap.size w w' ∧ w'.heap.size = w.heap.size + 1 := by
  have hlt := h.lt
  obtain ⟨es, c, hb, hst, he⟩ := h
  refine ⟨w.alloc (.mapIter (some b) c #[] c), ?_, ⟨es, c, c, #[], c, heap_alloc_new w _, (Below.heap_alloc w _ b hlt).trans hb, hst, he, hst.1, ⟨Nat.le_refl _, Nat.le_refl _⟩, ?_⟩, (Below.refl _ _).alloc (Nat.le_refl _) _, by simp⟩
  · simp [Instr.range, run_underlying ht, Go.MapKept.run_getObj_map hb, Result.andThen]
  · have : leftOf es #[] = es := by unfold leftOf; simp
    rw [this]; exact he

section wp
variable {P : Program} (w : World) {ops : Array Oper} {rest : List Oper} {o : Oper} {a : Act} {Q : Exit → Act → World → Prop} {t kt et : TypeId} {b : Nat} {m : List (Int × Value)}
theorem wpList_rangeE (hg : o.guard = none) (mo : Operand) (hop : o.op = Op.range t mo) (ht : P.underlying t = some (.map kt et)) (hm : a.eval mo = .map (some b)) (h : MapE w b m)
    (hK : ∀ w', RangeE w' w.heap.size b m m → Below w.heap.size w w' → w'.heap.size = w.heap.size + 1 → wpList P ops Q rest (a.put o.dst (.pointer (some ⟨w.heap.size, 0, none⟩))) w') : wpList P ops Q (o :: rest) a w := by
  refine wpList_plain hg fun K' hK' => ?_
  obtain ⟨w', hrun, h1, h2, h3⟩ := h.run_range (P := P) ht
  unfold Oper.wp
  simp [execOp, hop, hm, hrun, Result.andThen]
  exact hK' _ _ (hK w' h1 h2 h3)
theorem wpList_nextE (hg : o.guard = none) (it : Operand) (hop : o.op = Op.next it false) {r : Nat} {left : List (Int × Value)} (hit : a.eval it = .pointer (some ⟨r, 0, none⟩)) (h : RangeE w r b m left)
    (hDone : left = [] → wpList P ops Q rest (a.put o.dst (.tuple #[.bool false])) w)
    (hMore : ∀ (k : Int) (v : Value) (w' : World), (k, v) ∈ left → m.lookup k = some v → RangeE w' r b m (adel left k) → Upd (fun j => j = r) w w' → w'.heap.size = w.heap.size → (Instr.entry (.pointer (some ⟨r, 0, none⟩))).run P w' = .ok (.tuple #[.int .i64 k, v]) w' →
      wpList P ops Q rest (a.put o.dst (.tuple #[.bool true, .int .i64 k, v])) w') : wpList P ops Q (o :: rest) a w := by
  refine wpList_plain hg fun K' hK' => ?_
  unfold Oper.wp
  have hsub := h.sub
  have hnd := h.map.nodup
  have hne := h.ne
  obtain ⟨es, c, since, seen, c0, h1, h2, h3, h4, h5, h6, h7⟩ := h
  rcases run_next_at (P := P) w o.type r b since c0 seen es c h1 h2 h5 h6.1 with ⟨h0, hrun⟩ | ⟨e, he, w1, hw1, hrun⟩
  · simp [execOp, hop, hit, hrun, Result.andThen]
    refine hK' _ _ (hDone ?_)
    have : (leftOf es seen).toList = [] := by
      apply List.eq_nil_of_length_eq_zero
      simpa using h0
    rw [this] at h7
    simpa using h7.symm
  · have hmem : (e.key, e.val) ∈ left.map (fun p => (Value.int .i64 p.1, p.2)) := by rw [← h7]; exact List.mem_map.2 ⟨e, he, rfl⟩
    obtain ⟨⟨k, v⟩, hp, hpe⟩ := List.mem_map.1 hmem
    simp at hpe
    obtain ⟨ek, ev⟩ := hpe
    have hes : e ∈ es.toList := by
      have : e ∈ leftOf es seen := by simpa using he
      unfold leftOf at this
      simp at this
      simpa using this.1
    have hr1 : w1.heap[r]? = some (.mapIter (some b) since seen c0) := by rcases hw1 with rfl | rfl <;> exact h1
    have hb1 : w1.heap[b]? = some (.map es c) := by rcases hw1 with rfl | rfl <;> exact h2
    have hset := heap_set (o' := Obj.mapIter (some b) since (seen.push e.born) c) hr1
    have hrg : RangeE (Go.ChangeMaps.setBlock w1 r (.mapIter (some b) since (seen.push e.born) c)) r b m (adel left k) := by
      refine ⟨es, c, since, seen.push e.born, c, hset.1, (hset.2 b (Ne.symm hne)).trans hb1, h3, h4, h5, ⟨h6.2, h6.2⟩, ?_⟩
      have e1 : (leftOf es (seen.push e.born)).toList = (leftOf es seen).toList.filter (fun x => x.born != e.born) := by
        unfold leftOf
        rw [Array.toList_filter, Array.toList_filter, List.filter_filter]
        apply List.filter_congr
        intro x _
        rw [Bool.eq_iff_iff]
        simp [Array.contains_push]
        exact ⟨fun q => ⟨q.2, q.1⟩, fun q => ⟨q.2, q.1⟩⟩
      have e2 : (leftOf es seen).toList.filter (fun x => x.born != e.born) = (leftOf es seen).toList.filter ((fun q : Value × Value => vkey q.1 != k) ∘ fun x : MapEntry => (x.key, x.val)) := by
        apply List.filter_congr
        intro x hx
        have hxe : x ∈ es.toList := by
          have : x ∈ leftOf es seen := by simpa using hx
          unfold leftOf at this
          simp at this
          simpa using this.1
        have same : x.born = e.born ↔ x.key = e.key := by
          have n1 : ∀ {f : MapEntry → Nat}, (es.toList.map f).Nodup → f x = f e → x = e := fun {f} hf hq => by
            obtain ⟨i, hi⟩ := List.getElem?_of_mem hxe
            obtain ⟨j, hj⟩ := List.getElem?_of_mem hes
            have a1 : (es.toList.map f)[i]? = some (f x) := by rw [List.getElem?_map, hi]; rfl
            have a2 : (es.toList.map f)[j]? = some (f e) := by rw [List.getElem?_map, hj]; rfl
            have l1 := (List.getElem?_eq_some_iff.1 a1).1
            have hij : i = j := (List.getElem?_inj l1 hf).1 (by rw [a1, a2, hq])
            subst hij
            exact Option.some.inj (hi.symm.trans hj)
          have n2 : ∀ {f : MapEntry → Value}, (es.toList.map f).Nodup → f x = f e → x = e := fun {f} hf hq => by
            obtain ⟨i, hi⟩ := List.getElem?_of_mem hxe
            obtain ⟨j, hj⟩ := List.getElem?_of_mem hes
            have a1 : (es.toList.map f)[i]? = some (f x) := by rw [List.getElem?_map, hi]; rfl
            have a2 : (es.toList.map f)[j]? = some (f e) := by rw [List.getElem?_map, hj]; rfl
            have l1 := (List.getElem?_eq_some_iff.1 a1).1
            have hij : i = j := (List.getElem?_inj l1 hf).1 (by rw [a1, a2, hq])
            subst hij
            exact Option.some.inj (hi.symm.trans hj)
          exact ⟨fun q => by rw [n1 h3.2.1 q], fun q => by rw [n2 h3.2.2 q]⟩
        have hxm : (x.key, x.val) ∈ m.map (fun p => (Value.int .i64 p.1, p.2)) := by rw [← h4]; exact List.mem_map.2 ⟨x, hxe, rfl⟩
        obtain ⟨q, -, hq⟩ := List.mem_map.1 hxm
        have hqk := (Prod.mk.inj hq).1
        rw [Bool.eq_iff_iff]
        simp only [Function.comp, bne_iff_ne, ne_eq]
        rw [same, ← ek, ← hqk]
        simp [vkey]
      rw [e1, e2, ← List.filter_map, h7, List.filter_map]
      rfl
    have hen := run_entry_at (P := P) (Go.ChangeMaps.setBlock w1 r (.mapIter (some b) since (seen.push e.born) c)) r b since seen es c e hset.1 ((hset.2 b (Ne.symm hne)).trans hb1) hes h3.2.1
    rw [← ek, ← ev] at hrun hen
    simp [execOp, hop, hit, hrun, Result.andThen]
    refine hK' _ _ (hMore k v _ hp ?_ hrg ?_ ?_ hen)
    · exact (lookup_mem_iff hnd).2 (hsub.1 _ hp)
    · rcases hw1 with rfl | rfl
      · exact ⟨rfl, rfl, rfl, by simp [Go.ChangeMaps.setBlock], fun j _ hj => hset.2 j hj⟩
      · exact ⟨rfl, rfl, rfl, by simp [Go.ChangeMaps.setBlock], fun j _ hj => hset.2 j hj⟩
    · rcases hw1 with rfl | rfl <;> simp [Go.ChangeMaps.setBlock]
end wp
theorem keys_adel {left : List (Int × Value)} (k : Int) : ∀ j : Int, j ∈ (adel left k).map (·.1) ↔ j ∈ left.map (·.1) ∧ j ≠ k := by
  intro j
  unfold adel
  simp only [List.mem_map, List.mem_filter, bne_iff_ne, ne_eq]
  constructor
  · rintro ⟨p, ⟨h1, h2⟩, rfl⟩; exact ⟨⟨p, h1, rfl⟩, h2⟩
  · rintro ⟨⟨p, h1, rfl⟩, h2⟩; exact ⟨p, ⟨h1, h2⟩, rfl⟩
theorem adel_len {left : List (Int × Value)} {k : Int} {v : Value} (h : (k, v) ∈ left) : (adel left k).length < left.length := by
  unfold adel
  rcases Nat.lt_or_ge (left.filter (fun p => p.1 != k)).length left.length with q | q
  · exact q
  · have e : left.filter (fun p => p.1 != k) = left := List.filter_eq_self.2 (by
      have := (List.length_filter_eq_length_iff (l := left) (p := fun p => p.1 != k)).1 (Nat.le_antisymm (List.length_filter_le _ _) q)
      exact this)
    have := List.filter_eq_self.1 e (k, v) h
    simp at this
end Go.Proofs.YtjbnfppnmljbmaaGreat
end
