/- Joined texts, in this order: StallMath. Each one's first remark says what it proves; no condition beyond those that its theorems name. -/
import Derived.Test.YtajfjgekcjkedaaJLawStallRestores03
section
/- Plain: stalls as two lists, tills and goods; how the program's two maps tell them. No program in sight. -/
namespace Go.Proofs.Ytajfjgekcjkedaa
set_option linter.unusedVariables false

/-- tills: house and gold, rising; goods: house, thing, price, rising by things -/
structure StX where
  tills : List (Int × Int)
  goods : List (Int × Int × Int)
def kT (p : Int × Int) : Int := p.1
def kG (g : Int × Int × Int) : Int := g.2.1
def fdX (G : List (Int × Int × Int)) (t : Int) : Option (Int × Int × Int) := G.find? (fun g => g.2.1 == t)
def ofX (G : List (Int × Int × Int)) (h : Int) : List (Int × Int) := (G.filter (fun g => g.1 == h)).map (·.2)
def setT (T : List (Int × Int)) (h g : Int) : List (Int × Int) := T.map (fun p => if p.1 = h then (h, g) else p)
def sumT (T : List (Int × Int)) : Int := (T.map (·.2)).sum
structure XInv (X : StX) : Prop where
  t1 : SortK kT X.tills
  t2 : ∀ p ∈ X.tills, 1 ≤ p.1 ∧ p.1 ≤ 9223372036854775807 ∧ 0 ≤ p.2 ∧ p.2 ≤ 1099511627776
  g1 : SortK kG X.goods
  g2 : ∀ g ∈ X.goods, (X.tills.lookup g.1).isSome = true ∧ 1 ≤ g.2.1 ∧ g.2.1 ≤ 9223372036854775807 ∧ 1 ≤ g.2.2 ∧ g.2.2 ≤ 1099511627776
  g3 : ∀ h, (ofX X.goods h).length ≤ 16
/-- the maps' rows (house, till, goods) and the places of things tell X -/
structure StRel (m : List (Int × Int × List (Int × Int))) (A : List (Int × Int)) (X : StX) : Prop where
  r1 : ∀ h, m.lookup h = (X.tills.lookup h).map (fun g => (g, ofX X.goods h))
  r2 : ∀ t, A.lookup t = (fdX X.goods t).map (·.1)
theorem XInv.nodup {X : StX} (h : XInv X) : (X.tills.map (·.1)).Nodup := SortK.nodup kT h.t1
theorem ofX_fst {G : List (Int × Int × Int)} {h : Int} {p : Int × Int} : p ∈ ofX G h ↔ (h, p) ∈ G := by
  unfold ofX
  rw [List.mem_map]
  constructor
  · rintro ⟨⟨a, q⟩, hq, rfl⟩
    rw [List.mem_filter] at hq
    have : a = h := by simpa using hq.2
    subst this; exact hq.1
  · intro hp
    exact ⟨(h, p), List.mem_filter.2 ⟨hp, by simp⟩, rfl⟩
theorem ofX_sorted {G : List (Int × Int × Int)} (hs : SortK kG G) (h : Int) : SortK (fun p : Int × Int => p.1) (ofX G h) := by
  unfold ofX SortK
  rw [List.pairwise_map]
  exact List.Pairwise.filter _ hs
theorem fdX_some {G : List (Int × Int × Int)} (hs : SortK kG G) {g : Int × Int × Int} {t : Int} : fdX G t = some g ↔ g ∈ G ∧ g.2.1 = t := by
  unfold fdX
  constructor
  · intro h
    exact ⟨List.mem_of_find?_eq_some h, by simpa using List.find?_some h⟩
  · rintro ⟨h1, h2⟩
    cases hf : G.find? (fun g => g.2.1 == t) with
    | none => have := List.find?_eq_none.1 hf g h1; simp [h2] at this
    | some q =>
      have a := List.mem_of_find?_eq_some hf
      have b : q.2.1 = t := by simpa using List.find?_some hf
      rw [sortK_inj kG hs a h1 (by unfold kG; rw [b, h2])]
theorem fdX_none {G : List (Int × Int × Int)} {t : Int} : fdX G t = none ↔ ∀ g ∈ G, g.2.1 ≠ t := by
  unfold fdX
  rw [List.find?_eq_none]
  constructor
  · intro h g hg e; exact h g hg (by simp [e])
  · intro h g hg e; exact h g hg (by simpa using e)
theorem fdX_ext {G G' : List (Int × Int × Int)} (hs : SortK kG G) (hs' : SortK kG G') {t : Int} (h : ∀ g : Int × Int × Int, g.2.1 = t → (g ∈ G ↔ g ∈ G')) : fdX G t = fdX G' t := by
  cases h1 : fdX G t with
  | none =>
    symm
    rw [fdX_none] at h1 ⊢
    intro g hg e
    exact h1 g ((h g e).2 hg) e
  | some g =>
    obtain ⟨a, b⟩ := (fdX_some hs).1 h1
    exact ((fdX_some hs').2 ⟨(h g b).1 a, b⟩).symm
theorem look_insK {l : List (Int × Int)} {x : Int × Int} (hx : l.lookup x.1 = none) (k : Int) : (insK kT l x).lookup k = if k = x.1 then some x.2 else l.lookup k := by
  induction l with
  | nil =>
    rw [insK_nil, List.lookup_cons]
    by_cases h : k = x.1
    · simp [h]
    · have : (k == x.1) = false := by simpa using h
      rw [this, if_neg h]
  | cons q l ih =>
    rw [List.lookup_cons] at hx
    have hq : (x.1 == q.1) = false := by
      cases h : (x.1 == q.1) with
      | true => rw [h] at hx; simp at hx
      | false => rfl
    rw [hq] at hx
    rw [insK_cons]
    split
    · rw [List.lookup_cons, ih hx, List.lookup_cons]
      by_cases h1 : k = q.1
      · subst h1
        have : ¬ q.1 = x.1 := fun e => by simp [e] at hq
        simp [this]
      · have : (k == q.1) = false := by simpa using h1
        rw [this]
    · rw [List.lookup_cons]
      by_cases h1 : k = x.1
      · simp [h1]
      · have : (k == x.1) = false := by simpa using h1
        rw [this, if_neg h1]
theorem look_setT {T : List (Int × Int)} {h g : Int} (k : Int) : (setT T h g).lookup k = if k = h then (T.lookup h).map (fun _ => g) else T.lookup k := by
  induction T with
  | nil => simp [setT]
  | cons p T ih =>
    unfold setT at ih ⊢
    rw [List.map_cons]
    by_cases h1 : p.1 = h
    · rw [if_pos h1, List.lookup_cons, List.lookup_cons, List.lookup_cons]
      by_cases h2 : k = h
      · subst h2; simp [h1]
      · have e1 : (k == h) = false := by simpa using h2
        have e2 : (k == p.1) = false := by rw [h1]; exact e1
        rw [e1, e2, if_neg h2, ih, if_neg h2]
    · rw [if_neg h1, List.lookup_cons, ih, List.lookup_cons, List.lookup_cons]
      by_cases h2 : k = h
      · subst h2
        have e1 : (k == p.1) = false := by simpa using fun e : k = p.1 => h1 e.symm
        rw [e1]
      · rw [if_neg h2, if_neg h2]
theorem setT_keys (T : List (Int × Int)) (h g : Int) : (setT T h g).map (·.1) = T.map (·.1) := by
  unfold setT
  rw [List.map_map]
  apply List.map_congr_left
  intro p _
  simp only [Function.comp]
  split
  · rename_i e; exact e.symm
  · rfl
theorem setT_sorted {T : List (Int × Int)} (hs : SortK kT T) (h g : Int) : SortK kT (setT T h g) := by
  have h1 : (T.map (·.1)).Pairwise (· < ·) := by rw [List.pairwise_map]; exact hs
  rw [← setT_keys T h g, List.pairwise_map] at h1
  exact h1
theorem sumT_set : ∀ {T : List (Int × Int)} {h o g : Int}, (T.map (·.1)).Nodup → T.lookup h = some o → sumT (setT T h g) = sumT T - o + g
  | [], h, o, g, _, e => by simp at e
  | p :: T, h, o, g, hn, e => by
    simp only [List.map_cons, List.nodup_cons] at hn
    have hc : setT (p :: T) h g = (if p.1 = h then (h, g) else p) :: setT T h g := rfl
    have hs : ∀ (q : Int × Int) L, sumT (q :: L) = q.2 + sumT L := fun q L => by simp [sumT]
    rw [hc, hs, hs]
    rw [List.lookup_cons] at e
    by_cases h1 : p.1 = h
    · rw [if_pos h1]
      have e1 : (h == p.1) = true := by simp [h1]
      rw [e1] at e
      simp at e
      have hno : setT T h g = T := by
        unfold setT
        conv => rhs; rw [← List.map_id T]
        apply List.map_congr_left
        intro q hq
        rw [if_neg (fun e2 : q.1 = h => hn.1 (by rw [h1, ← e2]; exact List.mem_map_of_mem (f := fun x : Int × Int => x.1) hq))]
        rfl
      rw [hno]
      simp only
      omega
    · rw [if_neg h1]
      have e1 : (h == p.1) = false := by simpa using fun e : h = p.1 => h1 e.symm
      rw [e1] at e
      have := sumT_set (g := g) hn.2 e
      rw [this]; omega
theorem perm_sumT {S T : List (Int × Int)} (h : S.Perm T) : sumT S = sumT T := by
  have hs : ∀ (q : Int × Int) L, sumT (q :: L) = q.2 + sumT L := fun q L => by simp [sumT]
  induction h with
  | nil => rfl
  | cons x _ ih => rw [hs, hs, ih]
  | swap x y l => rw [hs, hs, hs, hs]; omega
  | trans _ _ ih1 ih2 => rw [ih1, ih2]
theorem sumT_ins (T : List (Int × Int)) (x : Int × Int) : sumT (insK kT T x) = sumT T + x.2 := by
  rw [perm_sumT (insK_perm kT T x)]
  have hs : ∀ (q : Int × Int) L, sumT (q :: L) = q.2 + sumT L := fun q L => by simp [sumT]
  rw [hs]; omega
theorem sumT_del {T : List (Int × Int)} {h o : Int} (hn : (T.map (·.1)).Nodup) (e : T.lookup h = some o) : sumT (adel T h) = sumT T - o := by
  induction T with
  | nil => simp at e
  | cons p T ih =>
    simp only [List.map_cons, List.nodup_cons] at hn
    have hs : ∀ (q : Int × Int) L, sumT (q :: L) = q.2 + sumT L := fun q L => by simp [sumT]
    rw [List.lookup_cons] at e
    unfold adel at ih ⊢
    by_cases h1 : p.1 = h
    · have e1 : (h == p.1) = true := by simp [h1]
      rw [e1] at e
      simp at e
      rw [List.filter_cons_of_neg (by simp [h1]), hs]
      have : T.filter (fun q => q.1 != h) = T := by
        rw [List.filter_eq_self]
        intro q hq
        have : q.1 ≠ h := fun e2 => hn.1 (by rw [h1, ← e2]; exact List.mem_map_of_mem (f := fun x : Int × Int => x.1) hq)
        simpa using this
      rw [this]; omega
    · have e1 : (h == p.1) = false := by simpa using fun e : h = p.1 => h1 e.symm
      rw [e1] at e
      rw [List.filter_cons_of_pos (by simpa using h1), hs, hs, ih hn.2 e]; omega
/-- the document's calls -/
def openX (X : StX) (h : Int) : StX × Int := if h < 1 then (X, 10) else if (X.tills.lookup h).isSome then (X, 13) else (⟨insK kT X.tills (h, 0), X.goods⟩, 0)
def putE (X : StX) (h t p : Int) : Int := if (X.tills.lookup h).isSome then (if t < 1 then 10 else if p < 1 ∨ 1099511627776 < p then 11 else if (fdX X.goods t).isSome then 13 else if 16 ≤ (ofX X.goods h).length then 12 else 0) else 14
def putX (X : StX) (h t p : Int) : StX := if putE X h t p = 0 then ⟨X.tills, insK kG X.goods (h, t, p)⟩ else X
def delG (G : List (Int × Int × Int)) (t : Int) : List (Int × Int × Int) := G.filter (fun g => !decide (g.2.1 = t))
def takeX (X : StX) (t : Int) : StX := ⟨X.tills, delG X.goods t⟩
def takeE (X : StX) (t : Int) : Int := if (fdX X.goods t).isSome then 0 else 14
def setX (X : StX) (h g : Int) : StX := ⟨setT X.tills h g, X.goods⟩
def tillX (X : StX) (h : Int) : Int := (X.tills.lookup h).getD 0
/-- what is there then; house, price, an error's number -/
def sellX (X : StX) (t : Int) : StX × Int × Int × Int := match fdX X.goods t with
  | none => (X, 0, 0, 14)
  | some g => if 1099511627776 < tillX X g.1 + g.2.2 then (X, 0, 0, 15) else (setX (takeX X t) g.1 (tillX X g.1 + g.2.2), g.1, g.2.2, 0)
def closeX (X : StX) (h : Int) : StX := ⟨adel X.tills h, X.goods.filter (fun g => !decide (g.1 = h))⟩
/-! what the calls keep -/
theorem ofX_ins {G : List (Int × Int × Int)} (hs : SortK kG G) (g : Int × Int × Int) (h : Int) : ofX (insK kG G g) h = if h = g.1 then insK (fun p : Int × Int => p.1) (ofX G h) g.2 else ofX G h := by
  unfold ofX
  rw [filter_insK kG _ hs]
  by_cases e : h = g.1
  · rw [if_pos e, if_pos (by simp [e]), map_insK kG (fun g : Int × Int × Int => g.2) (fun p => p.1) (fun _ => rfl)]
  · rw [if_neg e, if_neg (by simpa using fun x : g.1 = h => e x.symm)]
theorem fdX_ins {G : List (Int × Int × Int)} (hs : SortK kG G) {g : Int × Int × Int} (hg : fdX G g.2.1 = none) (t : Int) : fdX (insK kG G g) t = if t = g.2.1 then some g else fdX G t := by
  have hs' : SortK kG (insK kG G g) := insK_sorted kG hs (fun y hy => fdX_none.1 hg y hy)
  by_cases e : t = g.2.1
  · rw [if_pos e, fdX_some hs']
    exact ⟨(mem_insK kG).2 (.inl rfl), e.symm⟩
  · rw [if_neg e]
    exact fdX_ext hs' hs (fun q hq => by
      rw [mem_insK]
      exact ⟨fun h => h.resolve_left (fun e2 => e (by rw [← hq, e2])), .inr⟩)
theorem delG_sorted {G : List (Int × Int × Int)} (hs : SortK kG G) (t : Int) : SortK kG (delG G t) := List.Pairwise.filter _ hs
theorem fdX_del {G : List (Int × Int × Int)} (hs : SortK kG G) (t k : Int) : fdX (delG G t) k = if k = t then none else fdX G k := by
  by_cases e : k = t
  · rw [if_pos e, fdX_none]
    intro g hg e2
    have := (List.mem_filter.1 hg).2
    simp at this
    exact this (by rw [e2, e])
  · rw [if_neg e]
    exact fdX_ext (delG_sorted hs t) hs (fun q hq => by
      unfold delG
      rw [List.mem_filter]
      exact ⟨fun h => h.1, fun h => ⟨h, by simp [hq, e]⟩⟩)
theorem ofX_del {G : List (Int × Int × Int)} (hs : SortK kG G) (t h : Int) : ofX (delG G t) h = (ofX G h).filter (fun p => !decide (p.1 = t)) := by
  unfold ofX delG
  rw [List.filter_map, List.filter_filter, List.filter_filter]
  congr 1
  apply List.filter_congr
  intro g _
  simp only [Function.comp]
  rw [Bool.and_comm]
theorem ofX_del_other {G : List (Int × Int × Int)} (hs : SortK kG G) {g : Int × Int × Int} (hg : g ∈ G) {h : Int} (hh : h ≠ g.1) : ofX (delG G g.2.1) h = ofX G h := by
  rw [ofX_del hs, List.filter_eq_self]
  intro p hp
  have h1 := ofX_fst.1 hp
  simp only [Bool.not_eq_true', decide_eq_false_iff_not]
  intro e
  have := sortK_inj kG hs h1 hg e
  exact hh (by rw [← this])
theorem ofX_close (G : List (Int × Int × Int)) (h k : Int) : ofX (G.filter (fun g => !decide (g.1 = h))) k = if k = h then [] else ofX G k := by
  unfold ofX
  rw [List.filter_filter]
  by_cases e : k = h
  · subst e
    rw [if_pos rfl]
    have : G.filter (fun a => (a.1 == k) && !decide (a.1 = k)) = [] := by
      rw [List.filter_eq_nil_iff]
      intro a _
      simp
    rw [this]; rfl
  · rw [if_neg e]
    congr 1
    apply List.filter_congr
    intro a _
    by_cases h2 : a.1 = k
    · simp [h2, e]
    · simp [h2]
theorem fdX_close {G : List (Int × Int × Int)} (hs : SortK kG G) (h t : Int) : fdX (G.filter (fun g => !decide (g.1 = h))) t = if t ∈ (ofX G h).map (·.1) then none else fdX G t := by
  have hs' : SortK kG (G.filter (fun g => !decide (g.1 = h))) := List.Pairwise.filter _ hs
  by_cases e : t ∈ (ofX G h).map (·.1)
  · rw [if_pos e, fdX_none]
    obtain ⟨p, hp, rfl⟩ := List.mem_map.1 e
    have h1 := ofX_fst.1 hp
    intro g hg e2
    rw [List.mem_filter] at hg
    have := sortK_inj kG hs hg.1 h1 e2
    rw [this] at hg
    simp at hg
  · rw [if_neg e]
    exact fdX_ext hs' hs (fun q hq => by
      rw [List.mem_filter]
      refine ⟨fun h => h.1, fun hm => ⟨hm, ?_⟩⟩
      simp only [Bool.not_eq_true', decide_eq_false_iff_not]
      intro e2
      obtain ⟨a, b⟩ := q
      simp only at e2 hq
      subst e2
      exact e (List.mem_map.2 ⟨b, ofX_fst.2 hm, hq⟩))
theorem XInv.open {X : StX} (h : XInv X) {k : Int} (hk : 1 ≤ k) (hk2 : k ≤ 9223372036854775807) (hn : X.tills.lookup k = none) : XInv ⟨insK kT X.tills (k, 0), X.goods⟩ := by
  refine ⟨insK_sorted kT h.t1 (fun y hy => lookup_none_iff.1 hn y hy), ?_, h.g1, ?_, h.g3⟩
  · intro p hp
    rcases (mem_insK kT).1 hp with rfl | hp
    · exact ⟨hk, hk2, Int.le_refl _, by omega⟩
    · exact h.t2 p hp
  · intro g hg
    obtain ⟨a, b⟩ := h.g2 g hg
    refine ⟨?_, b⟩
    rw [look_insK hn]
    split
    · rfl
    · exact a
theorem XInv.put {X : StX} (h : XInv X) {k t p : Int} (h1 : (X.tills.lookup k).isSome = true) (ht : 1 ≤ t ∧ t ≤ 9223372036854775807) (hp : 1 ≤ p ∧ p ≤ 1099511627776) (hf : fdX X.goods t = none) (h16 : (ofX X.goods k).length < 16) : XInv ⟨X.tills, insK kG X.goods (k, t, p)⟩ := by
  refine ⟨h.t1, h.t2, insK_sorted kG h.g1 (fun y hy => fdX_none.1 hf y hy), ?_, ?_⟩
  · intro g hg
    rcases (mem_insK kG).1 hg with rfl | hg
    · exact ⟨h1, ht.1, ht.2, hp.1, hp.2⟩
    · exact h.g2 g hg
  · intro j
    show (ofX (insK kG X.goods (k, t, p)) j).length ≤ 16
    rw [ofX_ins h.g1]
    split
    · rename_i e; rw [insK_len, e]; simp only; omega
    · exact h.g3 j
theorem XInv.take {X : StX} (h : XInv X) (t : Int) : XInv (takeX X t) :=
  ⟨h.t1, h.t2, delG_sorted h.g1 t, fun g hg => h.g2 g (List.mem_filter.1 hg).1, fun j => by
    show (ofX (delG X.goods t) j).length ≤ 16
    rw [ofX_del h.g1]
    exact Nat.le_trans (List.length_filter_le _ _) (h.g3 j)⟩
theorem XInv.set {X : StX} (h : XInv X) (k : Int) {g : Int} (hg : 0 ≤ g ∧ g ≤ 1099511627776) : XInv (setX X k g) := by
  refine ⟨setT_sorted h.t1 k g, ?_, h.g1, ?_, h.g3⟩
  · intro p hp
    unfold setX setT at hp
    obtain ⟨q, hq, rfl⟩ := List.mem_map.1 hp
    have := h.t2 q hq
    split
    · rename_i e
      subst e
      exact ⟨this.1, this.2.1, hg.1, hg.2⟩
    · exact this
  · intro q hq
    obtain ⟨a, b⟩ := h.g2 q hq
    refine ⟨?_, b⟩
    show ((setT X.tills k g).lookup q.1).isSome = true
    rw [look_setT]
    split
    · rename_i e; rw [e] at a; rw [Option.isSome_map]; exact a
    · exact a
theorem XInv.close {X : StX} (h : XInv X) (k : Int) : XInv (closeX X k) := by
  refine ⟨List.Pairwise.filter _ h.t1, fun p hp => h.t2 p (List.mem_filter.1 hp).1, List.Pairwise.filter _ h.g1, ?_, ?_⟩
  · intro q hq
    obtain ⟨hq1, hq2⟩ := List.mem_filter.1 hq
    obtain ⟨a, b⟩ := h.g2 q hq1
    refine ⟨?_, b⟩
    show ((adel X.tills k).lookup q.1).isSome = true
    rw [lookup_adel, if_neg (by simpa using hq2)]
    exact a
  · intro j
    show (ofX (X.goods.filter (fun g => !decide (g.1 = k))) j).length ≤ 16
    rw [ofX_close]
    split
    · simp
    · exact h.g3 j
theorem XInv.nogoods {X : StX} (h : XInv X) {k : Int} (hn : X.tills.lookup k = none) : ofX X.goods k = [] := by
  cases he : ofX X.goods k with
  | nil => rfl
  | cons p l =>
    have h1 : p ∈ ofX X.goods k := by rw [he]; simp
    have h2 := (h.g2 _ (ofX_fst.1 h1)).1
    simp only at h2
    rw [hn] at h2
    simp at h2
/-! how the maps follow -/
theorem look_snoc {α : Type} {m : List (Int × α)} {h : Int} {v : α} (hn : m.lookup h = none) (k : Int) : (m ++ [(h, v)]).lookup k = if k = h then some v else m.lookup k := by
  have e : m ++ [(h, v)] = aput m h v := by unfold aput; rw [hn]; rfl
  rw [e, lookup_aput]
theorem look_mid {α : Type} {m1 m2 : List (Int × α)} {h : Int} {u v : α} (hn : ((m1 ++ (h, u) :: m2).map (·.1)).Nodup) (k : Int) : (m1 ++ (h, v) :: m2).lookup k = if k = h then some v else (m1 ++ (h, u) :: m2).lookup k := by
  have h1 : ∀ p ∈ m1, p.1 ≠ h := by
    intro p hp e
    rw [List.map_append, List.nodup_append] at hn
    exact hn.2.2 p.1 (List.mem_map_of_mem hp) h (by simp) e
  induction m1 with
  | nil =>
    rw [List.nil_append, List.nil_append, List.lookup_cons, List.lookup_cons]
    by_cases e : k = h
    · simp [e]
    · have : (k == h) = false := by simpa using e
      rw [this, if_neg e]
  | cons p m1 ih =>
    rw [List.cons_append, List.cons_append, List.lookup_cons, List.lookup_cons]
    by_cases e : k = p.1
    · subst e
      have : ¬ p.1 = h := h1 p (by simp)
      simp [this]
    · have e1 : (k == p.1) = false := by simpa using e
      rw [e1]
      exact ih (by rw [List.cons_append, List.map_cons, List.nodup_cons] at hn; exact hn.2) (fun q hq => h1 q (by simp [hq]))
theorem look_del_mid {α : Type} {m1 m2 : List (Int × α)} {h : Int} {u : α} (hn : ((m1 ++ (h, u) :: m2).map (·.1)).Nodup) (k : Int) : (m1 ++ m2).lookup k = if k = h then none else (m1 ++ (h, u) :: m2).lookup k := by
  have e : m1 ++ m2 = adel (m1 ++ (h, u) :: m2) h := by
    unfold adel
    rw [List.filter_append, List.filter_cons_of_neg (by simp)]
    rw [List.map_append, List.nodup_append] at hn
    have h2 := List.nodup_cons.1 hn.2.1
    congr 1
    · symm
      rw [List.filter_eq_self]
      intro p hp
      have : p.1 ≠ h := fun e => hn.2.2 p.1 (List.mem_map_of_mem (f := fun x : Int × α => x.1) hp) h (by simp) e
      simpa using this
    · symm
      rw [List.filter_eq_self]
      intro p hp
      have : p.1 ≠ h := fun e => h2.1 (List.mem_map.2 ⟨p, hp, e⟩)
      simpa using this
  rw [e, lookup_adel]
theorem StRel.open {m : List (Int × Int × List (Int × Int))} {A : List (Int × Int)} {X : StX} (h : StRel m A X) (hi : XInv X) {k : Int} (hn : X.tills.lookup k = none) : StRel (m ++ [(k, 0, [])]) A ⟨insK kT X.tills (k, 0), X.goods⟩ := by
  refine ⟨fun j => ?_, h.r2⟩
  rw [look_snoc (by rw [h.r1, hn]; rfl), look_insK hn]
  by_cases e : j = k
  · subst e
    rw [if_pos rfl, if_pos rfl, Option.map_some, hi.nogoods hn]
  · rw [if_neg e, if_neg e, h.r1]
theorem StRel.put {m1 m2 : List (Int × Int × List (Int × Int))} {A : List (Int × Int)} {X : StX} {k g : Int} {gs : List (Int × Int)} (h : StRel (m1 ++ (k, g, gs) :: m2) A X) (hn : ((m1 ++ (k, g, gs) :: m2).map (·.1)).Nodup) (hi : XInv X) {t p : Int} (hf : fdX X.goods t = none) :
    gs = ofX X.goods k ∧ StRel (m1 ++ (k, g, insK (fun p : Int × Int => p.1) gs (t, p)) :: m2) (aput A t k) ⟨X.tills, insK kG X.goods (k, t, p)⟩ := by
  have hl : (m1 ++ (k, g, gs) :: m2).lookup k = some (g, gs) := (lookup_mem_iff hn).2 (by simp)
  have h1 := h.r1 k
  rw [hl] at h1
  have hgs : gs = ofX X.goods k ∧ X.tills.lookup k = some g := by
    cases ht : X.tills.lookup k with
    | none => rw [ht] at h1; simp at h1
    | some o => rw [ht] at h1; simp at h1; exact ⟨h1.2, by rw [h1.1]⟩
  refine ⟨hgs.1, fun j => ?_, fun j => ?_⟩
  · rw [look_mid hn, ofX_ins hi.g1]
    by_cases e : j = k
    · subst e
      rw [if_pos rfl, if_pos rfl, hgs.2, hgs.1]; rfl
    · rw [if_neg e, if_neg (by simpa using e), h.r1]
  · rw [lookup_aput, fdX_ins hi.g1 hf]
    by_cases e : j = t
    · subst e; simp
    · rw [if_neg e, if_neg (by simpa using e), h.r2]
theorem StRel.take {m1 m2 : List (Int × Int × List (Int × Int))} {A : List (Int × Int)} {X : StX} {k g t p : Int} {gs : List (Int × Int)} (h : StRel (m1 ++ (k, g, gs) :: m2) A X) (hn : ((m1 ++ (k, g, gs) :: m2).map (·.1)).Nodup) (hi : XInv X) (hf : fdX X.goods t = some (k, t, p)) :
    gs = ofX X.goods k ∧ X.tills.lookup k = some g ∧ (t, p) ∈ gs ∧ StRel (m1 ++ (k, g, gs.filter (fun q => !decide (q.1 = t))) :: m2) (adel A t) (takeX X t) := by
  have hl : (m1 ++ (k, g, gs) :: m2).lookup k = some (g, gs) := (lookup_mem_iff hn).2 (by simp)
  have h1 := h.r1 k
  rw [hl] at h1
  have hgs : gs = ofX X.goods k ∧ X.tills.lookup k = some g := by
    cases ht : X.tills.lookup k with
    | none => rw [ht] at h1; simp at h1
    | some o => rw [ht] at h1; simp at h1; exact ⟨h1.2, by rw [h1.1]⟩
  have hm := ((fdX_some hi.g1).1 hf).1
  refine ⟨hgs.1, hgs.2, by rw [hgs.1]; exact ofX_fst.2 hm, fun j => ?_, fun j => ?_⟩
  · rw [look_mid hn]
    show _ = (X.tills.lookup j).map (fun g => (g, ofX (delG X.goods t) j))
    by_cases e : j = k
    · subst e
      rw [if_pos rfl, hgs.2, ofX_del hi.g1, hgs.1]; rfl
    · rw [if_neg e, h.r1]
      have := ofX_del_other hi.g1 hm (h := j) e
      simp only at this
      rw [this]
  · show _ = (fdX (delG X.goods t) j).map (·.1)
    rw [lookup_adel, fdX_del hi.g1]
    by_cases e : j = t
    · rw [if_pos e, if_pos e]; rfl
    · rw [if_neg e, if_neg e, h.r2]
theorem StRel.set {m1 m2 : List (Int × Int × List (Int × Int))} {A : List (Int × Int)} {X : StX} {k g : Int} {gs : List (Int × Int)} (h : StRel (m1 ++ (k, g, gs) :: m2) A X) (hn : ((m1 ++ (k, g, gs) :: m2).map (·.1)).Nodup) (g' : Int) :
    X.tills.lookup k = some g ∧ StRel (m1 ++ (k, g', gs) :: m2) A (setX X k g') := by
  have hl : (m1 ++ (k, g, gs) :: m2).lookup k = some (g, gs) := (lookup_mem_iff hn).2 (by simp)
  have h1 := h.r1 k
  rw [hl] at h1
  have hgs : gs = ofX X.goods k ∧ X.tills.lookup k = some g := by
    cases ht : X.tills.lookup k with
    | none => rw [ht] at h1; simp at h1
    | some o => rw [ht] at h1; simp at h1; exact ⟨h1.2, by rw [h1.1]⟩
  refine ⟨hgs.2, fun j => ?_, h.r2⟩
  show _ = ((setT X.tills k g').lookup j).map (fun g => (g, ofX X.goods j))
  rw [look_mid hn, look_setT]
  by_cases e : j = k
  · subst e
    rw [if_pos rfl, if_pos rfl, hgs.2, hgs.1]; rfl
  · rw [if_neg e, if_neg e, h.r1]
theorem look_dels (A : List (Int × Int)) : ∀ (l : List Int) (t : Int), (l.foldl adel A).lookup t = if t ∈ l then none else A.lookup t := by
  intro l
  induction l generalizing A with
  | nil => intro t; simp
  | cons x l ih =>
    intro t
    rw [List.foldl_cons, ih, lookup_adel]
    by_cases h1 : t ∈ l
    · simp [h1]
    · by_cases h2 : t = x
      · simp [h2]
      · simp [h1, h2]
theorem StRel.close {m1 m2 : List (Int × Int × List (Int × Int))} {A : List (Int × Int)} {X : StX} {k g : Int} {gs : List (Int × Int)} (h : StRel (m1 ++ (k, g, gs) :: m2) A X) (hn : ((m1 ++ (k, g, gs) :: m2).map (·.1)).Nodup) (hi : XInv X) :
    gs = ofX X.goods k ∧ X.tills.lookup k = some g ∧ StRel (m1 ++ m2) ((gs.map (·.1)).foldl adel A) (closeX X k) := by
  have hl : (m1 ++ (k, g, gs) :: m2).lookup k = some (g, gs) := (lookup_mem_iff hn).2 (by simp)
  have h1 := h.r1 k
  rw [hl] at h1
  have hgs : gs = ofX X.goods k ∧ X.tills.lookup k = some g := by
    cases ht : X.tills.lookup k with
    | none => rw [ht] at h1; simp at h1
    | some o => rw [ht] at h1; simp at h1; exact ⟨h1.2, by rw [h1.1]⟩
  refine ⟨hgs.1, hgs.2, fun j => ?_, fun j => ?_⟩
  · show _ = ((adel X.tills k).lookup j).map (fun g => (g, ofX (X.goods.filter (fun g => !decide (g.1 = k))) j))
    rw [look_del_mid hn, lookup_adel, ofX_close]
    by_cases e : j = k
    · rw [if_pos e, if_pos e, if_pos e]; rfl
    · rw [if_neg e, if_neg e, if_neg e, h.r1]
  · show _ = (fdX (X.goods.filter (fun g => !decide (g.1 = k))) j).map (·.1)
    rw [look_dels, fdX_close hi.g1, hgs.1]
    split
    · rfl
    · exact h.r2 j
end Go.Proofs.Ytajfjgekcjkedaa
end
