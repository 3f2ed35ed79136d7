/- Joined texts, in this order: MapsP. Each one's first remark says what it proves; no condition beyond those that its theorems name. -/
import Derived.Test.YtdoflhiogoefjaaDoorJLawThingCopies02
section
/- Maps from triples of numbers (structs), entry by entry (the twin of Maps). No program in sight. -/
namespace Go.Proofs.YtdoflhiogoefjaaDoor.MP
abbrev P3 := Int × Int × Int
open Go.RowKit
open Go.Lib (hid)
open Go.MapKept
set_option linter.unusedVariables false

section plain
variable {α : Type}
/-- an entry is laid: in its place, or behind all -/
def aput (m : List (P3 × α)) (k : P3) (v : α) : List (P3 × α) := if (m.lookup k).isSome then m.map (fun p => if p.1 = k then (k, v) else p) else m ++ [(k, v)]
def adel (m : List (P3 × α)) (k : P3) : List (P3 × α) := m.filter (fun p => p.1 != k)
theorem lookup_none {m : List (P3 × α)} {k : P3} (h : ∀ p ∈ m, p.1 ≠ k) : m.lookup k = none := by
  induction m with
  | nil => rfl
  | cons p m ih =>
    have h0 : (k == p.1) = false := by simpa using fun e => h p (by simp) e.symm
    obtain ⟨a, b⟩ := p
    rw [List.lookup_cons, h0]
    exact ih (fun q hq => h q (by simp [hq]))
theorem lookup_none_iff {m : List (P3 × α)} {k : P3} : m.lookup k = none ↔ ∀ p ∈ m, p.1 ≠ k := by
  refine ⟨fun h => ?_, lookup_none⟩
  induction m with
  | nil => simp
  | cons p m ih =>
    obtain ⟨a, b⟩ := p
    rw [List.lookup_cons] at h
    cases h0 : (k == a)
    · rw [h0] at h
      intro q hq
      rcases List.mem_cons.1 hq with rfl | hq
      · simpa using fun e : a = k => by simp [e] at h0
      · exact ih h q hq
    · rw [h0] at h; simp at h
theorem lookup_at : ∀ {m : List (P3 × α)} {k : P3} {i : Nat} {v : α}, (m.map (·.1)).Nodup → m[i]? = some (k, v) → m.lookup k = some v
  | [], _, _, _, _, h => by simp at h
  | (a, b) :: m, k, i, v, hn, h => by
    rw [List.lookup_cons]
    cases i with
    | zero => simp at h; obtain ⟨rfl, rfl⟩ := h; simp
    | succ i =>
      simp at h
      simp at hn
      have hne : (k == a) = false := by
        simp
        rintro rfl
        exact hn.1 v (List.mem_of_getElem? h)
      rw [hne]
      exact lookup_at hn.2 h
theorem lookup_mem {m : List (P3 × α)} {k : P3} {v : α} (h : m.lookup k = some v) : (k, v) ∈ m := by
  induction m with
  | nil => simp at h
  | cons p m ih =>
    obtain ⟨a, b⟩ := p
    rw [List.lookup_cons] at h
    cases h0 : (k == a)
    · rw [h0] at h; simp [ih h]
    · rw [h0] at h
      simp at h h0
      simp [h, h0]
theorem lookup_mem_iff {m : List (P3 × α)} (hn : (m.map (·.1)).Nodup) {k : P3} {v : α} : m.lookup k = some v ↔ (k, v) ∈ m :=
  ⟨lookup_mem, fun h => by obtain ⟨i, hi⟩ := List.getElem?_of_mem h; exact lookup_at hn hi⟩
theorem aput_keys (m : List (P3 × α)) (k : P3) (v : α) : (aput m k v).map (·.1) = if (m.lookup k).isSome then m.map (·.1) else m.map (·.1) ++ [k] := by
  unfold aput
  split
  · rw [List.map_map]
    apply List.map_congr_left
    intro p _
    show (if p.1 = k then (k, v) else p).1 = p.1
    split
    · rename_i h; exact h.symm
    · rfl
  · simp
theorem aput_nodup {m : List (P3 × α)} (hn : (m.map (·.1)).Nodup) (k : P3) (v : α) : ((aput m k v).map (·.1)).Nodup := by
  rw [aput_keys]
  split
  · exact hn
  · rename_i h
    have h := lookup_none_iff.1 (Option.not_isSome_iff_eq_none.1 h)
    rw [List.nodup_append]
    refine ⟨hn, by simp, ?_⟩
    intro a ha b hb
    simp at hb
    subst hb
    obtain ⟨p, hp, rfl⟩ := List.mem_map.1 ha
    exact h p hp
theorem adel_nodup {m : List (P3 × α)} (hn : (m.map (·.1)).Nodup) (k : P3) : ((adel m k).map (·.1)).Nodup := (List.filter_sublist.map _).nodup hn
theorem lookup_aput (m : List (P3 × α)) (k : P3) (v : α) (j : P3) : (aput m k v).lookup j = if j = k then some v else m.lookup j := by
  unfold aput
  by_cases hs : (m.lookup k).isSome
  · rw [if_pos hs]
    induction m with
    | nil => simp at hs
    | cons p m ih =>
      obtain ⟨a, b⟩ := p
      rw [List.map_cons, List.lookup_cons]
      by_cases ha : a = k
      · subst ha
        simp only [if_true]
        rw [List.lookup_cons]
        by_cases hj : j = a
        · subst hj; simp
        · have hj' : (j == a) = false := by simpa using hj
          simp only [hj', hj, if_false]
          by_cases hs' : (m.lookup a).isSome
          · rw [ih hs', if_neg hj]
          · have := lookup_none_iff.1 (Option.not_isSome_iff_eq_none.1 hs')
            congr 1
            conv => rhs; rw [← List.map_id m]
            apply List.map_congr_left
            intro p hp
            rw [if_neg (this p hp)]; rfl
      · simp only [ha, if_false]
        have hk : (k == a) = false := by simpa using fun e : k = a => ha e.symm
        rw [List.lookup_cons, hk] at hs
        rw [List.lookup_cons]
        cases hj : (j == a)
        · simp only; exact ih hs
        · simp only
          have : j = a := by simpa using hj
          subst this
          rw [if_neg ha]
  · rw [if_neg hs]
    induction m with
    | nil =>
      rw [List.nil_append, List.lookup_cons]
      by_cases hj : j = k
      · subst hj; simp
      · have : (j == k) = false := by simpa using hj
        rw [this, if_neg hj]
    | cons p m ih =>
      obtain ⟨a, b⟩ := p
      rw [List.lookup_cons] at hs
      cases hk : (k == a)
      · rw [hk] at hs
        rw [List.cons_append, List.lookup_cons, List.lookup_cons, ih hs]
        cases hj : (j == a)
        · rfl
        · have : j = a := by simpa using hj
          subst this
          have : ¬ j = k := fun e => by subst e; simp at hk
          simp only [this, if_false]
      · rw [hk] at hs; simp at hs
theorem lookup_adel (m : List (P3 × α)) (k : P3) (j : P3) : (adel m k).lookup j = if j = k then none else m.lookup j := by
  induction m with
  | nil => simp [adel]
  | cons p m ih =>
    obtain ⟨a, b⟩ := p
    unfold adel at *
    by_cases ha : a = k
    · subst ha
      rw [List.filter_cons_of_neg (by simp), ih, List.lookup_cons]
      by_cases hj : j = a
      · rw [if_pos hj, if_pos hj]
      · have : (j == a) = false := by simpa using hj
        rw [if_neg hj, if_neg hj, this]
    · rw [List.filter_cons_of_pos (by simpa using ha), List.lookup_cons, List.lookup_cons, ih]
      cases hj : (j == a)
      · rfl
      · have : j = a := by simpa using hj
        subst this
        simp only [ha, if_false]
theorem mem_aput {m : List (P3 × α)} {k : P3} {v : α} {p : P3 × α} (h : p ∈ aput m k v) : p = (k, v) ∨ (p ∈ m ∧ p.1 ≠ k) := by
  unfold aput at h
  split at h
  · obtain ⟨q, hq, rfl⟩ := List.mem_map.1 h
    by_cases hk : q.1 = k
    · rw [if_pos hk]; exact .inl rfl
    · rw [if_neg hk]; exact .inr ⟨hq, hk⟩
  · rename_i h0
    rcases List.mem_append.1 h with h | h
    · exact .inr ⟨h, lookup_none_iff.1 (Option.not_isSome_iff_eq_none.1 h0) p h⟩
    · exact .inl (by simpa using h)
theorem aput_map {β : Type} (f : α → β) (m : List (P3 × α)) (k : P3) (v : α) : (aput m k v).map (fun p => (p.1, f p.2)) = aput (m.map (fun p => (p.1, f p.2))) k (f v) := by
  have hl : ((m.map (fun p => (p.1, f p.2))).lookup k) = (m.lookup k).map f := by
    induction m with
    | nil => rfl
    | cons p m ih =>
      obtain ⟨a, b⟩ := p
      rw [List.map_cons, List.lookup_cons, List.lookup_cons]
      cases (k == a)
      · exact ih
      · rfl
  unfold aput
  rw [hl, Option.isSome_map]
  split
  · rw [List.map_map, List.map_map]
    apply List.map_congr_left
    intro p _
    show ((if p.1 = k then (k, v) else p).1, f (if p.1 = k then (k, v) else p).2) = if p.1 = k then (k, f v) else (p.1, f p.2)
    split <;> rfl
  · simp
theorem lookup_map {β : Type} (f : α → β) (m : List (P3 × α)) (k : P3) : ((m.map (fun p => (p.1, f p.2))).lookup k) = (m.lookup k).map f := by
  induction m with
  | nil => rfl
  | cons p m ih =>
    obtain ⟨a, b⟩ := p
    rw [List.map_cons, List.lookup_cons, List.lookup_cons]
    cases (k == a)
    · exact ih
    · rfl
theorem adel_map {β : Type} (f : α → β) (m : List (P3 × α)) (k : P3) : (adel m k).map (fun p => (p.1, f p.2)) = adel (m.map (fun p => (p.1, f p.2))) k := by
  unfold adel
  rw [List.filter_map]
  rfl
theorem eraseIdx_adel : ∀ {m : List (P3 × α)} {k : P3} {i : Nat} {v : α}, (m.map (·.1)).Nodup → m[i]? = some (k, v) → m.eraseIdx i = adel m k
  | [], _, _, _, _, h => by simp at h
  | (a, b) :: m, k, i, v, hn, h => by
    simp only [List.map_cons, List.nodup_cons] at hn
    unfold adel
    cases i with
    | zero =>
      simp at h
      obtain ⟨rfl, rfl⟩ := h
      rw [List.filter_cons_of_neg (by simp), List.eraseIdx_zero, List.tail_cons]
      symm
      rw [List.filter_eq_self]
      intro p hp
      have : p.1 ≠ a := fun e => hn.1 (e ▸ List.mem_map_of_mem hp)
      simpa using this
    | succ i =>
      simp at h
      have hne : a ≠ k := fun e => hn.1 (by subst e; exact List.mem_map.2 ⟨_, List.mem_of_getElem? h, rfl⟩)
      rw [List.filter_cons_of_pos (by simpa using hne), List.eraseIdx_cons_succ, eraseIdx_adel hn.2 h]
      rfl
theorem modify_aput : ∀ {m : List (P3 × α)} {k : P3} {i : Nat} {v0 v : α}, (m.map (·.1)).Nodup → m[i]? = some (k, v0) → m.modify i (fun _ => (k, v)) = m.map (fun p => if p.1 = k then (k, v) else p)
  | [], _, _, _, _, _, h => by simp at h
  | (a, b) :: m, k, i, v0, v, hn, h => by
    simp only [List.map_cons, List.nodup_cons] at hn
    cases i with
    | zero =>
      simp at h
      obtain ⟨rfl, rfl⟩ := h
      rw [List.modify_zero_cons, List.map_cons, if_pos rfl]
      congr 1
      conv => lhs; rw [← List.map_id m]
      apply List.map_congr_left
      intro p hp
      have : p.1 ≠ a := fun e => hn.1 (e ▸ List.mem_map_of_mem hp)
      rw [if_neg this]; rfl
    | succ i =>
      simp at h
      have hne : a ≠ k := fun e => hn.1 (by subst e; exact List.mem_map.2 ⟨_, List.mem_of_getElem? h, rfl⟩)
      rw [List.modify_succ_cons, List.map_cons, if_neg hne, modify_aput hn.2 h]
theorem adel_none {m : List (P3 × α)} {k : P3} (h : m.lookup k = none) : adel m k = m := by
  unfold adel
  rw [List.filter_eq_self]
  intro p hp
  simpa using lookup_none_iff.1 h p hp
end plain



def encP (k : P3) : Value := .agg #[.int .i64 k.1, .int .i64 k.2.1, .int .i64 k.2.2]
theorem encP_inj {a b : P3} (h : encP a = encP b) : a = b := by
  obtain ⟨a1, a2, a3⟩ := a
  obtain ⟨b1, b2, b3⟩ := b
  simp [encP] at h
  simp [h]
structure KeyP (P : Program) (kt : TypeId) : Prop where
  und : ∃ fs, P.underlying kt = some (.struct fs)
  chk : ∀ (e : Bool) (k : P3) (w : World), (Instr.checkKey e 10000 kt (encP k)).run P w = .ok () w
  eql : ∀ (a b : P3) (w : World), (Op.equal kt (encP a) (encP b)).run P w = .ok (decide (a = b)) w
theorem stays_encP (k : P3) (P : Program) (w : World) : (Instr.keyThatStays (encP k) (encP k)).run P w = .ok (encP k) w := by
  have h : Instr.sameBits 10000 (encP k) (encP k) = true := by
    simp [encP, Instr.sameBits]
  unfold Instr.keyThatStays
  rw [if_pos h]; rfl
theorem asking {P : Program} {kt : TypeId} (K : KeyP P kt) (k : P3) (w : World) : ∀ (es : List MapEntry) (m : List (P3 × Value)) (i : Nat), es.map (fun e => (e.key, e.val)) = m.map (fun p => (encP p.1, p.2)) →
    ((Instr.findAsking kt (encP k) es i).run P w = .ok none w ∧ ∀ p ∈ m, p.1 ≠ k) ∨ ∃ j v, (Instr.findAsking kt (encP k) es i).run P w = .ok (some (i + j, v)) w ∧ m[j]? = some (k, v)
  | [], m, i, h => by
    have : m = [] := by cases m with | nil => rfl | cons _ _ => simp at h
    subst this
    exact .inl ⟨rfl, by simp⟩
  | e :: es, [], i, h => by simp at h
  | e :: es, p :: m, i, h => by
    simp only [List.map_cons, List.cons.injEq] at h
    obtain ⟨h1, h2⟩ := h
    have hk : e.key = encP p.1 := (Prod.mk.inj h1).1
    have hv : e.val = p.2 := (Prod.mk.inj h1).2
    have hq := K.eql k p.1 w
    by_cases hkp : k = p.1
    · refine .inr ⟨0, p.2, ?_, by rw [hkp]; rfl⟩
      unfold Instr.findAsking
      have hd : decide (k = p.1) = true := by simpa using hkp
      simp only [Sem.run_bind, hk, hq, Result.andThen, hd, if_true, hv, Nat.add_zero]
      rfl
    · have hd : decide (k = p.1) = false := by simpa using hkp
      have e1 : (Instr.findAsking kt (encP k) (e :: es) i).run P w = (Instr.findAsking kt (encP k) es (i + 1)).run P w := by
        rw [Instr.findAsking]
        simp only [Sem.run_bind, hk, hq, Result.andThen, hd, Bool.false_eq_true, if_false]
      rw [e1]
      rcases asking K k w es m (i + 1) h2 with ⟨q1, q2⟩ | ⟨j, v, q1, q2⟩
      · refine .inl ⟨q1, fun x hx => ?_⟩
        rcases List.mem_cons.1 hx with rfl | hx
        · exact fun q => hkp q.symm
        · exact q2 x hx
      · exact .inr ⟨j + 1, v, by rw [q1, Nat.add_assoc, Nat.add_comm 1 j], q2⟩
theorem findKeyP {P : Program} {kt : TypeId} (K : KeyP P kt) (k : P3) (w : World) (es : List MapEntry) : (Instr.findKey kt (encP k) es).run P w = (Instr.findAsking kt (encP k) es 0).run P w := by
  obtain ⟨fs, hf⟩ := K.und
  unfold Instr.findKey
  cases es with
  | nil =>
    simp only [Sem.run_bind, run_underlying hf, Result.andThen, Instr.findNow]
    rfl
  | cons e es =>
    have : Instr.findNow (.struct fs) (encP k) (e :: es) 0 = none := by simp [Instr.findNow, Instr.sameNow]
    simp only [Sem.run_bind, run_underlying hf, Result.andThen, this]
/-- block b is a map from integers: its entries, in the order in which they were laid -/
def MapP (w : World) (b : Nat) (m : List (P3 × Value)) : Prop :=
  ∃ es clock, w.heap[b]? = some (.map es clock) ∧ Stamped es clock ∧ es.toList.map (fun e => (e.key, e.val)) = m.map (fun p => (encP p.1, p.2))
theorem MapP.lt {w : World} {b : Nat} {m : List (P3 × Value)} (h : MapP w b m) : b < w.heap.size := by obtain ⟨es, c, h, -⟩ := h; exact (Array.getElem?_eq_some_iff.1 h).1
theorem MapP.nodup {w : World} {b : Nat} {m : List (P3 × Value)} (h : MapP w b m) : (m.map (·.1)).Nodup := by
  obtain ⟨es, c, -, ⟨-, -, h⟩, he⟩ := h
  have e2 : es.toList.map (·.key) = (m.map (·.1)).map encP := by
    have := congrArg (List.map Prod.fst) he
    rw [List.map_map, List.map_map] at this
    rw [List.map_map]; exact this
  rw [e2] at h
  exact nodup_of_map _ h
theorem MapP.upd {S : Nat → Prop} {w w' : World} {b : Nat} {m : List (P3 × Value)} (h : MapP w b m) (hu : Upd S w w') (hn : ¬ S b) : MapP w' b m := by
  obtain ⟨es, c, h, r⟩ := h; exact ⟨es, c, hu.heap h hn, r⟩
theorem MapP.below {w w' : World} {b : Nat} {m : List (P3 × Value)} (h : MapP w b m) (hu : Below w.heap.size w w') : MapP w' b m :=
  h.upd (S := fun _ => False) (Upd.of_below hu) (fun x => x)
theorem MapP.new (w : World) : MapP (w.alloc (.map #[] 0)) w.heap.size [] := ⟨#[], 0, heap_alloc_new w _, stamped_empty 0, rfl⟩

/-- a key is sought -/
theorem MapP.find {P : Program} {kt : TypeId} (K : KeyP P kt) (w : World) {m : List (P3 × Value)} {es : Array MapEntry} (he : es.toList.map (fun e => (e.key, e.val)) = m.map (fun p => (encP p.1, p.2))) (hn : (m.map (·.1)).Nodup) (k : P3) :
    ((Instr.findKey kt (encP k) es.toList).run P w = .ok none w ∧ m.lookup k = none ∧ ∀ x ∈ es.toList, x.key ≠ encP k) ∨
    ∃ j v e, (Instr.findKey kt (encP k) es.toList).run P w = .ok (some (j, v)) w ∧ m.lookup k = some v ∧ m[j]? = some (k, v) ∧ es[j]? = some e ∧ e.key = encP k := by
  rw [findKeyP K k w]
  rcases asking K k w es.toList m 0 he with ⟨h1, h2⟩ | ⟨j, v, h1, h2⟩
  · refine .inl ⟨h1, lookup_none h2, fun x hx q => ?_⟩
    have : (x.key, x.val) ∈ m.map (fun p => (encP p.1, p.2)) := by rw [← he]; exact List.mem_map.2 ⟨x, hx, rfl⟩
    obtain ⟨p, hp, hh⟩ := List.mem_map.1 this
    have h3 := (Prod.mk.inj hh).1
    rw [q] at h3
    exact h2 p hp (encP_inj h3)
  · have hj : (es.toList.map (fun e => (e.key, e.val)))[j]? = some (encP k, v) := by rw [he, List.getElem?_map, h2]; rfl
    rw [List.getElem?_map] at hj
    cases hx : es.toList[j]? with
    | none => rw [hx] at hj; simp at hj
    | some e =>
      rw [hx] at hj
      simp only [Option.map_some, Option.some.injEq, Prod.mk.injEq] at hj
      refine .inr ⟨j, v, e, by simpa using h1, lookup_at hn h2, h2, by simpa using hx, hj.1⟩

section laws
variable {P : Program} {w : World} {b : Nat} {m : List (P3 × Value)} {t kt et : TypeId}
theorem MapP.run_lookup (h : MapP w b m) (ht : P.underlying t = some (.map kt et)) (hk : KeyP P kt) (z : Value) (hz : (zeroValue et).run P w = .ok z w) (k : P3) (ok : Bool) :
    (Instr.lookup t (.map (some b)) (encP k) ok).run P w = .ok (if ok then .tuple #[(m.lookup k).getD z, .bool (m.lookup k).isSome] else (m.lookup k).getD z) w := by
  have hn := h.nodup
  obtain ⟨es, c, hb, hst, he⟩ := h
  rcases MapP.find hk w he hn k with ⟨h1, h2, -⟩ | ⟨j, v, e, h1, h2, -⟩
  · simp [Instr.lookup, run_underlying ht, Go.MapKept.run_getObj_map hb, hk.chk, h1, Result.andThen, hz, h2]
  · simp [Instr.lookup, run_underlying ht, Go.MapKept.run_getObj_map hb, hk.chk, h1, Result.andThen, h2]
theorem MapP.run_update (h : MapP w b m) (ht : P.underlying t = some (.map kt et)) (hk : KeyP P kt) (k : P3) (v : Value) :
    ∃ w', (Instr.mapUpdate t (.map (some b)) (encP k) v).run P w = .ok () w' ∧ MapP w' b (aput m k v) ∧ Upd (fun k => k = b) w w' ∧ w'.heap.size = w.heap.size := by
  have hn := h.nodup
  obtain ⟨es, c, hb, hst, he⟩ := h
  rcases MapP.find hk w he hn k with ⟨h1, h2, h3⟩ | ⟨j, v0, e, h1, h2, h4, h5, h6⟩
  · refine ⟨{ w with heap := w.heap.setIfInBounds b (.map (es.push { key := encP k, val := v, born := c }) (c + 1)) }, ?_, ⟨_, _, (heap_set hb).1, stamped_push hst h3, ?_⟩, set_upd hb _, by simp⟩
    · simp [Instr.mapUpdate, run_underlying ht, Go.MapKept.run_getObj_map hb, hk.chk, h1, Result.andThen, Go.MapKept.run_setObj_map _ hb]
    · unfold aput
      rw [h2]
      simp [he]
  · have hkey : ((es[j]?).map (·.key)).getD (encP k) = encP k := by rw [h5]; exact h6
    refine ⟨{ w with heap := w.heap.setIfInBounds b (.map (es.modify j fun e => { e with key := encP k, val := v }) c) }, ?_, ⟨_, _, (heap_set hb).1, stamped_modify hst j _ (fun _ _ => rfl) (fun e' _ h => by rw [h5] at h; obtain rfl := Option.some.inj h; exact h6.symm), ?_⟩, set_upd hb _, by simp⟩
    · simp [Instr.mapUpdate, run_underlying ht, Go.MapKept.run_getObj_map hb, hk.chk, h1, Result.andThen, h5, h6, stays_encP, Go.MapKept.run_setObj_map _ hb]
    · unfold aput
      rw [h2]
      simp only [Option.isSome_some, if_true, Array.toList_modify]
      rw [← modify_aput hn h4, map_modify_of (fun e : MapEntry => (e.key, e.val)) _ (fun _ => (encP k, v)) (fun _ => rfl), he, map_modify_of (fun p : P3 × Value => (encP p.1, p.2)) _ (fun _ => (encP k, v)) (fun _ => rfl)]
theorem MapP.run_delete (h : MapP w b m) (ht : P.underlying t = some (.map kt et)) (hk : KeyP P kt) (k : P3) (ty : TypeId) :
    ∃ w', (Builtin.delete_ #[t, kt] ty #[.map (some b), encP k]).run P w = .ok (.tuple #[]) w' ∧ MapP w' b (adel m k) ∧ Upd (fun k => k = b) w w' ∧ w'.heap.size = w.heap.size := by
  have hn := h.nodup
  obtain ⟨es, c, hb, hst, he⟩ := h
  rcases MapP.find hk w he hn k with ⟨h1, h2, h3⟩ | ⟨j, v0, e, h1, h2, h4, h5, h6⟩
  · refine ⟨{ w with heap := w.heap.setIfInBounds b (.map es c) }, ?_, ⟨_, _, (heap_set hb).1, hst, ?_⟩, set_upd hb _, by simp⟩
    · simp [Builtin.delete_, run_underlying ht, Go.MapKept.run_getObj_map hb, hk.chk, h1, Result.andThen, Go.MapKept.run_setObj_map _ hb]
    · rw [adel_none h2]; exact he
  · refine ⟨{ w with heap := w.heap.setIfInBounds b (.map (es.eraseIdxIfInBounds j) c) }, ?_, ⟨_, _, (heap_set hb).1, stamped_erase hst j, ?_⟩, set_upd hb _, by simp⟩
    · simp [Builtin.delete_, run_underlying ht, Go.MapKept.run_getObj_map hb, hk.chk, h1, Result.andThen, Go.MapKept.run_setObj_map _ hb]
    · have hj : j < es.size := (Array.getElem?_eq_some_iff.1 h5).1
      have e1 : (es.eraseIdxIfInBounds j).toList = es.toList.eraseIdx j := by unfold Array.eraseIdxIfInBounds; rw [dif_pos hj, Array.toList_eraseIdx]
      rw [e1, map_eraseIdx_of, he, ← map_eraseIdx_of, eraseIdx_adel hn h4]
theorem MapP.run_clear (h : MapP w b m) (ht : P.underlying t = some (.map kt et)) (ty : TypeId) :
    ∃ w', (Builtin.clear_ #[t] ty #[.map (some b)]).run P w = .ok (.tuple #[]) w' ∧ MapP w' b [] ∧ Upd (fun k => k = b) w w' ∧ w'.heap.size = w.heap.size := by
  obtain ⟨es, c, hb, hst, he⟩ := h
  refine ⟨{ w with heap := w.heap.setIfInBounds b (.map #[] c) }, ?_, ⟨_, _, (heap_set hb).1, stamped_empty c, rfl⟩, set_upd hb _, by simp⟩
  simp [Builtin.clear_, run_underlying ht, Go.MapKept.run_getObj_map hb, Result.andThen, Go.MapKept.run_setObj_map _ hb]
end laws

section wp
variable {P : Program} (w : World) {ops : Array Oper} {rest : List Oper} {o : Oper} {a : Act} {Q : Exit → Act → World → Prop} {t kt et : TypeId} {b : Nat} {m : List (P3 × Value)}
theorem wpList_lookE (hg : o.guard = none) (mo x : Operand) (ok : Bool) (hop : o.op = Op.lookup t mo x ok) (ht : P.underlying t = some (.map kt et)) (hk : KeyP P kt) (z : Value) (hz : (zeroValue et).run P w = .ok z w)
    (hm : a.eval mo = .map (some b)) (h : MapP w b m) (k : P3) (hx : a.eval x = encP k) (r : Option Value) (hr : m.lookup k = r)
    (hK : wpList P ops Q rest (a.put o.dst (if ok then .tuple #[r.getD z, .bool r.isSome] else r.getD z)) w) : wpList P ops Q (o :: rest) a w := by
  refine wpList_plain hg fun K' hK' => ?_
  have hrun := h.run_lookup ht hk z hz k ok
  rw [hr] at hrun
  unfold Oper.wp
  simp [execOp, hop, hm, hx, hrun, Result.andThen]
  exact hK' _ _ hK
theorem wpList_look1 (hg : o.guard = none) (mo x : Operand) (hop : o.op = Op.lookup t mo x false) (ht : P.underlying t = some (.map kt et)) (hk : KeyP P kt) (z : Value) (hz : ∀ w, (zeroValue et).run P w = .ok z w)
    (hm : a.eval mo = .map (some b)) (h : MapP w b m) (k : P3) (hx : a.eval x = encP k) (r : Value) (hr : Hid ((m.lookup k).getD z = r))
    (hK : wpList P ops Q rest (a.put o.dst r) w) : wpList P ops Q (o :: rest) a w :=
  wpList_lookE w hg mo x false hop ht hk z (hz w) hm h k hx _ rfl (by simpa [hr.out] using hK)
theorem wpList_look2 (hg : o.guard = none) (mo x : Operand) (hop : o.op = Op.lookup t mo x true) (ht : P.underlying t = some (.map kt et)) (hk : KeyP P kt) (z : Value) (hz : ∀ w, (zeroValue et).run P w = .ok z w)
    (hm : a.eval mo = .map (some b)) (h : MapP w b m) (k : P3) (hx : a.eval x = encP k) (r : Value) (hr : Hid ((m.lookup k).getD z = r)) (ok : Bool) (hok : Hid ((m.lookup k).isSome = ok))
    (hK : wpList P ops Q rest (a.put o.dst (.tuple #[r, .bool ok])) w) : wpList P ops Q (o :: rest) a w :=
  wpList_lookE w hg mo x true hop ht hk z (hz w) hm h k hx _ rfl (by simpa [hr.out, hok.out] using hK)
theorem wpList_putE (hg : o.guard = none) (mo x y : Operand) (hop : o.op = Op.mapUpdate t mo x y) (ht : P.underlying t = some (.map kt et)) (hk : KeyP P kt)
    (hm : a.eval mo = .map (some b)) (h : MapP w b m) (k : P3) (hx : a.eval x = encP k) (v : Value) (hv : a.eval y = v)
    (hK : ∀ w', MapP w' b (aput m k v) → Upd (fun k => k = b) w w' → w'.heap.size = w.heap.size → wpList P ops Q rest (a.put o.dst (.tuple #[])) w') : wpList P ops Q (o :: rest) a w := by
  refine wpList_plain hg fun K' hK' => ?_
  obtain ⟨w', hrun, h1, h2, h3⟩ := h.run_update (P := P) ht hk k v
  unfold Oper.wp
  simp [execOp, hop, hm, hx, hv, hrun, Result.andThen]
  exact hK' _ _ (hK w' h1 h2 h3)
theorem step_putE {K : Act → World → Prop} {E : Prop} (hg : o.guard = none) (mo x y : Operand) (hop : o.op = Op.mapUpdate t mo x y) (ht : P.underlying t = some (.map kt et)) (hk : KeyP P kt)
    (hm : a.eval mo = .map (some b)) (h : MapP w b m) (k : P3) (hx : a.eval x = encP k) (v : Value) (hv : a.eval y = v)
    (hK : ∀ w', MapP w' b (aput m k v) → Upd (fun k => k = b) w w' → w'.heap.size = w.heap.size → K (a.put o.dst (.tuple #[])) w') : if Region.wanted o (yielded ops a.tmps) = true then Oper.wp P o a w K Q else E := by
  have hw : Region.wanted o (yielded ops a.tmps) = true := by simp [Region.wanted, hg]
  rw [if_pos hw]
  obtain ⟨w', hrun, h1, h2, h3⟩ := h.run_update (P := P) ht hk k v
  unfold Oper.wp
  simp [execOp, hop, hm, hx, hv, hrun, Result.andThen, Oper.upon]
  exact hK w' h1 h2 h3
theorem wpList_delE (hg : o.guard = none) (mo x : Operand) (hop : o.op = Op.call { callee := Callee.builtin Builtin.delete, args := #[mo, x], argTypes := #[t, kt] }) (ht : P.underlying t = some (.map kt et)) (hk : KeyP P kt)
    (hm : a.eval mo = .map (some b)) (h : MapP w b m) (k : P3) (hx : a.eval x = encP k)
    (hK : ∀ w', MapP w' b (adel m k) → Upd (fun k => k = b) w w' → w'.heap.size = w.heap.size → wpList P ops Q rest (a.put o.dst (.tuple #[])) w') : wpList P ops Q (o :: rest) a w := by
  refine wpList_plain hg fun K' hK' => ?_
  obtain ⟨w', hrun, h1, h2, h3⟩ := h.run_delete (P := P) ht hk k o.type
  unfold Oper.wp execOp
  simp only [hop, resolve, invoke, builtin, Sem.run_bind, Sem.run_pure, Result.andThen_ok, List.map_toArray, List.map_cons, List.map_nil, hm, hx, hrun]
  exact hK' _ _ (hK w' h1 h2 h3)
theorem wpList_clearE (hg : o.guard = none) (mo : Operand) (hop : o.op = Op.call { callee := Callee.builtin Builtin.clear, args := #[mo], argTypes := #[t] }) (ht : P.underlying t = some (.map kt et))
    (hm : a.eval mo = .map (some b)) (h : MapP w b m)
    (hK : ∀ w', MapP w' b [] → Upd (fun k => k = b) w w' → w'.heap.size = w.heap.size → wpList P ops Q rest (a.put o.dst (.tuple #[])) w') : wpList P ops Q (o :: rest) a w := by
  refine wpList_plain hg fun K' hK' => ?_
  obtain ⟨w', hrun, h1, h2, h3⟩ := h.run_clear (P := P) ht o.type
  unfold Oper.wp execOp
  simp only [hop, resolve, invoke, builtin, Sem.run_bind, Sem.run_pure, Result.andThen_ok, List.map_toArray, List.map_cons, List.map_nil, hm, hrun]
  exact hK' _ _ (hK w' h1 h2 h3)
end wp
end Go.Proofs.YtdoflhiogoefjaaDoor.MP
end
