/- Joined texts, in this order: Maps, SortK. Each one's first remark says what it proves; no condition beyond those that its theorems name. -/
import Derived.Test.YtjbnfppnmljbmaaJLawLandStones01
import Derived.MapKept
section
/- Maps from integers, entry by entry. No program in sight. -/
namespace Go.Proofs.Ytjbnfppnmljbmaa
open Go.RowKit
open Go.Lib (hid)
open Go.MapKept
set_option linter.unusedVariables false

section plain
variable {α : Type}
/-- an entry is laid: in its place, or behind all -/
def aput (m : List (Int × α)) (k : Int) (v : α) : List (Int × α) := if (m.lookup k).isSome then m.map (fun p => if p.1 = k then (k, v) else p) else m ++ [(k, v)]
def adel (m : List (Int × α)) (k : Int) : List (Int × α) := m.filter (fun p => p.1 != k)
theorem lookup_none {m : List (Int × α)} {k : Int} (h : ∀ p ∈ m, p.1 ≠ k) : m.lookup k = none := by
  induction m with
  | nil => rfl
  | cons p m ih =>
    have h0 : (k == p.1) = false := by simpa using fun e => h p (by simp) e.symm
    obtain ⟨a, b⟩ := p
    rw [List.lookup_cons, h0]
    exact ih (fun q hq => h q (by simp [hq]))
theorem lookup_none_iff {m : List (Int × α)} {k : Int} : m.lookup k = none ↔ ∀ p ∈ m, p.1 ≠ k := by
  refine ⟨fun h => ?_, lookup_none⟩
  induction m with
  | nil => simp
  | cons p m ih =>
    obtain ⟨a, b⟩ := p
    rw [List.lookup_cons] at h
    cases h0 : (k == a)
    · rw [h0] at h
      intro q hq
      rcases List.mem_cons.1 hq with rfl | hq
      · simpa using fun e : a = k => by simp [e] at h0
      · exact ih h q hq
    · rw [h0] at h; simp at h
theorem lookup_at : ∀ {m : List (Int × α)} {k : Int} {i : Nat} {v : α}, (m.map (·.1)).Nodup → m[i]? = some (k, v) → m.lookup k = some v
  | [], _, _, _, _, h => by simp at h
  | (a, b) :: m, k, i, v, hn, h => by
    rw [List.lookup_cons]
    cases i with
    | zero => simp at h; obtain ⟨rfl, rfl⟩ := h; simp
    | succ i =>
      simp at h
      simp at hn
      have hne : (k == a) = false := by
        simp
        rintro rfl
        exact hn.1 v (List.mem_of_getElem? h)
      rw [hne]
      exact lookup_at hn.2 h
theorem lookup_mem {m : List (Int × α)} {k : Int} {v : α} (h : m.lookup k = some v) : (k, v) ∈ m := by
  induction m with
  | nil => simp at h
  | cons p m ih =>
    obtain ⟨a, b⟩ := p
    rw [List.lookup_cons] at h
    cases h0 : (k == a)
    · rw [h0] at h; simp [ih h]
    · rw [h0] at h
      simp at h h0
      simp [h, h0]
theorem lookup_mem_iff {m : List (Int × α)} (hn : (m.map (·.1)).Nodup) {k : Int} {v : α} : m.lookup k = some v ↔ (k, v) ∈ m :=
  ⟨lookup_mem, fun h => by obtain ⟨i, hi⟩ := List.getElem?_of_mem h; exact lookup_at hn hi⟩
theorem aput_keys (m : List (Int × α)) (k : Int) (v : α) : (aput m k v).map (·.1) = if (m.lookup k).isSome then m.map (·.1) else m.map (·.1) ++ [k] := by
  unfold aput
  split
  · rw [List.map_map]
    apply List.map_congr_left
    intro p _
    show (if p.1 = k then (k, v) else p).1 = p.1
    split
    · rename_i h; exact h.symm
    · rfl
  · simp
theorem aput_nodup {m : List (Int × α)} (hn : (m.map (·.1)).Nodup) (k : Int) (v : α) : ((aput m k v).map (·.1)).Nodup := by
  rw [aput_keys]
  split
  · exact hn
  · rename_i h
    have h := lookup_none_iff.1 (Option.not_isSome_iff_eq_none.1 h)
    rw [List.nodup_append]
    refine ⟨hn, by simp, ?_⟩
    intro a ha b hb
    simp at hb
    subst hb
    obtain ⟨p, hp, rfl⟩ := List.mem_map.1 ha
    exact h p hp
theorem adel_nodup {m : List (Int × α)} (hn : (m.map (·.1)).Nodup) (k : Int) : ((adel m k).map (·.1)).Nodup := (List.filter_sublist.map _).nodup hn
theorem lookup_aput (m : List (Int × α)) (k : Int) (v : α) (j : Int) : (aput m k v).lookup j = if j = k then some v else m.lookup j := by
  unfold aput
  by_cases hs : (m.lookup k).isSome
  · rw [if_pos hs]
    induction m with
    | nil => simp at hs
    | cons p m ih =>
      obtain ⟨a, b⟩ := p
      rw [List.map_cons, List.lookup_cons]
      by_cases ha : a = k
      · subst ha
        simp only [if_true]
        rw [List.lookup_cons]
        by_cases hj : j = a
        · subst hj; simp
        · have hj' : (j == a) = false := by simpa using hj
          simp only [hj', hj, if_false]
          by_cases hs' : (m.lookup a).isSome
          · rw [ih hs', if_neg hj]
          · have := lookup_none_iff.1 (Option.not_isSome_iff_eq_none.1 hs')
            congr 1
            conv => rhs; rw [← List.map_id m]
            apply List.map_congr_left
            intro p hp
            rw [if_neg (this p hp)]; rfl
      · simp only [ha, if_false]
        have hk : (k == a) = false := by simpa using fun e : k = a => ha e.symm
        rw [List.lookup_cons, hk] at hs
        rw [List.lookup_cons]
        cases hj : (j == a)
        · simp only; exact ih hs
        · simp only
          have : j = a := by simpa using hj
          subst this
          rw [if_neg ha]
  · rw [if_neg hs]
    induction m with
    | nil =>
      rw [List.nil_append, List.lookup_cons]
      by_cases hj : j = k
      · subst hj; simp
      · have : (j == k) = false := by simpa using hj
        rw [this, if_neg hj]
    | cons p m ih =>
      obtain ⟨a, b⟩ := p
      rw [List.lookup_cons] at hs
      cases hk : (k == a)
      · rw [hk] at hs
        rw [List.cons_append, List.lookup_cons, List.lookup_cons, ih hs]
        cases hj : (j == a)
        · rfl
        · have : j = a := by simpa using hj
          subst this
          have : ¬ j = k := fun e => by subst e; simp at hk
          simp only [this, if_false]
      · rw [hk] at hs; simp at hs
theorem lookup_adel (m : List (Int × α)) (k : Int) (j : Int) : (adel m k).lookup j = if j = k then none else m.lookup j := by
  induction m with
  | nil => simp [adel]
  | cons p m ih =>
    obtain ⟨a, b⟩ := p
    unfold adel at *
    by_cases ha : a = k
    · subst ha
      rw [List.filter_cons_of_neg (by simp), ih, List.lookup_cons]
      by_cases hj : j = a
      · rw [if_pos hj, if_pos hj]
      · have : (j == a) = false := by simpa using hj
        rw [if_neg hj, if_neg hj, this]
    · rw [List.filter_cons_of_pos (by simpa using ha), List.lookup_cons, List.lookup_cons, ih]
      cases hj : (j == a)
      · rfl
      · have : j = a := by simpa using hj
        subst this
        simp only [ha, if_false]
theorem mem_aput {m : List (Int × α)} {k : Int} {v : α} {p : Int × α} (h : p ∈ aput m k v) : p = (k, v) ∨ (p ∈ m ∧ p.1 ≠ k) := by
  unfold aput at h
  split at h
  · obtain ⟨q, hq, rfl⟩ := List.mem_map.1 h
    by_cases hk : q.1 = k
    · rw [if_pos hk]; exact .inl rfl
    · rw [if_neg hk]; exact .inr ⟨hq, hk⟩
  · rename_i h0
    rcases List.mem_append.1 h with h | h
    · exact .inr ⟨h, lookup_none_iff.1 (Option.not_isSome_iff_eq_none.1 h0) p h⟩
    · exact .inl (by simpa using h)
theorem aput_map {β : Type} (f : α → β) (m : List (Int × α)) (k : Int) (v : α) : (aput m k v).map (fun p => (p.1, f p.2)) = aput (m.map (fun p => (p.1, f p.2))) k (f v) := by
  have hl : ((m.map (fun p => (p.1, f p.2))).lookup k) = (m.lookup k).map f := by
    induction m with
    | nil => rfl
    | cons p m ih =>
      obtain ⟨a, b⟩ := p
      rw [List.map_cons, List.lookup_cons, List.lookup_cons]
      cases (k == a)
      · exact ih
      · rfl
  unfold aput
  rw [hl, Option.isSome_map]
  split
  · rw [List.map_map, List.map_map]
    apply List.map_congr_left
    intro p _
    show ((if p.1 = k then (k, v) else p).1, f (if p.1 = k then (k, v) else p).2) = if p.1 = k then (k, f v) else (p.1, f p.2)
    split <;> rfl
  · simp
theorem lookup_map {β : Type} (f : α → β) (m : List (Int × α)) (k : Int) : ((m.map (fun p => (p.1, f p.2))).lookup k) = (m.lookup k).map f := by
  induction m with
  | nil => rfl
  | cons p m ih =>
    obtain ⟨a, b⟩ := p
    rw [List.map_cons, List.lookup_cons, List.lookup_cons]
    cases (k == a)
    · exact ih
    · rfl
theorem adel_map {β : Type} (f : α → β) (m : List (Int × α)) (k : Int) : (adel m k).map (fun p => (p.1, f p.2)) = adel (m.map (fun p => (p.1, f p.2))) k := by
  unfold adel
  rw [List.filter_map]
  rfl
theorem eraseIdx_adel : ∀ {m : List (Int × α)} {k : Int} {i : Nat} {v : α}, (m.map (·.1)).Nodup → m[i]? = some (k, v) → m.eraseIdx i = adel m k
  | [], _, _, _, _, h => by simp at h
  | (a, b) :: m, k, i, v, hn, h => by
    simp only [List.map_cons, List.nodup_cons] at hn
    unfold adel
    cases i with
    | zero =>
      simp at h
      obtain ⟨rfl, rfl⟩ := h
      rw [List.filter_cons_of_neg (by simp), List.eraseIdx_zero, List.tail_cons]
      symm
      rw [List.filter_eq_self]
      intro p hp
      have : p.1 ≠ a := fun e => hn.1 (e ▸ List.mem_map_of_mem hp)
      simpa using this
    | succ i =>
      simp at h
      have hne : a ≠ k := fun e => hn.1 (by subst e; exact List.mem_map.2 ⟨_, List.mem_of_getElem? h, rfl⟩)
      rw [List.filter_cons_of_pos (by simpa using hne), List.eraseIdx_cons_succ, eraseIdx_adel hn.2 h]
      rfl
theorem modify_aput : ∀ {m : List (Int × α)} {k : Int} {i : Nat} {v0 v : α}, (m.map (·.1)).Nodup → m[i]? = some (k, v0) → m.modify i (fun _ => (k, v)) = m.map (fun p => if p.1 = k then (k, v) else p)
  | [], _, _, _, _, _, h => by simp at h
  | (a, b) :: m, k, i, v0, v, hn, h => by
    simp only [List.map_cons, List.nodup_cons] at hn
    cases i with
    | zero =>
      simp at h
      obtain ⟨rfl, rfl⟩ := h
      rw [List.modify_zero_cons, List.map_cons, if_pos rfl]
      congr 1
      conv => lhs; rw [← List.map_id m]
      apply List.map_congr_left
      intro p hp
      have : p.1 ≠ a := fun e => hn.1 (e ▸ List.mem_map_of_mem hp)
      rw [if_neg this]; rfl
    | succ i =>
      simp at h
      have hne : a ≠ k := fun e => hn.1 (by subst e; exact List.mem_map.2 ⟨_, List.mem_of_getElem? h, rfl⟩)
      rw [List.modify_succ_cons, List.map_cons, if_neg hne, modify_aput hn.2 h]
theorem adel_none {m : List (Int × α)} {k : Int} (h : m.lookup k = none) : adel m k = m := by
  unfold adel
  rw [List.filter_eq_self]
  intro p hp
  simpa using lookup_none_iff.1 h p hp
end plain

theorem nodup_of_map {α β : Type} (f : α → β) {l : List α} (h : (l.map f).Nodup) : l.Nodup := by
  unfold List.Nodup at *
  rw [List.pairwise_map] at h
  exact h.imp (fun hab e => hab (by rw [e]))

theorem map_modify_of {α β : Type} (g : α → β) (f : α → α) (h : β → β) (e : ∀ x, g (f x) = h (g x)) : ∀ (l : List α) (i : Nat), (l.modify i f).map g = (l.map g).modify i h
  | [], i => by simp
  | x :: l, 0 => by simp [List.modify_zero_cons, e]
  | x :: l, i + 1 => by simp [List.modify_succ_cons, map_modify_of g f h e l i]
theorem map_eraseIdx_of {α β : Type} (g : α → β) : ∀ (l : List α) (i : Nat), (l.eraseIdx i).map g = (l.map g).eraseIdx i
  | [], i => by simp
  | x :: l, 0 => by simp
  | x :: l, i + 1 => by simp [map_eraseIdx_of g l i]

/-- block b is a map from integers: its entries, in the order in which they were laid -/
def MapE (w : World) (b : Nat) (m : List (Int × Value)) : Prop :=
  ∃ es clock, w.heap[b]? = some (.map es clock) ∧ Stamped es clock ∧ es.toList.map (fun e => (e.key, e.val)) = m.map (fun p => (Value.int .i64 p.1, p.2))
theorem MapE.lt {w : World} {b : Nat} {m : List (Int × Value)} (h : MapE w b m) : b < w.heap.size := by obtain ⟨es, c, h, -⟩ := h; exact (Array.getElem?_eq_some_iff.1 h).1
theorem MapE.nodup {w : World} {b : Nat} {m : List (Int × Value)} (h : MapE w b m) : (m.map (·.1)).Nodup := by
  obtain ⟨es, c, -, ⟨-, -, h⟩, he⟩ := h
  have e2 : es.toList.map (·.key) = (m.map (·.1)).map (Value.int .i64) := by
    have := congrArg (List.map Prod.fst) he
    rw [List.map_map, List.map_map] at this
    rw [List.map_map]; exact this
  rw [e2] at h
  exact nodup_of_map _ h
theorem MapE.upd {S : Nat → Prop} {w w' : World} {b : Nat} {m : List (Int × Value)} (h : MapE w b m) (hu : Upd S w w') (hn : ¬ S b) : MapE w' b m := by
  obtain ⟨es, c, h, r⟩ := h; exact ⟨es, c, hu.heap h hn, r⟩
theorem MapE.below {w w' : World} {b : Nat} {m : List (Int × Value)} (h : MapE w b m) (hu : Below w.heap.size w w') : MapE w' b m :=
  h.upd (S := fun _ => False) (Upd.of_below hu) (fun x => x)
theorem MapE.new (w : World) : MapE (w.alloc (.map #[] 0)) w.heap.size [] := ⟨#[], 0, heap_alloc_new w _, stamped_empty 0, rfl⟩

theorem MapE.keys {w : World} {b : Nat} {m : List (Int × Value)} {es : Array MapEntry} (he : es.toList.map (fun e => (e.key, e.val)) = m.map (fun p => (Value.int .i64 p.1, p.2))) : ∀ x ∈ es.toList, IsKey (.int .i64) x.key := by
  intro x hx
  have : (x.key, x.val) ∈ m.map (fun p => (Value.int .i64 p.1, p.2)) := by rw [← he]; exact List.mem_map.2 ⟨x, hx, rfl⟩
  obtain ⟨p, -, h⟩ := List.mem_map.1 this
  have h1 := (Prod.mk.inj h).1
  rw [← h1]; rfl

/-- a key is sought -/
theorem MapE.find {m : List (Int × Value)} {es : Array MapEntry} (he : es.toList.map (fun e => (e.key, e.val)) = m.map (fun p => (Value.int .i64 p.1, p.2))) (hn : (m.map (·.1)).Nodup) (k : Int) :
    (Instr.findNow (.int .i64) (.int .i64 k) es.toList 0 = some none ∧ m.lookup k = none ∧ ∀ x ∈ es.toList, x.key ≠ .int .i64 k) ∨
    ∃ j v e, Instr.findNow (.int .i64) (.int .i64 k) es.toList 0 = some (some (j, v)) ∧ m.lookup k = some v ∧ m[j]? = some (k, v) ∧ es[j]? = some e ∧ e.key = .int .i64 k := by
  rcases findNow_spec (d := .int .i64) (k := .int .i64 k) rfl es.toList 0 (MapE.keys (w := default) (b := 0) he) with ⟨h1, h2⟩ | ⟨j, e, h1, h2, h3⟩
  · refine .inl ⟨h1, lookup_none (fun p hp => ?_), h2⟩
    rintro rfl
    have : (Value.int .i64 p.1, p.2) ∈ es.toList.map (fun e => (e.key, e.val)) := by rw [he]; exact List.mem_map.2 ⟨p, hp, rfl⟩
    obtain ⟨x, hx, hh⟩ := List.mem_map.1 this
    exact h2 x hx (Prod.mk.inj hh).1
  · have hj : (m.map (fun p => (Value.int .i64 p.1, p.2)))[j]? = some (e.key, e.val) := by rw [← he, List.getElem?_map, h2]; rfl
    rw [List.getElem?_map] at hj
    cases hm : m[j]? with
    | none => rw [hm] at hj; simp at hj
    | some p =>
      rw [hm] at hj
      obtain ⟨k', v'⟩ := p
      simp [h3] at hj
      obtain ⟨rfl, rfl⟩ := hj
      exact .inr ⟨j, _, e, by simpa using h1, lookup_at hn hm, hm, by simpa using h2, h3⟩

section laws
variable {P : Program} {w : World} {b : Nat} {m : List (Int × Value)} {t kt et : TypeId}
theorem MapE.run_lookup (h : MapE w b m) (ht : P.underlying t = some (.map kt et)) (hk : P.underlying kt = some (.int .i64)) (z : Value) (hz : (zeroValue et).run P w = .ok z w) (k : Int) (ok : Bool) :
    (Instr.lookup t (.map (some b)) (.int .i64 k) ok).run P w = .ok (if ok then .tuple #[(m.lookup k).getD z, .bool (m.lookup k).isSome] else (m.lookup k).getD z) w := by
  have hn := h.nodup
  obtain ⟨es, c, hb, hst, he⟩ := h
  rcases MapE.find he hn k with ⟨h1, h2, -⟩ | ⟨j, v, e, h1, h2, -⟩
  · simp [Instr.lookup, run_underlying ht, Go.MapKept.run_getObj_map hb, run_checkKey (k := .int .i64 k) hk rfl, run_findKey hk h1, Result.andThen, hz, h2]
  · simp [Instr.lookup, run_underlying ht, Go.MapKept.run_getObj_map hb, run_checkKey (k := .int .i64 k) hk rfl, run_findKey hk h1, Result.andThen, h2]
theorem set_upd {o : Obj} (hb : w.heap[b]? = some o) (o' : Obj) : Upd (fun k => k = b) w { w with heap := w.heap.setIfInBounds b o' } :=
  ⟨rfl, rfl, rfl, by simp, fun k _ hk => (heap_set hb).2 k hk⟩
theorem MapE.run_update (h : MapE w b m) (ht : P.underlying t = some (.map kt et)) (hk : P.underlying kt = some (.int .i64)) (k : Int) (v : Value) :
    ∃ w', (Instr.mapUpdate t (.map (some b)) (.int .i64 k) v).run P w = .ok () w' ∧ MapE w' b (aput m k v) ∧ Upd (fun k => k = b) w w' ∧ w'.heap.size = w.heap.size := by
  have hn := h.nodup
  obtain ⟨es, c, hb, hst, he⟩ := h
  rcases MapE.find he hn k with ⟨h1, h2, h3⟩ | ⟨j, v0, e, h1, h2, h4, h5, h6⟩
  · refine ⟨{ w with heap := w.heap.setIfInBounds b (.map (es.push { key := .int .i64 k, val := v, born := c }) (c + 1)) }, ?_, ⟨_, _, (heap_set hb).1, stamped_push hst h3, ?_⟩, set_upd hb _, by simp⟩
    · simp [Instr.mapUpdate, run_underlying ht, Go.MapKept.run_getObj_map hb, run_checkKey (k := .int .i64 k) hk rfl, run_findKey hk h1, Result.andThen, Go.MapKept.run_setObj_map _ hb]
    · unfold aput
      rw [h2]
      simp [he]
  · have hkey : ((es[j]?).map (·.key)).getD (.int .i64 k) = .int .i64 k := by rw [h5]; exact h6
    refine ⟨{ w with heap := w.heap.setIfInBounds b (.map (es.modify j fun e => { e with key := .int .i64 k, val := v }) c) }, ?_, ⟨_, _, (heap_set hb).1, stamped_modify hst j _ (fun _ _ => rfl) (fun e' _ h => by rw [h5] at h; obtain rfl := Option.some.inj h; exact h6.symm), ?_⟩, set_upd hb _, by simp⟩
    · simp [Instr.mapUpdate, run_underlying ht, Go.MapKept.run_getObj_map hb, run_checkKey (k := .int .i64 k) hk rfl, run_findKey hk h1, Result.andThen, h5, h6, run_keyThatStays (d := .int .i64) (k := .int .i64 k) rfl, Go.MapKept.run_setObj_map _ hb]
    · unfold aput
      rw [h2]
      simp only [Option.isSome_some, if_true, Array.toList_modify]
      rw [← modify_aput hn h4, map_modify_of (fun e : MapEntry => (e.key, e.val)) _ (fun _ => (Value.int .i64 k, v)) (fun _ => rfl), he, map_modify_of (fun p : Int × Value => (Value.int .i64 p.1, p.2)) _ (fun _ => (Value.int .i64 k, v)) (fun _ => rfl)]
theorem MapE.run_delete (h : MapE w b m) (ht : P.underlying t = some (.map kt et)) (hk : P.underlying kt = some (.int .i64)) (k : Int) (ty : TypeId) :
    ∃ w', (Builtin.delete_ #[t, kt] ty #[.map (some b), .int .i64 k]).run P w = .ok (.tuple #[]) w' ∧ MapE w' b (adel m k) ∧ Upd (fun k => k = b) w w' ∧ w'.heap.size = w.heap.size := by
  have hn := h.nodup
  obtain ⟨es, c, hb, hst, he⟩ := h
  rcases MapE.find he hn k with ⟨h1, h2, h3⟩ | ⟨j, v0, e, h1, h2, h4, h5, h6⟩
  · refine ⟨{ w with heap := w.heap.setIfInBounds b (.map es c) }, ?_, ⟨_, _, (heap_set hb).1, hst, ?_⟩, set_upd hb _, by simp⟩
    · simp [Builtin.delete_, run_underlying ht, Go.MapKept.run_getObj_map hb, run_checkKey (k := .int .i64 k) hk rfl, run_findKey hk h1, Result.andThen, Go.MapKept.run_setObj_map _ hb]
    · rw [adel_none h2]; exact he
  · refine ⟨{ w with heap := w.heap.setIfInBounds b (.map (es.eraseIdxIfInBounds j) c) }, ?_, ⟨_, _, (heap_set hb).1, stamped_erase hst j, ?_⟩, set_upd hb _, by simp⟩
    · simp [Builtin.delete_, run_underlying ht, Go.MapKept.run_getObj_map hb, run_checkKey (k := .int .i64 k) hk rfl, run_findKey hk h1, Result.andThen, Go.MapKept.run_setObj_map _ hb]
    · have hj : j < es.size := (Array.getElem?_eq_some_iff.1 h5).1
      have e1 : (es.eraseIdxIfInBounds j).toList = es.toList.eraseIdx j := by unfold Array.eraseIdxIfInBounds; rw [dif_pos hj, Array.toList_eraseIdx]
      rw [e1, map_eraseIdx_of, he, ← map_eraseIdx_of, eraseIdx_adel hn h4]
theorem MapE.run_clear (h : MapE w b m) (ht : P.underlying t = some (.map kt et)) (ty : TypeId) :
    ∃ w', (Builtin.clear_ #[t] ty #[.map (some b)]).run P w = .ok (.tuple #[]) w' ∧ MapE w' b [] ∧ Upd (fun k => k = b) w w' ∧ w'.heap.size = w.heap.size := by
  obtain ⟨es, c, hb, hst, he⟩ := h
  refine ⟨{ w with heap := w.heap.setIfInBounds b (.map #[] c) }, ?_, ⟨_, _, (heap_set hb).1, stamped_empty c, rfl⟩, set_upd hb _, by simp⟩
  simp [Builtin.clear_, run_underlying ht, Go.MapKept.run_getObj_map hb, Result.andThen, Go.MapKept.run_setObj_map _ hb]
end laws

section wp
variable {P : Program} (w : World) {ops : Array Oper} {rest : List Oper} {o : Oper} {a : Act} {Q : Exit → Act → World → Prop} {t kt et : TypeId} {b : Nat} {m : List (Int × Value)}
theorem wpList_lookE (hg : o.guard = none) (mo x : Operand) (ok : Bool) (hop : o.op = Op.lookup t mo x ok) (ht : P.underlying t = some (.map kt et)) (hk : P.underlying kt = some (.int .i64)) (z : Value) (hz : (zeroValue et).run P w = .ok z w)
    (hm : a.eval mo = .map (some b)) (h : MapE w b m) (k : Int) (hx : a.eval x = .int .i64 k) (r : Option Value) (hr : m.lookup k = r)
    (hK : wpList P ops Q rest (a.put o.dst (if ok then .tuple #[r.getD z, .bool r.isSome] else r.getD z)) w) : wpList P ops Q (o :: rest) a w := by
  refine wpList_plain hg fun K' hK' => ?_
  have hrun := h.run_lookup ht hk z hz k ok
  rw [hr] at hrun
  unfold Oper.wp
  simp [execOp, hop, hm, hx, hrun, Result.andThen]
  exact hK' _ _ hK
theorem wpList_look1 (hg : o.guard = none) (mo x : Operand) (hop : o.op = Op.lookup t mo x false) (ht : P.underlying t = some (.map kt et)) (hk : P.underlying kt = some (.int .i64)) (z : Value) (hz : ∀ w, (zeroValue et).run P w = .ok z w)
    (hm : a.eval mo = .map (some b)) (h : MapE w b m) (k : Int) (hx : a.eval x = .int .i64 k) (r : Value) (hr : Hid ((m.lookup k).getD z = r))
    (hK : wpList P ops Q rest (a.put o.dst r) w) : wpList P ops Q (o :: rest) a w :=
  wpList_lookE w hg mo x false hop ht hk z (hz w) hm h k hx _ rfl (by simpa [hr.out] using hK)
theorem wpList_look2 (hg : o.guard = none) (mo x : Operand) (hop : o.op = Op.lookup t mo x true) (ht : P.underlying t = some (.map kt et)) (hk : P.underlying kt = some (.int .i64)) (z : Value) (hz : ∀ w, (zeroValue et).run P w = .ok z w)
    (hm : a.eval mo = .map (some b)) (h : MapE w b m) (k : Int) (hx : a.eval x = .int .i64 k) (r : Value) (hr : Hid ((m.lookup k).getD z = r)) (ok : Bool) (hok : Hid ((m.lookup k).isSome = ok))
    (hK : wpList P ops Q rest (a.put o.dst (.tuple #[r, .bool ok])) w) : wpList P ops Q (o :: rest) a w :=
  wpList_lookE w hg mo x true hop ht hk z (hz w) hm h k hx _ rfl (by simpa [hr.out, hok.out] using hK)
theorem wpList_putE (hg : o.guard = none) (mo x y : Operand) (hop : o.op = Op.mapUpdate t mo x y) (ht : P.underlying t = some (.map kt et)) (hk : P.underlying kt = some (.int .i64))
    (hm : a.eval mo = .map (some b)) (h : MapE w b m) (k : Int) (hx : a.eval x = .int .i64 k) (v : Value) (hv : a.eval y = v)
    (hK : ∀ w', MapE w' b (aput m k v) → Upd (fun k => k = b) w w' → w'.heap.size = w.heap.size → wpList P ops Q rest (a.put o.dst (.tuple #[])) w') : wpList P ops Q (o :: rest) a w := by
  refine wpList_plain hg fun K' hK' => ?_
  obtain ⟨w', hrun, h1, h2, h3⟩ := h.run_update (P := P) ht hk k v
  unfold Oper.wp
  simp [execOp, hop, hm, hx, hv, hrun, Result.andThen]
  exact hK' _ _ (hK w' h1 h2 h3)
theorem step_putE {K : Act → World → Prop} {E : Prop} (hg : o.guard = none) (mo x y : Operand) (hop : o.op = Op.mapUpdate t mo x y) (ht : P.underlying t = some (.map kt et)) (hk : P.underlying kt = some (.int .i64))
    (hm : a.eval mo = .map (some b)) (h : MapE w b m) (k : Int) (hx : a.eval x = .int .i64 k) (v : Value) (hv : a.eval y = v)
    (hK : ∀ w', MapE w' b (aput m k v) → Upd (fun k => k = b) w w' → w'.heap.size = w.heap.size → K (a.put o.dst (.tuple #[])) w') : if Region.wanted o (yielded ops a.tmps) = true then Oper.wp P o a w K Q else E := by
  have hw : Region.wanted o (yielded ops a.tmps) = true := by simp [Region.wanted, hg]
  rw [if_pos hw]
  obtain ⟨w', hrun, h1, h2, h3⟩ := h.run_update (P := P) ht hk k v
  unfold Oper.wp
  simp [execOp, hop, hm, hx, hv, hrun, Result.andThen, Oper.upon]
  exact hK w' h1 h2 h3
theorem wpList_delE (hg : o.guard = none) (mo x : Operand) (hop : o.op = Op.call { callee := Callee.builtin Builtin.delete, args := #[mo, x], argTypes := #[t, kt] }) (ht : P.underlying t = some (.map kt et)) (hk : P.underlying kt = some (.int .i64))
    (hm : a.eval mo = .map (some b)) (h : MapE w b m) (k : Int) (hx : a.eval x = .int .i64 k)
    (hK : ∀ w', MapE w' b (adel m k) → Upd (fun k => k = b) w w' → w'.heap.size = w.heap.size → wpList P ops Q rest (a.put o.dst (.tuple #[])) w') : wpList P ops Q (o :: rest) a w := by
  refine wpList_plain hg fun K' hK' => ?_
  obtain ⟨w', hrun, h1, h2, h3⟩ := h.run_delete (P := P) ht hk k o.type
  unfold Oper.wp execOp
  simp only [hop, resolve, invoke, builtin, Sem.run_bind, Sem.run_pure, Result.andThen_ok, List.map_toArray, List.map_cons, List.map_nil, hm, hx, hrun]
  exact hK' _ _ (hK w' h1 h2 h3)
theorem wpList_clearE (hg : o.guard = none) (mo : Operand) (hop : o.op = Op.call { callee := Callee.builtin Builtin.clear, args := #[mo], argTypes := #[t] }) (ht : P.underlying t = some (.map kt et))
    (hm : a.eval mo = .map (some b)) (h : MapE w b m)
    (hK : ∀ w', MapE w' b [] → Upd (fun k => k = b) w w' → w'.heap.size = w.heap.size → wpList P ops Q rest (a.put o.dst (.tuple #[])) w') : wpList P ops Q (o :: rest) a w := by
  refine wpList_plain hg fun K' hK' => ?_
  obtain ⟨w', hrun, h1, h2, h3⟩ := h.run_clear (P := P) ht o.type
  unfold Oper.wp execOp
  simp only [hop, resolve, invoke, builtin, Sem.run_bind, Sem.run_pure, Result.andThen_ok, List.map_toArray, List.map_cons, List.map_nil, hm, hrun]
  exact hK' _ _ (hK w' h1 h2 h3)
end wp
end Go.Proofs.Ytjbnfppnmljbmaa
end
section
/- Plain: lists that rise by a key: insertion, places, taking out. No program in sight. -/
namespace Go.Proofs.Ytjbnfppnmljbmaa
set_option linter.unusedVariables false

section
variable {α : Type} (key : α → Int)
/-- into a list that rises -/
def insK : List α → α → List α
  | [], x => [x]
  | q :: l, x => if key q < key x then q :: insK l x else x :: q :: l
/-- how many stand ahead of a key -/
def posK : List α → Int → Nat
  | [], _ => 0
  | q :: l, t => if key q < t then posK l t + 1 else 0
def SortK (l : List α) : Prop := l.Pairwise (fun a b => key a < key b)
theorem insK_nil (x : α) : insK key [] x = [x] := rfl
theorem insK_cons (q : α) (l : List α) (x : α) : insK key (q :: l) x = if key q < key x then q :: insK key l x else x :: q :: l := rfl
theorem posK_le : ∀ (l : List α) (t : Int), posK key l t ≤ l.length
  | [], t => by simp [posK]
  | q :: l, t => by
    have := posK_le l t
    unfold posK
    split <;> simp <;> omega
theorem insK_split : ∀ (l : List α) (x : α), insK key l x = l.take (posK key l (key x)) ++ x :: l.drop (posK key l (key x))
  | [], x => rfl
  | q :: l, x => by
    unfold insK posK
    by_cases h : key q < key x
    · rw [if_pos h, if_pos h, insK_split l x]; simp
    · rw [if_neg h, if_neg h]; simp
theorem insK_perm (l : List α) (x : α) : (insK key l x).Perm (x :: l) := by
  rw [insK_split]
  have : (x :: (l.take (posK key l (key x)) ++ l.drop (posK key l (key x)))).Perm (x :: l) := by rw [List.take_append_drop]
  exact List.perm_middle.trans this
theorem insK_len (l : List α) (x : α) : (insK key l x).length = l.length + 1 := by rw [(insK_perm key l x).length_eq]; rfl
theorem mem_insK {l : List α} {x y : α} : y ∈ insK key l x ↔ y = x ∨ y ∈ l := by rw [(insK_perm key l x).mem_iff, List.mem_cons]
theorem posK_lt : ∀ {l : List α} {t : Int} {i : Nat} {x : α}, l[i]? = some x → i < posK key l t → key x < t
  | [], t, i, x, h, _ => by simp at h
  | q :: l, t, 0, x, h, hi => by
    simp at h; subst h
    unfold posK at hi
    by_cases h : key q < t
    · exact h
    · rw [if_neg h] at hi; omega
  | q :: l, t, i + 1, x, h, hi => by
    simp at h
    unfold posK at hi
    by_cases h2 : key q < t
    · rw [if_pos h2] at hi; exact posK_lt h (by omega)
    · rw [if_neg h2] at hi; omega
theorem posK_ge : ∀ {l : List α} {t : Int} {i : Nat} {x : α}, SortK key l → l[i]? = some x → posK key l t ≤ i → t ≤ key x
  | [], t, i, x, _, h, _ => by simp at h
  | q :: l, t, 0, x, hs, h, hi => by
    simp at h; subst h
    unfold posK at hi
    by_cases h : key q < t
    · rw [if_pos h] at hi; omega
    · omega
  | q :: l, t, i + 1, x, hs, h, hi => by
    simp at h
    have hs2 := List.pairwise_cons.1 hs
    unfold posK at hi
    by_cases h2 : key q < t
    · rw [if_pos h2] at hi; exact posK_ge hs2.2 h (by omega)
    · have := hs2.1 x (List.mem_of_getElem? h); omega
/-- the place is told by its two sides -/
theorem posK_unique {l : List α} {t : Int} {i : Nat} (hs : SortK key l) (hi : i ≤ l.length) (h1 : ∀ j x, l[j]? = some x → j < i → key x < t) (h2 : ∀ j x, l[j]? = some x → i ≤ j → t ≤ key x) : posK key l t = i := by
  have hp := posK_le key l t
  rcases Nat.lt_trichotomy (posK key l t) i with h | h | h
  · have hl : posK key l t < l.length := by omega
    have a := h1 _ _ (List.getElem?_eq_getElem hl) h
    have b := posK_ge key hs (List.getElem?_eq_getElem hl) (Nat.le_refl _)
    omega
  · exact h
  · have hl : i < l.length := by omega
    have a := h2 _ _ (List.getElem?_eq_getElem hl) (Nat.le_refl _)
    have b := posK_lt key (List.getElem?_eq_getElem hl) h
    omega
theorem insK_sorted {l : List α} {x : α} (hs : SortK key l) (hx : ∀ y ∈ l, key y ≠ key x) : SortK key (insK key l x) := by
  rw [insK_split]
  have h0 := hs
  rw [← List.take_append_drop (posK key l (key x)) l] at h0
  unfold SortK at h0 ⊢
  rw [List.pairwise_append] at h0 ⊢
  have ha : ∀ y ∈ l.take (posK key l (key x)), key y < key x := by
    intro y hy
    obtain ⟨i, hi⟩ := List.getElem?_of_mem hy
    rw [List.getElem?_take] at hi
    split at hi
    · exact posK_lt key hi (by assumption)
    · simp at hi
  have hb : ∀ y ∈ l.drop (posK key l (key x)), key x < key y := by
    intro y hy
    obtain ⟨i, hi⟩ := List.getElem?_of_mem hy
    rw [List.getElem?_drop] at hi
    have := posK_ge key hs hi (by omega : posK key l (key x) ≤ posK key l (key x) + i)
    have := hx y (List.mem_of_getElem? hi)
    omega
  refine ⟨h0.1, List.pairwise_cons.2 ⟨hb, h0.2.1⟩, ?_⟩
  intro a hm b hb2
  rcases List.mem_cons.1 hb2 with rfl | hb2
  · exact ha a hm
  · exact h0.2.2 a hm b hb2
theorem filter_insK (f : α → Bool) : ∀ {l : List α} {x : α}, SortK key l → (insK key l x).filter f = if f x then insK key (l.filter f) x else l.filter f
  | [], x, _ => by cases h : f x <;> simp [h, insK]
  | q :: l, x, hs => by
    have hs2 := List.pairwise_cons.1 hs
    rw [insK_cons]
    by_cases h : key q < key x
    · rw [if_pos h]
      have ih := filter_insK f (x := x) hs2.2
      cases hq : f q with
      | true =>
        rw [List.filter_cons_of_pos hq, ih, List.filter_cons_of_pos hq]
        cases f x with
        | true => rw [if_pos rfl, if_pos rfl, insK_cons, if_pos h]
        | false => simp
      | false => rw [List.filter_cons_of_neg (by simp [hq]), ih, List.filter_cons_of_neg (by simp [hq])]
    · rw [if_neg h]
      have hins : ∀ m : List α, (∀ y ∈ m, key x ≤ key y) → insK key m x = x :: m := by
        intro m hm
        cases m with
        | nil => rfl
        | cons y m => rw [insK_cons, if_neg (by have := hm y (by simp); omega)]
      have hall : ∀ y ∈ (q :: l).filter f, key x ≤ key y := by
        intro y hy
        rcases List.mem_cons.1 (List.mem_filter.1 hy).1 with rfl | hy
        · omega
        · have := hs2.1 y hy; omega
      cases hx : f x with
      | true => rw [List.filter_cons_of_pos hx, if_pos rfl, hins _ hall]
      | false => rw [List.filter_cons_of_neg (by simp [hx])]; simp
theorem map_insK {β : Type} (g : α → β) (key' : β → Int) (e : ∀ a, key' (g a) = key a) : ∀ (l : List α) (x : α), (insK key l x).map g = insK key' (l.map g) (g x)
  | [], x => rfl
  | q :: l, x => by
    rw [insK_cons, List.map_cons, insK_cons, e, e]
    by_cases h : key q < key x
    · rw [if_pos h, if_pos h, List.map_cons, map_insK g key' e l x]
    · rw [if_neg h, if_neg h, List.map_cons, List.map_cons]
theorem SortK.filter {l : List α} (hs : SortK key l) (f : α → Bool) : SortK key (l.filter f) := List.Pairwise.filter f hs
theorem SortK.nodup {l : List α} (hs : SortK key l) : (l.map key).Nodup := by
  unfold List.Nodup
  rw [List.pairwise_map]
  exact List.Pairwise.imp (fun h e => by omega) hs
theorem sortK_inj {l : List α} (hs : SortK key l) {x y : α} (hx : x ∈ l) (hy : y ∈ l) (e : key x = key y) : x = y := by
  obtain ⟨i, hi⟩ := List.getElem?_of_mem hx
  obtain ⟨j, hj⟩ := List.getElem?_of_mem hy
  have li := (List.getElem?_eq_some_iff.1 hi).1
  have lj := (List.getElem?_eq_some_iff.1 hj).1
  have ei := (List.getElem?_eq_some_iff.1 hi).2
  have ej := (List.getElem?_eq_some_iff.1 hj).2
  have hp := List.pairwise_iff_getElem.1 hs
  rcases Nat.lt_trichotomy i j with h | h | h
  · have := hp i j li lj h; rw [ei, ej] at this; omega
  · subst h; rw [hi] at hj; exact Option.some.inj hj
  · have := hp j i lj li h; rw [ei, ej] at this; omega
/-- one that is there stands at its place -/
theorem posK_at {l : List α} (hs : SortK key l) {x : α} (hx : x ∈ l) : l[posK key l (key x)]? = some x := by
  obtain ⟨i, hi⟩ := List.getElem?_of_mem hx
  have li := (List.getElem?_eq_some_iff.1 hi).1
  have : posK key l (key x) = i := by
    refine posK_unique key hs (by omega) (fun j y hj hji => ?_) (fun j y hj hij => ?_)
    · have lj := (List.getElem?_eq_some_iff.1 hj).1
      have := List.pairwise_iff_getElem.1 hs j i lj li hji
      rw [(List.getElem?_eq_some_iff.1 hi).2, (List.getElem?_eq_some_iff.1 hj).2] at this
      exact this
    · have lj := (List.getElem?_eq_some_iff.1 hj).1
      rcases Nat.lt_or_ge i j with h | h
      · have := List.pairwise_iff_getElem.1 hs i j li lj h
        rw [(List.getElem?_eq_some_iff.1 hi).2, (List.getElem?_eq_some_iff.1 hj).2] at this
        omega
      · have : i = j := by omega
        subst this
        rw [hi] at hj
        obtain rfl := Option.some.inj hj
        omega
  rw [this]; exact hi
theorem erase_posK {l : List α} (hs : SortK key l) {x : α} (hx : x ∈ l) : l.take (posK key l (key x)) ++ l.drop (posK key l (key x) + 1) = l.filter (fun y => !decide (key y = key x)) := by
  have hat := posK_at key hs hx
  have hl := (List.getElem?_eq_some_iff.1 hat).1
  have hd : l.drop (posK key l (key x)) = x :: l.drop (posK key l (key x) + 1) := by
    rw [List.drop_eq_getElem_cons hl, (List.getElem?_eq_some_iff.1 hat).2]
  conv => rhs; rw [← List.take_append_drop (posK key l (key x)) l, hd]
  rw [List.filter_append, List.filter_cons_of_neg (by simp)]
  congr 1
  · symm
    rw [List.filter_eq_self]
    intro y hy
    obtain ⟨i, hi⟩ := List.getElem?_of_mem hy
    rw [List.getElem?_take] at hi
    split at hi
    · have := posK_lt key hi (by assumption)
      simp; omega
    · simp at hi
  · symm
    rw [List.filter_eq_self]
    intro y hy
    obtain ⟨i, hi⟩ := List.getElem?_of_mem hy
    rw [List.getElem?_drop] at hi
    have li := (List.getElem?_eq_some_iff.1 hi).1
    have := List.pairwise_iff_getElem.1 hs _ _ hl li (by omega)
    rw [(List.getElem?_eq_some_iff.1 hat).2, (List.getElem?_eq_some_iff.1 hi).2] at this
    simp; omega
end
/-- two association lists that tell the same are one but for the order -/
theorem perm_of_lookup {α : Type} {m n : List (Int × α)} (hm : (m.map (·.1)).Nodup) (hn : (n.map (·.1)).Nodup) (h : ∀ k, m.lookup k = n.lookup k) : m.Perm n := by
  classical
  have e1 : m.Nodup := nodup_of_map _ hm
  have e2 : n.Nodup := nodup_of_map _ hn
  rw [List.perm_ext_iff_of_nodup e1 e2]
  rintro ⟨k, v⟩
  rw [← lookup_mem_iff hm, ← lookup_mem_iff hn, h k]
end Go.Proofs.Ytjbnfppnmljbmaa
end
