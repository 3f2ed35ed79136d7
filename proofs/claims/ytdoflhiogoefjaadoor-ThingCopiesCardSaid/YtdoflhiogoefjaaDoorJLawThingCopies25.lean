/- Joined texts, in this order: MapPRange, LayMaps. Each one's first remark says what it proves; no condition beyond those that its theorems name. -/
import Derived.Test.YtdoflhiogoefjaaDoorJLawThingCopies04
import Derived.Maps.RangeWalk
import Derived.Shelf.SlGeneric
import Derived.Ground.SlmcProg
import Derived.Shelf.SlMaps.Clone
import Derived.Test.YtdoflhiogoefjaaDoorProg
section
/- Ranging over a map from triples of numbers, entry by entry. No program in sight. -/
namespace Go.Proofs.YtdoflhiogoefjaaDoor.MP
open Go.RowKit
open Go.Lib (hid)
open Go.MapKept
set_option linter.unusedVariables false

def vnum : Option Value → Int
  | some (.int _ a) => a
  | _ => 0
def vkey : Value → P3
  | .agg a => (vnum a[0]?, vnum a[1]?, vnum a[2]?)
  | _ => (0, 0, 0)
theorem vkey_enc (k : P3) : vkey (encP k) = k := rfl
/-- at block r stands an iterator over the map at block b: what is left to come -/
def RangeE (w : World) (r b : Nat) (m left : List (P3 × Value)) : Prop :=
  ∃ es clock since seen c0, w.heap[r]? = some (.mapIter (some b) since seen c0) ∧ w.heap[b]? = some (.map es clock) ∧ Stamped es clock ∧ es.toList.map (fun e => (e.key, e.val)) = m.map (fun p => (encP p.1, p.2)) ∧
    (∀ x ∈ es.toList, x.born < since) ∧ (since ≤ c0 ∧ since ≤ clock) ∧ (leftOf es seen).toList.map (fun e => (e.key, e.val)) = left.map (fun p => (encP p.1, p.2))
/-- how many are left to come -/
def rangeN (w : World) (r b : Nat) : Nat := match w.heap[r]?, w.heap[b]? with
  | some (.mapIter _ _ seen _), some (.map es _) => (leftOf es seen).size
  | _, _ => 0
theorem RangeE.len {w : World} {r b : Nat} {m left : List (P3 × Value)} (h : RangeE w r b m left) : rangeN w r b = left.length := by
  obtain ⟨es, c, s, seen, c0, h1, h2, -, -, -, -, h7⟩ := h
  unfold rangeN
  rw [h1, h2]
  have := congrArg List.length h7
  simpa using this
theorem RangeE.map {w : World} {r b : Nat} {m left : List (P3 × Value)} (h : RangeE w r b m left) : MapP w b m := by
  obtain ⟨es, c, s, seen, c0, h1, h2, h3, h4, -⟩ := h; exact ⟨es, c, h2, h3, h4⟩
theorem RangeE.lt {w : World} {r b : Nat} {m left : List (P3 × Value)} (h : RangeE w r b m left) : r < w.heap.size := by
  obtain ⟨es, c, s, seen, c0, h1, -⟩ := h; exact (Array.getElem?_eq_some_iff.1 h1).1
theorem RangeE.ne {w : World} {r b : Nat} {m left : List (P3 × Value)} (h : RangeE w r b m left) : r ≠ b := by
  obtain ⟨es, c, s, seen, c0, h1, h2, -⟩ := h
  intro e; subst e; rw [h1] at h2; simp at h2
theorem RangeE.upd {S : Nat → Prop} {w w' : World} {r b : Nat} {m left : List (P3 × Value)} (h : RangeE w r b m left) (hu : Upd S w w') (hr : ¬ S r) (hb : ¬ S b) : RangeE w' r b m left := by
  obtain ⟨es, c, s, seen, c0, h1, h2, k⟩ := h; exact ⟨es, c, s, seen, c0, hu.heap h1 hr, hu.heap h2 hb, k⟩
/-- what is left are entries of the map, with keys apart -/
theorem RangeE.sub {w : World} {r b : Nat} {m left : List (P3 × Value)} (h : RangeE w r b m left) : (∀ p ∈ left, p ∈ m) ∧ (left.map (·.1)).Nodup := by
  have hn := h.map.nodup
  obtain ⟨es, c, s, seen, c0, h1, h2, h3, h4, h5, h6, h7⟩ := h
  have hinj : ∀ {p q : P3 × Value}, (encP p.1, p.2) = (encP q.1, q.2) → p = q := by
    intro p q e
    have h1 := encP_inj (Prod.mk.inj e).1
    have h2 := (Prod.mk.inj e).2
    exact Prod.ext h1 h2
  have hsl : (leftOf es seen).toList.Sublist es.toList := by
    unfold leftOf
    rw [Array.toList_filter]
    exact List.filter_sublist
  have hsub : (left.map (fun p => (encP p.1, p.2))).Sublist (m.map (fun p => (encP p.1, p.2))) := by
    rw [← h7, ← h4]; exact hsl.map _
  refine ⟨fun p hp => ?_, ?_⟩
  · have := hsub.subset (List.mem_map_of_mem hp)
    obtain ⟨q, hq, e⟩ := List.mem_map.1 this
    rw [← hinj e]; exact hq
  · have h8 := hsub.map (fun q : Value × Value => q.1)
    rw [List.map_map, List.map_map] at h8
    have h9 : ((m.map (·.1)).map encP).Nodup := by
      unfold List.Nodup
      rw [List.pairwise_map]
      exact List.Pairwise.imp (fun hab e => hab (encP_inj e)) hn
    have h10 : (left.map ((fun q : Value × Value => q.1) ∘ fun p : P3 × Value => (encP p.1, p.2))).Nodup := h8.nodup (by rw [List.map_map] at h9; exact h9)
    have h11 : (left.map ((fun q : Value × Value => q.1) ∘ fun p : P3 × Value => (encP p.1, p.2))) = (left.map (·.1)).map encP := by rw [List.map_map]; rfl
    rw [h11] at h10
    exact nodup_of_map _ h10

theorem MapP.run_range {P : Program} {w : World} {b : Nat} {m : List (P3 × Value)} {t kt et : TypeId} (h : MapP w b m) (ht : P.underlying t = some (.map kt et)) :
    ∃ w', (Instr.range t (.map (some b))).run P w = .ok (.pointer (some ⟨w.heap.size, 0, none⟩)) w' ∧ RangeE w' w.heap.size b m m ∧ Below w.heap.size w w' ∧ w'.heap.size = w.heap.size + 1 := by
  have hlt := h.lt
  obtain ⟨es, c, hb, hst, he⟩ := h
  refine ⟨w.alloc (.mapIter (some b) c #[] c), ?_, ⟨es, c, c, #[], c, heap_alloc_new w _, (Below.heap_alloc w _ b hlt).trans hb, hst, he, hst.1, ⟨Nat.le_refl _, Nat.le_refl _⟩, ?_⟩, (Below.refl _ _).alloc (Nat.le_refl _) _, by simp⟩
  · simp [Instr.range, run_underlying ht, Go.MapKept.run_getObj_map hb, Result.andThen]
  · have : leftOf es #[] = es := by unfold leftOf; simp
    rw [this]; exact he

section wp
variable {P : Program} (w : World) {ops : Array Oper} {rest : List Oper} {o : Oper} {a : Act} {Q : Exit → Act → World → Prop} {t kt et : TypeId} {b : Nat} {m : List (P3 × Value)}
theorem wpList_rangeE (hg : o.guard = none) (mo : Operand) (hop : o.op = Op.range t mo) (ht : P.underlying t = some (.map kt et)) (hm : a.eval mo = .map (some b)) (h : MapP w b m)
    (hK : ∀ w', RangeE w' w.heap.size b m m → Below w.heap.size w w' → w'.heap.size = w.heap.size + 1 → wpList P ops Q rest (a.put o.dst (.pointer (some ⟨w.heap.size, 0, none⟩))) w') : wpList P ops Q (o :: rest) a w := by
  refine wpList_plain hg fun K' hK' => ?_
  obtain ⟨w', hrun, h1, h2, h3⟩ := h.run_range (P := P) ht
  unfold Oper.wp
  simp [execOp, hop, hm, hrun, Result.andThen]
  exact hK' _ _ (hK w' h1 h2 h3)
theorem wpList_nextE (hg : o.guard = none) (it : Operand) (hop : o.op = Op.next it false) {r : Nat} {left : List (P3 × Value)} (hit : a.eval it = .pointer (some ⟨r, 0, none⟩)) (h : RangeE w r b m left)
    (hDone : left = [] → wpList P ops Q rest (a.put o.dst (.tuple #[.bool false])) w)
    (hMore : ∀ (k : P3) (v : Value) (w' : World), (k, v) ∈ left → m.lookup k = some v → RangeE w' r b m (adel left k) → Upd (fun j => j = r) w w' → w'.heap.size = w.heap.size → (Instr.entry (.pointer (some ⟨r, 0, none⟩))).run P w' = .ok (.tuple #[encP k, v]) w' →
      wpList P ops Q rest (a.put o.dst (.tuple #[.bool true, encP k, v])) w') : wpList P ops Q (o :: rest) a w := by
  refine wpList_plain hg fun K' hK' => ?_
  unfold Oper.wp
  have hsub := h.sub
  have hnd := h.map.nodup
  have hne := h.ne
  obtain ⟨es, c, since, seen, c0, h1, h2, h3, h4, h5, h6, h7⟩ := h
  rcases run_next_at (P := P) w o.type r b since c0 seen es c h1 h2 h5 h6.1 with ⟨h0, hrun⟩ | ⟨e, he, w1, hw1, hrun⟩
  · simp [execOp, hop, hit, hrun, Result.andThen]
    refine hK' _ _ (hDone ?_)
    have : (leftOf es seen).toList = [] := by
      apply List.eq_nil_of_length_eq_zero
      simpa using h0
    rw [this] at h7
    simpa using h7.symm
  · have hmem : (e.key, e.val) ∈ left.map (fun p => (encP p.1, p.2)) := by rw [← h7]; exact List.mem_map.2 ⟨e, he, rfl⟩
    obtain ⟨⟨k, v⟩, hp, hpe⟩ := List.mem_map.1 hmem
    simp at hpe
    obtain ⟨ek, ev⟩ := hpe
    have hes : e ∈ es.toList := by
      have : e ∈ leftOf es seen := by simpa using he
      unfold leftOf at this
      simp at this
      simpa using this.1
    have hr1 : w1.heap[r]? = some (.mapIter (some b) since seen c0) := by rcases hw1 with rfl | rfl <;> exact h1
    have hb1 : w1.heap[b]? = some (.map es c) := by rcases hw1 with rfl | rfl <;> exact h2
    have hset := heap_set (o' := Obj.mapIter (some b) since (seen.push e.born) c) hr1
    have hrg : RangeE (Go.ChangeMaps.setBlock w1 r (.mapIter (some b) since (seen.push e.born) c)) r b m (adel left k) := by
      refine ⟨es, c, since, seen.push e.born, c, hset.1, (hset.2 b (Ne.symm hne)).trans hb1, h3, h4, h5, ⟨h6.2, h6.2⟩, ?_⟩
      have e1 : (leftOf es (seen.push e.born)).toList = (leftOf es seen).toList.filter (fun x => x.born != e.born) := by
        unfold leftOf
        rw [Array.toList_filter, Array.toList_filter, List.filter_filter]
        apply List.filter_congr
        intro x _
        rw [Bool.eq_iff_iff]
        simp [Array.contains_push]
        exact ⟨fun q => ⟨q.2, q.1⟩, fun q => ⟨q.2, q.1⟩⟩
      have e2 : (leftOf es seen).toList.filter (fun x => x.born != e.born) = (leftOf es seen).toList.filter ((fun q : Value × Value => vkey q.1 != k) ∘ fun x : MapEntry => (x.key, x.val)) := by
        apply List.filter_congr
        intro x hx
        have hxe : x ∈ es.toList := by
          have : x ∈ leftOf es seen := by simpa using hx
          unfold leftOf at this
          simp at this
          simpa using this.1
        have same : x.born = e.born ↔ x.key = e.key := by
          have n1 : ∀ {f : MapEntry → Nat}, (es.toList.map f).Nodup → f x = f e → x = e := fun {f} hf hq => by
            obtain ⟨i, hi⟩ := List.getElem?_of_mem hxe
            obtain ⟨j, hj⟩ := List.getElem?_of_mem hes
            have a1 : (es.toList.map f)[i]? = some (f x) := by rw [List.getElem?_map, hi]; rfl
            have a2 : (es.toList.map f)[j]? = some (f e) := by rw [List.getElem?_map, hj]; rfl
            have l1 := (List.getElem?_eq_some_iff.1 a1).1
            have hij : i = j := (List.getElem?_inj l1 hf).1 (by rw [a1, a2, hq])
            subst hij
            exact Option.some.inj (hi.symm.trans hj)
          have n2 : ∀ {f : MapEntry → Value}, (es.toList.map f).Nodup → f x = f e → x = e := fun {f} hf hq => by
            obtain ⟨i, hi⟩ := List.getElem?_of_mem hxe
            obtain ⟨j, hj⟩ := List.getElem?_of_mem hes
            have a1 : (es.toList.map f)[i]? = some (f x) := by rw [List.getElem?_map, hi]; rfl
            have a2 : (es.toList.map f)[j]? = some (f e) := by rw [List.getElem?_map, hj]; rfl
            have l1 := (List.getElem?_eq_some_iff.1 a1).1
            have hij : i = j := (List.getElem?_inj l1 hf).1 (by rw [a1, a2, hq])
            subst hij
            exact Option.some.inj (hi.symm.trans hj)
          exact ⟨fun q => by rw [n1 h3.2.1 q], fun q => by rw [n2 h3.2.2 q]⟩
        have hxm : (x.key, x.val) ∈ m.map (fun p => (encP p.1, p.2)) := by rw [← h4]; exact List.mem_map.2 ⟨x, hxe, rfl⟩
        obtain ⟨q, -, hq⟩ := List.mem_map.1 hxm
        have hqk := (Prod.mk.inj hq).1
        rw [Bool.eq_iff_iff]
        simp only [Function.comp, bne_iff_ne, ne_eq]
        rw [same, ← ek, ← hqk]
        exact ⟨fun hq2 z => hq2 (by have z2 := z; rw [vkey_enc] at z2; rw [z2]), fun hq2 z => hq2 (by rw [vkey_enc]; exact encP_inj z)⟩
      rw [e1, e2, ← List.filter_map, h7, List.filter_map]
      rfl
    have hen := run_entry_at (P := P) (Go.ChangeMaps.setBlock w1 r (.mapIter (some b) since (seen.push e.born) c)) r b since seen es c e hset.1 ((hset.2 b (Ne.symm hne)).trans hb1) hes h3.2.1
    rw [← ek, ← ev] at hrun hen
    simp [execOp, hop, hit, hrun, Result.andThen]
    refine hK' _ _ (hMore k v _ hp ?_ hrg ?_ ?_ hen)
    · exact (lookup_mem_iff hnd).2 (hsub.1 _ hp)
    · rcases hw1 with rfl | rfl
      · exact ⟨rfl, rfl, rfl, by simp [Go.ChangeMaps.setBlock], fun j _ hj => hset.2 j hj⟩
      · exact ⟨rfl, rfl, rfl, by simp [Go.ChangeMaps.setBlock], fun j _ hj => hset.2 j hj⟩
    · rcases hw1 with rfl | rfl <;> simp [Go.ChangeMaps.setBlock]
end wp
theorem keys_adel {left : List (P3 × Value)} (k : P3) : ∀ j : P3, j ∈ (adel left k).map (·.1) ↔ j ∈ left.map (·.1) ∧ j ≠ k := by
  intro j
  unfold adel
  simp only [List.mem_map, List.mem_filter, bne_iff_ne, ne_eq]
  constructor
  · rintro ⟨p, ⟨h1, h2⟩, rfl⟩; exact ⟨⟨p, h1, rfl⟩, h2⟩
  · rintro ⟨⟨p, h1, rfl⟩, h2⟩; exact ⟨p, ⟨h1, h2⟩, rfl⟩
theorem adel_len {left : List (P3 × Value)} {k : P3} {v : Value} (h : (k, v) ∈ left) : (adel left k).length < left.length := by
  unfold adel
  rcases Nat.lt_or_ge (left.filter (fun p => p.1 != k)).length left.length with q | q
  · exact q
  · have e : left.filter (fun p => p.1 != k) = left := List.filter_eq_self.2 (by
      have := (List.length_filter_eq_length_iff (l := left) (p := fun p => p.1 != k)).1 (Nat.le_antisymm (List.length_filter_le _ _) q)
      exact this)
    have := List.filter_eq_self.1 e (k, v) h
    simp at this
end Go.Proofs.YtdoflhiogoefjaaDoor.MP
end
section
/- Layings of the shelf's contracts at this dump (printed by the shelf's lay-plain). -/
namespace Go.Proofs
open Go.Shelf
def Tryd.lays_SlLaysW_n5_44_ren : Go.Shelf.Ren := ⟨fun | 5 => 44 | 7 => 54 | n => n, fun | 23 => 68 | 25 => 3 | 3 => 48 | 4 => 4 | 20 => 20 | n => n, fun | n => n⟩
theorem Tryd.lays_SlLaysW_n5_44 : Go.Proofs.SlLaysW.n5 Tryd.prog Tryd.lays_SlLaysW_n5_44_ren := {
  mixed := by kernel_rfl
  f5 := ⟨Tryd.f44.name, by decide, Tryd.func44.trans (congrArg some (by kernel_rfl))⟩
  f7 := Tryd.func54.trans (congrArg some (by kernel_rfl))
  t4 := Tryd.underlying4
  a4 := Tryd.isAgg4
  z4 := Tryd.sizeOf4
  v4 := Tryd.zeroValue4
  t20 := Tryd.underlying20
  a20 := Tryd.isAgg20
  z20 := Tryd.sizeOf20
  v20 := Tryd.zeroValue20
  t23 := Tryd.underlying68
  a23 := Tryd.isAgg68
  z23 := Tryd.sizeOf68
  v23 := Tryd.zeroValue68 }
end Go.Proofs
end
