/- Joined texts, in this order: MapRange, ResCell, StallClose. Each one's first remark says what it proves; no condition beyond those that its theorems name. -/
import Derived.Test.YtajfjgekcjkedaaJLawStallRestores02
import Derived.Maps.RangeWalk
import Derived.Test.YtajfjgekcjkedaaJLawStallRestores05
import Derived.Test.YtajfjgekcjkedaaJLawStallRestores10
section
/- Ranging over a map from integers, entry by entry. No program in sight. -/
namespace Go.Proofs.Ytajfjgekcjkedaa
open Go.RowKit
open Go.Lib (hid)
open Go.MapKept
set_option linter.unusedVariables false

def vkey : Value → Int
  | .int _ a => a
  | _ => 0
/-- at block r stands an iterator over the map at block b: what is left to come -/
def RangeE (w : World) (r b : Nat) (m left : List (Int × Value)) : Prop :=
  ∃ es clock since seen c0, w.heap[r]? = some (.mapIter (some b) since seen c0) ∧ w.heap[b]? = some (.map es clock) ∧ Stamped es clock ∧ es.toList.map (fun e => (e.key, e.val)) = m.map (fun p => (Value.int .i64 p.1, p.2)) ∧
    (∀ x ∈ es.toList, x.born < since) ∧ (since ≤ c0 ∧ since ≤ clock) ∧ (leftOf es seen).toList.map (fun e => (e.key, e.val)) = left.map (fun p => (Value.int .i64 p.1, p.2))
/-- how many are left to come -/
def rangeN (w : World) (r b : Nat) : Nat := match w.heap[r]?, w.heap[b]? with
  | some (.mapIter _ _ seen _), some (.map es _) => (leftOf es seen).size
  | _, _ => 0
theorem RangeE.len {w : World} {r b : Nat} {m left : List (Int × Value)} (h : RangeE w r b m left) : rangeN w r b = left.length := by
  obtain ⟨es, c, s, seen, c0, h1, h2, -, -, -, -, h7⟩ := h
  unfold rangeN
  rw [h1, h2]
  have := congrArg List.length h7
  simpa using this
theorem RangeE.map {w : World} {r b : Nat} {m left : List (Int × Value)} (h : RangeE w r b m left) : MapE w b m := by
  obtain ⟨es, c, s, seen, c0, h1, h2, h3, h4, -⟩ := h; exact ⟨es, c, h2, h3, h4⟩
theorem RangeE.lt {w : World} {r b : Nat} {m left : List (Int × Value)} (h : RangeE w r b m left) : r < w.heap.size := by
  obtain ⟨es, c, s, seen, c0, h1, -⟩ := h; exact (Array.getElem?_eq_some_iff.1 h1).1
theorem RangeE.ne {w : World} {r b : Nat} {m left : List (Int × Value)} (h : RangeE w r b m left) : r ≠ b := by
  obtain ⟨es, c, s, seen, c0, h1, h2, -⟩ := h
  intro e; subst e; rw [h1] at h2; simp at h2
theorem RangeE.upd {S : Nat → Prop} {w w' : World} {r b : Nat} {m left : List (Int × Value)} (h : RangeE w r b m left) (hu : Upd S w w') (hr : ¬ S r) (hb : ¬ S b) : RangeE w' r b m left := by
  obtain ⟨es, c, s, seen, c0, h1, h2, k⟩ := h; exact ⟨es, c, s, seen, c0, hu.heap h1 hr, hu.heap h2 hb, k⟩
/-- what is left are entries of the map, with keys apart -/
theorem RangeE.sub {w : World} {r b : Nat} {m left : List (Int × Value)} (h : RangeE w r b m left) : (∀ p ∈ left, p ∈ m) ∧ (left.map (·.1)).Nodup := by
  have hn := h.map.nodup
  obtain ⟨es, c, s, seen, c0, h1, h2, h3, h4, h5, h6, h7⟩ := h
  have hinj : ∀ {p q : Int × Value}, (Value.int .i64 p.1, p.2) = (Value.int .i64 q.1, q.2) → p = q := by
    intro p q e
    obtain ⟨a, b⟩ := p
    obtain ⟨c, d⟩ := q
    simp at e
    simp [e.1, e.2]
  have hsl : (leftOf es seen).toList.Sublist es.toList := by
    unfold leftOf
    rw [Array.toList_filter]
    exact List.filter_sublist
  have hsub : (left.map (fun p => (Value.int .i64 p.1, p.2))).Sublist (m.map (fun p => (Value.int .i64 p.1, p.2))) := by
    rw [← h7, ← h4]; exact hsl.map _
  refine ⟨fun p hp => ?_, ?_⟩
  · have := hsub.subset (List.mem_map_of_mem hp)
    obtain ⟨q, hq, e⟩ := List.mem_map.1 this
    rw [← hinj e]; exact hq
  · have h8 := hsub.map (fun q : Value × Value => q.1)
    rw [List.map_map, List.map_map] at h8
    have h9 : ((m.map (·.1)).map (Value.int .i64)).Nodup := by
      unfold List.Nodup
      rw [List.pairwise_map]
      exact List.Pairwise.imp (fun hab e => hab (by simpa using e)) hn
    have h10 : (left.map ((fun q : Value × Value => q.1) ∘ fun p : Int × Value => (Value.int .i64 p.1, p.2))).Nodup := h8.nodup (by rw [List.map_map] at h9; exact h9)
    have h11 : (left.map ((fun q : Value × Value => q.1) ∘ fun p : Int × Value => (Value.int .i64 p.1, p.2))) = (left.map (·.1)).map (Value.int .i64) := by rw [List.map_map]; rfl
    rw [h11] at h10
    exact nodup_of_map _ h10

theorem MapE.run_range {P : Program} {w : World} {b : Nat} {m : List (Int × Value)} {t kt et : TypeId} (h : MapE w b m) (ht : P.underlying t = some (.map kt et)) :
    ∃ w', (Instr.range t (.map (some b))).run P w = .ok (.pointer (some ⟨w.heap.size, 0, none⟩)) w' ∧ RangeE w' w.heap.size b m m ∧ Below w.heap.size w w' ∧ w'.heap.size = w.heap.size + 1 := by
  have hlt := h.lt
  obtain ⟨es, c, hb, hst, he⟩ := h
  refine ⟨w.alloc (.mapIter (some b) c #[] c), ?_, ⟨es, c, c, #[], c, heap_alloc_new w _, (Below.heap_alloc w _ b hlt).trans hb, hst, he, hst.1, ⟨Nat.le_refl _, Nat.le_refl _⟩, ?_⟩, (Below.refl _ _).alloc (Nat.le_refl _) _, by simp⟩
  · simp [Instr.range, run_underlying ht, Go.MapKept.run_getObj_map hb, Result.andThen]
  · have : leftOf es #[] = es := by unfold leftOf; simp
    rw [this]; exact he

section wp
variable {P : Program} (w : World) {ops : Array Oper} {rest : List Oper} {o : Oper} {a : Act} {Q : Exit → Act → World → Prop} {t kt et : TypeId} {b : Nat} {m : List (Int × Value)}
theorem wpList_rangeE (hg : o.guard = none) (mo : Operand) (hop : o.op = Op.range t mo) (ht : P.underlying t = some (.map kt et)) (hm : a.eval mo = .map (some b)) (h : MapE w b m)
    (hK : ∀ w', RangeE w' w.heap.size b m m → Below w.heap.size w w' → w'.heap.size = w.heap.size + 1 → wpList P ops Q rest (a.put o.dst (.pointer (some ⟨w.heap.size, 0, none⟩))) w') : wpList P ops Q (o :: rest) a w := by
  refine wpList_plain hg fun K' hK' => ?_
  obtain ⟨w', hrun, h1, h2, h3⟩ := h.run_range (P := P) ht
  unfold Oper.wp
  simp [execOp, hop, hm, hrun, Result.andThen]
  exact hK' _ _ (hK w' h1 h2 h3)
theorem wpList_nextE (hg : o.guard = none) (it : Operand) (hop : o.op = Op.next it false) {r : Nat} {left : List (Int × Value)} (hit : a.eval it = .pointer (some ⟨r, 0, none⟩)) (h : RangeE w r b m left)
    (hDone : left = [] → wpList P ops Q rest (a.put o.dst (.tuple #[.bool false])) w)
    (hMore : ∀ (k : Int) (v : Value) (w' : World), (k, v) ∈ left → m.lookup k = some v → RangeE w' r b m (adel left k) → Upd (fun j => j = r) w w' → w'.heap.size = w.heap.size → (Instr.entry (.pointer (some ⟨r, 0, none⟩))).run P w' = .ok (.tuple #[.int .i64 k, v]) w' →
      wpList P ops Q rest (a.put o.dst (.tuple #[.bool true, .int .i64 k, v])) w') : wpList P ops Q (o :: rest) a w := by
  refine wpList_plain hg fun K' hK' => ?_
  unfold Oper.wp
  have hsub := h.sub
  have hnd := h.map.nodup
  have hne := h.ne
  obtain ⟨es, c, since, seen, c0, h1, h2, h3, h4, h5, h6, h7⟩ := h
  rcases run_next_at (P := P) w o.type r b since c0 seen es c h1 h2 h5 h6.1 with ⟨h0, hrun⟩ | ⟨e, he, w1, hw1, hrun⟩
  · simp [execOp, hop, hit, hrun, Result.andThen]
    refine hK' _ _ (hDone ?_)
    have : (leftOf es seen).toList = [] := by
      apply List.eq_nil_of_length_eq_zero
      simpa using h0
    rw [this] at h7
    simpa using h7.symm
  · have hmem : (e.key, e.val) ∈ left.map (fun p => (Value.int .i64 p.1, p.2)) := by rw [← h7]; exact List.mem_map.2 ⟨e, he, rfl⟩
    obtain ⟨⟨k, v⟩, hp, hpe⟩ := List.mem_map.1 hmem
    simp at hpe
    obtain ⟨ek, ev⟩ := hpe
    have hes : e ∈ es.toList := by
      have : e ∈ leftOf es seen := by simpa using he
      unfold leftOf at this
      simp at this
      simpa using this.1
    have hr1 : w1.heap[r]? = some (.mapIter (some b) since seen c0) := by rcases hw1 with rfl | rfl <;> exact h1
    have hb1 : w1.heap[b]? = some (.map es c) := by rcases hw1 with rfl | rfl <;> exact h2
    have hset := heap_set (o' := Obj.mapIter (some b) since (seen.push e.born) c) hr1
    have hrg : RangeE (Go.ChangeMaps.setBlock w1 r (.mapIter (some b) since (seen.push e.born) c)) r b m (adel left k) := by
      refine ⟨es, c, since, seen.push e.born, c, hset.1, (hset.2 b (Ne.symm hne)).trans hb1, h3, h4, h5, ⟨h6.2, h6.2⟩, ?_⟩
      have e1 : (leftOf es (seen.push e.born)).toList = (leftOf es seen).toList.filter (fun x => x.born != e.born) := by
        unfold leftOf
        rw [Array.toList_filter, Array.toList_filter, List.filter_filter]
        apply List.filter_congr
        intro x _
        rw [Bool.eq_iff_iff]
        simp [Array.contains_push]
        exact ⟨fun q => ⟨q.2, q.1⟩, fun q => ⟨q.2, q.1⟩⟩
      have e2 : (leftOf es seen).toList.filter (fun x => x.born != e.born) = (leftOf es seen).toList.filter ((fun q : Value × Value => vkey q.1 != k) ∘ fun x : MapEntry => (x.key, x.val)) := by
        apply List.filter_congr
        intro x hx
        have hxe : x ∈ es.toList := by
          have : x ∈ leftOf es seen := by simpa using hx
          unfold leftOf at this
          simp at this
          simpa using this.1
        have same : x.born = e.born ↔ x.key = e.key := by
          have n1 : ∀ {f : MapEntry → Nat}, (es.toList.map f).Nodup → f x = f e → x = e := fun {f} hf hq => by
            obtain ⟨i, hi⟩ := List.getElem?_of_mem hxe
            obtain ⟨j, hj⟩ := List.getElem?_of_mem hes
            have a1 : (es.toList.map f)[i]? = some (f x) := by rw [List.getElem?_map, hi]; rfl
            have a2 : (es.toList.map f)[j]? = some (f e) := by rw [List.getElem?_map, hj]; rfl
            have l1 := (List.getElem?_eq_some_iff.1 a1).1
            have hij : i = j := (List.getElem?_inj l1 hf).1 (by rw [a1, a2, hq])
            subst hij
            exact Option.some.inj (hi.symm.trans hj)
          have n2 : ∀ {f : MapEntry → Value}, (es.toList.map f).Nodup → f x = f e → x = e := fun {f} hf hq => by
            obtain ⟨i, hi⟩ := List.getElem?_of_mem hxe
            obtain ⟨j, hj⟩ := List.getElem?_of_mem hes
            have a1 : (es.toList.map f)[i]? = some (f x) := by rw [List.getElem?_map, hi]; rfl
            have a2 : (es.toList.map f)[j]? = some (f e) := by rw [List.getElem?_map, hj]; rfl
            have l1 := (List.getElem?_eq_some_iff.1 a1).1
            have hij : i = j := (List.getElem?_inj l1 hf).1 (by rw [a1, a2, hq])
            subst hij
            exact Option.some.inj (hi.symm.trans hj)
          exact ⟨fun q => by rw [n1 h3.2.1 q], fun q => by rw [n2 h3.2.2 q]⟩
        have hxm : (x.key, x.val) ∈ m.map (fun p => (Value.int .i64 p.1, p.2)) := by rw [← h4]; exact List.mem_map.2 ⟨x, hxe, rfl⟩
        obtain ⟨q, -, hq⟩ := List.mem_map.1 hxm
        have hqk := (Prod.mk.inj hq).1
        rw [Bool.eq_iff_iff]
        simp only [Function.comp, bne_iff_ne, ne_eq]
        rw [same, ← ek, ← hqk]
        simp [vkey]
      rw [e1, e2, ← List.filter_map, h7, List.filter_map]
      rfl
    have hen := run_entry_at (P := P) (Go.ChangeMaps.setBlock w1 r (.mapIter (some b) since (seen.push e.born) c)) r b since seen es c e hset.1 ((hset.2 b (Ne.symm hne)).trans hb1) hes h3.2.1
    rw [← ek, ← ev] at hrun hen
    simp [execOp, hop, hit, hrun, Result.andThen]
    refine hK' _ _ (hMore k v _ hp ?_ hrg ?_ ?_ hen)
    · exact (lookup_mem_iff hnd).2 (hsub.1 _ hp)
    · rcases hw1 with rfl | rfl
      · exact ⟨rfl, rfl, rfl, by simp [Go.ChangeMaps.setBlock], fun j _ hj => hset.2 j hj⟩
      · exact ⟨rfl, rfl, rfl, by simp [Go.ChangeMaps.setBlock], fun j _ hj => hset.2 j hj⟩
    · rcases hw1 with rfl | rfl <;> simp [Go.ChangeMaps.setBlock]
end wp
theorem keys_adel {left : List (Int × Value)} (k : Int) : ∀ j : Int, j ∈ (adel left k).map (·.1) ↔ j ∈ left.map (·.1) ∧ j ≠ k := by
  intro j
  unfold adel
  simp only [List.mem_map, List.mem_filter, bne_iff_ne, ne_eq]
  constructor
  · rintro ⟨p, ⟨h1, h2⟩, rfl⟩; exact ⟨⟨p, h1, rfl⟩, h2⟩
  · rintro ⟨⟨p, h1, rfl⟩, h2⟩; exact ⟨p, ⟨h1, h2⟩, rfl⟩
theorem adel_len {left : List (Int × Value)} {k : Int} {v : Value} (h : (k, v) ∈ left) : (adel left k).length < left.length := by
  unfold adel
  rcases Nat.lt_or_ge (left.filter (fun p => p.1 != k)).length left.length with q | q
  · exact q
  · have e : left.filter (fun p => p.1 != k) = left := List.filter_eq_self.2 (by
      have := (List.length_filter_eq_length_iff (l := left) (p := fun p => p.1 != k)).1 (Nat.le_antisymm (List.length_filter_le _ _) q)
      exact this)
    have := List.filter_eq_self.1 e (k, v) h
    simp at this
end Go.Proofs.Ytajfjgekcjkedaa
end
section
/- Results in memory cells; blocks of seven and of nine cells. -/
namespace Go.Proofs.Ytajfjgekcjkedaa
open Go.RowKit
open Go.Lib (hid)
set_option linter.unusedVariables false

theorem res_cell1 {fn : Func} {a : Tmp} {t : TypeId} (h : fn.results = #[.cell a t]) (tmps : Array Value) (P : Program) (w : World) {x : Addr} {v : Value} (ha : tmps.getD a undef = .pointer (some x)) (hl : (loadVar t x).run P w = .ok v w) : (results fn tmps).run P w = .ok v w := by
  have ha' : tmps[a]?.getD undef = .pointer (some x) := by rw [← ha]; simp
  simp [results, h, ha', asAddr, hl, Result.andThen]
theorem res_cell_tmp {fn : Func} {a u : Tmp} {t : TypeId} (h : fn.results = #[.cell a t, .tmp u]) (tmps : Array Value) (P : Program) (w : World) {x : Addr} {v : Value} (ha : tmps.getD a undef = .pointer (some x)) (hl : (loadVar t x).run P w = .ok v w) : (results fn tmps).run P w = .ok (.tuple #[v, tmps.getD u undef]) w := by
  have ha' : tmps[a]?.getD undef = .pointer (some x) := by rw [← ha]; simp
  simp [results, h, ha', asAddr, hl, Result.andThen]
section
variable {w : World} {g : Nat} {c0 c1 c2 c3 c4 c5 c6 c7 c8 : Value}
theorem Blk.cells7 (h : Blk w g #[c0, c1, c2, c3, c4, c5, c6]) : w.cell? ⟨g, 0, none⟩ = some c0 ∧ w.cell? ⟨g, 1, none⟩ = some c1 ∧ w.cell? ⟨g, 2, none⟩ = some c2 ∧ w.cell? ⟨g, 3, none⟩ = some c3 ∧ w.cell? ⟨g, 4, none⟩ = some c4 ∧ w.cell? ⟨g, 5, none⟩ = some c5 ∧ w.cell? ⟨g, 6, none⟩ = some c6 :=
  ⟨by rw [h.cell]; rfl, by rw [h.cell]; rfl, by rw [h.cell]; rfl, by rw [h.cell]; rfl, by rw [h.cell]; rfl, by rw [h.cell]; rfl, by rw [h.cell]; rfl⟩
theorem Blk.cells9 (h : Blk w g #[c0, c1, c2, c3, c4, c5, c6, c7, c8]) : w.cell? ⟨g, 0, none⟩ = some c0 ∧ w.cell? ⟨g, 1, none⟩ = some c1 ∧ w.cell? ⟨g, 2, none⟩ = some c2 ∧ w.cell? ⟨g, 3, none⟩ = some c3 ∧ w.cell? ⟨g, 4, none⟩ = some c4 ∧ w.cell? ⟨g, 5, none⟩ = some c5 ∧ w.cell? ⟨g, 6, none⟩ = some c6 ∧ w.cell? ⟨g, 7, none⟩ = some c7 ∧ w.cell? ⟨g, 8, none⟩ = some c8 :=
  ⟨by rw [h.cell]; rfl, by rw [h.cell]; rfl, by rw [h.cell]; rfl, by rw [h.cell]; rfl, by rw [h.cell]; rfl, by rw [h.cell]; rfl, by rw [h.cell]; rfl, by rw [h.cell]; rfl, by rw [h.cell]; rfl⟩
theorem Blk.free7 {cs : Array Value} (h : Blk w g cs) : w.frozen? ⟨g, 0, none⟩ = false ∧ w.frozen? ⟨g, 1, none⟩ = false ∧ w.frozen? ⟨g, 2, none⟩ = false ∧ w.frozen? ⟨g, 3, none⟩ = false ∧ w.frozen? ⟨g, 4, none⟩ = false ∧ w.frozen? ⟨g, 5, none⟩ = false ∧ w.frozen? ⟨g, 6, none⟩ = false :=
  ⟨h.unfrozen _, h.unfrozen _, h.unfrozen _, h.unfrozen _, h.unfrozen _, h.unfrozen _, h.unfrozen _⟩
theorem Blk.free9 {cs : Array Value} (h : Blk w g cs) : w.frozen? ⟨g, 0, none⟩ = false ∧ w.frozen? ⟨g, 1, none⟩ = false ∧ w.frozen? ⟨g, 2, none⟩ = false ∧ w.frozen? ⟨g, 3, none⟩ = false ∧ w.frozen? ⟨g, 4, none⟩ = false ∧ w.frozen? ⟨g, 5, none⟩ = false ∧ w.frozen? ⟨g, 6, none⟩ = false ∧ w.frozen? ⟨g, 7, none⟩ = false ∧ w.frozen? ⟨g, 8, none⟩ = false :=
  ⟨h.unfrozen _, h.unfrozen _, h.unfrozen _, h.unfrozen _, h.unfrozen _, h.unfrozen _, h.unfrozen _, h.unfrozen _, h.unfrozen _⟩
theorem Upd.set2 {S : Nat → Prop} {x y : World} {g : Nat} (h : Upd S x y) (hg : S g) (i : Nat) (u : Value) : Upd S x (y.setCell ⟨g, i, none⟩ u) := h.trans (Upd.setCell y g i u) (fun k _ q => by rw [q]; exact hg)
theorem Blk.all7 (h : Blk w g #[c0, c1, c2, c3, c4, c5, c6]) (u0 u1 u2 u3 u4 u5 u6 : Value) : ∃ wz, wz = ((((((w.setCell ⟨g, 0, none⟩ u0).setCell ⟨g, 1, none⟩ u1).setCell ⟨g, 2, none⟩ u2).setCell ⟨g, 3, none⟩ u3).setCell ⟨g, 4, none⟩ u4).setCell ⟨g, 5, none⟩ u5).setCell ⟨g, 6, none⟩ u6 ∧ Blk wz g #[u0, u1, u2, u3, u4, u5, u6] ∧ Upd (fun k => k = g) w wz :=
  ⟨_, rfl, by simpa using ((((((h.set 0 u0).set 1 u1).set 2 u2).set 3 u3).set 4 u4).set 5 u5).set 6 u6, ((((((Upd.setCell w g 0 u0).set2 rfl 1 u1).set2 rfl 2 u2).set2 rfl 3 u3).set2 rfl 4 u4).set2 rfl 5 u5).set2 rfl 6 u6⟩
theorem Blk.all9 (h : Blk w g #[c0, c1, c2, c3, c4, c5, c6, c7, c8]) (u0 u1 u2 u3 u4 u5 u6 u7 u8 : Value) : ∃ wz, wz = ((((((((w.setCell ⟨g, 0, none⟩ u0).setCell ⟨g, 1, none⟩ u1).setCell ⟨g, 2, none⟩ u2).setCell ⟨g, 3, none⟩ u3).setCell ⟨g, 4, none⟩ u4).setCell ⟨g, 5, none⟩ u5).setCell ⟨g, 6, none⟩ u6).setCell ⟨g, 7, none⟩ u7).setCell ⟨g, 8, none⟩ u8 ∧ Blk wz g #[u0, u1, u2, u3, u4, u5, u6, u7, u8] ∧ Upd (fun k => k = g) w wz :=
  ⟨_, rfl, by simpa using ((((((((h.set 0 u0).set 1 u1).set 2 u2).set 3 u3).set 4 u4).set 5 u5).set 6 u6).set 7 u7).set 8 u8, ((((((((Upd.setCell w g 0 u0).set2 rfl 1 u1).set2 rfl 2 u2).set2 rfl 3 u3).set2 rfl 4 u4).set2 rfl 5 u5).set2 rfl 6 u6).set2 rfl 7 u7).set2 rfl 8 u8⟩
end
end Go.Proofs.Ytajfjgekcjkedaa
end
section
/- Contracts of the package stall: Close, Total. -/
namespace Go.Proofs.Ytajfjgekcjkedaa
open Go.RowKit
open Go.Lib (hid)
set_option linter.unusedVariables false

theorem step_delE {P : Program} {w : World} {ops : Array Oper} {o : Oper} {a : Act} {K : Act → World → Prop} {Q : Exit → Act → World → Prop} {E : Prop} {t kt et : TypeId} {b : Nat} {m : List (Int × Value)} (hg : o.guard = none) (mo x : Operand) (hop : o.op = Op.call { callee := Callee.builtin Builtin.delete, args := #[mo, x], argTypes := #[t, kt] }) (ht : P.underlying t = some (.map kt et)) (hk : P.underlying kt = some (.int .i64))
    (hm : a.eval mo = .map (some b)) (h : MapE w b m) (k : Int) (hx : a.eval x = .int .i64 k)
    (hK : ∀ w', MapE w' b (adel m k) → Upd (fun k => k = b) w w' → w'.heap.size = w.heap.size → K (a.put o.dst (.tuple #[])) w') : if Region.wanted o (yielded ops a.tmps) = true then Oper.wp P o a w K Q else E := by
  have hw : Region.wanted o (yielded ops a.tmps) = true := by simp [Region.wanted, hg]
  rw [if_pos hw]
  obtain ⟨w', hrun, h1, h2, h3⟩ := h.run_delete (P := P) ht hk k o.type
  unfold Oper.wp execOp
  simp only [hop, resolve, invoke, builtin, Sem.run_bind, Sem.run_pure, Result.andThen_ok, List.map_toArray, List.map_cons, List.map_nil, hm, hx, hrun]
  exact hK w' h1 h2 h3
def ClosePost (w : World) (s : Nat) (F : Nat → Prop) (X : StX) (k : Int) (e : Ending) (w' : World) : Prop :=
  match X.tills.lookup k with
  | none => StPost w s F X (.tuple #[.agg #[.int .i64 0, .int .i64 0, .slice none 0 0], .int .i64 14]) e w'
  | some g => ∃ v, StPost w s F (closeX X k) (.tuple #[.agg #[.int .i64 k, .int .i64 g, v], .int .i64 0]) e w' ∧ SlP w' v (ofX X.goods k)
def CloseR (w : World) (s : Nat) (F : Nat → Prop) (b1 b2 : Nat) (R : List RowG) (A : List (Int × Int)) (gs : List (Int × Int)) (b4 b6 : Nat) (c6 : Array Value) (v25 : Value) (wr : World) : Prop :=
  ∃ j : Nat, v25 = .int .i64 (j : Int) ∧ j ≤ gs.length ∧ Hid (StParts wr s F b1 b2 R (((gs.take j).map (·.1)).foldl adel A)) ∧ Hid (Upd (fun k => k = b2) w wr) ∧ Hid (Blk wr b4 #[.int .i64 0, .int .i64 0, .slice none 0 0]) ∧ Hid (Blk wr b6 c6) ∧ Hid (w.heap.size ≤ b4 ∧ w.heap.size ≤ b6 ∧ b4 ≠ b6)
set_option maxRecDepth 100000 in
set_option maxHeartbeats 4000000 in
theorem stall_Close0 {s : Nat} {F : Nat → Prop} {X : StX} (w : World) (h : StallIs w s F X) (hF : ∀ k, F k → k < w.heap.size) (k : Int) :
    Calls Try.prog 14 #[.pointer (some ⟨s, 0, none⟩), .int .i64 k] w (ClosePost w s F X k) := by
  have H := hid h
  have HF := hid hF
  clear hF
  obtain ⟨b1, b2, R, A, hp, hr, hi⟩ := h
  have HP := hid hp
  cases ht : X.tills.lookup k with
  | none =>
    have HC : Hid (∀ e w', StPost w s F X (.tuple #[.agg #[.int .i64 0, .int .i64 0, .slice none 0 0], .int .i64 14]) e w' → ClosePost w s F X k e w') := hid (fun e w' h => by unfold ClosePost; rw [ht]; exact h)
    have HB := hid (show (X.tills.lookup k).isSome = false by rw [ht]; rfl)
    obtain ⟨w2, hw2⟩ : ∃ w2, w2 = w.alloc (.cells #[.int .i64 0, .int .i64 0, .slice none 0 0] 37) := ⟨_, rfl⟩
    clear hp hr hi ht
    go_enter Try.func14, Try.ntmps14
    go_upto_region 1 with fail
    generalize hw1 : World.alloc w _ = w1
    obtain ⟨b4, hb4⟩ : ∃ b, b = w.heap.size := ⟨_, rfl⟩
    rw [← hb4]
    have hb1 : Below w.heap.size w w1 := by rw [← hw1]; exact Below.new _ _
    have HK := hid (show Blk w1 b4 #[.int .i64 0, .int .i64 0, .slice none 0 0] by rw [← hw1, hb4]; exact Blk.new w _ _)
    have H1 := hid (H.out.below hb1)
    have HB1 := hid hb1
    have HB4 := hid hb4
    clear hw1 hb1 hb4 w2 hw2
    go_wp2_with fail
    refine (stall_Has w1 H1.out k false HB).mono ?_
    rintro e w2 ⟨rfl, rfl⟩
    have k0 : w1.cell? ⟨b4, 0, none⟩ = some (.int .i64 0) := by rw [HK.out.cell]; rfl
    have k1 : w1.cell? ⟨b4, 1, none⟩ = some (.int .i64 0) := by rw [HK.out.cell]; rfl
    have k2 : w1.cell? ⟨b4, 2, none⟩ = some (.slice none 0 0) := by rw [HK.out.cell]; rfl
    have f0 : w1.frozen? ⟨b4, 0, none⟩ = false := HK.out.unfrozen 0
    have f1 : w1.frozen? ⟨b4, 1, none⟩ = false := HK.out.unfrozen 1
    have f2 : w1.frozen? ⟨b4, 2, none⟩ = false := HK.out.unfrozen 2
    go_wp2_with fail
    have HK3 : Hid (Blk (((w1.setCell ⟨b4, 0, none⟩ (.int .i64 0)).setCell ⟨b4, 1, none⟩ (.int .i64 0)).setCell ⟨b4, 2, none⟩ (.slice none 0 0)) b4 #[.int .i64 0, .int .i64 0, .slice none 0 0]) := hid (by simpa using ((HK.out.set 0 (.int .i64 0)).set 1 (.int .i64 0)).set 2 (.slice none 0 0))
    have HB3 : Hid (Below w.heap.size w (((w1.setCell ⟨b4, 0, none⟩ (.int .i64 0)).setCell ⟨b4, 1, none⟩ (.int .i64 0)).setCell ⟨b4, 2, none⟩ (.slice none 0 0))) := hid (by
      have hb := HB4.out
      have u := ((Upd.setCell w1 b4 0 (.int .i64 0)).trans (Upd.setCell _ b4 1 (.int .i64 0)) (fun _ _ q => q)).trans (Upd.setCell _ b4 2 (.slice none 0 0)) (fun _ _ q => q)
      exact HB1.out.trans (u.below HB1.out.size (fun j _ q => by omega)))
    generalize World.setCell (World.setCell (World.setCell w1 _ _) _ _) _ _ = w3 at HK3 HB3
    clear k0 k1 k2 f0 f1 f2
    have k0 : w3.cell? ⟨b4, 0, none⟩ = some (.int .i64 0) := by rw [HK3.out.cell]; rfl
    have k1 : w3.cell? ⟨b4, 1, none⟩ = some (.int .i64 0) := by rw [HK3.out.cell]; rfl
    have k2 : w3.cell? ⟨b4, 2, none⟩ = some (.slice none 0 0) := by rw [HK3.out.cell]; rfl
    refine bodyPost_ret (res_cell_tmp rfl _ _ _ rfl (by go_simp; rfl)) rfl ?_
    exact HC.out _ _ (StPost.below H.out HB3.out)
  | some g =>
    have HC : Hid (∀ e w' v, StPost w s F (closeX X k) (.tuple #[.agg #[.int .i64 k, .int .i64 g, v], .int .i64 0]) e w' → SlP w' v (ofX X.goods k) → ClosePost w s F X k e w') := hid (fun e w' v h1 h2 => by unfold ClosePost; rw [ht]; exact ⟨v, h1, h2⟩)
    have HB := hid (show (X.tills.lookup k).isSome = true by rw [ht]; rfl)
    obtain ⟨R1, r, R2, e, rfl, rfl, hgs⟩ := hp.at hr ht
    have HLK := hid (show ((R.map RowG.ptr).lookup r.h).getD (.pointer none) = .pointer (some ⟨r.p, 0, none⟩) by rw [hp.look e]; rfl)
    have hREL : StRel ((R1 ++ R2).map RowG.core) ((r.gs.map (·.1)).foldl adel A) (closeX X r.h) := by
      have h1 := hr
      rw [e, List.map_append, List.map_cons] at h1
      have hn : ((R1.map RowG.core ++ (r.h, r.till, r.gs) :: R2.map RowG.core).map (·.1)).Nodup := by
        have := hp.nodup
        rw [← core_keys, e, List.map_append, List.map_cons] at this
        exact this
      have h2 := (StRel.close (k := r.h) (g := r.till) (gs := r.gs) h1 hn hi).2.2
      rw [List.map_append]; exact h2
    have HREL := hid hREL
    have HINV := hid (hi.close r.h)
    have HE := hid e
    have HGS := hid hgs
    have hl16 : r.gs.length ≤ 16 := by rw [hgs]; exact hi.g3 r.h
    have HRW := hid (hp.row r (by rw [e]; simp))
    obtain ⟨a, c, hv, -⟩ := ownsRow.rd (hp.row r (by rw [e]; simp)).own
    have HV := hid hv
    clear hp hr hi ht hREL e hgs hv
    go_enter Try.func14, Try.ntmps14
    go_upto_region 1 with fail
    generalize hw1 : World.alloc w _ = w1
    obtain ⟨b4, hb4⟩ : ∃ b, b = w.heap.size := ⟨_, rfl⟩
    rw [← hb4]
    have hb1 : Below w.heap.size w w1 := by rw [← hw1]; exact Below.new _ _
    have HK := hid (show Blk w1 b4 #[.int .i64 0, .int .i64 0, .slice none 0 0] by rw [← hw1, hb4]; exact Blk.new w _ _)
    have H1 := hid (H.out.below hb1)
    have HP1 := hid (HP.out.below hb1)
    have HRW1 := hid (HRW.out.upd0 hb1)
    have HB1 := hid hb1
    have HB4 := hid hb4
    clear hw1 hb1 hb4
    go_wp2_with fail
    refine (stall_Has w1 H1.out r.h true HB).mono ?_
    rintro e w2 ⟨rfl, rfl⟩
    have HM1 := hid HP1.out.m1
    obtain ⟨c0, -⟩ := HP1.out.cells
    obtain ⟨d0, d1, d2⟩ := HRW1.out.cells
    rw [HV.out] at d2
    go_upto_region 4 with (at_lookup; refine wpList_look1 _ rfl _ _ rfl Try.underlying64 Try.underlying3 _ zero_rowp rfl HM1.out r.h rfl _ HLK ?_)
    generalize hw2 : World.alloc w1 _ = w2
    obtain ⟨b6, hb6⟩ : ∃ b, b = w1.heap.size := ⟨_, rfl⟩
    rw [← hb6]
    have hb2 : Below w1.heap.size w1 w2 := by rw [← hw2]; exact Below.new _ _
    have HK6 := hid (show Blk w2 b6 #[.int .i64 r.h, .int .i64 r.till, .slice a r.gs.length c] by rw [← hw2, hb6]; exact Blk.new w1 _ _)
    have HK4 := hid (HK.out.below hb2)
    have HP2 := hid (HP1.out.below hb2)
    have HB2 := hid (Below.next HB1.out hb2)
    have HBB : Hid (w.heap.size ≤ b4 ∧ w.heap.size ≤ b6 ∧ b4 ≠ b6) := hid (by have h1 := HB4.out; have h2 := HB1.out.size; have h3 := HK.out.lt; omega)
    clear hw2 hb2 hb6 c0 d0 d1 d2 H1 HP1 HRW1 HM1 HK
    have q2 : w2.cell? ⟨b6, 2, none⟩ = some (.slice a r.gs.length c) := by rw [HK6.out.cell]; rfl
    go_wp2_with fail
    go_loopw [25] (fun v25 wr => CloseR w s F b1 b2 R A r.gs b4 b6 #[.int .i64 r.h, .int .i64 r.till, .slice a r.gs.length c] v25 wr) (fun v25 _ => r.gs.length - (intOf v25).toNat)
    case atStart => exact ⟨0, rfl, by omega, HP2, hid (Upd.of_below HB2.out), HK4, HK6, HBB⟩
    case round =>
      clear HP2 HB2 HK4 HK6
      obtain ⟨j, rfl, hj, HPJ, HUJ, HK4, HK6, -⟩ := hrel
      have hrw := HPJ.out.row r (by rw [HE.out]; simp)
      by_cases hlt : j < r.gs.length
      · have j1 : (j : Int) < (r.gs.length : Int) := by omega
        have j0 : (0 : Int) ≤ (j : Int) := by omega
        have hso := hrw.own.slp
        obtain ⟨a', c', e', hrd, -⟩ := hso
        rw [HV.out] at e'
        simp only [Value.slice.injEq, true_and] at e'
        obtain ⟨rfl, rfl⟩ := e'
        obtain ⟨b0, off, x, y, rfl, q0, q1, -, -, htk⟩ := hrd.pair j hlt
        have HTK := hid htk
        clear hrw hrd htk
        go_upto_region 7 with fail
        obtain ⟨w5, hw5⟩ : ∃ w5, w5 = wr.alloc (.cells #[.int .i64 x, .int .i64 y] 51) := ⟨_, rfl⟩
        rw [← hw5]
        obtain ⟨bx, hbx⟩ : ∃ b, b = wr.heap.size := ⟨_, rfl⟩
        rw [← hbx]
        have hb5 : Below wr.heap.size wr w5 := by rw [hw5]; exact Below.new _ _
        have HX5 := hid (show Blk w5 bx #[.int .i64 x, .int .i64 y] by rw [hw5, hbx]; exact Blk.new wr _ _)
        have HP5 := hid (HPJ.out.below hb5)
        have HU5 : Hid (Upd (fun k => k = b2) w w5) := hid (HUJ.out.trans (Upd.of_below (S := fun _ => False) hb5) (fun _ _ q => q.elim))
        have HK45 := hid (HK4.out.below hb5)
        have HK65 := hid (HK6.out.below hb5)
        have HBL : Hid (b4 ≠ b2 ∧ b6 ≠ b2 ∧ bx ≠ b2) := hid (by have h1 := HP.out.m2.lt; have h2 := HBB.out; have h3 := HPJ.out.m2.lt; omega)
        clear hw5 hbx hb5 q0 q1 q2
        have e0 : ∀ y, Upd (fun k => k = b2) w5 y → y.cell? ⟨s, 1, none⟩ = some (.map (some b2)) := fun y hy => by rw [(HP5.out.blk.upd hy HP5.out.n2).cell]; rfl
        have e1 : ∀ y, Upd (fun k => k = b2) w5 y → y.cell? ⟨bx, 0, none⟩ = some (.int .i64 x) := fun y hy => by rw [(HX5.out.upd hy HBL.out.2.2).cell]; rfl
        have hyb := (Below.refl w5.heap.size w5).drew
        have hyd : Upd (fun k => k = b2) w5 w5.drew := Upd.of_below hyb
        refine wp_region_kept [] (fun y => Upd (fun k => k = b2) w5 y) (by kernel_rfl) (by assumption) (fun hH => ?_)
        refine wpK.take (i := 0) (v := _) (by simp only [List.getElem?_toArray, List.getElem?_cons_succ, List.getElem?_cons_zero]; rfl) (by kernel_rfl) (by kernel_rfl) (by kernel_rfl) (by kernel_rfl) (by kernel_rfl) (by exact fun _ _ _ h => h) (by first | exact Or.inl ⟨by rfl, by intro w hSw; go_simp; try with_reducible rfl⟩ | exact Or.inr ⟨by rfl, rfl⟩) hH ?_
        try simp only [Act.put, List.setIfInBounds_toArray, List.set_cons_zero, List.set_cons_succ]
        refine wpK.take (i := 1) (v := _) (by simp only [List.getElem?_toArray, List.getElem?_cons_succ, List.getElem?_cons_zero]; rfl) (by kernel_rfl) (by kernel_rfl) (by kernel_rfl) (by kernel_rfl) (by kernel_rfl) (by exact fun _ _ _ h => h) (by first | exact Or.inl ⟨by rfl, by intro w hSw; go_simp; try with_reducible rfl⟩ | exact Or.inr ⟨by rfl, rfl⟩) hH ?_
        try simp only [Act.put, List.setIfInBounds_toArray, List.set_cons_zero, List.set_cons_succ]
        refine wpK.take (i := 2) (v := _) (by simp only [List.getElem?_toArray, List.getElem?_cons_succ, List.getElem?_cons_zero]; rfl) (by kernel_rfl) (by kernel_rfl) (by kernel_rfl) (by kernel_rfl) (by kernel_rfl) (by exact fun _ _ _ h => h) (by first | exact Or.inl ⟨by rfl, by intro w hSw; go_simp; try with_reducible rfl⟩ | exact Or.inr ⟨by rfl, rfl⟩) hH ?_
        try simp only [Act.put, List.setIfInBounds_toArray, List.set_cons_zero, List.set_cons_succ]
        refine wpK.take (i := 3) (v := _) (by simp only [List.getElem?_toArray, List.getElem?_cons_succ, List.getElem?_cons_zero]; rfl) (by kernel_rfl) (by kernel_rfl) (by kernel_rfl) (by kernel_rfl) (by kernel_rfl) (by exact fun _ _ _ h => h) (by first | exact Or.inl ⟨by rfl, by intro w hSw; go_simp; try with_reducible rfl⟩ | exact Or.inr ⟨by rfl, rfl⟩) hH ?_
        try simp only [Act.put, List.setIfInBounds_toArray, List.set_cons_zero, List.set_cons_succ]
        refine wpK.take (i := 4) (v := _) (by simp only [List.getElem?_toArray, List.getElem?_cons_succ, List.getElem?_cons_zero]; rfl) (by kernel_rfl) (by kernel_rfl) (by kernel_rfl) (by kernel_rfl) (by kernel_rfl) (by exact fun _ _ _ h => h) (by first | exact Or.inl ⟨by rfl, by intro w hSw; go_simp; try with_reducible rfl⟩ | exact Or.inr ⟨by rfl, rfl⟩) hH ?_
        try simp only [Act.put, List.setIfInBounds_toArray, List.set_cons_zero, List.set_cons_succ]
        refine wpK.take (i := 5) (v := _) (by simp only [List.getElem?_toArray, List.getElem?_cons_succ, List.getElem?_cons_zero]; rfl) (by kernel_rfl) (by kernel_rfl) (by kernel_rfl) (by kernel_rfl) (by kernel_rfl) (by exact fun _ _ _ h => h) (by first | exact Or.inl ⟨by rfl, by intro w hSw; go_simp; try with_reducible rfl⟩ | exact Or.inr ⟨by rfl, rfl⟩) hH ?_
        try simp only [Act.put, List.setIfInBounds_toArray, List.set_cons_zero, List.set_cons_succ]
        refine wpK.step (i := 6) (by kernel_rfl) (by simp only [List.getElem?_toArray, List.getElem?_cons_succ, List.getElem?_cons_zero]; rfl) (fun K hK => ?_)
        refine step_delE rfl _ _ rfl Try.underlying65 Try.underlying3 rfl (HP5.out.below hyb).m2 x rfl ?_; intro w6 hm6 hu6 hz6; (have hk6 := hyd.trans hu6 (fun _ _ q => q))
        refine hK.out _ _ (by assumption) (fun hH => ?_)
        clear hK K
        try simp only [Act.put, List.setIfInBounds_toArray, List.set_cons_zero, List.set_cons_succ]
        refine wpK.done (by kernel_rfl) ?_ _
        have HP6 : Hid (StParts w6 s F b1 b2 R (((r.gs.take (j + 1)).map (·.1)).foldl adel A)) := hid (by
          rw [HTK.out, List.map_append, List.foldl_append]
          rw [← atV_del] at hm6
          exact (HP5.out.below hyb).turnA hu6 hm6)
        have HU6 := hid (HU5.out.trans hk6 (fun _ _ q => q))
        have HK46 := hid (HK45.out.upd hk6 HBL.out.1)
        have HK66 := hid (HK65.out.upd hk6 HBL.out.2.1)
        clear e0 e1 hyb hyd hm6 hu6 hz6 hk6 hH
        go_wp2_with fail
        go_roundw
        case rel => exact ⟨j + 1, by go_num, by omega, HP6, HU6, HK46, HK66, HBB⟩
        case measure => simp [intOf]; omega
      · have j1 : ¬ (j : Int) < (r.gs.length : Int) := by omega
        have htk : r.gs.take j = r.gs := List.take_of_length_le (by omega)
        rw [htk] at HPJ
        have HM := hid HPJ.out.m1
        obtain ⟨c0, -⟩ := HPJ.out.cells
        clear htk hrw q2
        go_upto_region 10 with (at_delete; refine wpList_delE _ rfl _ _ rfl Try.underlying64 Try.underlying3 rfl HM.out r.h rfl ?_; intro w6 hm6 hu6 hz6)
        have hdel : adel (R.map RowG.ptr) r.h = (R1 ++ R2).map RowG.ptr := by
          have hn := HP.out.nodup
          rw [HE.out] at hn ⊢
          rw [List.map_append, List.map_cons, List.nodup_append] at hn
          have h2 := List.nodup_cons.1 hn.2.1
          unfold adel
          rw [List.map_append, List.map_cons, List.filter_append, List.filter_cons_of_neg (by simp [RowG.ptr]), List.map_append]
          congr 1
          · rw [List.filter_eq_self]
            intro p hp
            obtain ⟨q, hq, rfl⟩ := List.mem_map.1 hp
            have : q.h ≠ r.h := fun e => hn.2.2 q.h (List.mem_map_of_mem hq) r.h (by simp) e
            simpa [RowG.ptr] using this
          · rw [List.filter_eq_self]
            intro p hp
            obtain ⟨q, hq, rfl⟩ := List.mem_map.1 hp
            have : q.h ≠ r.h := fun e => h2.1 (by rw [← e]; exact List.mem_map_of_mem hq)
            simpa [RowG.ptr] using this
        rw [hdel] at hm6
        have HP6 : Hid (StParts w6 s F b1 b2 (R1 ++ R2) ((r.gs.map (·.1)).foldl adel A)) := hid (StParts.less (r := r) (by have := HPJ.out; rw [HE.out] at this; exact this) hu6 hm6)
        have hb1 : b4 ≠ b1 ∧ b6 ≠ b1 := by have h1 := HP.out.m1.lt; have h2 := HBB.out; omega
        have HK46 := hid (HK4.out.upd hu6 hb1.1)
        have HK66 := hid (HK6.out.upd hu6 hb1.2)
        have HU6 : Hid (Upd F w w6) := hid ((HUJ.out.mono (fun _ _ q => by rw [q]; exact HP.out.f2)).trans hu6 (fun _ _ q => by rw [q]; exact HP.out.f1))
        have HSL : Hid (SlP w6 (.slice a r.gs.length c) (ofX X.goods r.h)) := hid (by
          have h1 := (HPJ.out.row r (by rw [HE.out]; simp)).upd hu6 (fun k hk q => (HPJ.out.feet r (by rw [HE.out]; simp) k hk).2.2.1 q)
          have h2 := h1.own.slp
          rw [HV.out, HGS.out] at h2
          rw [HGS.out]
          exact h2)
        clear hm6 hu6 hz6 hb1 hdel HPJ HUJ HK4 HK6 HM c0
        have k0 : w6.cell? ⟨b4, 0, none⟩ = some (.int .i64 0) := by rw [HK46.out.cell]; rfl
        have k1 : w6.cell? ⟨b4, 1, none⟩ = some (.int .i64 0) := by rw [HK46.out.cell]; rfl
        have k2 : w6.cell? ⟨b4, 2, none⟩ = some (.slice none 0 0) := by rw [HK46.out.cell]; rfl
        have f0 : w6.frozen? ⟨b4, 0, none⟩ = false := HK46.out.unfrozen 0
        have f1 : w6.frozen? ⟨b4, 1, none⟩ = false := HK46.out.unfrozen 1
        have f2 : w6.frozen? ⟨b4, 2, none⟩ = false := HK46.out.unfrozen 2
        have g0 : w6.cell? ⟨b6, 0, none⟩ = some (.int .i64 r.h) := by rw [HK66.out.cell]; rfl
        have g1 : w6.cell? ⟨b6, 1, none⟩ = some (.int .i64 r.till) := by rw [HK66.out.cell]; rfl
        have g2 : w6.cell? ⟨b6, 2, none⟩ = some (.slice a r.gs.length c) := by rw [HK66.out.cell]; rfl
        go_wp2_with fail
        have HQ : Hid (ClosePost w s F X r.h (.returned (.tuple #[.agg #[.int .i64 r.h, .int .i64 r.till, .slice a r.gs.length c], .int .i64 0])) (((w6.setCell ⟨b4, 0, none⟩ (.int .i64 r.h)).setCell ⟨b4, 1, none⟩ (.int .i64 r.till)).setCell ⟨b4, 2, none⟩ (.slice a r.gs.length c))) := hid (by
          have u : Upd (fun k => k = b4) w6 (((w6.setCell ⟨b4, 0, none⟩ (.int .i64 r.h)).setCell ⟨b4, 1, none⟩ (.int .i64 r.till)).setCell ⟨b4, 2, none⟩ (.slice a r.gs.length c)) :=
            ((Upd.setCell w6 b4 0 _).trans (Upd.setCell _ b4 1 _) (fun _ _ q => q)).trans (Upd.setCell _ b4 2 _) (fun _ _ q => q)
          have hnF : ¬ F b4 := fun q => by have := HF.out b4 q; have := HBB.out.1; omega
          refine HC.out _ _ _ ⟨rfl, ⟨b1, b2, R1 ++ R2, _, (HP6.out.upd u (fun k q q2 => hnF (by rw [← q]; exact q2))).weaken (fun k q _ => .inl q), HREL.out, HINV.out⟩, HU6.out.trans u (fun k hk q => by have := HBB.out.1; omega)⟩ ?_
          refine HSL.out.upd u (fun k hk q => ?_)
          have h1 := HP.out.feet r (by rw [HE.out]; simp) k (.inr (by rw [HV.out]; exact hk))
          exact hnF (by rw [← q]; exact h1.1))
        have HK7 : Hid (Blk (((w6.setCell ⟨b4, 0, none⟩ (.int .i64 r.h)).setCell ⟨b4, 1, none⟩ (.int .i64 r.till)).setCell ⟨b4, 2, none⟩ (.slice a r.gs.length c)) b4 #[.int .i64 r.h, .int .i64 r.till, .slice a r.gs.length c]) := hid (by simpa using ((HK46.out.set 0 (.int .i64 r.h)).set 1 (.int .i64 r.till)).set 2 (.slice a r.gs.length c))
        generalize World.setCell (World.setCell (World.setCell w6 _ _) _ _) _ _ = w7 at HQ HK7
        clear k0 k1 k2 f0 f1 f2 g0 g1 g2
        have k0 : w7.cell? ⟨b4, 0, none⟩ = some (.int .i64 r.h) := by rw [HK7.out.cell]; rfl
        have k1 : w7.cell? ⟨b4, 1, none⟩ = some (.int .i64 r.till) := by rw [HK7.out.cell]; rfl
        have k2 : w7.cell? ⟨b4, 2, none⟩ = some (.slice a r.gs.length c) := by rw [HK7.out.cell]; rfl
        refine bodyPost_ret (res_cell_tmp rfl _ _ _ rfl (by go_simp; rfl)) rfl ?_
        exact HQ.out
theorem stall_Close {s : Nat} {F : Nat → Prop} {X : StX} (w : World) (h : StallIs w s F X) (k : Int) :
    Calls Try.prog 14 #[.pointer (some ⟨s, 0, none⟩), .int .i64 k] w (ClosePost w s F X k) := by
  refine (stall_Close0 w (h.weaken (G := fun j => F j ∧ j < w.heap.size) (fun _ q q2 => ⟨q, q2⟩)) (fun _ q => q.2) k).mono ?_
  intro e w' hc
  unfold ClosePost at hc ⊢
  have hp : ∀ X' r, StPost w s (fun j => F j ∧ j < w.heap.size) X' r e w' → StPost w s F X' r e w' := fun X' r q => ⟨q.1, q.2.1.weaken (fun j q _ => by rcases q with q | q; exact .inl q.1; exact .inr q), q.2.2.mono (fun _ _ q => q.1)⟩
  revert hc
  cases X.tills.lookup k with
  | none => intro hc; exact hp _ _ hc
  | some g =>
    rintro ⟨v, h1, h2⟩
    exact ⟨v, hp _ _ h1, h2⟩
/-- the sum of f over the keys, one taken out -/
theorem sumI_adel {α : Type} (f : Int → Int) : ∀ (m : List (Int × α)) (k : Int) (v : α), (m.map (·.1)).Nodup → (k, v) ∈ m → (m.map fun p => f p.1).sum = f k + ((adel m k).map fun p => f p.1).sum
  | [], _, _, _, h => by simp at h
  | (a, b) :: m, k, v, hn, h => by
    simp only [List.map_cons, List.nodup_cons] at hn
    unfold adel
    by_cases hk : a = k
    · subst hk
      rw [List.filter_cons_of_neg (by simp)]
      have : m.filter (fun p => p.1 != a) = m := by
        rw [List.filter_eq_self]
        intro p hp
        have : p.1 ≠ a := fun e => hn.1 (e ▸ List.mem_map_of_mem hp)
        simpa using this
      rw [this]; simp
    · have hm : (k, v) ∈ m := by
        rcases List.mem_cons.1 h with h | h
        · simp at h; exact absurd h.1.symm hk
        · exact h
      have := sumI_adel f m k v hn.2 hm
      unfold adel at this
      rw [List.filter_cons_of_pos (by simpa using hk)]
      simp only [List.map_cons, List.sum_cons]
      omega
theorem sumI_nonneg {α : Type} (f : Int → Int) (hf : ∀ k, 0 ≤ f k) (m : List (Int × α)) : 0 ≤ (m.map fun p => f p.1).sum := by
  induction m with
  | nil => simp
  | cons p m ih => have := hf p.1; simp only [List.map_cons, List.sum_cons]; omega
theorem StParts.sum {w : World} {s : Nat} {F : Nat → Prop} {b1 b2 : Nat} {R : List RowG} {A : List (Int × Int)} {X : StX} (h : StParts w s F b1 b2 R A) (hr : StRel (R.map RowG.core) A X) (hi : XInv X) : ((R.map RowG.ptr).map fun p => tillX X p.1).sum = sumT X.tills := by
  have h1 : (R.map fun r => (r.h, r.till)).Perm X.tills := by
    refine perm_of_lookup ?_ hi.nodup (fun k => ?_)
    · rw [List.map_map]; exact h.nodup
    · have e : (R.map fun r => (r.h, r.till)) = (R.map RowG.core).map (fun p => (p.1, p.2.1)) := by rw [List.map_map]; rfl
      rw [e, lookup_map (fun q : Int × List (Int × Int) => q.1) (R.map RowG.core) k, hr.r1]
      cases X.tills.lookup k <;> rfl
  rw [← perm_sumT h1]
  unfold sumT
  rw [List.map_map, List.map_map]
  congr 1
  apply List.map_congr_left
  intro r hm
  have hl : X.tills.lookup r.h = some r.till := (lookup_mem_iff hi.nodup).2 (h1.mem_iff.1 (List.mem_map_of_mem (f := fun r : RowG => (r.h, r.till)) hm))
  show tillX X r.h = r.till
  unfold tillX; rw [hl]; rfl
theorem tillX_nonneg {X : StX} (hi : XInv X) (k : Int) : 0 ≤ tillX X k := by
  unfold tillX
  cases h : X.tills.lookup k with
  | none => exact Int.le_refl _
  | some g => exact (hi.t2 _ (lookup_mem h)).2.2.1
set_option maxRecDepth 100000 in
set_option maxHeartbeats 1000000 in
theorem stall_Total {s : Nat} {F : Nat → Prop} {X : StX} (w : World) (h : StallIs w s F X) (T : Int) (hT : Hid (sumT X.tills = T)) (hb : T ≤ 4611686018427387904) :
    Calls Try.prog 15 #[.pointer (some ⟨s, 0, none⟩)] w fun e w' => e = .returned (.int .i64 T) ∧ Below w.heap.size w w' := by
  obtain ⟨b1, b2, R, A, hp, hr, hi⟩ := h
  obtain ⟨f, hf⟩ : ∃ f : Int → Int, f = tillX X := ⟨_, rfl⟩
  have HSUM : Hid (((R.map RowG.ptr).map fun p => f p.1).sum = T) := hid (by rw [hf, hp.sum hr hi]; exact hT.out)
  have HN : Hid (∀ k, 0 ≤ f k) := hid (fun k => by rw [hf]; exact tillX_nonneg hi k)
  have HFORM : Hid (∀ (k : Int) (v : Value), (R.map RowG.ptr).lookup k = some v → ∃ r ∈ R, v = .pointer (some ⟨r.p, 0, none⟩) ∧ f k = r.till) := hid (fun k v hk => by
    obtain ⟨r, hm, e⟩ := List.mem_map.1 (lookup_mem hk)
    obtain ⟨rfl, rfl⟩ := Prod.mk.inj e
    refine ⟨r, hm, rfl, ?_⟩
    obtain ⟨R1, R2, e2⟩ := List.append_of_mem hm
    rw [hf]
    unfold tillX
    have h1 : (R.map RowG.core).lookup r.h = some (r.till, r.gs) := (lookup_mem_iff (by rw [core_keys]; exact hp.nodup)).2 (List.mem_map_of_mem (f := RowG.core) hm)
    rw [hr.r1] at h1
    cases hl : X.tills.lookup r.h with
    | none => rw [hl] at h1; simp at h1
    | some g => rw [hl] at h1; simp at h1; rw [h1.1]; rfl)
  have HMAP := hid hp.m1
  have HROW := hid hp.row
  obtain ⟨c0, -⟩ := hp.cells
  clear hp hr hi hf
  obtain ⟨vs, hvs⟩ : ∃ vs, vs = R.map RowG.ptr := ⟨_, rfl⟩
  rw [← hvs] at HSUM HFORM HMAP
  clear hvs
  go_enter Try.func15, Try.ntmps15
  go_wp2_with (at_range; refine wpList_rangeE _ rfl _ rfl Try.underlying64 rfl HMAP.out ?_; intro w2 hr2 hb2 hs2)
  go_frame
  have HR2 := hid hr2
  have HB2 := hid hb2
  clear hr2 hb2 hs2 c0
  go_loopw [3, 5] (fun v3 v5 wr => ∃ (left : List (Int × Value)) (n : Int), v3 = .int .i64 n ∧ 0 ≤ n ∧ Hid (RangeE wr w.heap.size b1 vs left) ∧ Hid (n + (left.map fun p => f p.1).sum = T) ∧ Hid (Below w.heap.size w wr)) (fun _ _ wr => rangeN wr w.heap.size b1)
  case atStart => exact ⟨vs, 0, rfl, by omega, HR2, hid (by rw [HSUM.out]; omega), HB2⟩
  case round =>
    clear HR2 HB2
    obtain ⟨left, n, rfl, hn, HR, HS, HB⟩ := hrel
    have HLEN := hid HR.out.len
    by_cases hl0 : left = []
    · subst hl0
      have hnt : n = T := by have := HS.out; simpa using this
      subst hnt
      go_wp2_with (at_next; refine wpList_nextE _ rfl _ rfl rfl HR.out (fun _ => ?_) (fun k v w' hin => absurd hin (by simp)))
      go_ret
      exact ⟨rfl, HB.out⟩
    · go_wp2_with (at_next; refine wpList_nextE _ rfl _ rfl rfl HR.out (fun h0 => absurd h0 hl0) (fun k v w' hin hlk hr' hu' hs' hen => ?_); (obtain ⟨r, hm, rfl, hfk⟩ := HFORM.out k v hlk); (have HIN := hid hin); (have HR3 := hid hr'); (have HU3 := hid hu'); (have HSTEP := hid (sumI_adel f left k _ HR.out.sub.2 hin)); (have hrw := (HROW.out r hm).upd0 HB.out); (have hc1 : w'.cell? ⟨r.p, 1, none⟩ = some (.int .i64 (f k)) := (by rw [hfk]; exact hu'.cell hrw.cells.2.1 (fun q => by have h1 := (HROW.out r hm).blk.lt; simp only at q; omega))); (have hnn := HN.out k); (have hbd : n + f k ≤ 4611686018427387904 := by have h1 := HSTEP.out; have h2 := HS.out; have h3 := sumI_nonneg f HN.out (adel left k); omega); clear hin hlk hr' hu' hs' hrw hfk hm)
      go_roundw
      case rel => exact ⟨adel left k, n + f k, rfl, by omega, HR3, hid (by have := HSTEP.out; have := HS.out; omega), hid (HB.out.trans (HU3.out.below HB.out.size (fun j _ q => by omega)))⟩
      case measure => rw [HR3.out.len, HLEN.out]; exact adel_len HIN.out
end Go.Proofs.Ytajfjgekcjkedaa
end
