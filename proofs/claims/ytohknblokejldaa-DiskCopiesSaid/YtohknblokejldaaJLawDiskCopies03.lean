/- Joined texts, in this order: MapRange, Mem2, Region. Each one's first remark says what it proves; no condition beyond those that its theorems name. -/
import Derived.Test.YtohknblokejldaaJLawDiskCopies02
import Derived.Maps.RangeWalk
import Derived.Test.YtohknblokejldaaJLawDiskCopies01
import Derived.WalkKit
import Derived.Lib.Hide
import Derived.Deep.RegionHeld
section
/- Ranging over a map from integers, entry by entry. No program in sight. -/
namespace Go.Proofs.Ytohknblokejldaa
open Go.RowKit
open Go.Lib (hid)
open Go.MapKept
set_option linter.unusedVariables false

def vkey : Value → Int
  | .int _ a => a
  | _ => 0
/-- at block r stands an iterator over the map at block b: what is left to come -/
def RangeE (w : World) (r b : Nat) (m left : List (Int × Value)) : Prop :=
  ∃ es clock since seen c0, w.heap[r]? = some (.mapIter (some b) since seen c0) ∧ w.heap[b]? = some (.map es clock) ∧ Stamped es clock ∧ es.toList.map (fun e => (e.key, e.val)) = m.map (fun p => (Value.int .i64 p.1, p.2)) ∧
    (∀ x ∈ es.toList, x.born < since) ∧ (since ≤ c0 ∧ since ≤ clock) ∧ (leftOf es seen).toList.map (fun e => (e.key, e.val)) = left.map (fun p => (Value.int .i64 p.1, p.2))
/-- how many are left to come -/
def rangeN (w : World) (r b : Nat) : Nat := match w.heap[r]?, w.heap[b]? with
  | some (.mapIter _ _ seen _), some (.map es _) => (leftOf es seen).size
  | _, _ => 0
theorem RangeE.len {w : World} {r b : Nat} {m left : List (Int × Value)} (h : RangeE w r b m left) : rangeN w r b = left.length := by
  obtain ⟨es, c, s, seen, c0, h1, h2, -, -, -, -, h7⟩ := h
  unfold rangeN
  rw [h1, h2]
  have := congrArg List.length h7
  simpa using this
theorem RangeE.map {w : World} {r b : Nat} {m left : List (Int × Value)} (h : RangeE w r b m left) : MapE w b m := by
  obtain ⟨es, c, s, seen, c0, h1, h2, h3, h4, -⟩ := h; exact ⟨es, c, h2, h3, h4⟩
theorem RangeE.lt {w : World} {r b : Nat} {m left : List (Int × Value)} (h : RangeE w r b m left) : r < w.heap.size := by
  obtain ⟨es, c, s, seen, c0, h1, -⟩ := h; exact (Array.getElem?_eq_some_iff.1 h1).1
theorem RangeE.ne {w : World} {r b : Nat} {m left : List (Int × Value)} (h : RangeE w r b m left) : r ≠ b := by
  obtain ⟨es, c, s, seen, c0, h1, h2, -⟩ := h
  intro e; subst e; rw [h1] at h2; simp at h2
theorem RangeE.upd {S : Nat → Prop} {w w' : World} {r b : Nat} {m left : List (Int × Value)} (h : RangeE w r b m left) (hu : Upd S w w') (hr : ¬ S r) (hb : ¬ S b) : RangeE w' r b m left := by
  obtain ⟨es, c, s, seen, c0, h1, h2, k⟩ := h; exact ⟨es, c, s, seen, c0, hu.heap h1 hr, hu.heap h2 hb, k⟩
/-- what is left are entries of the map, with keys apart -/
theorem RangeE.sub {w : World} {r b : Nat} {m left : List (Int × Value)} (h : RangeE w r b m left) : (∀ p ∈ left, p ∈ m) ∧ (left.map (·.1)).Nodup := by
  have hn := h.map.nodup
  obtain ⟨es, c, s, seen, c0, h1, h2, h3, h4, h5, h6, h7⟩ := h
  have hinj : ∀ {p q : Int × Value}, (Value.int .i64 p.1, p.2) = (Value.int .i64 q.1, q.2) → p = q := by
    intro p q e
    obtain ⟨a, b⟩ := p
    obtain ⟨c, d⟩ := q
    simp at e
    simp [e.1, e.2]
  have hsl : (leftOf es seen).toList.Sublist es.toList := by
    unfold leftOf
    rw [Array.toList_filter]
    exact List.filter_sublist
  have hsub : (left.map (fun p => (Value.int .i64 p.1, p.2))).Sublist (m.map (fun p => (Value.int .i64 p.1, p.2))) := by
    rw [← h7, ← h4]; exact hsl.map _
  refine ⟨fun p hp => ?_, ?_⟩
  · have := hsub.subset (List.mem_map_of_mem hp)
    obtain ⟨q, hq, e⟩ := List.mem_map.1 this
    rw [← hinj e]; exact hq
  · have h8 := hsub.map (fun q : Value × Value => q.1)
    rw [List.map_map, List.map_map] at h8
    have h9 : ((m.map (·.1)).map (Value.int .i64)).Nodup := by
      unfold List.Nodup
      rw [List.pairwise_map]
      exact List.Pairwise.imp (fun hab e => hab (by simpa using e)) hn
    have h10 : (left.map ((fun q : Value × Value => q.1) ∘ fun p : Int × Value => (Value.int .i64 p.1, p.2))).Nodup := h8.nodup (by rw [List.map_map] at h9; exact h9)
    have h11 : (left.map ((fun q : Value × Value => q.1) ∘ fun p : Int × Value => (Value.int .i64 p.1, p.2))) = (left.map (·.1)).map (Value.int .i64) := by rw [List.map_map]; rfl
    rw [h11] at h10
    exact nodup_of_map _ h10

theorem MapE.run_range {P : Program} {w : World} {b : Nat} {m : List (Int × Value)} {t kt et : TypeId} (h : MapE w b m) (ht : P.underlying t = some (.map kt et)) :
    ∃ w', (Instr.range t (.map (some b))).run P w = .ok (.pointer (some ⟨w.heap.size, 0, none⟩)) w' ∧ RangeE w' w.heap.size b m m ∧ Below w.heap.size w w' ∧ w'.heap.size = w.heap.size + 1 := by
  have hlt := h.lt
  obtain ⟨es, c, hb, hst, he⟩ := h
  refine ⟨w.alloc (.mapIter (some b) c #[] c), ?_, ⟨es, c, c, #[], c, heap_alloc_new w _, (Below.heap_alloc w _ b hlt).trans hb, hst, he, hst.1, ⟨Nat.le_refl _, Nat.le_refl _⟩, ?_⟩, (Below.refl _ _).alloc (Nat.le_refl _) _, by simp⟩
  · simp [Instr.range, run_underlying ht, Go.MapKept.run_getObj_map hb, Result.andThen]
  · have : leftOf es #[] = es := by unfold leftOf; simp
    rw [this]; exact he

section wp
variable {P : Program} (w : World) {ops : Array Oper} {rest : List Oper} {o : Oper} {a : Act} {Q : Exit → Act → World → Prop} {t kt et : TypeId} {b : Nat} {m : List (Int × Value)}
theorem wpList_rangeE (hg : o.guard = none) (mo : Operand) (hop : o.op = Op.range t mo) (ht : P.underlying t = some (.map kt et)) (hm : a.eval mo = .map (some b)) (h : MapE w b m)
    (hK : ∀ w', RangeE w' w.heap.size b m m → Below w.heap.size w w' → w'.heap.size = w.heap.size + 1 → wpList P ops Q rest (a.put o.dst (.pointer (some ⟨w.heap.size, 0, none⟩))) w') : wpList P ops Q (o :: rest) a w := by
  refine wpList_plain hg fun K' hK' => ?_
  obtain ⟨w', hrun, h1, h2, h3⟩ := h.run_range (P := P) ht
  unfold Oper.wp
  simp [execOp, hop, hm, hrun, Result.andThen]
  exact hK' _ _ (hK w' h1 h2 h3)
theorem wpList_nextE (hg : o.guard = none) (it : Operand) (hop : o.op = Op.next it false) {r : Nat} {left : List (Int × Value)} (hit : a.eval it = .pointer (some ⟨r, 0, none⟩)) (h : RangeE w r b m left)
    (hDone : left = [] → wpList P ops Q rest (a.put o.dst (.tuple #[.bool false])) w)
    (hMore : ∀ (k : Int) (v : Value) (w' : World), (k, v) ∈ left → m.lookup k = some v → RangeE w' r b m (adel left k) → Upd (fun j => j = r) w w' → w'.heap.size = w.heap.size → (Instr.entry (.pointer (some ⟨r, 0, none⟩))).run P w' = .ok (.tuple #[.int .i64 k, v]) w' →
      wpList P ops Q rest (a.put o.dst (.tuple #[.bool true, .int .i64 k, v])) w') : wpList P ops Q (o :: rest) a w := by
  refine wpList_plain hg fun K' hK' => ?_
  unfold Oper.wp
  have hsub := h.sub
  have hnd := h.map.nodup
  have hne := h.ne
  obtain ⟨es, c, since, seen, c0, h1, h2, h3, h4, h5, h6, h7⟩ := h
  rcases run_next_at (P := P) w o.type r b since c0 seen es c h1 h2 h5 h6.1 with ⟨h0, hrun⟩ | ⟨e, he, w1, hw1, hrun⟩
  · simp [execOp, hop, hit, hrun, Result.andThen]
    refine hK' _ _ (hDone ?_)
    have : (leftOf es seen).toList = [] := by
      apply List.eq_nil_of_length_eq_zero
      simpa using h0
    rw [this] at h7
    simpa using h7.symm
  · have hmem : (e.key, e.val) ∈ left.map (fun p => (Value.int .i64 p.1, p.2)) := by rw [← h7]; exact List.mem_map.2 ⟨e, he, rfl⟩
    obtain ⟨⟨k, v⟩, hp, hpe⟩ := List.mem_map.1 hmem
    simp at hpe
    obtain ⟨ek, ev⟩ := hpe
    have hes : e ∈ es.toList := by
      have : e ∈ leftOf es seen := by simpa using he
      unfold leftOf at this
      simp at this
      simpa using this.1
    have hr1 : w1.heap[r]? = some (.mapIter (some b) since seen c0) := by rcases hw1 with rfl | rfl <;> exact h1
    have hb1 : w1.heap[b]? = some (.map es c) := by rcases hw1 with rfl | rfl <;> exact h2
    have hset := heap_set (o' := Obj.mapIter (some b) since (seen.push e.born) c) hr1
    have hrg : RangeE (Go.ChangeMaps.setBlock w1 r (.mapIter (some b) since (seen.push e.born) c)) r b m (adel left k) := by
      refine ⟨es, c, since, seen.push e.born, c, hset.1, (hset.2 b (Ne.symm hne)).trans hb1, h3, h4, h5, ⟨h6.2, h6.2⟩, ?_⟩
      have e1 : (leftOf es (seen.push e.born)).toList = (leftOf es seen).toList.filter (fun x => x.born != e.born) := by
        unfold leftOf
        rw [Array.toList_filter, Array.toList_filter, List.filter_filter]
        apply List.filter_congr
        intro x _
        rw [Bool.eq_iff_iff]
        simp [Array.contains_push]
        exact ⟨fun q => ⟨q.2, q.1⟩, fun q => ⟨q.2, q.1⟩⟩
      have e2 : (leftOf es seen).toList.filter (fun x => x.born != e.born) = (leftOf es seen).toList.filter ((fun q : Value × Value => vkey q.1 != k) ∘ fun x : MapEntry => (x.key, x.val)) := by
        apply List.filter_congr
        intro x hx
        have hxe : x ∈ es.toList := by
          have : x ∈ leftOf es seen := by simpa using hx
          unfold leftOf at this
          simp at this
          simpa using this.1
        have same : x.born = e.born ↔ x.key = e.key := by
          have n1 : ∀ {f : MapEntry → Nat}, (es.toList.map f).Nodup → f x = f e → x = e := fun {f} hf hq => by
            obtain ⟨i, hi⟩ := List.getElem?_of_mem hxe
            obtain ⟨j, hj⟩ := List.getElem?_of_mem hes
            have a1 : (es.toList.map f)[i]? = some (f x) := by rw [List.getElem?_map, hi]; rfl
            have a2 : (es.toList.map f)[j]? = some (f e) := by rw [List.getElem?_map, hj]; rfl
            have l1 := (List.getElem?_eq_some_iff.1 a1).1
            have hij : i = j := (List.getElem?_inj l1 hf).1 (by rw [a1, a2, hq])
            subst hij
            exact Option.some.inj (hi.symm.trans hj)
          have n2 : ∀ {f : MapEntry → Value}, (es.toList.map f).Nodup → f x = f e → x = e := fun {f} hf hq => by
            obtain ⟨i, hi⟩ := List.getElem?_of_mem hxe
            obtain ⟨j, hj⟩ := List.getElem?_of_mem hes
            have a1 : (es.toList.map f)[i]? = some (f x) := by rw [List.getElem?_map, hi]; rfl
            have a2 : (es.toList.map f)[j]? = some (f e) := by rw [List.getElem?_map, hj]; rfl
            have l1 := (List.getElem?_eq_some_iff.1 a1).1
            have hij : i = j := (List.getElem?_inj l1 hf).1 (by rw [a1, a2, hq])
            subst hij
            exact Option.some.inj (hi.symm.trans hj)
          exact ⟨fun q => by rw [n1 h3.2.1 q], fun q => by rw [n2 h3.2.2 q]⟩
        have hxm : (x.key, x.val) ∈ m.map (fun p => (Value.int .i64 p.1, p.2)) := by rw [← h4]; exact List.mem_map.2 ⟨x, hxe, rfl⟩
        obtain ⟨q, -, hq⟩ := List.mem_map.1 hxm
        have hqk := (Prod.mk.inj hq).1
        rw [Bool.eq_iff_iff]
        simp only [Function.comp, bne_iff_ne, ne_eq]
        rw [same, ← ek, ← hqk]
        simp [vkey]
      rw [e1, e2, ← List.filter_map, h7, List.filter_map]
      rfl
    have hen := run_entry_at (P := P) (Go.ChangeMaps.setBlock w1 r (.mapIter (some b) since (seen.push e.born) c)) r b since seen es c e hset.1 ((hset.2 b (Ne.symm hne)).trans hb1) hes h3.2.1
    rw [← ek, ← ev] at hrun hen
    simp [execOp, hop, hit, hrun, Result.andThen]
    refine hK' _ _ (hMore k v _ hp ?_ hrg ?_ ?_ hen)
    · exact (lookup_mem_iff hnd).2 (hsub.1 _ hp)
    · rcases hw1 with rfl | rfl
      · exact ⟨rfl, rfl, rfl, by simp [Go.ChangeMaps.setBlock], fun j _ hj => hset.2 j hj⟩
      · exact ⟨rfl, rfl, rfl, by simp [Go.ChangeMaps.setBlock], fun j _ hj => hset.2 j hj⟩
    · rcases hw1 with rfl | rfl <;> simp [Go.ChangeMaps.setBlock]
end wp
theorem keys_adel {left : List (Int × Value)} (k : Int) : ∀ j : Int, j ∈ (adel left k).map (·.1) ↔ j ∈ left.map (·.1) ∧ j ≠ k := by
  intro j
  unfold adel
  simp only [List.mem_map, List.mem_filter, bne_iff_ne, ne_eq]
  constructor
  · rintro ⟨p, ⟨h1, h2⟩, rfl⟩; exact ⟨⟨p, h1, rfl⟩, h2⟩
  · rintro ⟨⟨p, h1, rfl⟩, h2⟩; exact ⟨p, ⟨h1, h2⟩, rfl⟩
theorem adel_len {left : List (Int × Value)} {k : Int} {v : Value} (h : (k, v) ∈ left) : (adel left k).length < left.length := by
  unfold adel
  rcases Nat.lt_or_ge (left.filter (fun p => p.1 != k)).length left.length with q | q
  · exact q
  · have e : left.filter (fun p => p.1 != k) = left := List.filter_eq_self.2 (by
      have := (List.length_filter_eq_length_iff (l := left) (p := fun p => p.1 != k)).1 (Nat.le_antisymm (List.length_filter_le _ _) q)
      exact this)
    have := List.filter_eq_self.1 e (k, v) h
    simp at this
end Go.Proofs.Ytohknblokejldaa
end
section
/- append of one element, as an equation on the run; a store into an own row. No program in sight. -/
namespace Go.Proofs.Ytohknblokejldaa
open Go.RowKit
open Go.Lib (hid)
set_option linter.unusedVariables false

theorem run_app1 {P : Program} {t e : TypeId} {z : Value} {size bytes : Nat} (T : SlT P t e z size bytes) (w : World) (ty : TypeId) (base : Nat) (v : Value) (n : Nat) (xs : List Value) (hown : w.ownsRow base e size v n xs)
    (us : Array Value) (hl : us.size = size) (h1 : ∀ u ∈ us.toList, u.oneCell' = true) (hbytes : (n + 1) * bytes ≤ 140737488355328) (hbase : base ≤ w.heap.size) :
    ∃ v' w', (Builtin.append_ #[t, t] ty #[v, .slice (some ⟨w.heap.size, 0, none⟩) 1 1]).run P (w.alloc (.cells us e)) = .ok v' w' ∧ w'.ownsRow base e size v' (n + 1) (xs ++ us.toList) ∧ w.grownBy w' v.ownBlock ∧ v' ≠ .slice none 0 0 ∧
      (∀ k, v'.ownBlock = some k → v.ownBlock = some k ∨ w.heap.size ≤ k) := by
  obtain ⟨i, hi, hz, hsz, hby⟩ := T.info
  have h63 : n + 1 ≤ maxLen := by
    have : (n + 1) * 1 ≤ (n + 1) * bytes := Nat.mul_le_mul_left _ T.bpos
    unfold maxLen; omega
  have hnews : ∀ j u, us.toList[j]? = some u → (w.alloc (.cells us e)).cell? ((⟨w.heap.size, 0, none⟩ : Addr).add j) = some u := by
    intro j u hu
    rw [Addr.add_lit, Nat.zero_add, World.cell?_alloc_new]
    simpa using hu
  obtain ⟨v', w', hr, h2, h3, h4⟩ := run_append_own (P := P) (w.alloc (.cells us e)) base t ty e i z size bytes T.u hi hz hsz hby T.zs T.pos v n xs (hown.alloc _) ⟨w.heap.size, 0, none⟩ 1 1 us.toList (by simpa using hl) hnews h1 h63 hbytes (by simp; omega)
  have hwh := run_append_where (P := P) (w.alloc (.cells us e)) T (hown.alloc _) (by simpa using hl) hnews h1 hbytes hr
  exact ⟨v', w', hr, h2, ⟨h3.os, h3.tape, h3.output, by have := h3.size; simp at this; omega, fun k hk hne => (h3.block k (by simp; omega) hne).trans (Below.heap_alloc w _ k hk)⟩, fun e => by simp [h4] at e,
    fun k hk => by rcases hwh k hk with x | x; exact .inl x; exact .inr (by simp at x; omega)⟩
theorem step_app1 {P : Program} {t e : TypeId} {z : Value} {size bytes : Nat} (T : SlT P t e z size bytes) {W : World} (w : World) {us : Array Value} (hW : W = w.alloc (.cells us e)) {ops : Array Oper} {o : Oper} {a : Act} {K : Act → World → Prop} {Q : Exit → Act → World → Prop} {E : Prop}
    (hgd : o.guard = none) (s x : Operand) (ho : o.op = .call { callee := .builtin .append, args := #[s, x], argTypes := #[t, t] })
    (base : Nat) (v : Value) (n : Nat) (xs : List Value) (hs : a.eval s = v) (hown : w.ownsRow base e size v n xs)
    (hx : a.eval x = .slice (some ⟨w.heap.size, 0, none⟩) 1 1) (hl : us.size = size) (h1 : ∀ u ∈ us.toList, u.oneCell' = true)
    (hbytes : (n + 1) * bytes ≤ 140737488355328) (hbase : base ≤ w.heap.size)
    (h : ∀ v' w', w'.ownsRow base e size v' (n + 1) (xs ++ us.toList) → w.grownBy w' v.ownBlock → v' ≠ .slice none 0 0 → (∀ k, v'.ownBlock = some k → v.ownBlock = some k ∨ w.heap.size ≤ k) → K (a.put o.dst v') w') :
    if Region.wanted o (yielded ops a.tmps) = true then Oper.wp P o a W K Q else E := by
  have hw : Region.wanted o (yielded ops a.tmps) = true := by simp [Region.wanted, hgd]
  rw [if_pos hw]
  subst hW
  obtain ⟨v', w', hr, h2, h3, h4, h5⟩ := run_app1 (P := P) T w o.type base v n xs hown us hl h1 hbytes hbase
  unfold Oper.wp execOp
  simp only [ho, resolve, invoke, builtin, Sem.run_bind, Sem.run_pure, Result.andThen_ok, List.map_toArray, List.map_cons, List.map_nil, hs, hx, hr]
  exact h v' w' h2 h3 h4 h5
/-- []T{..}: a row of the call's own -/
theorem step_lit {P : Program} {W : World} {us : Array Value} {t e : TypeId} {n size : Nat} {parts : Array (Nat × Operand)} {ps : Array (Nat × Value)} {ops : Array Oper} {o : Oper} {a : Act} {K : Act → World → Prop} {Q : Exit → Act → World → Prop} {E : Prop}
    (hgd : o.guard = none) (hop : o.op = .buildSlice t n parts) (hps : (parts.map fun p => (p.1, a.eval p.2)) = ps) (hrun : (Instr.buildSlice t n ps).run P W = .ok (.slice (some ⟨W.heap.size, 0, none⟩) n n) (W.alloc (.cells us e))) (hl : us.size = n * size) (hn : n ≤ 1000)
    (h : ∀ g W', W.heap.size = g → Below W.heap.size W W' → W'.heap.size = g + 1 → W'.ownsRow g e size (.slice (some ⟨g, 0, none⟩) n n) n us.toList → K (a.put o.dst (.slice (some ⟨g, 0, none⟩) n n)) W') :
    if Region.wanted o (yielded ops a.tmps) = true then Oper.wp P o a W K Q else E := by
  have hw : Region.wanted o (yielded ops a.tmps) = true := by simp [Region.wanted, hgd]
  rw [if_pos hw]
  unfold Oper.wp execOp
  simp only [hop]
  have e1 : (parts.map fun (i, x) => (i, a.eval x)) = parts.map fun p => (p.1, a.eval p.2) := rfl
  rw [e1, hps]
  simp [hrun, Result.andThen, Oper.upon]
  exact h _ _ rfl ((Below.refl _ _).alloc (Nat.le_refl _) _) (by simp) ⟨by simpa using hl, .inr ⟨W.heap.size, n, us, rfl, Nat.le_refl _, heap_alloc_new W _, Nat.le_refl _, by unfold maxLen; omega, hl, by rw [List.take_of_length_le (by simp [hl])]⟩⟩
theorem step_appN {P : Program} {t e : TypeId} {z : Value} {size bytes : Nat} (T : SlT P t e z size bytes) {w : World} {ops : Array Oper} {o : Oper} {a : Act} {K : Act → World → Prop} {Q : Exit → Act → World → Prop} {E : Prop}
    (hgd : o.guard = none) (s x : Operand) (ho : o.op = .call { callee := .builtin .append, args := #[s, x], argTypes := #[t, t] })
    (base : Nat) (v : Value) (n : Nat) (xs : List Value) (hs : a.eval s = v) (hown : w.ownsRow base e size v n xs)
    (ao : Option Addr) (m c : Nat) (news : List Value) (hx : a.eval x = .slice ao m c) (hl : news.length = m * size) (hc0 : m = 0 → ao = none → c = 0) (hrd : Rd w ao news) (h1 : ∀ u ∈ news, u.oneCell' = true)
    (hbytes : (n + m) * bytes ≤ 140737488355328) (hbase : base ≤ w.heap.size)
    (h : ∀ v' w', w'.ownsRow base e size v' (n + m) (xs ++ news) → w.grownBy w' v.ownBlock → (v' = .slice none 0 0 ↔ v = .slice none 0 0 ∧ m = 0) → (∀ k, v'.ownBlock = some k → v.ownBlock = some k ∨ w.heap.size ≤ k) → K (a.put o.dst v') w') :
    if Region.wanted o (yielded ops a.tmps) = true then Oper.wp P o a w K Q else E := by
  have hw : Region.wanted o (yielded ops a.tmps) = true := by simp [Region.wanted, hgd]
  rw [if_pos hw]
  obtain ⟨i, hi, hz, hsz, hby⟩ := T.info
  have h63 : n + m ≤ maxLen := by
    have : (n + m) * 1 ≤ (n + m) * bytes := Nat.mul_le_mul_left _ T.bpos
    unfold maxLen; omega
  cases ao with
  | some ad =>
    have hnews : ∀ j u, news[j]? = some u → w.cell? (ad.add j) = some u := by
      intro j u hu
      obtain ⟨b, off, had, hc⟩ := hrd j (by have := (List.getElem?_eq_some_iff.1 hu).1; exact this)
      obtain rfl := Option.some.inj had
      rw [Addr.add_lit, hc, hu]
    obtain ⟨v', w', hr, h2, h3, h4⟩ := run_append_own (P := P) w base t o.type e i z size bytes T.u hi hz hsz hby T.zs T.pos v n xs hown ad m c news hl hnews h1 h63 hbytes hbase
    have hwh := run_append_where (P := P) w T hown hl hnews h1 hbytes hr
    unfold Oper.wp execOp
    simp only [ho, resolve, invoke, builtin, Sem.run_bind, Sem.run_pure, Result.andThen_ok, List.map_toArray, List.map_cons, List.map_nil, hs, hx, hr]
    exact h v' w' h2 h3 h4 hwh
  | none =>
    have hn : news = [] := by
      cases news with
      | nil => rfl
      | cons y ys => obtain ⟨b, off, had, _⟩ := hrd 0 (by simp); cases had
    subst hn
    have hm0 : m = 0 := by
      have := T.pos
      simp only [List.length_nil] at hl
      rcases Nat.eq_zero_or_pos m with h | h
      · exact h
      · have := Nat.mul_pos h T.pos; omega
    subst hm0
    obtain rfl := hc0 rfl rfl
    have hrun := run_append_owned_none (P := P) w base t o.type e i size T.u hi v n xs hown
    unfold Oper.wp
    simp [execOp, ho, resolve, invoke, builtin, hs, hx, hrun, Result.andThen, Oper.upon]
    exact h v w (by simpa using hown) (World.grownBy.refl _ _) (by simp) (fun k hk => .inl hk)
theorem step_make {P : Program} {t e : TypeId} {z : Value} {bytes : Nat} (T : SlT P t e z 1 bytes) (hzc : z.cells = #[z]) {w : World} {ops : Array Oper} {o : Oper} {a : Act} {K : Act → World → Prop} {Q : Exit → Act → World → Prop} {E : Prop}
    (hg : o.guard = none) (l c : Operand) (hop : o.op = Op.makeSlice t l c) (base : Nat) (kl kc : IntKind) (L C : Int) (n m : Nat) (hl : a.eval l = .int kl L) (hc : a.eval c = .int kc C) (hL : L = (n : Int)) (hC : C = (m : Int)) (hnm : n ≤ m)
    (b2 : bytes * m ≤ 281474976710656) (b4 : base ≤ w.heap.size)
    (hK : ∀ g w', w.heap.size = g → w'.ownsRow base e 1 (.slice (some ⟨g, 0, none⟩) n m) n (List.replicate n z) → Below w.heap.size w w' → w'.heap.size = g + 1 → K (a.put o.dst (.slice (some ⟨g, 0, none⟩) n m)) w') :
    if Region.wanted o (yielded ops a.tmps) = true then Oper.wp P o a w K Q else E := by
  have hw : Region.wanted o (yielded ops a.tmps) = true := by simp [Region.wanted, hg]
  rw [if_pos hw]
  obtain ⟨i, hi, hz, hsz, hby⟩ := T.info
  have hm : m ≤ maxLen := by
    have : 1 * m ≤ bytes * m := Nat.mul_le_mul_right _ T.bpos
    unfold maxLen; omega
  have hb' : (i.bytes : Int) * (m : Int) ≤ 281474976710656 := by
    have h : ((i.bytes * m : Nat) : Int) ≤ 281474976710656 := by rw [hby]; omega
    rwa [Int.natCast_mul] at h
  have hr := run_make (P := P) w t e i z T.u hi hz kl kc n m (by omega) (by omega) hb' (by unfold maxLen at hm; omega)
  simp only [Int.toNat_natCast] at hr
  subst hL
  subst hC
  unfold Oper.wp
  simp [execOp, hop, hl, hc, hr, Result.andThen, Oper.upon]
  refine hK _ _ rfl ?_ ((Below.refl _ _).alloc (Nat.le_refl _) _) (by simp)
  rw [hsz, Nat.mul_one]
  refine ⟨by simp, .inr ⟨w.heap.size, m, _, rfl, b4, heap_alloc_new w _, hnm, hm, by simp [size_madeCells], ?_⟩⟩
  rw [hzc, toList_madeCells_one]
  simp [hnm]
theorem owns_below {w w' : World} {base : Nat} {e : TypeId} {v : Value} {n : Nat} {xs : List Value} {size : Nat} (h : w.ownsRow base e size v n xs) (hb : Below w.heap.size w w') : w'.ownsRow base e size v n xs :=
  Upd.owns (S := fun _ => False) (Upd.of_below hb) h (fun _ _ x => x)
theorem Upd.new {S : Nat → Prop} {w w' : World} (h : Upd S w w') (o : Obj) : Upd S w (w'.alloc o) := h.trans (Upd.of_below (S := fun _ => False) ((Below.refl _ _).alloc (Nat.le_refl _) o)) (fun _ _ x => x.elim)
theorem Upd.drew {S : Nat → Prop} {w w' : World} (h : Upd S w w') : Upd S w w'.drew := ⟨h.os, h.tape, h.output, h.size, h.block⟩
theorem Upd.drewN {S : Nat → Prop} {w w' : World} (h : Upd S w w') (n : Nat) : Upd S w (w'.drewN n) := ⟨h.os, h.tape, h.output, h.size, h.block⟩
end Go.Proofs.Ytohknblokejldaa
end
section
/- A region that draws its order: reads are taken first while S holds; the operations of 'ex' wait for all others, and behind them S need not hold. No program in sight. -/
namespace Go.Proofs.Ytohknblokejldaa
set_option linter.unusedVariables false
section
variable {P : Program} {ops : Array Oper} {Q : Exit → Act → World → Prop} {md : Region.Mode} {S : World → Prop} {ex : List Nat}

/-- the operations of ex wait for all that are not of ex -/
def lateOk (md : Region.Mode) (ops : Array Oper) (ex : List Nat) : Bool :=
  ex.all fun j => (List.range ops.size).all fun k => ex.contains k || ((ops[j]?.map fun o => o.after.any fun e => Region.binds md e && e.on == k).getD false)
theorem lateOk_spec (h : lateOk md ops ex = true) {j i : Nat} (hj : j ∈ ex) (hi : i < ops.size) (hn : i ∉ ex) : ∃ o, ops[j]? = some o ∧ ∃ e ∈ o.after, Region.binds md e = true ∧ e.on = i := by
  have h1 := List.all_eq_true.1 (List.all_eq_true.1 h j hj) i (List.mem_range.2 hi)
  rw [Bool.or_eq_true] at h1
  rcases h1 with h2 | h2
  · exact absurd (by simpa using h2) hn
  · cases ho : ops[j]? with
    | none => rw [ho] at h2; simp at h2
    | some o =>
      rw [ho] at h2
      simp only [Option.map_some, Option.getD_some, Array.any_eq_true] at h2
      obtain ⟨m, hm, hb⟩ := h2
      simp only [Bool.and_eq_true, beq_iff_eq] at hb
      exact ⟨o, rfl, o.after[m], Array.getElem_mem hm, hb.1, hb.2⟩

def wpK (P : Program) (md : Region.Mode) (ops : Array Oper) (Q : Exit → Act → World → Prop) (ex : List Nat) (S : World → Prop) : Nat → Array Bool → Act → World → Prop
  | 0, l, a, w => Region.ready md ops l = [] ∧ Q .normal a w
  | n + 1, l, a, w => (Region.ready md ops l = [] → Q .normal a w) ∧ ∀ i ∈ Region.ready md ops l, wpOp P ops Q i (fun a' w' => (i ∈ ex ∨ S w') ∧ wpK P md ops Q ex S n (l.setIfInBounds i true) a' w') a w
theorem wpK.any : ∀ (n : Nat) (l : Array Bool) (a : Act) (w : World), wpK P md ops Q ex S n l a w → wpAny P md ops Q n l a w
  | 0, _, _, _, h => h
  | n + 1, _, _, _, h => ⟨h.1, fun i hi => wpOp_mono (fun a' w' k => wpK.any n _ a' w' k.2) (h.2 i hi)⟩

theorem wpK.first (hex : lateOk md ops ex = true) {i : Nat} {oi : Oper} {v : Value} (hi : ops[i]? = some oi) (hin : i ∉ ex) (hsel : ∀ (j : Nat) (o : Oper) cs b, ops[j]? = some o → o.op ≠ .select cs b)
    (hQ : ∀ c a w, Q (.panic c) (a.put oi.dst v) w → Q (.panic c) a w) : ∀ (n : Nat) (l : Array Bool) (a : Act) (w : World),
      (∀ j oj, ops[j]? = some oj → j ≠ i → l.getD j true = false → (∀ e ∈ oj.after, Region.binds md e = true → e.on ≠ i) → oi.apart ops oj = true) →
      i ∈ Region.ready md ops l → YieldsIf P ops S oi v a → S w → wpK P md ops Q ex S n (l.setIfInBounds i true) (a.put oi.dst v) w → wpK P md ops Q ex S (n + 1) l a w := by
  -- an operation of ex does not come up while i has not
  have hno : ∀ (l : Array Bool) (j : Nat), i ∈ Region.ready md ops l → j ∈ Region.ready md ops l → j ∉ ex := by
    intro l j hir hjr hje
    obtain ⟨o, ho, e, he, hb, hon⟩ := lateOk_spec hex hje (Array.getElem?_eq_some_iff.1 hi).1 hin
    obtain ⟨-, o', ho', hall⟩ := mem_ready.1 hjr
    obtain rfl : o = o' := by rw [ho] at ho'; exact Option.some.inj ho'
    have h1 := hall e he hb
    have h0 := (mem_ready.1 hir).1
    rw [hon] at h1
    rcases Nat.lt_or_ge i l.size with h' | h'
    · simp [h'] at h0 h1; rw [h0] at h1; cases h1
    · simp [Array.getElem?_eq_none h'] at h1
  intro n
  induction n with
  | zero =>
    intro l a w hfree hr hy hS H
    refine ⟨fun h => (by rw [h] at hr; cases hr), fun j hj => ?_⟩
    by_cases hji : j = i
    · subst hji; exact hy.wpOp hi hS ⟨.inr hS, H⟩
    · have := ready_mono hj hji
      rw [H.1] at this
      cases this
  | succ n ih =>
    intro l a w hfree hr hy hS H
    refine ⟨fun h => (by rw [h] at hr; cases hr), fun j hj => ?_⟩
    by_cases hji : j = i
    · subst hji; exact hy.wpOp hi hS ⟨.inr hS, H⟩
    · have hjx := hno l j hr hj
      obtain ⟨hjun, oj, hoj, hall⟩ := mem_ready.1 hj
      have hnot : ∀ e ∈ oj.after, Region.binds md e = true → e.on ≠ i := fun e he hb heq => by
        have h1 := hall e he hb
        have h0 := (mem_ready.1 hr).1
        rw [heq] at h1
        rcases Nat.lt_or_ge i l.size with h' | h'
        · simp [h'] at h0 h1; rw [h0] at h1; cases h1
        · simp [Array.getElem?_eq_none h'] at h1
      have h2 := wpOp_putIf hoj (hfree j oj hoj hji hjun hnot) (fun cs b => hsel i oi cs b hi) (fun cs b => hsel j oj cs b hoj) hQ hy (H.2 j (ready_mono hj hji))
      refine wpOp_mono (fun a' w' k => ?_) h2
      have hS' : S w' := k.2.1.resolve_left hjx
      refine ⟨.inr hS', ih _ a' w' (fun m om hm hmi hun hno' => ?_) (ready_mono hr (Ne.symm hji)) k.1 hS' (by rw [Array.setIfInBounds_comm _ _ hji]; exact k.2.2)⟩
      refine hfree m om hm hmi ?_ hno'
      by_cases hjm : j = m
      · subst hjm; exact hjun
      · rw [getD_set_ne true hjm] at hun; exact hun

/-- operation i is taken first -/
theorem wpK.take {i : Nat} {oi : Oper} {v : Value} {n : Nat} {l : Array Bool} {a : Act} {w : World} (hi : ops[i]? = some oi) (hex : lateOk md ops ex = true) (hin : ex.contains i = false)
    (hs : Region.noSelect ops = true) (hf : Region.free md ops l i = true) (hr : (Region.ready md ops l).contains i = true)
    (hQ : ∀ c a w, Q (.panic c) (a.put oi.dst v) w → Q (.panic c) a w) (hy : YieldsIf P ops S oi v a) (hS : S w)
    (h : wpK P md ops Q ex S n (l.setIfInBounds i true) (a.put oi.dst v) w) : wpK P md ops Q ex S (n + 1) l a w :=
  wpK.first hex hi (by simpa using hin) (Region.noSelect_spec hs) hQ n l a w (Region.free_spec hi hf) (by simpa using hr) hy hS h
/-- operation i alone may come up now -/
theorem wpK.step {i : Nat} {oi : Oper} {n : Nat} {l : Array Bool} {a : Act} {w : World} (hr : Region.ready md ops l = [i]) (ho : ops[i]? = some oi)
    (h : ∀ K' : Act → World → Prop, Shut (∀ a w, S w → (S w → wpK P md ops Q ex S n (l.setIfInBounds i true) a w) → K' a w) → if Region.wanted oi (yielded ops a.tmps) = true then Oper.wp P oi a w K' Q else K' (a.put oi.dst undef) w) :
    wpK P md ops Q ex S (n + 1) l a w := by
  refine ⟨fun h0 => (by rw [hr] at h0; cases h0), fun j hj => ?_⟩
  rw [hr] at hj
  obtain rfl := List.mem_singleton.1 hj
  exact wpOp_step ho (fun K' hK => h K' (fun a w hS hW => hK a w ⟨.inr hS, hW hS⟩))
/-- one of two comes up now -/
theorem wpK.two {i j : Nat} {oi oj : Oper} {n : Nat} {l : Array Bool} {a : Act} {w : World} (hr : Region.ready md ops l = [i, j]) (ho : ops[i]? = some oi) (ho' : ops[j]? = some oj)
    (h : ∀ K' : Act → World → Prop, Shut (∀ a w, S w → (S w → wpK P md ops Q ex S n (l.setIfInBounds i true) a w) → K' a w) → if Region.wanted oi (yielded ops a.tmps) = true then Oper.wp P oi a w K' Q else K' (a.put oi.dst undef) w)
    (h' : ∀ K' : Act → World → Prop, Shut (∀ a w, S w → (S w → wpK P md ops Q ex S n (l.setIfInBounds j true) a w) → K' a w) → if Region.wanted oj (yielded ops a.tmps) = true then Oper.wp P oj a w K' Q else K' (a.put oj.dst undef) w) :
    wpK P md ops Q ex S (n + 1) l a w := by
  refine ⟨fun h0 => (by rw [hr] at h0; cases h0), fun k hk => ?_⟩
  rw [hr] at hk
  rcases List.mem_cons.1 hk with rfl | hk
  · exact wpOp_step ho (fun K' hK => h K' (fun a w hS hW => hK a w ⟨.inr hS, hW hS⟩))
  · obtain rfl := List.mem_singleton.1 hk
    exact wpOp_step ho' (fun K' hK => h' K' (fun a w hS hW => hK a w ⟨.inr hS, hW hS⟩))
/-- the same, of an operation behind which S need not hold -/
theorem wpK.late {i : Nat} {oi : Oper} {n : Nat} {l : Array Bool} {a : Act} {w : World} (hr : Region.ready md ops l = [i]) (ho : ops[i]? = some oi) (hin : ex.contains i = true)
    (h : ∀ K' : Act → World → Prop, Shut (∀ a w, wpK P md ops Q ex S n (l.setIfInBounds i true) a w → K' a w) → if Region.wanted oi (yielded ops a.tmps) = true then Oper.wp P oi a w K' Q else K' (a.put oi.dst undef) w) :
    wpK P md ops Q ex S (n + 1) l a w := by
  refine ⟨fun h0 => (by rw [hr] at h0; cases h0), fun j hj => ?_⟩
  rw [hr] at hj
  obtain rfl := List.mem_singleton.1 hj
  exact wpOp_step ho (fun K' hK => h K' (fun a w hW => hK a w ⟨.inl (by simpa using hin), hW⟩))
theorem wpK.done {l : Array Bool} {a : Act} {w : World} (hr : Region.ready md ops l = []) (h : Q .normal a w) : ∀ n, wpK P md ops Q ex S n l a w
  | 0 => ⟨hr, h⟩
  | _ + 1 => ⟨fun _ => h, by rw [hr]; simp⟩
theorem wp_region_kept (ex : List Nat) (S : World → Prop) {id : Nat} {a : Act} {w : World} (hm : P.follows .mixedOrders = true) (hS : S w.drew)
    (h : S w.drew → wpK P .any ops Q ex S ops.size (Array.replicate ops.size false) a w.drew) : (Code.region id ops true).wp P Q a w :=
  wp_region_any hm (wpK.any _ _ _ _ (h hS))
end
end Go.Proofs.Ytohknblokejldaa
end
