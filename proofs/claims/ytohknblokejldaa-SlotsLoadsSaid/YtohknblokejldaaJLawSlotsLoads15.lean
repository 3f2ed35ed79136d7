/- Joined texts, in this order: MapRange, Disk. Each one's first remark says what it proves; no condition beyond those that its theorems name. -/
import Derived.Test.YtohknblokejldaaJLawSlotsLoads14
import Derived.Maps.RangeWalk
import Derived.Test.YtohknblokejldaaJLawSlotsLoads03
import Derived.Test.YtohknblokejldaaJLawSlotsLoads07
import Derived.Test.YtohknblokejldaaJLawSlotsLoads08
section
/- Ranging over a map from integers, entry by entry. No program in sight. -/
namespace Go.Proofs.Ytohknblokejldaa
open Go.RowKit
open Go.Lib (hid)
open Go.MapKept
set_option linter.unusedVariables false

def vkey : Value → Int
  | .int _ a => a
  | _ => 0
/-- at block r stands an iterator over the map at block b: what is left to come -/
def RangeE (w : World) (r b : Nat) (m left : List (Int × Value)) : Prop :=
  ∃ es clock since seen c0, w.heap[r]? = some (.mapIter (some b) since seen c0) ∧ w.heap[b]? = some (.map es clock) ∧ Stamped es clock ∧ es.toList.map (fun e => (e.key, e.val)) = m.map (fun p => (Value.int .i64 p.1, p.2)) ∧
    (∀ x ∈ es.toList, x.born < since) ∧ (since ≤ c0 ∧ since ≤ clock) ∧ (leftOf es seen).toList.map (fun e => (e.key, e.val)) = left.map (fun p => (Value.int .i64 p.1, p.2))
/-- how many are left to come -/
def rangeN (w : World) (r b : Nat) : Nat := match w.heap[r]?, w.heap[b]? with
  | some (.mapIter _ _ seen _), some (.map es _) => (leftOf es seen).size
  | _, _ => 0
theorem RangeE.len {w : World} {r b : Nat} {m left : List (Int × Value)} (h : RangeE w r b m left) : rangeN w r b = left.length := by
  obtain ⟨es, c, s, seen, c0, h1, h2, -, -, -, -, h7⟩ := h
  unfold rangeN
  rw [h1, h2]
  have := congrArg List.length h7
  simpa using this
theorem RangeE.map {w : World} {r b : Nat} {m left : List (Int × Value)} (h : RangeE w r b m left) : MapE w b m := by
  obtain ⟨es, c, s, seen, c0, h1, h2, h3, h4, -⟩ := h; exact ⟨es, c, h2, h3, h4⟩
theorem RangeE.lt {w : World} {r b : Nat} {m left : List (Int × Value)} (h : RangeE w r b m left) : r < w.heap.size := by
  obtain ⟨es, c, s, seen, c0, h1, -⟩ := h; exact (Array.getElem?_eq_some_iff.1 h1).1
theorem RangeE.ne {w : World} {r b : Nat} {m left : List (Int × Value)} (h : RangeE w r b m left) : r ≠ b := by
  obtain ⟨es, c, s, seen, c0, h1, h2, -⟩ := h
  intro e; subst e; rw [h1] at h2; simp at h2
theorem RangeE.upd {S : Nat → Prop} {w w' : World} {r b : Nat} {m left : List (Int × Value)} (h : RangeE w r b m left) (hu : Upd S w w') (hr : ¬ S r) (hb : ¬ S b) : RangeE w' r b m left := by
  obtain ⟨es, c, s, seen, c0, h1, h2, k⟩ := h; exact ⟨es, c, s, seen, c0, hu.heap h1 hr, hu.heap h2 hb, k⟩
/-- what is left are entries of the map, with keys apart -/
theorem RangeE.sub {w : World} {r b : Nat} {m left : List (Int × Value)} (h : RangeE w r b m left) : (∀ p ∈ left, p ∈ m) ∧ (left.map (·.1)).Nodup := by
  have hn := h.map.nodup
  obtain ⟨es, c, s, seen, c0, h1, h2, h3, h4, h5, h6, h7⟩ := h
  have hinj : ∀ {p q : Int × Value}, (Value.int .i64 p.1, p.2) = (Value.int .i64 q.1, q.2) → p = q := by
    intro p q e
    obtain ⟨a, b⟩ := p
    obtain ⟨c, d⟩ := q
    simp at e
    simp [e.1, e.2]
  have hsl : (leftOf es seen).toList.Sublist es.toList := by
    unfold leftOf
    rw [Array.toList_filter]
    exact List.filter_sublist
  have hsub : (left.map (fun p => (Value.int .i64 p.1, p.2))).Sublist (m.map (fun p => (Value.int .i64 p.1, p.2))) := by
    rw [← h7, ← h4]; exact hsl.map _
  refine ⟨fun p hp => ?_, ?_⟩
  · have := hsub.subset (List.mem_map_of_mem hp)
    obtain ⟨q, hq, e⟩ := List.mem_map.1 this
    rw [← hinj e]; exact hq
  · have h8 := hsub.map (fun q : Value × Value => q.1)
    rw [List.map_map, List.map_map] at h8
    have h9 : ((m.map (·.1)).map (Value.int .i64)).Nodup := by
      unfold List.Nodup
      rw [List.pairwise_map]
      exact List.Pairwise.imp (fun hab e => hab (by simpa using e)) hn
    have h10 : (left.map ((fun q : Value × Value => q.1) ∘ fun p : Int × Value => (Value.int .i64 p.1, p.2))).Nodup := h8.nodup (by rw [List.map_map] at h9; exact h9)
    have h11 : (left.map ((fun q : Value × Value => q.1) ∘ fun p : Int × Value => (Value.int .i64 p.1, p.2))) = (left.map (·.1)).map (Value.int .i64) := by rw [List.map_map]; rfl
    rw [h11] at h10
    exact nodup_of_map _ h10

theorem MapE.run_range {P : Program} {w : World} {b : Nat} {m : List (Int × Value)} {t kt et : TypeId} (h : MapE w b m) (ht : P.underlying t = some (.map kt et)) :
    ∃ w', (Instr.range t (.map (some b))).run P w = .ok (.pointer (some ⟨w.heap.size, 0, none⟩)) w' ∧ RangeE w' w.heap.size b m m ∧ Below w.heap.size w w' ∧ w'.heap.size = w.heap.size + 1 := by
  have hlt := h.lt
  obtain ⟨es, c, hb, hst, he⟩ := h
  refine ⟨w.alloc (.mapIter (some b) c #[] c), ?_, ⟨es, c, c, #[], c, heap_alloc_new w _, (Below.heap_alloc w _ b hlt).trans hb, hst, he, hst.1, ⟨Nat.le_refl _, Nat.le_refl _⟩, ?_⟩, (Below.refl _ _).alloc (Nat.le_refl _) _, by simp⟩
  · simp [Instr.range, run_underlying ht, Go.MapKept.run_getObj_map hb, Result.andThen]
  · have : leftOf es #[] = es := by unfold leftOf; simp
    rw [this]; exact he

section wp
variable {P : Program} (w : World) {ops : Array Oper} {rest : List Oper} {o : Oper} {a : Act} {Q : Exit → Act → World → Prop} {t kt et : TypeId} {b : Nat} {m : List (Int × Value)}
theorem wpList_rangeE (hg : o.guard = none) (mo : Operand) (hop : o.op = Op.range t mo) (ht : P.underlying t = some (.map kt et)) (hm : a.eval mo = .map (some b)) (h : MapE w b m)
    (hK : ∀ w', RangeE w' w.heap.size b m m → Below w.heap.size w w' → w'.heap.size = w.heap.size + 1 → wpList P ops Q rest (a.put o.dst (.pointer (some ⟨w.heap.size, 0, none⟩))) w') : wpList P ops Q (o :: rest) a w := by
  refine wpList_plain hg fun K' hK' => ?_
  obtain ⟨w', hrun, h1, h2, h3⟩ := h.run_range (P := P) ht
  unfold Oper.wp
  simp [execOp, hop, hm, hrun, Result.andThen]
  exact hK' _ _ (hK w' h1 h2 h3)
theorem wpList_nextE (hg : o.guard = none) (it : Operand) (hop : o.op = Op.next it false) {r : Nat} {left : List (Int × Value)} (hit : a.eval it = .pointer (some ⟨r, 0, none⟩)) (h : RangeE w r b m left)
    (hDone : left = [] → wpList P ops Q rest (a.put o.dst (.tuple #[.bool false])) w)
    (hMore : ∀ (k : Int) (v : Value) (w' : World), (k, v) ∈ left → m.lookup k = some v → RangeE w' r b m (adel left k) → Upd (fun j => j = r) w w' → w'.heap.size = w.heap.size → (Instr.entry (.pointer (some ⟨r, 0, none⟩))).run P w' = .ok (.tuple #[.int .i64 k, v]) w' →
      wpList P ops Q rest (a.put o.dst (.tuple #[.bool true, .int .i64 k, v])) w') : wpList P ops Q (o :: rest) a w := by
  refine wpList_plain hg fun K' hK' => ?_
  unfold Oper.wp
  have hsub := h.sub
  have hnd := h.map.nodup
  have hne := h.ne
  obtain ⟨es, c, since, seen, c0, h1, h2, h3, h4, h5, h6, h7⟩ := h
  rcases run_next_at (P := P) w o.type r b since c0 seen es c h1 h2 h5 h6.1 with ⟨h0, hrun⟩ | ⟨e, he, w1, hw1, hrun⟩
  · simp [execOp, hop, hit, hrun, Result.andThen]
    refine hK' _ _ (hDone ?_)
    have : (leftOf es seen).toList = [] := by
      apply List.eq_nil_of_length_eq_zero
      simpa using h0
    rw [this] at h7
    simpa using h7.symm
  · have hmem : (e.key, e.val) ∈ left.map (fun p => (Value.int .i64 p.1, p.2)) := by rw [← h7]; exact List.mem_map.2 ⟨e, he, rfl⟩
    obtain ⟨⟨k, v⟩, hp, hpe⟩ := List.mem_map.1 hmem
    simp at hpe
    obtain ⟨ek, ev⟩ := hpe
    have hes : e ∈ es.toList := by
      have : e ∈ leftOf es seen := by simpa using he
      unfold leftOf at this
      simp at this
      simpa using this.1
    have hr1 : w1.heap[r]? = some (.mapIter (some b) since seen c0) := by rcases hw1 with rfl | rfl <;> exact h1
    have hb1 : w1.heap[b]? = some (.map es c) := by rcases hw1 with rfl | rfl <;> exact h2
    have hset := heap_set (o' := Obj.mapIter (some b) since (seen.push e.born) c) hr1
    have hrg : RangeE (Go.ChangeMaps.setBlock w1 r (.mapIter (some b) since (seen.push e.born) c)) r b m (adel left k) := by
      refine ⟨es, c, since, seen.push e.born, c, hset.1, (hset.2 b (Ne.symm hne)).trans hb1, h3, h4, h5, ⟨h6.2, h6.2⟩, ?_⟩
      have e1 : (leftOf es (seen.push e.born)).toList = (leftOf es seen).toList.filter (fun x => x.born != e.born) := by
        unfold leftOf
        rw [Array.toList_filter, Array.toList_filter, List.filter_filter]
        apply List.filter_congr
        intro x _
        rw [Bool.eq_iff_iff]
        simp [Array.contains_push]
        exact ⟨fun q => ⟨q.2, q.1⟩, fun q => ⟨q.2, q.1⟩⟩
      have e2 : (leftOf es seen).toList.filter (fun x => x.born != e.born) = (leftOf es seen).toList.filter ((fun q : Value × Value => vkey q.1 != k) ∘ fun x : MapEntry => (x.key, x.val)) := by
        apply List.filter_congr
        intro x hx
        have hxe : x ∈ es.toList := by
          have : x ∈ leftOf es seen := by simpa using hx
          unfold leftOf at this
          simp at this
          simpa using this.1
        have same : x.born = e.born ↔ x.key = e.key := by
          have n1 : ∀ {f : MapEntry → Nat}, (es.toList.map f).Nodup → f x = f e → x = e := fun {f} hf hq => by
            obtain ⟨i, hi⟩ := List.getElem?_of_mem hxe
            obtain ⟨j, hj⟩ := List.getElem?_of_mem hes
            have a1 : (es.toList.map f)[i]? = some (f x) := by rw [List.getElem?_map, hi]; rfl
            have a2 : (es.toList.map f)[j]? = some (f e) := by rw [List.getElem?_map, hj]; rfl
            have l1 := (List.getElem?_eq_some_iff.1 a1).1
            have hij : i = j := (List.getElem?_inj l1 hf).1 (by rw [a1, a2, hq])
            subst hij
            exact Option.some.inj (hi.symm.trans hj)
          have n2 : ∀ {f : MapEntry → Value}, (es.toList.map f).Nodup → f x = f e → x = e := fun {f} hf hq => by
            obtain ⟨i, hi⟩ := List.getElem?_of_mem hxe
            obtain ⟨j, hj⟩ := List.getElem?_of_mem hes
            have a1 : (es.toList.map f)[i]? = some (f x) := by rw [List.getElem?_map, hi]; rfl
            have a2 : (es.toList.map f)[j]? = some (f e) := by rw [List.getElem?_map, hj]; rfl
            have l1 := (List.getElem?_eq_some_iff.1 a1).1
            have hij : i = j := (List.getElem?_inj l1 hf).1 (by rw [a1, a2, hq])
            subst hij
            exact Option.some.inj (hi.symm.trans hj)
          exact ⟨fun q => by rw [n1 h3.2.1 q], fun q => by rw [n2 h3.2.2 q]⟩
        have hxm : (x.key, x.val) ∈ m.map (fun p => (Value.int .i64 p.1, p.2)) := by rw [← h4]; exact List.mem_map.2 ⟨x, hxe, rfl⟩
        obtain ⟨q, -, hq⟩ := List.mem_map.1 hxm
        have hqk := (Prod.mk.inj hq).1
        rw [Bool.eq_iff_iff]
        simp only [Function.comp, bne_iff_ne, ne_eq]
        rw [same, ← ek, ← hqk]
        simp [vkey]
      rw [e1, e2, ← List.filter_map, h7, List.filter_map]
      rfl
    have hen := run_entry_at (P := P) (Go.ChangeMaps.setBlock w1 r (.mapIter (some b) since (seen.push e.born) c)) r b since seen es c e hset.1 ((hset.2 b (Ne.symm hne)).trans hb1) hes h3.2.1
    rw [← ek, ← ev] at hrun hen
    simp [execOp, hop, hit, hrun, Result.andThen]
    refine hK' _ _ (hMore k v _ hp ?_ hrg ?_ ?_ hen)
    · exact (lookup_mem_iff hnd).2 (hsub.1 _ hp)
    · rcases hw1 with rfl | rfl
      · exact ⟨rfl, rfl, rfl, by simp [Go.ChangeMaps.setBlock], fun j _ hj => hset.2 j hj⟩
      · exact ⟨rfl, rfl, rfl, by simp [Go.ChangeMaps.setBlock], fun j _ hj => hset.2 j hj⟩
    · rcases hw1 with rfl | rfl <;> simp [Go.ChangeMaps.setBlock]
end wp
end Go.Proofs.Ytohknblokejldaa
end
section
/- Contracts of the package disk: its state, New, what is asked of it, Arm. -/
namespace Go.Proofs.Ytohknblokejldaa
open Go.RowKit
open Go.Lib (hid)
set_option linter.unusedVariables false

theorem T_secs : SlT Try.prog 116 27 (.slice none 0 0) 1 24 := SlT.mk' Try.underlying116 (by kernel_rfl) rfl (by decide) (by decide)

/-- a disk's state -/
structure Dk where
  size : Nat
  D : List (List UInt8)
  C : List (Int × List UInt8)
  armed : Bool
  left : Int
  down : Bool
  done : Int
/-- a sector: bytes that nobody writes -/
def Sec (w : World) (R : Nat → Prop) (v : Value) (l : List UInt8) : Prop := SlB w v l ∧ ∀ k, v.ownBlock = some k → R k
theorem Sec.upd {S R R' : Nat → Prop} {w w' : World} {v : Value} {l : List UInt8} (h : Sec w R v l) (hu : Upd S w w') (hS : ∀ k, R k → ¬ S k) (hR : ∀ k, R k → R' k) : Sec w' R' v l := by
  obtain ⟨⟨a, c, rfl, h1, h2, h3⟩, h4⟩ := h
  exact ⟨hu.slb ⟨a, c, rfl, h1, h2, h3⟩ (fun b off e => hS b (h4 b (by rw [e]; rfl))), fun k hk => hR k (h4 k hk)⟩
structure DkIs (w : World) (g : Nat) (W R : Nat → Prop) (s : Dk) (b : Nat) (dv : Value) (V : List Value) (M : List (Int × Value × List UInt8)) : Prop where
  blk : Blk w g #[.int .i64 (s.size : Int), dv, .map (some b), .bool s.armed, .int .i64 s.left, .bool s.down, .int .i64 s.done]
  own : w.ownsRow 0 27 1 dv s.D.length V
  sec : ∀ (i : Nat) (l : List UInt8), s.D[i]? = some l → ∃ v, V[i]? = some v ∧ Sec w R v l
  map : MapE w b (M.map fun p => (p.1, p.2.1))
  eqC : M.map (fun p => (p.1, p.2.2)) = s.C
  msec : ∀ p ∈ M, Sec w R p.2.1 p.2.2
  wg : W g
  wb : W b
  wd : ∀ k, dv.ownBlock = some k → W k ∧ k ≠ g ∧ k ≠ b
  ne : g ≠ b
  wr : ∀ k, W k → ¬ R k
  wlt : ∀ k, W k → k < w.heap.size
  rlt : ∀ k, R k → k < w.heap.size
/-- behind pointer g stands a disk; W: the blocks that it writes, R: those of its sectors -/
def DiskIs (w : World) (g : Nat) (W R : Nat → Prop) (s : Dk) : Prop := ∃ b dv V M, DkIs w g W R s b dv V M
theorem DkIs.upd {S W R : Nat → Prop} {w w' : World} {g : Nat} {s : Dk} {b : Nat} {dv : Value} {V : List Value} {M : List (Int × Value × List UInt8)} (h : DkIs w g W R s b dv V M) (hu : Upd S w w') (hW : ∀ k, S k → ¬ W k) (hR : ∀ k, S k → ¬ R k) : DkIs w' g W R s b dv V M :=
  ⟨h.blk.upd hu (fun q => hW _ q h.wg), hu.owns h.own (fun k hk q => hW k q (h.wd k hk).1), fun i l hl => by obtain ⟨v, h1, h2⟩ := h.sec i l hl; exact ⟨v, h1, h2.upd hu (fun k hr q => hR k q hr) (fun _ => id)⟩,
   h.map.upd hu (fun q => hW _ q h.wb), h.eqC, fun p hp => (h.msec p hp).upd hu (fun k hr q => hR k q hr) (fun _ => id), h.wg, h.wb, h.wd, h.ne, h.wr, fun k hk => Nat.lt_of_lt_of_le (h.wlt k hk) hu.size, fun k hk => Nat.lt_of_lt_of_le (h.rlt k hk) hu.size⟩
theorem DiskIs.upd {S W R : Nat → Prop} {w w' : World} {g : Nat} {s : Dk} (h : DiskIs w g W R s) (hu : Upd S w w') (hW : ∀ k, S k → ¬ W k) (hR : ∀ k, S k → ¬ R k) : DiskIs w' g W R s := by
  obtain ⟨b, dv, V, M, h⟩ := h; exact ⟨b, dv, V, M, h.upd hu hW hR⟩
theorem DiskIs.below {W R : Nat → Prop} {w w' : World} {g : Nat} {s : Dk} (h : DiskIs w g W R s) (hu : Below w.heap.size w w') : DiskIs w' g W R s :=
  h.upd (S := fun _ => False) (Upd.of_below hu) (fun _ x => x.elim) (fun _ x => x.elim)
theorem DkIs.below {W R : Nat → Prop} {w w' : World} {g : Nat} {s : Dk} {b : Nat} {dv : Value} {V : List Value} {M : List (Int × Value × List UInt8)} (h : DkIs w g W R s b dv V M) (hu : Below w.heap.size w w') : DkIs w' g W R s b dv V M :=
  h.upd (S := fun _ => False) (Upd.of_below hu) (fun _ x => x.elim) (fun _ x => x.elim)
theorem DkIs.dvF {W R : Nat → Prop} {w : World} {g : Nat} {s : Dk} {b : Nat} {dv : Value} {V : List Value} {M : List (Int × Value × List UInt8)} (h : DkIs w g W R s b dv V M) : ∃ a c, dv = .slice a s.D.length c ∧ s.D.length ≤ c ∧ c ≤ 9223372036854775807 := by
  obtain ⟨a, c, e, h1, h2, -⟩ := ownsRow.rd h.own
  exact ⟨a, c, e, h1, by unfold maxLen at h2; exact h2⟩

theorem disk_Sectors (s : Dk) (g : Nat) (W R : Nat → Prop) (w : World) (h : DiskIs w g W R s) : Calls Try.prog 64 #[.pointer (some ⟨g, 0, none⟩)] w fun e w' => e = .returned (.int .i64 (s.D.length : Int)) ∧ w = w' := by
  obtain ⟨b, dv, V, M, h⟩ := h
  obtain ⟨a, c, rfl, -⟩ := h.dvF
  have hc : w.cell? ⟨g, 1, none⟩ = some (.slice a s.D.length c) := by rw [h.blk.cell]; rfl
  clear h
  go_enter Try.func64, Try.ntmps64
  go_wp2
  go_ret
  exact ⟨rfl, rfl⟩
theorem disk_Size (s : Dk) (g : Nat) (W R : Nat → Prop) (w : World) (h : DiskIs w g W R s) : Calls Try.prog 66 #[.pointer (some ⟨g, 0, none⟩)] w fun e w' => e = .returned (.int .i64 (s.size : Int)) ∧ w = w' := by
  obtain ⟨b, dv, V, M, h⟩ := h
  have hc : w.cell? ⟨g, 0, none⟩ = some (.int .i64 (s.size : Int)) := by rw [h.blk.cell]; rfl
  clear h
  go_enter Try.func66, Try.ntmps66
  go_wp2
  go_ret
  exact ⟨rfl, rfl⟩
theorem disk_Down (s : Dk) (g : Nat) (W R : Nat → Prop) (w : World) (h : DiskIs w g W R s) : Calls Try.prog 36 #[.pointer (some ⟨g, 0, none⟩)] w fun e w' => e = .returned (.bool s.down) ∧ w = w' := by
  obtain ⟨b, dv, V, M, h⟩ := h
  have hc : w.cell? ⟨g, 5, none⟩ = some (.bool s.down) := by rw [h.blk.cell]; rfl
  clear h
  go_enter Try.func36, Try.ntmps36
  go_wp2
  go_ret
  exact ⟨rfl, rfl⟩
theorem disk_Commands (s : Dk) (g : Nat) (W R : Nat → Prop) (w : World) (h : DiskIs w g W R s) : Calls Try.prog 84 #[.pointer (some ⟨g, 0, none⟩)] w fun e w' => e = .returned (.int .i64 s.done) ∧ w = w' := by
  obtain ⟨b, dv, V, M, h⟩ := h
  have hc : w.cell? ⟨g, 6, none⟩ = some (.int .i64 s.done) := by rw [h.blk.cell]; rfl
  clear h
  go_enter Try.func84, Try.ntmps84
  go_wp2
  go_ret
  exact ⟨rfl, rfl⟩

/-- is the power there, and a sector? the error's number -/
def dkCheck (s : Dk) (i : Int) : Int := if s.down then 20 else if i < 0 ∨ (s.D.length : Int) ≤ i then 11 else 0
theorem disk_check (s : Dk) (i : Int) (g : Nat) (W R : Nat → Prop) (w : World) (h : DiskIs w g W R s) (r : Int) (hr : Hid (dkCheck s i = r)) : Calls Try.prog 61 #[.pointer (some ⟨g, 0, none⟩), .int .i64 i] w fun e w' => e = .returned (.int .i64 r) ∧ w = w' := by
  obtain ⟨b, dv, V, M, h⟩ := h
  obtain ⟨a, c, rfl, -⟩ := h.dvF
  have hc1 : w.cell? ⟨g, 1, none⟩ = some (.slice a s.D.length c) := by rw [h.blk.cell]; rfl
  have hc5 : w.cell? ⟨g, 5, none⟩ = some (.bool s.down) := by rw [h.blk.cell]; rfl
  have hr2 := hr.out
  unfold dkCheck at hr2
  clear h hr
  cases hd : s.down
  · rw [hd] at hr2 hc5
    simp only [Bool.false_eq_true, if_false] at hr2
    have HD := hid hd
    clear hd
    by_cases h0 : i < 0
    · rw [if_pos (.inl h0)] at hr2
      subst hr2
      go_enter Try.func61, Try.ntmps61
      go_wp2
      go_ret
      exact ⟨rfl, rfl⟩
    · by_cases h1 : (s.D.length : Int) ≤ i
      · rw [if_pos (.inr h1)] at hr2
        subst hr2
        go_enter Try.func61, Try.ntmps61
        go_wp2
        go_ret
        exact ⟨rfl, rfl⟩
      · rw [if_neg (by omega)] at hr2
        subst hr2
        go_enter Try.func61, Try.ntmps61
        go_wp2
        go_ret
        exact ⟨rfl, rfl⟩
  · rw [hd] at hr2 hc5
    simp only [if_true] at hr2
    subst hr2
    have HD := hid hd
    clear hd
    go_enter Try.func61, Try.ntmps61
    go_wp2
    go_ret
    exact ⟨rfl, rfl⟩

/-- the disk's own cells have turned -/
theorem DkIs.reblk {W R : Nat → Prop} {w w' : World} {g : Nat} {s s' : Dk} {b : Nat} {dv : Value} {V : List Value} {M : List (Int × Value × List UInt8)} (h : DkIs w g W R s b dv V M) (hu : Upd (fun k => k = g) w w')
    (hb : Blk w' g #[.int .i64 (s'.size : Int), dv, .map (some b), .bool s'.armed, .int .i64 s'.left, .bool s'.down, .int .i64 s'.done]) (hD : s'.D = s.D) (hC : s'.C = s.C) : DkIs w' g W R s' b dv V M :=
  ⟨hb, by rw [hD]; exact hu.owns h.own (fun k hk q => (h.wd k hk).2.1 q), fun i l hl => by rw [hD] at hl; obtain ⟨v, h1, h2⟩ := h.sec i l hl; exact ⟨v, h1, h2.upd hu (fun k hr q => h.wr _ h.wg (q ▸ hr)) (fun _ => id)⟩,
   h.map.upd hu (fun q => h.ne q.symm), by rw [hC]; exact h.eqC, fun p hp => (h.msec p hp).upd hu (fun k hr q => h.wr _ h.wg (q ▸ hr)) (fun _ => id), h.wg, h.wb, h.wd, h.ne, h.wr, fun k hk => Nat.lt_of_lt_of_le (h.wlt k hk) hu.size, fun k hk => Nat.lt_of_lt_of_le (h.rlt k hk) hu.size⟩

/-- so many commands more -/
def dkArm (s : Dk) (n : Int) : Dk := { s with armed := decide (0 ≤ n), left := n }
theorem disk_Arm (s : Dk) (n : Int) (g : Nat) (W R : Nat → Prop) (w : World) (h : DiskIs w g W R s) :
    Calls Try.prog 24 #[.pointer (some ⟨g, 0, none⟩), .int .i64 n] w fun e w' => e = .returned (.tuple #[]) ∧ DiskIs w' g W R (dkArm s n) ∧ Upd W w w' := by
  obtain ⟨b, dv, V, M, h⟩ := h
  have hc3 : w.cell? ⟨g, 3, none⟩ = some (.bool s.armed) := by rw [h.blk.cell]; rfl
  have hc4 : w.cell? ⟨g, 4, none⟩ = some (.int .i64 s.left) := by rw [h.blk.cell]; rfl
  have hf3 := h.blk.unfrozen 3
  have hf4 := h.blk.unfrozen 4
  have hu : Upd (fun k => k = g) w ((w.setCell ⟨g, 3, none⟩ (.bool (decide (0 ≤ n)))).setCell ⟨g, 4, none⟩ (.int .i64 n)) := (Upd.setCell w g 3 _).trans (Upd.setCell _ g 4 _) (fun _ _ x => x)
  have HPOST : Hid (DiskIs ((w.setCell ⟨g, 3, none⟩ (.bool (decide (0 ≤ n)))).setCell ⟨g, 4, none⟩ (.int .i64 n)) g W R (dkArm s n) ∧ Upd W w ((w.setCell ⟨g, 3, none⟩ (.bool (decide (0 ≤ n)))).setCell ⟨g, 4, none⟩ (.int .i64 n))) := hid
    ⟨⟨b, dv, V, M, h.reblk hu (by simpa [dkArm] using (h.blk.set 3 (.bool (decide (0 ≤ n)))).set 4 (.int .i64 n)) rfl rfl⟩, hu.mono (fun k _ q => q ▸ h.wg)⟩
  clear h hu
  by_cases h0 : 0 ≤ n
  · have hd : decide (0 ≤ n) = true := by simpa using h0
    rw [hd] at HPOST
    clear hd
    go_enter Try.func24, Try.ntmps24
    go_wp2
    go_end0
    exact ⟨rfl, HPOST.out.1, HPOST.out.2⟩
  · have hd : decide (0 ≤ n) = false := by simpa using h0
    rw [hd] at HPOST
    go_enter Try.func24, Try.ntmps24
    go_wp2
    go_end0
    exact ⟨rfl, HPOST.out.1, HPOST.out.2⟩

/-- one command -/
def dkCommand (s : Dk) : Int × Dk := if s.armed then (if s.left = 0 then (20, { s with down := true }) else (0, { s with left := wrap64 (s.left - 1), done := wrap64 (s.done + 1) })) else (0, { s with done := wrap64 (s.done + 1) })
theorem disk_command (s : Dk) (g : Nat) (W R : Nat → Prop) (w : World) (h : DiskIs w g W R s) (e0 : Int) (s' : Dk) (hs : Hid (dkCommand s = (e0, s'))) :
    Calls Try.prog 63 #[.pointer (some ⟨g, 0, none⟩)] w fun e w' => e = .returned (.int .i64 e0) ∧ DiskIs w' g W R s' ∧ Upd W w w' := by
  obtain ⟨b, dv, V, M, h⟩ := h
  have hc3 : w.cell? ⟨g, 3, none⟩ = some (.bool s.armed) := by rw [h.blk.cell]; rfl
  have hc4 : w.cell? ⟨g, 4, none⟩ = some (.int .i64 s.left) := by rw [h.blk.cell]; rfl
  have hc5 : w.cell? ⟨g, 5, none⟩ = some (.bool s.down) := by rw [h.blk.cell]; rfl
  have hc6 : w.cell? ⟨g, 6, none⟩ = some (.int .i64 s.done) := by rw [h.blk.cell]; rfl
  have hf4 := h.blk.unfrozen 4
  have hf5 := h.blk.unfrozen 5
  have hf6 := h.blk.unfrozen 6
  have HH := hid h
  have hs2 := hs.out
  unfold dkCommand at hs2
  clear h hs
  cases ha : s.armed
  · rw [ha] at hs2 hc3
    simp only [Bool.false_eq_true, if_false, Prod.mk.injEq] at hs2
    obtain ⟨rfl, rfl⟩ := hs2
    have hu := Upd.setCell w g 6 (.int .i64 (wrap64 (s.done + 1)))
    have HPOST : Hid (DiskIs (w.setCell ⟨g, 6, none⟩ (.int .i64 (wrap64 (s.done + 1)))) g W R { s with done := wrap64 (s.done + 1) } ∧ Upd W w (w.setCell ⟨g, 6, none⟩ (.int .i64 (wrap64 (s.done + 1))))) := hid
      ⟨⟨b, dv, V, M, HH.out.reblk hu (by simpa [ha] using HH.out.blk.set 6 (.int .i64 (wrap64 (s.done + 1)))) rfl rfl⟩, hu.mono (fun k _ q => q ▸ HH.out.wg)⟩
    have HA := hid ha
    clear hu ha
    go_enter Try.func63, Try.ntmps63
    go_wp2
    go_ret
    exact ⟨rfl, by have q := HPOST.out.1; rw [HA.out] at q; exact q, HPOST.out.2⟩
  · rw [ha] at hs2 hc3
    simp only [if_true] at hs2
    by_cases hl : s.left = 0
    · rw [if_pos hl] at hs2
      simp only [Prod.mk.injEq] at hs2
      obtain ⟨rfl, rfl⟩ := hs2
      rw [hl] at hc4
      have hu := Upd.setCell w g 5 (.bool true)
      have HPOST : Hid (DiskIs (w.setCell ⟨g, 5, none⟩ (.bool true)) g W R { s with down := true } ∧ Upd W w (w.setCell ⟨g, 5, none⟩ (.bool true))) := hid
        ⟨⟨b, dv, V, M, HH.out.reblk hu (by simpa [ha] using HH.out.blk.set 5 (.bool true)) rfl rfl⟩, hu.mono (fun k _ q => q ▸ HH.out.wg)⟩
      have HA := hid ha
      clear hu ha hl
      go_enter Try.func63, Try.ntmps63
      go_wp2
      go_ret
      exact ⟨rfl, by have q := HPOST.out.1; rw [HA.out] at q; exact q, HPOST.out.2⟩
    · rw [if_neg hl] at hs2
      simp only [Prod.mk.injEq] at hs2
      obtain ⟨rfl, rfl⟩ := hs2
      have hu := (Upd.setCell w g 4 (.int .i64 (wrap64 (s.left - 1)))).trans (Upd.setCell _ g 6 (.int .i64 (wrap64 (s.done + 1)))) (fun _ _ x => x)
      have HPOST : Hid (DiskIs ((w.setCell ⟨g, 4, none⟩ (.int .i64 (wrap64 (s.left - 1)))).setCell ⟨g, 6, none⟩ (.int .i64 (wrap64 (s.done + 1)))) g W R { s with left := wrap64 (s.left - 1), done := wrap64 (s.done + 1) } ∧ Upd W w ((w.setCell ⟨g, 4, none⟩ (.int .i64 (wrap64 (s.left - 1)))).setCell ⟨g, 6, none⟩ (.int .i64 (wrap64 (s.done + 1))))) := hid
        ⟨⟨b, dv, V, M, HH.out.reblk hu (by simpa [ha] using (HH.out.blk.set 4 (.int .i64 (wrap64 (s.left - 1)))).set 6 (.int .i64 (wrap64 (s.done + 1)))) rfl rfl⟩, hu.mono (fun k _ q => q ▸ HH.out.wg)⟩
      have hlb : (s.left == 0) = false := by simpa using hl
      have HA := hid ha
      clear hu ha hl
      go_enter Try.func63, Try.ntmps63
      go_wp2
      go_ret
      exact ⟨rfl, by have q := HPOST.out.1; rw [HA.out] at q; exact q, HPOST.out.2⟩
end Go.Proofs.Ytohknblokejldaa
end
