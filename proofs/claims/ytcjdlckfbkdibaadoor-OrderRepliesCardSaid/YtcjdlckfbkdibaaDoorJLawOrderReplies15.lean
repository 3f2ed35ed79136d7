/- Joined texts, in this order: StrRange, ResCell, OrdUsed. Each one's first remark says what it proves; no condition beyond those that its theorems name. -/
import Derived.Test.YtcjdlckfbkdibaaDoorJLawOrderReplies14
import Derived.Laws.RangeString
import Derived.Lib.IndexBytes
import Derived.Test.YtcjdlckfbkdibaaDoorJLawOrderReplies02
import Derived.Test.YtcjdlckfbkdibaaDoorJLawOrderReplies12
import Derived.Test.YtcjdlckfbkdibaaDoorJLawOrderReplies13
section
/- Ranging over a string of ASCII letters. No program in sight. -/
namespace Go.Proofs.YtcjdlckfbkdibaaDoor
open Go.RowKit
open Go.Lib (hid)
open Go.MapKept
set_option linter.unusedVariables false

/-- at block r stands an iterator over a string, at a place of it -/
def StrIt (w : World) (r : Nat) (s : ByteArray) (pos : Nat) : Prop := w.heap[r]? = some (.stringIter s pos)
theorem StrIt.lt {w : World} {r : Nat} {s : ByteArray} {pos : Nat} (h : StrIt w r s pos) : r < w.heap.size := (Array.getElem?_eq_some_iff.1 h).1
theorem StrIt.upd {S : Nat → Prop} {w w' : World} {r : Nat} {s : ByteArray} {pos : Nat} (h : StrIt w r s pos) (hu : Upd S w w') (hr : ¬ S r) : StrIt w' r s pos := hu.heap h hr
theorem StrIt.below {w w' : World} {r : Nat} {s : ByteArray} {pos : Nat} (h : StrIt w r s pos) (hb : Below w.heap.size w w') : StrIt w' r s pos := h.upd (S := fun _ => False) (Upd.of_below hb) (fun x => x)
/-- how many letters are left to come -/
def strN (w : World) (r : Nat) : Nat := match w.heap[r]? with
  | some (.stringIter s pos) => s.size - pos
  | _ => 0
theorem StrIt.len {w : World} {r : Nat} {s : ByteArray} {pos : Nat} (h : StrIt w r s pos) : strN w r = s.size - pos := by
  unfold StrIt at h
  unfold strN
  rw [h]
section wp
variable {P : Program} (w : World) {ops : Array Oper} {rest : List Oper} {o : Oper} {a : Act} {Q : Exit → Act → World → Prop} {t : TypeId} {s : ByteArray}
theorem wpList_rangeS (hg : o.guard = none) (mo : Operand) (hop : o.op = Op.range t mo) (ht : P.underlying t = some .string) (hm : a.eval mo = .string s)
    (hK : ∀ w', StrIt w' w.heap.size s 0 → Below w.heap.size w w' → w'.heap.size = w.heap.size + 1 → wpList P ops Q rest (a.put o.dst (.pointer (some ⟨w.heap.size, 0, none⟩))) w') : wpList P ops Q (o :: rest) a w := by
  refine wpList_plain hg fun K' hK' => ?_
  have hrun := run_range_string (P := P) w t s ht
  unfold Oper.wp
  simp [execOp, hop, hm, hrun, Result.andThen]
  exact hK' _ _ (hK _ (World.iter_heap w s 0) ((Below.refl _ _).alloc (Nat.le_refl _) _) (by simp [World.iter]))
theorem wpList_nextS (hg : o.guard = none) (it : Operand) (hop : o.op = Op.next it true) {r pos : Nat} (hit : a.eval it = .pointer (some ⟨r, 0, none⟩)) (h : StrIt w r s pos) (hasc : ∀ c ∈ s.data.toList, c.toNat < 128)
    (hDone : ¬ pos < s.size → wpList P ops Q rest (a.put o.dst (.tuple #[.bool false])) w)
    (hMore : ∀ (hl : pos < s.size) (w' : World), StrIt w' r s (pos + 1) → Upd (fun j => j = r) w w' → w'.heap.size = w.heap.size →
      wpList P ops Q rest (a.put o.dst (.tuple #[.bool true, .int .i64 (pos : Int), .int .i32 ((s[pos]'hl).toNat : Int)])) w') : wpList P ops Q (o :: rest) a w := by
  refine wpList_plain hg fun K' hK' => ?_
  unfold Oper.wp
  by_cases hl : pos < s.size
  · have hmem : s[pos]'hl ∈ s.data.toList := by
      have h2 := Lib.data_getElem? s pos hl
      exact List.mem_of_getElem? h2
    have ha := hasc _ hmem
    have hset := heap_set (o' := Obj.stringIter s (pos + 1)) h
    have hrun : (Instr.next (.pointer (some ⟨r, 0, none⟩)) true o.type).run P w = .ok (.tuple #[.bool true, .int .i64 (pos : Int), .int .i32 ((s[pos]'hl).toNat : Int)]) (Go.ChangeMaps.setBlock w r (.stringIter s (pos + 1))) := by
      unfold StrIt at h
      simp only [Instr.next, getObj, setObj, Sem.run_bind, Sem.run, h, Result.andThen, hl, if_true, decode_ascii s pos hl ha]
      simp [goInt, Sem.run, Go.ChangeMaps.setBlock]
    simp [execOp, hop, hit, hrun, Result.andThen]
    exact hK' _ _ (hMore hl _ hset.1 ⟨rfl, rfl, rfl, by simp [Go.ChangeMaps.setBlock], fun j _ hj => hset.2 j hj⟩ (by simp [Go.ChangeMaps.setBlock]))
  · have hrun : (Instr.next (.pointer (some ⟨r, 0, none⟩)) true o.type).run P w = .ok (.tuple #[.bool false]) w := by
      unfold StrIt at h
      simp [Instr.next, getObj, Sem.run, h, hl]
    simp [execOp, hop, hit, hrun, Result.andThen]
    exact hK' _ _ (hDone hl)
end wp
end Go.Proofs.YtcjdlckfbkdibaaDoor
end
section
/- Results in memory cells; blocks of seven and of nine cells. -/
namespace Go.Proofs.YtcjdlckfbkdibaaDoor
open Go.RowKit
open Go.Lib (hid)
set_option linter.unusedVariables false

theorem res_cell1 {fn : Func} {a : Tmp} {t : TypeId} (h : fn.results = #[.cell a t]) (tmps : Array Value) (P : Program) (w : World) {x : Addr} {v : Value} (ha : tmps.getD a undef = .pointer (some x)) (hl : (loadVar t x).run P w = .ok v w) : (results fn tmps).run P w = .ok v w := by
  have ha' : tmps[a]?.getD undef = .pointer (some x) := by rw [← ha]; simp
  simp [results, h, ha', asAddr, hl, Result.andThen]
theorem res_cell_tmp {fn : Func} {a u : Tmp} {t : TypeId} (h : fn.results = #[.cell a t, .tmp u]) (tmps : Array Value) (P : Program) (w : World) {x : Addr} {v : Value} (ha : tmps.getD a undef = .pointer (some x)) (hl : (loadVar t x).run P w = .ok v w) : (results fn tmps).run P w = .ok (.tuple #[v, tmps.getD u undef]) w := by
  have ha' : tmps[a]?.getD undef = .pointer (some x) := by rw [← ha]; simp
  simp [results, h, ha', asAddr, hl, Result.andThen]
section
variable {w : World} {g : Nat} {c0 c1 c2 c3 c4 c5 c6 c7 c8 : Value}
theorem Blk.cells7 (h : Blk w g #[c0, c1, c2, c3, c4, c5, c6]) : w.cell? ⟨g, 0, none⟩ = some c0 ∧ w.cell? ⟨g, 1, none⟩ = some c1 ∧ w.cell? ⟨g, 2, none⟩ = some c2 ∧ w.cell? ⟨g, 3, none⟩ = some c3 ∧ w.cell? ⟨g, 4, none⟩ = some c4 ∧ w.cell? ⟨g, 5, none⟩ = some c5 ∧ w.cell? ⟨g, 6, none⟩ = some c6 :=
  ⟨by rw [h.cell]; rfl, by rw [h.cell]; rfl, by rw [h.cell]; rfl, by rw [h.cell]; rfl, by rw [h.cell]; rfl, by rw [h.cell]; rfl, by rw [h.cell]; rfl⟩
theorem Blk.cells9 (h : Blk w g #[c0, c1, c2, c3, c4, c5, c6, c7, c8]) : w.cell? ⟨g, 0, none⟩ = some c0 ∧ w.cell? ⟨g, 1, none⟩ = some c1 ∧ w.cell? ⟨g, 2, none⟩ = some c2 ∧ w.cell? ⟨g, 3, none⟩ = some c3 ∧ w.cell? ⟨g, 4, none⟩ = some c4 ∧ w.cell? ⟨g, 5, none⟩ = some c5 ∧ w.cell? ⟨g, 6, none⟩ = some c6 ∧ w.cell? ⟨g, 7, none⟩ = some c7 ∧ w.cell? ⟨g, 8, none⟩ = some c8 :=
  ⟨by rw [h.cell]; rfl, by rw [h.cell]; rfl, by rw [h.cell]; rfl, by rw [h.cell]; rfl, by rw [h.cell]; rfl, by rw [h.cell]; rfl, by rw [h.cell]; rfl, by rw [h.cell]; rfl, by rw [h.cell]; rfl⟩
theorem Blk.free7 {cs : Array Value} (h : Blk w g cs) : w.frozen? ⟨g, 0, none⟩ = false ∧ w.frozen? ⟨g, 1, none⟩ = false ∧ w.frozen? ⟨g, 2, none⟩ = false ∧ w.frozen? ⟨g, 3, none⟩ = false ∧ w.frozen? ⟨g, 4, none⟩ = false ∧ w.frozen? ⟨g, 5, none⟩ = false ∧ w.frozen? ⟨g, 6, none⟩ = false :=
  ⟨h.unfrozen _, h.unfrozen _, h.unfrozen _, h.unfrozen _, h.unfrozen _, h.unfrozen _, h.unfrozen _⟩
theorem Blk.free9 {cs : Array Value} (h : Blk w g cs) : w.frozen? ⟨g, 0, none⟩ = false ∧ w.frozen? ⟨g, 1, none⟩ = false ∧ w.frozen? ⟨g, 2, none⟩ = false ∧ w.frozen? ⟨g, 3, none⟩ = false ∧ w.frozen? ⟨g, 4, none⟩ = false ∧ w.frozen? ⟨g, 5, none⟩ = false ∧ w.frozen? ⟨g, 6, none⟩ = false ∧ w.frozen? ⟨g, 7, none⟩ = false ∧ w.frozen? ⟨g, 8, none⟩ = false :=
  ⟨h.unfrozen _, h.unfrozen _, h.unfrozen _, h.unfrozen _, h.unfrozen _, h.unfrozen _, h.unfrozen _, h.unfrozen _, h.unfrozen _⟩
theorem Upd.set2 {S : Nat → Prop} {x y : World} {g : Nat} (h : Upd S x y) (hg : S g) (i : Nat) (u : Value) : Upd S x (y.setCell ⟨g, i, none⟩ u) := h.trans (Upd.setCell y g i u) (fun k _ q => by rw [q]; exact hg)
theorem Blk.all7 (h : Blk w g #[c0, c1, c2, c3, c4, c5, c6]) (u0 u1 u2 u3 u4 u5 u6 : Value) : ∃ wz, wz = ((((((w.setCell ⟨g, 0, none⟩ u0).setCell ⟨g, 1, none⟩ u1).setCell ⟨g, 2, none⟩ u2).setCell ⟨g, 3, none⟩ u3).setCell ⟨g, 4, none⟩ u4).setCell ⟨g, 5, none⟩ u5).setCell ⟨g, 6, none⟩ u6 ∧ Blk wz g #[u0, u1, u2, u3, u4, u5, u6] ∧ Upd (fun k => k = g) w wz :=
  ⟨_, rfl, by simpa using ((((((h.set 0 u0).set 1 u1).set 2 u2).set 3 u3).set 4 u4).set 5 u5).set 6 u6, ((((((Upd.setCell w g 0 u0).set2 rfl 1 u1).set2 rfl 2 u2).set2 rfl 3 u3).set2 rfl 4 u4).set2 rfl 5 u5).set2 rfl 6 u6⟩
theorem Blk.all9 (h : Blk w g #[c0, c1, c2, c3, c4, c5, c6, c7, c8]) (u0 u1 u2 u3 u4 u5 u6 u7 u8 : Value) : ∃ wz, wz = ((((((((w.setCell ⟨g, 0, none⟩ u0).setCell ⟨g, 1, none⟩ u1).setCell ⟨g, 2, none⟩ u2).setCell ⟨g, 3, none⟩ u3).setCell ⟨g, 4, none⟩ u4).setCell ⟨g, 5, none⟩ u5).setCell ⟨g, 6, none⟩ u6).setCell ⟨g, 7, none⟩ u7).setCell ⟨g, 8, none⟩ u8 ∧ Blk wz g #[u0, u1, u2, u3, u4, u5, u6, u7, u8] ∧ Upd (fun k => k = g) w wz :=
  ⟨_, rfl, by simpa using ((((((((h.set 0 u0).set 1 u1).set 2 u2).set 3 u3).set 4 u4).set 5 u5).set 6 u6).set 7 u7).set 8 u8, ((((((((Upd.setCell w g 0 u0).set2 rfl 1 u1).set2 rfl 2 u2).set2 rfl 3 u3).set2 rfl 4 u4).set2 rfl 5 u5).set2 rfl 6 u6).set2 rfl 7 u7).set2 rfl 8 u8⟩
end
end Go.Proofs.YtcjdlckfbkdibaaDoor
end
section
/- Contract of order.used. -/
namespace Go.Proofs.YtcjdlckfbkdibaaDoor
open Go.RowKit
open Go.Lib (hid)
set_option linter.unusedVariables false

/-- the number at place i, if n are used -/
def pf (n i : Nat) (x : Int) : Int := if i < n then x else 0
/-- an order's cells -/
def ordA (who kind a b c d : Int) (t : ByteArray) : Array Value := #[.int .i64 who, .int .i64 kind, .int .i64 a, .int .i64 b, .int .i64 c, .int .i64 d, .string t]
def num4 (a b c d : Int) (j : Nat) : Int := [a, b, c, d].getD j 0
theorem ord_set (kind a b c d : Int) (t : ByteArray) (j : Nat) (hj : j < 4) : (ordA 0 kind (pf j 0 a) (pf j 1 b) (pf j 2 c) (pf j 3 d) t).setIfInBounds (2 + j) (.int .i64 (num4 a b c d j)) = ordA 0 kind (pf (j + 1) 0 a) (pf (j + 1) 1 b) (pf (j + 1) 2 c) (pf (j + 1) 3 d) t := by
  match j, hj with
  | 0, _ => rfl
  | 1, _ => rfl
  | 2, _ => rfl
  | 3, _ => rfl
theorem ord_at (who kind a b c d : Int) (t : ByteArray) (j : Nat) (hj : j < 4) : (ordA who kind a b c d t)[2 + j]? = some (.int .i64 (num4 a b c d j)) := by
  match j, hj with
  | 0, _ => rfl
  | 1, _ => rfl
  | 2, _ => rfl
  | 3, _ => rfl
theorem fieldsL_T {k : Int} (h : usesT k = true) : fieldsL k = [84] := by unfold fieldsL; rw [if_pos h]
theorem fieldsL_N {k : Int} (h : usesT k = false) : fieldsL k = ([65, 66, 67, 68] : List UInt8).take (usesN k) := by unfold fieldsL; rw [h]; rfl
theorem fields_size {k : Int} (h : usesT k = false) (q : ByteArray) (hq : q = ⟨(fieldsL k).toArray⟩) : q.size = usesN k := by
  subst hq
  show (fieldsL k).toArray.size = _
  rw [List.size_toArray, fieldsL_N h, List.length_take, Nat.min_eq_left (by simpa using usesN_le k)]
theorem fields_get {k : Int} (h : usesT k = false) (q : ByteArray) (hq : q = ⟨(fieldsL k).toArray⟩) (j : Nat) (hj : j < q.size) : ((q[j]'hj).toNat : Int) = ((65 + j : Nat) : Int) ∧ j < 4 := by
  have hs := fields_size h q hq
  have h4 := usesN_le k
  have hl := Lib.data_getElem? q j hj
  have e : (fieldsL k)[j]? = some (q[j]'hj) := by subst hq; exact hl
  rw [fieldsL_N h, List.getElem?_take, if_pos (by omega)] at e
  refine ⟨?_, by omega⟩
  have hj4 : j = 0 ∨ j = 1 ∨ j = 2 ∨ j = 3 := by omega
  rcases hj4 with rfl | rfl | rfl | rfl <;> (simp at e; rw [← e]; rfl)
theorem fields_asc (k : Int) (q : ByteArray) (hq : q = ⟨(fieldsL k).toArray⟩) : ∀ c ∈ q.data.toList, c.toNat < 128 := by
  subst hq
  intro c hc
  have hc : c ∈ fieldsL k := by simpa using hc
  unfold fieldsL at hc
  split at hc
  · simp at hc; subst hc; decide
  · have := List.mem_of_mem_take hc
    simp at this
    rcases this with rfl | rfl | rfl | rfl <;> decide
theorem Blk.new3 (w : World) (x y z : Array Value) (e f g : TypeId) : Blk (((w.alloc (.cells x e)).alloc (.cells y f)).alloc (.cells z g)) w.heap.size x ∧ Blk (((w.alloc (.cells x e)).alloc (.cells y f)).alloc (.cells z g)) (w.heap.size + 1) y ∧
    Blk (((w.alloc (.cells x e)).alloc (.cells y f)).alloc (.cells z g)) (w.heap.size + 1 + 1) z ∧ Below w.heap.size w (((w.alloc (.cells x e)).alloc (.cells y f)).alloc (.cells z g)) := by
  have h2 := Blk.new (w.alloc (.cells x e)) y f
  have h3 := Blk.new ((w.alloc (.cells x e)).alloc (.cells y f)) z g
  have e2 : (w.alloc (.cells x e)).heap.size = w.heap.size + 1 := by simp
  have e3 : ((w.alloc (.cells x e)).alloc (.cells y f)).heap.size = w.heap.size + 1 + 1 := by simp
  rw [e2] at h2
  rw [e3] at h3
  exact ⟨Blk.below (Below.new _ _) (Blk.below (Below.new _ _) (Blk.new w x e)), Blk.below (Below.new _ _) h2, h3, Below.next (Below.next (Below.new _ _) (Below.new _ _)) (Below.new _ _)⟩
/-- what a round of the loop keeps -/
structure UsW (B : Nat) (w : World) (b r : Nat) (q : ByteArray) (x y z : Array Value) (j : Nat) : Prop where
  p : Blk w b x
  res : Blk w (b + 1) y
  out : Blk w (b + 1 + 1) z
  it : StrIt w r q j
  far : b + 1 + 1 < r
  lt : r < w.heap.size
def UsR (w : World) (r : Nat) (q : ByteArray) (who kind a b c d : Int) (t : ByteArray) (wr : World) : Prop :=
  ∃ j : Nat, j ≤ q.size ∧ Hid (Below w.heap.size w wr) ∧ Hid (UsW 0 wr w.heap.size r q (ordA who kind a b c d t) (ordA 0 0 0 0 0 0 ⟨#[]⟩) (ordA 0 kind (pf j 0 a) (pf j 1 b) (pf j 2 c) (pf j 3 d) ⟨#[]⟩) j)
def UsR2 (w : World) (r : Nat) (q : ByteArray) (who kind a b c d : Int) (t : ByteArray) (wr : World) : Prop :=
  ∃ j : Nat, j ≤ q.size ∧ Hid (Below w.heap.size w wr) ∧ Hid (UsW 0 wr w.heap.size r q (ordA who kind a b c d t) (ordA 0 0 0 0 0 0 ⟨#[]⟩) (ordA 0 kind 0 0 0 0 (if j = 0 then ⟨#[]⟩ else t)) j)
set_option maxRecDepth 100000 in
set_option maxHeartbeats 4000000 in
theorem order_used (who kind a b c d : Int) (t : ByteArray) (w : World) :
    Calls Tryd.prog 65 #[.agg #[.int .i64 who, .int .i64 kind, .int .i64 a, .int .i64 b, .int .i64 c, .int .i64 d, .string t]] w fun e w' => e = .returned (.agg #[.int .i64 0, .int .i64 kind, .int .i64 (pf (usesN kind) 0 a), .int .i64 (pf (usesN kind) 1 b), .int .i64 (pf (usesN kind) 2 c), .int .i64 (pf (usesN kind) 3 d), .string (if usesT kind then t else ⟨#[]⟩)]) ∧ Below w.heap.size w w' := by
  obtain ⟨q, hq⟩ : ∃ q : ByteArray, q = ⟨(fieldsL kind).toArray⟩ := ⟨_, rfl⟩
  have HQ := hid hq
  obtain ⟨tt, htt⟩ : ∃ tt : ByteArray, tt = if usesT kind then t else ⟨#[]⟩ := ⟨_, rfl⟩
  rw [← htt]
  have HTT := hid htt
  clear htt
  obtain ⟨n, hn⟩ : ∃ n : Nat, n = usesN kind := ⟨_, rfl⟩
  rw [← hn]
  have HN := hid hn
  clear hn
  have HASC := hid (fields_asc kind q hq)
  clear hq
  go_enter Tryd.func65, Tryd.ntmps65
  go_wp2_with fail
  generalize hw0 : World.alloc (World.alloc (World.alloc w _) _) _ = w0
  obtain ⟨hp0, hr0, ho0, hb0⟩ : Blk w0 w.heap.size (ordA who kind a b c d t) ∧ Blk w0 (w.heap.size + 1) (ordA 0 0 0 0 0 0 ⟨#[]⟩) ∧ Blk w0 (w.heap.size + 1 + 1) (ordA 0 kind (pf 0 0 a) (pf 0 1 b) (pf 0 2 c) (pf 0 3 d) ⟨#[]⟩) ∧ Below w.heap.size w w0 := by
    rw [← hw0]; exact Blk.new3 w _ _ _ _ _ _
  clear hw0
  refine (order_Fields kind w0).mono ?_
  rintro e w1 ⟨rfl, hb1⟩
  rw [← HQ.out]
  have HP1 := hid (Blk.below hb1 hp0)
  have HR1 := hid (Blk.below hb1 hr0)
  have HO1 := hid (Blk.below hb1 ho0)
  have HB1 := hid (Below.next hb0 hb1)
  clear hp0 hr0 ho0 hb0 hb1
  go_wp2_with (at_range; refine wpList_rangeS _ rfl _ rfl Tryd.underlying9 rfl ?_; intro w2 hi2 hb2 hs2)
  go_frame
  obtain ⟨r, hr⟩ : ∃ r, r = w1.heap.size := ⟨_, rfl⟩
  have HW2 : Hid (UsW 0 w2 w.heap.size r q (ordA who kind a b c d t) (ordA 0 0 0 0 0 0 ⟨#[]⟩) (ordA 0 kind (pf 0 0 a) (pf 0 1 b) (pf 0 2 c) (pf 0 3 d) ⟨#[]⟩) 0) := hid ⟨Blk.below hb2 HP1.out, Blk.below hb2 HR1.out, Blk.below hb2 HO1.out, by rw [hr]; exact hi2, by rw [hr]; exact HO1.out.lt, by rw [hr]; exact hi2.lt⟩
  have HB2 := hid (Below.next HB1.out hb2)
  rw [← hr]
  clear HP1 HR1 HO1 HB1 hi2 hb2 hs2 hr
  cases hT : usesT kind with
  | true =>
    have hN := usesT_N hT
    have htt2 : tt = t := by rw [HTT.out, hT]; rfl
    subst htt2
    have hn0 : n = 0 := by rw [HN.out, hN]
    subst hn0
    have HQ2 : Hid (q = ⟨#[84]⟩) := hid (by rw [HQ.out, fieldsL_T hT])
    have HQS : Hid (q.size = 1) := hid (by rw [HQ2.out]; rfl)
    have HQG : Hid (∀ h : 0 < q.size, q[0] = 84) := hid (by
      obtain rfl := HQ2.out
      intro _; rfl)
    clear hN
    go_loopw [5] (fun _ wr => UsR2 w r q who kind a b c d tt wr) (fun _ wr => strN wr r)
    case atStart => exact ⟨0, by omega, HB2, HW2⟩
    case round =>
      clear HW2 HB2
      obtain ⟨j, hj, HB, HW⟩ := hrel
      have HLEN := hid HW.out.it.len
      by_cases hlt : j < q.size
      · have hj0 : j = 0 := by have := HQS.out; omega
        subst hj0
        have hg1 := HQG.out hlt
        have hne : (((q[0].toNat : Nat) : Int) == 84) = true := by rw [hg1]; rfl
        clear hg1
        have hcp : wr.cell? ⟨w.heap.size, 6, none⟩ = some (.string tt) := by rw [HW.out.p.cell]; rfl
        go_wp2_with (at_next; refine wpList_nextS _ rfl _ rfl rfl HW.out.it HASC.out (fun h0 => absurd hlt h0) (fun _ w3 hi3 hu3 hs3 => ?_); (have HU3 := hid hu3); (have HI3 := hid hi3); (have hcp3 : w3.cell? ⟨w.heap.size, 6, none⟩ = some (.string tt) := by rw [(HW.out.p.upd hu3 (by have := HW.out.far; omega)).cell]; rfl); (have HO3 := hid (HW.out.out.upd hu3 (by have := HW.out.far; omega))); (have hco3 : w3.cell? ⟨w.heap.size + 1 + 1, 6, none⟩ = some (.string ⟨#[]⟩) := by rw [HO3.out.cell]; rfl); (have hfo3 := HO3.out.unfrozen 6); clear hi3 hu3 hs3 hcp)
        go_roundw
        case rel =>
          have hset := HO3.out.set 6 (.string tt)
          have hu5 := Upd.setCell w3 (w.heap.size + 1 + 1) 6 (.string tt)
          have hfar := HW.out.far
          have hs3 := HU3.out.size
          have hs0 := HB.out.size
          have hl := HO3.out.lt
          refine ⟨1, by omega, hid ?_, hid ⟨(HW.out.p.upd HU3.out (by omega)).upd hu5 (by omega), (HW.out.res.upd HU3.out (by omega)).upd hu5 (by omega), hset, HI3.out.upd hu5 (by omega), hfar, Nat.lt_of_lt_of_le HI3.out.lt hu5.size⟩⟩
          exact (HB.out.trans (HU3.out.below HB.out.size (fun k _ e => by omega))).trans (hu5.below (by omega) (fun k _ e => by omega))
        case measure =>
          have hset := Upd.setCell w3 (w.heap.size + 1 + 1) 6 (.string tt)
          have := (HI3.out.upd hset (by have := HW.out.far; omega)).len
          rw [this, HLEN.out]; omega
      · have hn : j = 1 := by have := HQS.out; omega
        subst hn
        have HOUT := HW.out.out
        unfold ordA at HOUT
        obtain ⟨o0, o1, o2, o3, o4, o5, o6⟩ := HOUT.cells7
        have HRES := HW.out.res
        obtain ⟨f0, f1, f2, f3, f4, f5, f6⟩ := HRES.free7
        unfold ordA at HRES
        obtain ⟨r0, r1, r2, r3, r4, r5, r6⟩ := HRES.cells7
        obtain ⟨wz, hwz, hbz, huz⟩ := HRES.all7 (.int .i64 0) (.int .i64 kind) (.int .i64 0) (.int .i64 0) (.int .i64 0) (.int .i64 0) (.string tt)
        have HWZ := hid hwz
        have HBZ := hid hbz
        have HBF := hid (HB.out.trans (huz.below HB.out.size (fun k _ e => by omega)))
        clear HOUT HRES hwz hbz huz
        go_wp2_with (at_next; refine wpList_nextS _ rfl _ rfl rfl HW.out.it HASC.out (fun _ => ?_) (fun h1 => absurd h1 hlt))
        rw [← HWZ.out]
        clear o0 o1 o2 o3 o4 o5 o6 r0 r1 r2 r3 r4 r5 r6 f0 f1 f2 f3 f4 f5 f6
        obtain ⟨z0, z1, z2, z3, z4, z5, z6⟩ := HBZ.out.cells7
        (try simp only [Exit.inBlock, Exit.then])
        refine bodyPost_ret (res_cell1 rfl _ _ _ rfl (by go_simp; rfl)) rfl ?_
        exact ⟨by first | rfl | simp [*], HBF.out⟩
  | false =>
    have htt2 : tt = ⟨#[]⟩ := by rw [HTT.out, hT]; rfl
    subst htt2
    have HSZ : Hid (q.size = n) := hid (by rw [HN.out]; exact fields_size hT q HQ.out)
    have HGET := hid (fields_get hT q HQ.out)
    go_loopw [5] (fun _ wr => UsR w r q who kind a b c d t wr) (fun _ wr => strN wr r)
    case atStart => exact ⟨0, by omega, HB2, HW2⟩
    case round =>
      clear HW2 HB2
      obtain ⟨j, hj, HB, HW⟩ := hrel
      have HLEN := hid HW.out.it.len
      by_cases hlt : j < q.size
      · obtain ⟨hg1, hg2⟩ := HGET.out j hlt
        have hne : (((q[j].toNat : Nat) : Int) == 84) = false := by rw [hg1]; simp; omega
        have HG1 := hid hg1
        have HG2 := hid hg2
        clear hg1 hg2
        go_wp2_with (at_next; refine wpList_nextS _ rfl _ rfl rfl HW.out.it HASC.out (fun h0 => absurd hlt h0) (fun _ w3 hi3 hu3 hs3 => ?_))
        have HU3 := hid hu3
        have HW3 : Hid (UsW 0 w3 w.heap.size r q (ordA who kind a b c d t) (ordA 0 0 0 0 0 0 ⟨#[]⟩) (ordA 0 kind (pf j 0 a) (pf j 1 b) (pf j 2 c) (pf j 3 d) ⟨#[]⟩) (j + 1)) := hid (by
          have hf := HW.out.far
          exact ⟨HW.out.p.upd hu3 (by omega), HW.out.res.upd hu3 (by omega), HW.out.out.upd hu3 (by omega), hi3, hf, hi3.lt⟩)
        clear hi3 hu3 hs3
        refine (order_number j HG2.out _ HG1.out _ _ _).mono ?_
        rintro e w4 ⟨rfl, hb4⟩
        rw [Nat.zero_add]
        have HB4 := hid hb4
        have HW4 : Hid (UsW 0 w4 w.heap.size r q (ordA who kind a b c d t) (ordA 0 0 0 0 0 0 ⟨#[]⟩) (ordA 0 kind (pf j 0 a) (pf j 1 b) (pf j 2 c) (pf j 3 d) ⟨#[]⟩) (j + 1)) := hid
          ⟨HW3.out.p.below hb4, HW3.out.res.below hb4, HW3.out.out.below hb4, HW3.out.it.below hb4, HW3.out.far, Nat.lt_of_lt_of_le HW3.out.lt hb4.size⟩
        clear hb4
        go_wp2_with fail
        refine (order_number j HG2.out _ HG1.out _ _ _).mono ?_
        rintro e w5 ⟨rfl, hb5⟩
        rw [Nat.zero_add]
        have HB5 := hid hb5
        have HW5 : Hid (UsW 0 w5 w.heap.size r q (ordA who kind a b c d t) (ordA 0 0 0 0 0 0 ⟨#[]⟩) (ordA 0 kind (pf j 0 a) (pf j 1 b) (pf j 2 c) (pf j 3 d) ⟨#[]⟩) (j + 1)) := hid
          ⟨HW4.out.p.below hb5, HW4.out.res.below hb5, HW4.out.out.below hb5, HW4.out.it.below hb5, HW4.out.far, Nat.lt_of_lt_of_le HW4.out.lt hb5.size⟩
        clear hb5
        have hcp : w5.cell? ⟨w.heap.size, 2 + j, none⟩ = some (.int .i64 (num4 a b c d j)) := by rw [HW5.out.p.cell]; exact ord_at _ _ _ _ _ _ _ _ HG2.out
        have hco : ∃ v, w5.cell? ⟨w.heap.size + 1 + 1, 2 + j, none⟩ = some v := ⟨_, by rw [HW5.out.out.cell]; exact ord_at _ _ _ _ _ _ _ _ HG2.out⟩
        obtain ⟨vo, hco⟩ := hco
        have hfo : w5.frozen? ⟨w.heap.size + 1 + 1, 2 + j, none⟩ = false := HW5.out.out.unfrozen _
        go_wp2_with fail
        go_roundw
        case rel =>
          have hset := HW5.out.out.set (2 + j) (.int .i64 (num4 a b c d j))
          rw [ord_set kind a b c d _ j HG2.out] at hset
          have hu5 := Upd.setCell w5 (w.heap.size + 1 + 1) (2 + j) (.int .i64 (num4 a b c d j))
          have hfar := HW5.out.far
          have hs3 := HU3.out.size
          have hs4 := HB4.out.size
          have hs5 := HB5.out.size
          have hs0 := HB.out.size
          refine ⟨j + 1, by omega, hid ?_, hid ⟨HW5.out.p.upd hu5 (by omega), HW5.out.res.upd hu5 (by omega), hset, HW5.out.it.upd hu5 (by omega), hfar, Nat.lt_of_lt_of_le HW5.out.lt hu5.size⟩⟩
          have hl : w.heap.size < w3.heap.size := HW3.out.p.lt
          exact (Below.next (Below.next (HB.out.trans (HU3.out.below HB.out.size (fun k _ e => by omega))) HB4.out) HB5.out).trans (hu5.below (by omega) (fun k _ e => by omega))
        case measure =>
          have hset := Upd.setCell w5 (w.heap.size + 1 + 1) (2 + j) (.int .i64 (num4 a b c d j))
          have := (HW5.out.it.upd hset (by have := HW5.out.far; omega)).len
          rw [this, HLEN.out]; omega
      · have hn : n = j := by have := HSZ.out; omega
        subst hn
        have HOUT := HW.out.out
        unfold ordA at HOUT
        obtain ⟨o0, o1, o2, o3, o4, o5, o6⟩ := HOUT.cells7
        have HRES := HW.out.res
        obtain ⟨f0, f1, f2, f3, f4, f5, f6⟩ := HRES.free7
        unfold ordA at HRES
        obtain ⟨r0, r1, r2, r3, r4, r5, r6⟩ := HRES.cells7
        obtain ⟨wz, hwz, hbz, huz⟩ := HRES.all7 (.int .i64 0) (.int .i64 kind) (.int .i64 (pf (n) 0 a)) (.int .i64 (pf (n) 1 b)) (.int .i64 (pf (n) 2 c)) (.int .i64 (pf (n) 3 d)) (.string ⟨#[]⟩)
        have HWZ := hid hwz
        have HBZ := hid hbz
        have HBF := hid (HB.out.trans (huz.below HB.out.size (fun k _ e => by omega)))
        clear HOUT HRES hwz hbz huz
        go_wp2_with (at_next; refine wpList_nextS _ rfl _ rfl rfl HW.out.it HASC.out (fun _ => ?_) (fun h1 => absurd h1 hlt))
        rw [← HWZ.out]
        clear o0 o1 o2 o3 o4 o5 o6 r0 r1 r2 r3 r4 r5 r6 f0 f1 f2 f3 f4 f5 f6
        obtain ⟨z0, z1, z2, z3, z4, z5, z6⟩ := HBZ.out.cells7
        (try simp only [Exit.inBlock, Exit.then])
        refine bodyPost_ret (res_cell1 rfl _ _ _ rfl (by go_simp; rfl)) rfl ?_
        exact ⟨by first | rfl | simp [*], HBF.out⟩
end Go.Proofs.YtcjdlckfbkdibaaDoor
end
