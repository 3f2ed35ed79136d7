/- Joined texts, in this order: StrRange, ResCell. Each one's first remark says what it proves; no condition beyond those that its theorems name. -/
import Derived.Test.YtcjdlckfbkdibaaDoorJLawOrderBytes16
import Derived.Laws.RangeString
import Derived.Lib.IndexBytes
import Derived.Test.YtcjdlckfbkdibaaDoorJLawOrderBytes02
section
/- Ranging over a string of ASCII letters. No program in sight. -/
namespace Go.Proofs.YtcjdlckfbkdibaaDoor
open Go.RowKit
open Go.Lib (hid)
open Go.MapKept
set_option linter.unusedVariables false

/-- at block r stands an iterator over a string, at a place of it -/
def StrIt (w : World) (r : Nat) (s : ByteArray) (pos : Nat) : Prop := w.heap[r]? = some (.stringIter s pos)
theorem StrIt.lt {w : World} {r : Nat} {s : ByteArray} {pos : Nat} (h : StrIt w r s pos) : r < w.heap.size := (Array.getElem?_eq_some_iff.1 h).1
theorem StrIt.upd {S : Nat → Prop} {w w' : World} {r : Nat} {s : ByteArray} {pos : Nat} (h : StrIt w r s pos) (hu : Upd S w w') (hr : ¬ S r) : StrIt w' r s pos := hu.heap h hr
theorem StrIt.below {w w' : World} {r : Nat} {s : ByteArray} {pos : Nat} (h : StrIt w r s pos) (hb : Below w.heap.size w w') : StrIt w' r s pos := h.upd (S := fun _ => False) (Upd.of_below hb) (fun x => x)
/-- how many letters are left to come -/
def strN (w : World) (r : Nat) : Nat := match w.heap[r]? with
  | some (.stringIter s pos) => s.size - pos
  | _ => 0
theorem StrIt.len {w : World} {r : Nat} {s : ByteArray} {pos : Nat} (h : StrIt w r s pos) : strN w r = s.size - pos := by
  unfold StrIt at h
  unfold strN
  rw [h]
section wp
variable {P : Program} (w : World) {ops : Array Oper} {rest : List Oper} {o : Oper} {a : Act} {Q : Exit → Act → World → Prop} {t : TypeId} {s : ByteArray}
theorem wpList_rangeS (hg : o.guard = none) (mo : Operand) (hop : o.op = Op.range t mo) (ht : P.underlying t = some .string) (hm : a.eval mo = .string s)
    (hK : ∀ w', StrIt w' w.heap.size s 0 → Below w.heap.size w w' → w'.heap.size = w.heap.size + 1 → wpList P ops Q rest (a.put o.dst (.pointer (some ⟨w.heap.size, 0, none⟩))) w') : wpList P ops Q (o :: rest) a w := by
  refine wpList_plain hg fun K' hK' => ?_
  have hrun := run_range_string (P := P) w t s ht
  unfold Oper.wp
  simp [execOp, hop, hm, hrun, Result.andThen]
  exact hK' _ _ (hK _ (World.iter_heap w s 0) ((Below.refl _ _).alloc (Nat.le_refl _) _) (by simp [World.iter]))
theorem wpList_nextS (hg : o.guard = none) (it : Operand) (hop : o.op = Op.next it true) {r pos : Nat} (hit : a.eval it = .pointer (some ⟨r, 0, none⟩)) (h : StrIt w r s pos) (hasc : ∀ c ∈ s.data.toList, c.toNat < 128)
    (hDone : ¬ pos < s.size → wpList P ops Q rest (a.put o.dst (.tuple #[.bool false])) w)
    (hMore : ∀ (hl : pos < s.size) (w' : World), StrIt w' r s (pos + 1) → Upd (fun j => j = r) w w' → w'.heap.size = w.heap.size →
      wpList P ops Q rest (a.put o.dst (.tuple #[.bool true, .int .i64 (pos : Int), .int .i32 ((s[pos]'hl).toNat : Int)])) w') : wpList P ops Q (o :: rest) a w := by
  refine wpList_plain hg fun K' hK' => ?_
  unfold Oper.wp
  by_cases hl : pos < s.size
  · have hmem : s[pos]'hl ∈ s.data.toList := by
      have h2 := Lib.data_getElem? s pos hl
      exact List.mem_of_getElem? h2
    have ha := hasc _ hmem
    have hset := heap_set (o' := Obj.stringIter s (pos + 1)) h
    have hrun : (Instr.next (.pointer (some ⟨r, 0, none⟩)) true o.type).run P w = .ok (.tuple #[.bool true, .int .i64 (pos : Int), .int .i32 ((s[pos]'hl).toNat : Int)]) (Go.ChangeMaps.setBlock w r (.stringIter s (pos + 1))) := by
      unfold StrIt at h
      simp only [Instr.next, getObj, setObj, Sem.run_bind, Sem.run, h, Result.andThen, hl, if_true, decode_ascii s pos hl ha]
      simp [goInt, Sem.run, Go.ChangeMaps.setBlock]
    simp [execOp, hop, hit, hrun, Result.andThen]
    exact hK' _ _ (hMore hl _ hset.1 ⟨rfl, rfl, rfl, by simp [Go.ChangeMaps.setBlock], fun j _ hj => hset.2 j hj⟩ (by simp [Go.ChangeMaps.setBlock]))
  · have hrun : (Instr.next (.pointer (some ⟨r, 0, none⟩)) true o.type).run P w = .ok (.tuple #[.bool false]) w := by
      unfold StrIt at h
      simp [Instr.next, getObj, Sem.run, h, hl]
    simp [execOp, hop, hit, hrun, Result.andThen]
    exact hK' _ _ (hDone hl)
end wp
end Go.Proofs.YtcjdlckfbkdibaaDoor
end
section
/- Results in memory cells; blocks of seven and of nine cells. -/
namespace Go.Proofs.YtcjdlckfbkdibaaDoor
open Go.RowKit
open Go.Lib (hid)
set_option linter.unusedVariables false

theorem res_cell1 {fn : Func} {a : Tmp} {t : TypeId} (h : fn.results = #[.cell a t]) (tmps : Array Value) (P : Program) (w : World) {x : Addr} {v : Value} (ha : tmps.getD a undef = .pointer (some x)) (hl : (loadVar t x).run P w = .ok v w) : (results fn tmps).run P w = .ok v w := by
  have ha' : tmps[a]?.getD undef = .pointer (some x) := by rw [← ha]; simp
  simp [results, h, ha', asAddr, hl, Result.andThen]
theorem res_cell_tmp {fn : Func} {a u : Tmp} {t : TypeId} (h : fn.results = #[.cell a t, .tmp u]) (tmps : Array Value) (P : Program) (w : World) {x : Addr} {v : Value} (ha : tmps.getD a undef = .pointer (some x)) (hl : (loadVar t x).run P w = .ok v w) : (results fn tmps).run P w = .ok (.tuple #[v, tmps.getD u undef]) w := by
  have ha' : tmps[a]?.getD undef = .pointer (some x) := by rw [← ha]; simp
  simp [results, h, ha', asAddr, hl, Result.andThen]
section
variable {w : World} {g : Nat} {c0 c1 c2 c3 c4 c5 c6 c7 c8 : Value}
theorem Blk.cells7 (h : Blk w g #[c0, c1, c2, c3, c4, c5, c6]) : w.cell? ⟨g, 0, none⟩ = some c0 ∧ w.cell? ⟨g, 1, none⟩ = some c1 ∧ w.cell? ⟨g, 2, none⟩ = some c2 ∧ w.cell? ⟨g, 3, none⟩ = some c3 ∧ w.cell? ⟨g, 4, none⟩ = some c4 ∧ w.cell? ⟨g, 5, none⟩ = some c5 ∧ w.cell? ⟨g, 6, none⟩ = some c6 :=
  ⟨by rw [h.cell]; rfl, by rw [h.cell]; rfl, by rw [h.cell]; rfl, by rw [h.cell]; rfl, by rw [h.cell]; rfl, by rw [h.cell]; rfl, by rw [h.cell]; rfl⟩
theorem Blk.cells9 (h : Blk w g #[c0, c1, c2, c3, c4, c5, c6, c7, c8]) : w.cell? ⟨g, 0, none⟩ = some c0 ∧ w.cell? ⟨g, 1, none⟩ = some c1 ∧ w.cell? ⟨g, 2, none⟩ = some c2 ∧ w.cell? ⟨g, 3, none⟩ = some c3 ∧ w.cell? ⟨g, 4, none⟩ = some c4 ∧ w.cell? ⟨g, 5, none⟩ = some c5 ∧ w.cell? ⟨g, 6, none⟩ = some c6 ∧ w.cell? ⟨g, 7, none⟩ = some c7 ∧ w.cell? ⟨g, 8, none⟩ = some c8 :=
  ⟨by rw [h.cell]; rfl, by rw [h.cell]; rfl, by rw [h.cell]; rfl, by rw [h.cell]; rfl, by rw [h.cell]; rfl, by rw [h.cell]; rfl, by rw [h.cell]; rfl, by rw [h.cell]; rfl, by rw [h.cell]; rfl⟩
theorem Blk.free7 {cs : Array Value} (h : Blk w g cs) : w.frozen? ⟨g, 0, none⟩ = false ∧ w.frozen? ⟨g, 1, none⟩ = false ∧ w.frozen? ⟨g, 2, none⟩ = false ∧ w.frozen? ⟨g, 3, none⟩ = false ∧ w.frozen? ⟨g, 4, none⟩ = false ∧ w.frozen? ⟨g, 5, none⟩ = false ∧ w.frozen? ⟨g, 6, none⟩ = false :=
  ⟨h.unfrozen _, h.unfrozen _, h.unfrozen _, h.unfrozen _, h.unfrozen _, h.unfrozen _, h.unfrozen _⟩
theorem Blk.free9 {cs : Array Value} (h : Blk w g cs) : w.frozen? ⟨g, 0, none⟩ = false ∧ w.frozen? ⟨g, 1, none⟩ = false ∧ w.frozen? ⟨g, 2, none⟩ = false ∧ w.frozen? ⟨g, 3, none⟩ = false ∧ w.frozen? ⟨g, 4, none⟩ = false ∧ w.frozen? ⟨g, 5, none⟩ = false ∧ w.frozen? ⟨g, 6, none⟩ = false ∧ w.frozen? ⟨g, 7, none⟩ = false ∧ w.frozen? ⟨g, 8, none⟩ = false :=
  ⟨h.unfrozen _, h.unfrozen _, h.unfrozen _, h.unfrozen _, h.unfrozen _, h.unfrozen _, h.unfrozen _, h.unfrozen _, h.unfrozen _⟩
theorem Upd.set2 {S : Nat → Prop} {x y : World} {g : Nat} (h : Upd S x y) (hg : S g) (i : Nat) (u : Value) : Upd S x (y.setCell ⟨g, i, none⟩ u) := h.trans (Upd.setCell y g i u) (fun k _ q => by rw [q]; exact hg)
theorem Blk.all7 (h : Blk w g #[c0, c1, c2, c3, c4, c5, c6]) (u0 u1 u2 u3 u4 u5 u6 : Value) : ∃ wz, wz = ((((((w.setCell ⟨g, 0, none⟩ u0).setCell ⟨g, 1, none⟩ u1).setCell ⟨g, 2, none⟩ u2).setCell ⟨g, 3, none⟩ u3).setCell ⟨g, 4, none⟩ u4).setCell ⟨g, 5, none⟩ u5).setCell ⟨g, 6, none⟩ u6 ∧ Blk wz g #[u0, u1, u2, u3, u4, u5, u6] ∧ Upd (fun k => k = g) w wz :=
  ⟨_, rfl, by simpa using ((((((h.set 0 u0).set 1 u1).set 2 u2).set 3 u3).set 4 u4).set 5 u5).set 6 u6, ((((((Upd.setCell w g 0 u0).set2 rfl 1 u1).set2 rfl 2 u2).set2 rfl 3 u3).set2 rfl 4 u4).set2 rfl 5 u5).set2 rfl 6 u6⟩
theorem Blk.all9 (h : Blk w g #[c0, c1, c2, c3, c4, c5, c6, c7, c8]) (u0 u1 u2 u3 u4 u5 u6 u7 u8 : Value) : ∃ wz, wz = ((((((((w.setCell ⟨g, 0, none⟩ u0).setCell ⟨g, 1, none⟩ u1).setCell ⟨g, 2, none⟩ u2).setCell ⟨g, 3, none⟩ u3).setCell ⟨g, 4, none⟩ u4).setCell ⟨g, 5, none⟩ u5).setCell ⟨g, 6, none⟩ u6).setCell ⟨g, 7, none⟩ u7).setCell ⟨g, 8, none⟩ u8 ∧ Blk wz g #[u0, u1, u2, u3, u4, u5, u6, u7, u8] ∧ Upd (fun k => k = g) w wz :=
  ⟨_, rfl, by simpa using ((((((((h.set 0 u0).set 1 u1).set 2 u2).set 3 u3).set 4 u4).set 5 u5).set 6 u6).set 7 u7).set 8 u8, ((((((((Upd.setCell w g 0 u0).set2 rfl 1 u1).set2 rfl 2 u2).set2 rfl 3 u3).set2 rfl 4 u4).set2 rfl 5 u5).set2 rfl 6 u6).set2 rfl 7 u7).set2 rfl 8 u8⟩
end
end Go.Proofs.YtcjdlckfbkdibaaDoor
end
