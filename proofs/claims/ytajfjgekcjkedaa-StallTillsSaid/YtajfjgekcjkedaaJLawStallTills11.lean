/- Joined texts, in this order: CopyK. Each one's first remark says what it proves; no condition beyond those that its theorems name. -/
import Derived.Test.YtajfjgekcjkedaaJLawStallTills06
import Derived.Laws.CopyOwn
import Derived.Lib.AppendZerosOnto
import Derived.Lib.Overlaps
import Derived.ArgAppend
section
/- copy(dst, src) at elements of k cells, dst lying in a row that is known whole; append of zero values onto a part of a row; slices.overlaps apart. No program in sight. -/
namespace Go.Proofs.Ytajfjgekcjkedaa
open Go.RowKit
open Go.Lib (hid)
set_option linter.unusedVariables false

theorem run_copy_rowK {P : Program} (w : World) (dT sT ty elem : TypeId) (k g o dLen dCap : Nat) (a : Addr) (sLen sCap : Nat) (cur : Array Value) (t : TypeId) (cs : List Value)
    (hu : P.underlying dT = some (.slice elem)) (hs : (P.info? elem).map (·.size) = some k)
    (hg : w.heap[g]? = some (.cells cur t (0, 0))) (hn : cs.length = Nat.min sLen dLen * k)
    (hsrc : ∀ j v, cs[j]? = some v → w.cell? (a.add j) = some v) (hfit : o + cs.length ≤ cur.size) (h1 : ∀ v ∈ cs, v.oneCell' = true) :
    (Builtin.copy_ #[dT, sT] ty #[.slice (some ⟨g, o, none⟩) dLen dCap, .slice (some a) sLen sCap]).run P w =
      .ok (goInt (Nat.min sLen dLen : Nat)) (w.setRow g (cur.toList.take o ++ cs ++ cur.toList.drop (o + cs.length)).toArray) := by
  have hl := run_loadCells_list (P := P) w a cs hsrc
  have hst := run_storeCells_at P g o t cs 0 cur w hg (by simpa using hfit) h1
  cases hq : P.info? elem with
  | none => simp [hq] at hs
  | some i =>
    have hi : i.size = k := by simpa [hq] using hs
    have hm : min sLen dLen * k = cs.length := hn.symm
    simp [Builtin.copy_, run_underlying hu, Builtin.lenOf, Builtin.firstCells, sizeOf, typeInfo, hq, hi, hm, hl, hst]
theorem Upd.setRow {w : World} {g : Nat} (cs : Array Value) : Upd (fun j => j = g) w (w.setRow g cs) :=
  ⟨rfl, rfl, rfl, by simp [World.setRow], fun k hk hn => setRow_other w g k cs hn⟩
theorem wpList_copyU {P : Program} {w : World} {ops : Array Oper} {rest : List Oper} {o : Oper} {a : Act} {Q : Exit → Act → World → Prop} (hgd : o.guard = none) (d s : Operand) (dT sT : TypeId)
    (ho : o.op = .call { callee := .builtin .copy, args := #[d, s], argTypes := #[dT, sT] }) (elem : TypeId) (hu : P.underlying dT = some (.slice elem)) (k : Nat) (hsz : (P.info? elem).map (·.size) = some k)
    (g off dLen dCap : Nat) (ad : Addr) (sLen sCap : Nat) (hd : a.eval d = .slice (some ⟨g, off, none⟩) dLen dCap) (hs : a.eval s = .slice (some ad) sLen sCap)
    (cur : List Value) (t : TypeId) (hg : w.heap[g]? = some (.cells cur.toArray t (0, 0))) (cs : List Value) (hn : cs.length = Nat.min sLen dLen * k)
    (hsrc : ∀ j v, cs[j]? = some v → w.cell? (ad.add j) = some v) (hfit : off + cs.length ≤ cur.length) (h1 : ∀ v ∈ cs, v.oneCell' = true)
    (h : ∀ w', Hid (w'.heap[g]? = some (.cells (splice cur off cs).toArray t (0, 0))) → Upd (fun j => j = g) w w' → w'.heap.size = w.heap.size → wpList P ops Q rest (a.put o.dst (goInt (Nat.min sLen dLen : Nat))) w') : wpList P ops Q (o :: rest) a w := by
  refine wpList_plain hgd fun K hK => ?_
  have hrun := run_copy_rowK (P := P) w dT sT o.type elem k g off dLen dCap ad sLen sCap cur.toArray t cs hu hsz hg hn hsrc (by simpa using hfit) h1
  unfold Oper.wp execOp
  simp only [ho, resolve, invoke, builtin, Sem.run_bind, Sem.run_pure, Result.andThen_ok, List.map_toArray, List.map_cons, List.map_nil, hd, hs, hrun]
  exact hK _ _ (h _ (show _ = _ by simpa [splice] using setRow_heap w g _ _ t _ hg) (Upd.setRow _) (by simp [World.setRow]))
theorem step_copyU {P : Program} {ops : Array Oper} {o : Oper} {a : Act} {w : World} {K : Act → World → Prop} {Q : Exit → Act → World → Prop} {E : Prop} (hgd : o.guard = none) (d s : Operand) (dT sT : TypeId)
    (ho : o.op = .call { callee := .builtin .copy, args := #[d, s], argTypes := #[dT, sT] }) (elem : TypeId) (hu : P.underlying dT = some (.slice elem)) (k : Nat) (hsz : (P.info? elem).map (·.size) = some k)
    (g off dLen dCap : Nat) (ad : Addr) (sLen sCap : Nat) (hd : a.eval d = .slice (some ⟨g, off, none⟩) dLen dCap) (hs : a.eval s = .slice (some ad) sLen sCap)
    (cur : List Value) (t : TypeId) (hg : w.heap[g]? = some (.cells cur.toArray t (0, 0))) (cs : List Value) (hn : cs.length = Nat.min sLen dLen * k)
    (hsrc : ∀ j v, cs[j]? = some v → w.cell? (ad.add j) = some v) (hfit : off + cs.length ≤ cur.length) (h1 : ∀ v ∈ cs, v.oneCell' = true)
    (h : ∀ w', Hid (w'.heap[g]? = some (.cells (splice cur off cs).toArray t (0, 0))) → Upd (fun j => j = g) w w' → w'.heap.size = w.heap.size → K (a.put o.dst (goInt (Nat.min sLen dLen : Nat))) w') :
    if Region.wanted o (yielded ops a.tmps) = true then Oper.wp P o a w K Q else E := by
  have hw : Region.wanted o (yielded ops a.tmps) = true := by simp [Region.wanted, hgd]
  rw [if_pos hw]
  have hrun := run_copy_rowK (P := P) w dT sT o.type elem k g off dLen dCap ad sLen sCap cur.toArray t cs hu hsz hg hn hsrc (by simpa using hfit) h1
  unfold Oper.wp execOp
  simp only [ho, resolve, invoke, builtin, Sem.run_bind, Sem.run_pure, Result.andThen_ok, List.map_toArray, List.map_cons, List.map_nil, hd, hs, hrun]
  exact h _ (show _ = _ by simpa [splice] using setRow_heap w g _ _ t _ hg) (Upd.setRow _) (by simp [World.setRow])
/-- append where there is room, onto the head of a row that is known whole; the two may overlap -/
theorem step_appR {P : Program} {ops : Array Oper} {o : Oper} {a : Act} {w : World} {K : Act → World → Prop} {Q : Exit → Act → World → Prop} {E : Prop} (hgd : o.guard = none) (s x : Operand) (t : TypeId)
    (ho : o.op = .call { callee := .builtin .append, args := #[s, x], argTypes := #[t, t] }) (e : TypeId) (i : TypeInfo) (size : Nat) (ht : P.underlying t = some (.slice e)) (hi : P.info? e = some i) (hsz : i.size = size)
    (g n cap : Nat) (hs : a.eval s = .slice (some ⟨g, 0, none⟩) n cap) (ad : Addr) (m c : Nat) (news : List Value) (hx : a.eval x = .slice (some ad) m c) (hl : news.length = m * size)
    (hsrc : ∀ j u, news[j]? = some u → w.cell? (ad.add j) = some u) (h1 : ∀ u ∈ news, u.oneCell' = true) (hroom : n + m ≤ cap)
    (cur : List Value) (te : TypeId) (hg : w.heap[g]? = some (.cells cur.toArray te (0, 0))) (hfit : n * size + news.length ≤ cur.length)
    (h : ∀ w', Hid (w'.heap[g]? = some (.cells (splice cur (n * size) news).toArray te (0, 0))) → Upd (fun j => j = g) w w' → w'.heap.size = w.heap.size → K (a.put o.dst (.slice (some ⟨g, 0, none⟩) (n + m) cap)) w') :
    if Region.wanted o (yielded ops a.tmps) = true then Oper.wp P o a w K Q else E := by
  have hw : Region.wanted o (yielded ops a.tmps) = true := by simp [Region.wanted, hgd]
  rw [if_pos hw]
  subst hsz
  have hfc := run_firstCells_some (P := P) w i.size m ad m c news hl hsrc
  have hst := run_storeCells_at P g (n * i.size) te news 0 cur.toArray w hg (by simpa using hfit) h1
  have hrun : (Builtin.append_ #[t, t] o.type #[.slice (some ⟨g, 0, none⟩) n cap, .slice (some ad) m c]).run P w = .ok (.slice (some ⟨g, 0, none⟩) (n + m) cap) (w.setRow g (splice cur (n * i.size) news).toArray) := by
    simp only [Nat.add_zero] at hst
    simp [Builtin.append_, run_underlying ht, sizeOf, typeInfo, hi, Builtin.lenOf, hroom, hfc, Addr.add_lit, hst, splice]
  unfold Oper.wp execOp
  simp only [ho, resolve, invoke, builtin, Sem.run_bind, Sem.run_pure, Result.andThen_ok, List.map_toArray, List.map_cons, List.map_nil, hs, hx, hrun]
  exact h _ (show _ = _ from setRow_heap w g _ _ te _ hg) (Upd.setRow _) (by simp [World.setRow])
theorem wpList_clearR {P : Program} {w : World} {ops : Array Oper} {rest : List Oper} {o : Oper} {a : Act} {Q : Exit → Act → World → Prop} (hgd : o.guard = none) (s : Operand) (t : TypeId)
    (ho : o.op = .call { callee := .builtin .clear, args := #[s], argTypes := #[t] }) (e : TypeId) (z : Value) (ht : P.underlying t = some (.slice e)) (hv : ∀ w, (zeroValue e).run P w = .ok z w)
    (g off n cap : Nat) (hs : a.eval s = .slice (some ⟨g, off, none⟩) n cap) (hn : 0 < n)
    (cur : List Value) (te : TypeId) (hg : w.heap[g]? = some (.cells cur.toArray te (0, 0))) (cs : List Value) (hcs : (Builtin.zeroCells z.cells n).toList = cs) (hfit : off + cs.length ≤ cur.length) (h1 : ∀ v ∈ cs, v.oneCell' = true)
    (h : ∀ w', Hid (w'.heap[g]? = some (.cells (splice cur off cs).toArray te (0, 0))) → Upd (fun j => j = g) w w' → w'.heap.size = w.heap.size → wpList P ops Q rest (a.put o.dst (.tuple #[])) w') : wpList P ops Q (o :: rest) a w := by
  refine wpList_plain hgd fun K hK => ?_
  have hst := run_storeCells_at P g off te cs 0 cur.toArray w hg (by simpa using hfit) h1
  have hrun : (Builtin.clear_ #[t] o.type #[.slice (some ⟨g, off, none⟩) n cap]).run P w = .ok (.tuple #[]) (w.setRow g (splice cur off cs).toArray) := by
    simp only [Nat.add_zero] at hst
    obtain ⟨m, rfl⟩ : ∃ m, n = m + 1 := ⟨n - 1, by omega⟩
    simp [Builtin.clear_, run_underlying ht, hv, hcs, hst, splice]
  unfold Oper.wp execOp
  simp only [ho, resolve, invoke, builtin, Sem.run_bind, Sem.run_pure, Result.andThen_ok, List.map_toArray, List.map_cons, List.map_nil, hs, hrun]
  exact hK _ _ (h _ (show _ = _ from setRow_heap w g _ _ te _ hg) (Upd.setRow _) (by simp [World.setRow]))
section
variable {α : Type}
theorem take_left' (X R : List α) (n : Nat) (h : X.length = n) : (X ++ R).take n = X := by subst h; simp
theorem splice_grow (Z X Y V : List α) (k m r : Nat) (hZ : Z.take k = X) (hX : X.length = k) (hY : Y.length = m) (hV : V.length = r) (hl : k + m + r ≤ Z.length) : (splice (splice Z k Y) (k + m) V).take (k + m + r) = X ++ (Y ++ V) := by
  subst hX hY hV
  unfold splice
  rw [hZ]
  have e : (X ++ (Y ++ Z.drop (X.length + Y.length))).take (X.length + Y.length) = X ++ Y := by
    rw [← List.append_assoc]; exact take_left' _ _ _ (by simp)
  rw [e, ← List.append_assoc, List.append_assoc X Y V]
  exact take_left' _ _ _ (by simp; omega)
theorem splice_room (Z X Y V : List α) (k m r : Nat) (hZ : Z.take k = X) (hX : X.length = k) (hY : Y.length = m) (hV : V.length = r) (hl : k + m + r ≤ Z.length) : (splice (splice Z (k + m) V) k Y).take (k + m + r) = X ++ (Y ++ V) := by
  subst hX hY hV
  unfold splice
  have e1 : (Z.take (X.length + Y.length) ++ (V ++ Z.drop (X.length + Y.length + V.length))).take X.length = X := by
    rw [List.take_append_of_le_length (by simp; omega), List.take_take, Nat.min_eq_left (by omega), hZ]
  have e2 : (Z.take (X.length + Y.length) ++ (V ++ Z.drop (X.length + Y.length + V.length))).drop (X.length + Y.length) = V ++ Z.drop (X.length + Y.length + V.length) := by
    rw [List.drop_append]
    have : (Z.take (X.length + Y.length)).length = X.length + Y.length := by simp; omega
    rw [this]
    simp
  rw [e1, e2, ← List.append_assoc Y, ← List.append_assoc X]
  exact take_left' _ _ _ (by simp; omega)
theorem splice_len (Z V : List α) (k : Nat) (h : k + V.length ≤ Z.length) : (splice Z k V).length = Z.length := length_splice Z k V h
/-- what lies ahead is as it was -/
theorem splice_take (Z V : List α) (k j : Nat) (h : j ≤ k) (hk : k ≤ Z.length) : (splice Z k V).take j = Z.take j := by
  unfold splice
  rw [List.take_append_of_le_length (by simp; omega), List.take_take, Nat.min_eq_left h]
theorem splice_drop (Z X V : List α) (k r : Nat) (hZ : Z.take k = X) (hX : X.length = k) (hV : V.length = r) : (splice Z k V).take (k + r) = X ++ V := by
  subst hX hV
  unfold splice
  rw [hZ, ← List.append_assoc]
  exact take_left' _ _ _ (by simp)
end
end Go.Proofs.Ytajfjgekcjkedaa
end
