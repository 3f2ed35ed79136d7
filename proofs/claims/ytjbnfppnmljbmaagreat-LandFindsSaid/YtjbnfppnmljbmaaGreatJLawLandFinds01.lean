/- Joined texts, in this order: Kit, RectMath, Mem. Each one's first remark says what it proves; no condition beyond those that its theorems name. -/
import Derived.WalkKit
import Derived.WalkSpells
import Derived.WalkLawsBesides
import Derived.Handy
import Derived.Lib.Hide
import Derived.Lib.SmallJoins
section
/- Small laws on worlds and slices that the walks of this claim share; no program in sight. -/
namespace Go.Proofs.YtjbnfppnmljbmaaGreat
open Go.RowKit
open Go.Lib (hid)
set_option linter.unusedVariables false

theorem wf64 {a : Int} (h : (Lit.int .i64 a).wf = true) : -9223372036854775808 ≤ a ∧ a ≤ 9223372036854775807 := by
  have h := h
  simp only [Lit.wf, Bool.and_eq_true, decide_eq_true_eq] at h
  exact h
theorem wf8 {a : Int} (h : (Lit.int .u8 a).wf = true) : 0 ≤ a ∧ a ≤ 255 := by
  have h := h
  simp only [Lit.wf, Bool.and_eq_true, decide_eq_true_eq] at h
  exact h

theorem Grown.of_eq {w w' : World} (h : w = w') : Grown w w' := h ▸ Grown.refl w
theorem Below.of_eq {w w' : World} (h : w = w') : Below w.heap.size w w' := h ▸ Below.refl _ w

/-- the slice at a reads as the list xs of cells -/
def Rd (w : World) (a : Option Addr) (xs : List Value) : Prop :=
  ∀ i, i < xs.length → ∃ b off, a = some ⟨b, off, none⟩ ∧ w.cell? ⟨b, off + i, none⟩ = xs[i]?

theorem Rd.nil (w : World) (a : Option Addr) : Rd w a [] := fun i h => by simp at h

theorem Rd.congr {w w' : World} {a : Option Addr} {xs : List Value} (h : Rd w a xs)
    (hk : ∀ b off, a = some ⟨b, off, none⟩ → b < w.heap.size → w'.heap[b]? = w.heap[b]?) : Rd w' a xs := fun i hi => by
  obtain ⟨b, off, ha, hc⟩ := h i hi
  have hx : xs[i]? = some xs[i] := List.getElem?_eq_getElem hi
  refine ⟨b, off, ha, ?_⟩
  rw [← hc]
  exact World.cell?_of_block (hk b off ha (World.block_lt_of_cell? w _ (hc.trans hx)))

theorem Rd.below {w w' : World} {a : Option Addr} {xs : List Value} {B : Nat} (h : Rd w a xs) (hb : Below B w w') (hB : ∀ b off, a = some ⟨b, off, none⟩ → 0 < xs.length → b < B) : Rd w' a xs := fun i hi => by
  obtain ⟨b, off, ha, hc⟩ := h i hi
  refine ⟨b, off, ha, ?_⟩
  rw [← hc]
  exact World.cell?_of_block (hb.block b (hB b off ha (by omega)))

theorem Rd.below' {w w' : World} {a : Option Addr} {xs : List Value} (h : Rd w a xs) (hb : Below w.heap.size w w') : Rd w' a xs :=
  h.congr fun b off _ hlt => hb.block b hlt

/-- one element of a slice of integers: its cell, and the lists around it -/
theorem Rd.int {w : World} {a : Option Addr} {k : IntKind} {zs : List Int} (h : Rd w a (zs.map (.int k))) (i : Nat) (hi : i < zs.length) :
    ∃ b off x, a = some ⟨b, off, none⟩ ∧ w.cell? ⟨b, off + i, none⟩ = some (.int k x) ∧ zs[i]? = some x ∧ zs.drop i = x :: zs.drop (i + 1) ∧ zs.take (i + 1) = zs.take i ++ [x] ∧ x ∈ zs := by
  obtain ⟨b, off, ha, hc⟩ := h i (by simpa using hi)
  refine ⟨b, off, zs[i], ha, ?_, List.getElem?_eq_getElem hi, List.drop_eq_getElem_cons hi, ?_, List.getElem_mem hi⟩
  · rw [hc]; simp [hi]
  · rw [List.take_succ_eq_append_getElem hi]

/-- what the shell tells of a slice of integers that came in, as a reading -/
theorem Rd.of_row {k : IntKind} {w : World} {a : Option Addr} {len cap : Nat} {zs : List Int}
    (h : (a = none ∧ len = 0 ∧ cap = 0 ∧ zs = []) ∨
      ∃ x, a = some x ∧ len ≤ cap ∧ cap ≤ maxLen ∧ zs.length = cap ∧ (∀ i, i < zs.length → w.cell? (x.add i) = some (.int k (zs.getD i 0))) ∧ ∀ n ∈ zs, (Lit.int k n).wf = true) :
    ∃ ys : List Int, len = ys.length ∧ len ≤ 9223372036854775807 ∧ Rd w a (ys.map (.int k)) ∧ (∀ n ∈ ys, (Lit.int k n).wf = true) ∧ len ≤ cap ∧ cap ≤ 9223372036854775807 ∧ (a = none → cap = 0) := by
  rcases h with ⟨rfl, rfl, rfl, rfl⟩ | ⟨x, rfl, hl, hm, hz, hc, hw⟩
  · exact ⟨[], rfl, by omega, Rd.nil _ _, fun n h => by simp at h, by omega, by omega, fun _ => rfl⟩
  · refine ⟨zs.take len, by simp; omega, by unfold maxLen at hm; omega, fun i hi => ?_, fun n hn => hw n (List.mem_of_mem_take hn), hl, by unfold maxLen at hm; omega, nofun⟩
    have hi : i < len := by simp at hi; omega
    obtain ⟨b, off, spot⟩ := x
    have h0 := hc i (by omega)
    have hspot : spot = none := by
      have := hc 0 (by omega)
      simpa [Addr.add] using World.cell?_spot this
    subst hspot
    refine ⟨b, off, rfl, ?_⟩
    rw [Addr.add_lit] at h0
    rw [h0, List.getElem?_map, List.getElem?_take, if_pos hi]
    simp [List.getD, show i < zs.length by omega]

/-- a slice type of the program: its element type, and what its element is made of -/
structure SlT (P : Program) (t e : TypeId) (z : Value) (size bytes : Nat) : Prop where
  u : P.underlying t = some (.slice e)
  info : ∃ i, P.info? e = some i ∧ i.zero = some z ∧ i.size = size ∧ i.bytes = bytes
  zs : z.cells.size = size
  pos : 0 < size
  bpos : 0 < bytes

theorem SlT.mk' {P : Program} {t e : TypeId} {z : Value} {size bytes : Nat} (u : P.underlying t = some (.slice e))
    (h : (P.info? e).map (fun i => (i.zero, i.size, i.bytes)) = some (some z, size, bytes)) (zs : z.cells.size = size) (pos : 0 < size) (bpos : 0 < bytes) : SlT P t e z size bytes :=
  ⟨u, info_parts h, zs, pos, bpos⟩

/-- append(s, x...): s owned by the call, x any row of cells -/
theorem wpList_appendN {P : Program} {t e : TypeId} {z : Value} {size bytes : Nat} (T : SlT P t e z size bytes) (w : World) {ops : Array Oper} {rest : List Oper} {o : Oper} {a : Act} {Q : Exit → Act → World → Prop}
    (hgd : o.guard = none) (s x : Operand) (ho : o.op = .call { callee := .builtin .append, args := #[s, x], argTypes := #[t, t] })
    (base : Nat) (v : Value) (n : Nat) (xs : List Value) (hs : a.eval s = v) (hown : w.ownsRow base e size v n xs)
    (ao : Option Addr) (m c : Nat) (news : List Value) (hx : a.eval x = .slice ao m c) (hl : news.length = m * size) (hc0 : m = 0 → ao = none → c = 0) (hrd : Rd w ao news) (h1 : ∀ u ∈ news, u.oneCell' = true)
    (hbytes : (n + m) * bytes ≤ 140737488355328) (hbase : base ≤ w.heap.size)
    (h : ∀ v' w', w'.ownsRow base e size v' (n + m) (xs ++ news) → w.grownBy w' v.ownBlock → (v' = .slice none 0 0 ↔ v = .slice none 0 0 ∧ m = 0) → wpList P ops Q rest (a.put o.dst v') w') : wpList P ops Q (o :: rest) a w := by
  obtain ⟨i, hi, hz, hsz, hby⟩ := T.info
  have h63 : n + m ≤ maxLen := by
    have : (n + m) * 1 ≤ (n + m) * bytes := Nat.mul_le_mul_left _ T.bpos
    unfold maxLen; omega
  cases ao with
  | some ad =>
    refine wpList_append_own w hgd s x t ho base e i z size bytes T.u hi hz hsz hby T.zs T.pos v n xs hs hown ad m c news hx hl ?_ h1 h63 hbytes hbase h
    intro j u hu
    obtain ⟨b, off, had, hc⟩ := hrd j (by have := (List.getElem?_eq_some_iff.1 hu).1; exact this)
    obtain rfl := Option.some.inj had
    rw [Addr.add_lit, hc, hu]
  | none =>
    have hn : news = [] := by
      cases news with
      | nil => rfl
      | cons y ys => obtain ⟨b, off, had, _⟩ := hrd 0 (by simp); cases had
    subst hn
    have hm0 : m = 0 := by
      have := T.pos
      simp only [List.length_nil] at hl
      rcases Nat.eq_zero_or_pos m with h | h
      · exact h
      · have := Nat.mul_pos h T.pos; omega
    subst hm0
    obtain rfl := hc0 rfl rfl
    refine wpList_plain hgd fun K hK' => ?_
    have hrun := run_append_owned_none (P := P) w base t o.type e i size T.u hi v n xs hown
    unfold Oper.wp
    simp [execOp, ho, resolve, invoke, builtin, hs, hx, hrun, Result.andThen]
    exact hK' _ _ (h v w (by simpa using hown) (World.grownBy.refl _ _) (by simp))

/-- append(s, x): one element more -/
theorem wpList_append1 {P : Program} {t e : TypeId} {z : Value} {size bytes : Nat} (T : SlT P t e z size bytes) (w : World) {ops : Array Oper} {rest : List Oper} {o : Oper} {a : Act} {Q : Exit → Act → World → Prop}
    (hgd : o.guard = none) (s x : Operand) (us : Array Value) (ho : o.op = .call { callee := .builtin .append, args := #[s, x], argTypes := #[t, t] })
    (base : Nat) (v : Value) (n : Nat) (xs : List Value) (hs : a.eval s = v) (hown : w.ownsRow base e size v n xs)
    (hx : a.eval x = .slice (some ⟨w.heap.size, 0, none⟩) 1 1) (hl : us.size = size) (h1 : ∀ u ∈ us.toList, u.oneCell' = true)
    (hbytes : (n + 1) * bytes ≤ 140737488355328) (hbase : base ≤ w.heap.size)
    (h : ∀ v' w', w'.ownsRow base e size v' (n + 1) (xs ++ us.toList) → w.grownBy w' v.ownBlock → v' ≠ .slice none 0 0 → wpList P ops Q rest (a.put o.dst v') w') : wpList P ops Q (o :: rest) a (w.alloc (.cells us e)) := by
  refine wpList_appendN T (w.alloc (.cells us e)) hgd s x ho base v n xs hs (hown.alloc _) (some ⟨w.heap.size, 0, none⟩) 1 1 us.toList hx (by simpa using hl) (fun _ h => by cases h) ?_ h1 hbytes (by simp; omega) ?_
  · intro i hi
    refine ⟨w.heap.size, 0, rfl, ?_⟩
    rw [Nat.zero_add, World.cell?_alloc_new]
    simp
  · intro v' w' h2 h3 h4
    refine h v' w' h2 ?_ (fun e => by simp [h4] at e)
    exact ⟨h3.os, h3.tape, h3.output, by have := h3.size; simp at this; omega, fun k hk hne => (h3.block k (by simp; omega) hne).trans (Below.heap_alloc w _ k hk)⟩

theorem ownsRow_base {w : World} {base base' : Nat} {e : TypeId} {v : Value} {n : Nat} {xs : List Value} {size : Nat} (h : w.ownsRow base e size v n xs) (hb : base' ≤ base) : w.ownsRow base' e size v n xs := by
  refine ⟨h.1, ?_⟩
  rcases h.2 with h | ⟨g, cap, cur, hv, hg, r⟩
  · exact .inl h
  · exact .inr ⟨g, cap, cur, hv, by omega, r⟩

/-- what is owned reads -/
theorem ownsRow.rd {w : World} {base : Nat} {e : TypeId} {v : Value} {n : Nat} {xs : List Value} {size : Nat} (h : w.ownsRow base e size v n xs) :
    ∃ a cap, v = .slice a n cap ∧ n ≤ cap ∧ cap ≤ maxLen ∧ Rd w a xs ∧ (a = none → cap = 0) := by
  rcases h.2 with ⟨rfl, rfl⟩ | ⟨g, cap, cur, rfl, hb, hg, hnc, hcm, hcs, htake⟩
  · have : xs = [] := List.eq_nil_of_length_eq_zero (by simpa using h.1)
    subst this
    exact ⟨none, 0, rfl, by omega, by omega, Rd.nil _ _, fun _ => rfl⟩
  · refine ⟨_, cap, rfl, hnc, hcm, fun i hi => ⟨g, 0, rfl, ?_⟩, fun h => by cases h⟩
    rw [Nat.zero_add]
    exact h.cellAt i (by rw [← h.1]; exact hi)

/-- make([]T, l, c), T of one cell: l noughts are owned, there is room for c -/
theorem wpList_make {P : Program} {t e : TypeId} {z : Value} {bytes : Nat} (T : SlT P t e z 1 bytes) (hzc : z.cells = #[z]) (w : World) {ops : Array Oper} {rest : List Oper} {o : Oper} {a : Act} {Q : Exit → Act → World → Prop}
    (hg : o.guard = none) (l c : Operand) (hop : o.op = Op.makeSlice t l c) (base : Nat) (kl kc : IntKind) (L C : Int) (n m : Nat) (hl : a.eval l = .int kl L) (hc : a.eval c = .int kc C) (hL : L = (n : Int)) (hC : C = (m : Int)) (hnm : n ≤ m)
    (b2 : bytes * m ≤ 281474976710656) (b4 : base ≤ w.heap.size)
    (hK : ∀ w', w'.ownsRow base e 1 (.slice (some ⟨w.heap.size, 0, none⟩) n m) n (List.replicate n z) → w.grownBy w' none → wpList P ops Q rest (a.put o.dst (.slice (some ⟨w.heap.size, 0, none⟩) n m)) w') :
    wpList P ops Q (o :: rest) a w := by
  obtain ⟨i, hi, hz, hsz, hby⟩ := T.info
  refine wpList_plain hg fun K hK' => ?_
  have hm : m ≤ maxLen := by
    have : 1 * m ≤ bytes * m := Nat.mul_le_mul_right _ T.bpos
    unfold maxLen; omega
  have hb' : (i.bytes : Int) * (m : Int) ≤ 281474976710656 := by
    have h : ((i.bytes * m : Nat) : Int) ≤ 281474976710656 := by rw [hby]; omega
    rwa [Int.natCast_mul] at h
  have hr := run_make (P := P) w t e i z T.u hi hz kl kc n m (by omega) (by omega) hb' (by unfold maxLen at hm; omega)
  simp only [Int.toNat_natCast] at hr
  subst hL
  subst hC
  unfold Oper.wp
  simp [execOp, hop, hl, hc, hr, Result.andThen]
  refine hK' _ _ (hK _ ?_ (World.grownBy_alloc w _ none))
  rw [hsz, Nat.mul_one]
  refine ⟨by simp, .inr ⟨w.heap.size, m, _, rfl, b4, heap_alloc_new w _, hnm, hm, by simp [size_madeCells], ?_⟩⟩
  rw [hzc, toList_madeCells_one]
  simp [hnm]

/-- bytes as the cells of a row -/
def bv (l : List UInt8) : List Value := l.map fun b => Value.int .u8 (b.toNat : Int)
theorem bv_length (l : List UInt8) : (bv l).length = l.length := by simp [bv]
theorem bv_append (l m : List UInt8) : bv (l ++ m) = bv l ++ bv m := by simp [bv]
theorem bv_one (b : UInt8) : bv [b] = [.int .u8 (b.toNat : Int)] := rfl

theorem ret_int {k : IntKind} {a b : Int} (h : a = b) : Ending.returned (.int k a) = .returned (.int k b) := by rw [h]

/-- a byte slice reads as a list of bytes -/
def SlB (w : World) (v : Value) (l : List UInt8) : Prop := ∃ a cap, v = .slice a l.length cap ∧ l.length ≤ 9223372036854775807 ∧ Rd w a (bv l) ∧ l.length ≤ cap ∧ cap ≤ 9223372036854775807 ∧ (a = none → cap = 0)

theorem Rd.byte {w : World} {a : Option Addr} {l : List UInt8} (h : Rd w a (bv l)) (i : Nat) (hi : i < l.length) :
    ∃ b off x, a = some ⟨b, off, none⟩ ∧ w.cell? ⟨b, off + i, none⟩ = some (.int .u8 ((x : UInt8).toNat : Int)) ∧ l[i]? = some x ∧ l.drop i = x :: l.drop (i + 1) ∧ l.take (i + 1) = l.take i ++ [x] := by
  obtain ⟨b, off, ha, hc⟩ := h i (by rw [bv_length]; exact hi)
  refine ⟨b, off, l[i], ha, ?_, List.getElem?_eq_getElem hi, List.drop_eq_getElem_cons hi, ?_⟩
  · rw [hc]; simp [bv, hi]
  · rw [List.take_succ_eq_append_getElem hi]


/-- string(b) -/
theorem run_bytes_str {P : Program} (src e dst : TypeId) (hs : P.underlying src = some (.slice e)) (he : P.underlying e = some (.int .u8)) (hd : P.underlying dst = some .string)
    (w : World) (a : Option Addr) (n cap : Nat) (l : List UInt8) (hn : n = l.length) (h : Rd w a (bv l)) :
    (convert src dst (.slice a n cap)).run P w = .ok (.string ⟨l.toArray⟩) w := by
  subst hn
  cases a with
  | none =>
    have : l = [] := by
      cases l with
      | nil => rfl
      | cons y ys => obtain ⟨b, off, had, _⟩ := h 0 (by simp [bv]); cases had
    subst this
    exact run_convert_bytes_nil w src e hs he _ _ dst hd
  | some ad =>
    have hl : (loadCells ad l.length).run P w = .ok ((l.map fun b => (b.toNat : Int)).map (Value.int .u8)).toArray w := by
      have := run_loadCells_list (P := P) w ad (bv l) (fun j v hj => by
        obtain ⟨b, off, had, hc⟩ := h j (List.getElem?_eq_some_iff.1 hj).1
        obtain rfl := Option.some.inj had
        rw [Addr.add_lit, hc, hj])
      rw [bv_length] at this
      rw [this]
      simp [bv]
    rw [run_convert_bytes_string w src dst e _ _ cap hs he hd, run_bytesToString w ad _ cap _ hl, foldl_push_bytes]
    congr 1
    simp [ByteArray.empty, ByteArray.emptyWithCapacity, List.map_map]
    rw [show ((fun n : Int => UInt8.ofNat n.toNat) ∘ fun b : UInt8 => (b.toNat : Int)) = id from by funext b; simp]
    simp
    rfl


/-- an incoming byte slice, as bytes -/
theorem slb_of_row {w : World} {a : Option Addr} {len cap : Nat} {zs : List Int}
    (h : (a = none ∧ len = 0 ∧ cap = 0 ∧ zs = []) ∨
      ∃ x, a = some x ∧ len ≤ cap ∧ cap ≤ maxLen ∧ zs.length = cap ∧ (∀ i, i < zs.length → w.cell? (x.add i) = some (.int .u8 (zs.getD i 0))) ∧ ∀ n ∈ zs, (Lit.int .u8 n).wf = true) :
    ∃ l : List UInt8, len = l.length ∧ SlB w (.slice a len cap) l := by
  obtain ⟨ys, rfl, h1, h2, h3, h4, h5, h6⟩ := Rd.of_row h
  have e : ys.map (Value.int .u8) = bv (ys.map fun n => UInt8.ofNat n.toNat) := by
    unfold bv
    rw [List.map_map]
    apply List.map_congr_left
    intro n hn
    have := wf8 (h3 n hn)
    simp
    omega
  refine ⟨ys.map fun n => UInt8.ofNat n.toNat, by simp, a, cap, by simp, by simpa using h1, ?_, by simpa using h4, h5, h6⟩
  rw [← e]; exact h2

/-- a part of what reads reads -/
theorem Rd.sub {w : World} {b off : Nat} {xs : List Value} (h : Rd w (some ⟨b, off, none⟩) xs) (i : Nat) (n : Nat) : Rd w (some ⟨b, off + i, none⟩) ((xs.drop i).take n) := fun j hj => by
  simp at hj
  obtain ⟨b', off', ha, hc⟩ := h (i + j) (by omega)
  simp at ha
  obtain ⟨rfl, rfl⟩ := ha
  refine ⟨b, off + i, rfl, ?_⟩
  rw [Nat.add_assoc, hc, List.getElem?_take, if_pos (by omega), List.getElem?_drop]
end Go.Proofs.YtjbnfppnmljbmaaGreat
end
section
/- Plain: rectangles of tiles. No program in sight. -/
namespace Go.Proofs.YtjbnfppnmljbmaaGreat
open Go.RowKit
open Go.Lib (hid)
set_option linter.unusedVariables false

abbrev R4 := Int × Int × Int × Int
def sideR (a n : Int) : Bool := decide (0 ≤ a) && decide (a < 256) && decide (1 ≤ n) && decide (n ≤ 256 - a)
def rightR (r : R4) : Bool := sideR r.1 r.2.2.1 && sideR r.2.1 r.2.2.2
def RightR (r : R4) : Prop := 0 ≤ r.1 ∧ r.1 < 256 ∧ 1 ≤ r.2.2.1 ∧ r.2.2.1 ≤ 256 - r.1 ∧ 0 ≤ r.2.1 ∧ r.2.1 < 256 ∧ 1 ≤ r.2.2.2 ∧ r.2.2.2 ≤ 256 - r.2.1
def zR : R4 := (0, 0, 0, 0)
theorem rightR_iff (r : R4) : rightR r = true ↔ RightR r := by
  unfold rightR sideR RightR
  simp only [Bool.and_eq_true, decide_eq_true_eq]
  omega
theorem rightR_f (r : R4) : rightR r = false ↔ ¬ RightR r := by
  rw [← rightR_iff]; simp
instance (r : R4) : Decidable (RightR r) := decidable_of_decidable_of_iff (rightR_iff r)
def areaR (r : R4) : Int := if RightR r then r.2.2.1 * r.2.2.2 else 0
def HoldsR (r : R4) (x y : Int) : Prop := RightR r ∧ r.1 ≤ x ∧ x < r.1 + r.2.2.1 ∧ r.2.1 ≤ y ∧ y < r.2.1 + r.2.2.2
instance (r : R4) (x y : Int) : Decidable (HoldsR r x y) := by unfold HoldsR; infer_instance
def MeetsR (a b : R4) : Prop := RightR a ∧ RightR b ∧ a.1 < b.1 + b.2.2.1 ∧ b.1 < a.1 + a.2.2.1 ∧ a.2.1 < b.2.1 + b.2.2.2 ∧ b.2.1 < a.2.1 + a.2.2.2
instance (a b : R4) : Decidable (MeetsR a b) := by unfold MeetsR; infer_instance
/-- all of a's tiles are b's -/
def InR (a b : R4) : Prop := RightR a ∧ RightR b ∧ b.1 ≤ a.1 ∧ a.1 + a.2.2.1 ≤ b.1 + b.2.2.1 ∧ b.2.1 ≤ a.2.1 ∧ a.2.1 + a.2.2.2 ≤ b.2.1 + b.2.2.2
instance (a b : R4) : Decidable (InR a b) := by unfold InR; infer_instance
def betwR (x y ex ey : Int) : R4 := if ex ≤ x ∨ ey ≤ y then zR else (x, y, ex - x, ey - y)
def commR (a b : R4) : R4 := if RightR a ∧ RightR b then betwR (max a.1 b.1) (max a.2.1 b.2.1) (min (a.1 + a.2.2.1) (b.1 + b.2.2.1)) (min (a.2.1 + a.2.2.2) (b.2.1 + b.2.2.2)) else zR
def joinR (a b : R4) : R4 := if RightR a then (if RightR b then betwR (min a.1 b.1) (min a.2.1 b.2.1) (max (a.1 + a.2.2.1) (b.1 + b.2.2.1)) (max (a.2.1 + a.2.2.2) (b.2.1 + b.2.2.2)) else a) else (if RightR b then b else zR)
def boundR (l : List R4) : R4 := l.foldl joinR zR
theorem not_right_zR : ¬ RightR zR := by unfold RightR zR; simp
theorem inR_refl {a : R4} (h : RightR a) : InR a a := ⟨h, h, Int.le_refl _, Int.le_refl _, Int.le_refl _, Int.le_refl _⟩
theorem inR_trans {a b c : R4} (h : InR a b) (k : InR b c) : InR a c := by
  obtain ⟨h1, h2, h3, h4, h5, h6⟩ := h
  obtain ⟨k1, k2, k3, k4, k5, k6⟩ := k
  exact ⟨h1, k2, by omega, by omega, by omega, by omega⟩
theorem inR_antisymm {a b : R4} (h : InR a b) (k : InR b a) : a = b := by
  obtain ⟨h1, h2, h3, h4, h5, h6⟩ := h
  obtain ⟨k1, k2, k3, k4, k5, k6⟩ := k
  obtain ⟨ax, ay, aw, ah⟩ := a
  obtain ⟨bx, bxy, bw, bh⟩ := b
  simp only at *
  have e1 : ax = bx := by omega
  have e2 : ay = bxy := by omega
  have e3 : aw = bw := by omega
  have e4 : ah = bh := by omega
  rw [e1, e2, e3, e4]
theorem joinR_right {a b : R4} (h : RightR a) (k : RightR b) : RightR (joinR a b) ∧ InR a (joinR a b) ∧ InR b (joinR a b) ∧ ∀ q, InR a q → InR b q → InR (joinR a b) q := by
  have e : joinR a b = (min a.1 b.1, min a.2.1 b.2.1, max (a.1 + a.2.2.1) (b.1 + b.2.2.1) - min a.1 b.1, max (a.2.1 + a.2.2.2) (b.2.1 + b.2.2.2) - min a.2.1 b.2.1) := by
    unfold joinR betwR
    rw [if_pos h, if_pos k, if_neg (by unfold RightR at h k; omega)]
  rw [e]
  have hr : RightR (min a.1 b.1, min a.2.1 b.2.1, max (a.1 + a.2.2.1) (b.1 + b.2.2.1) - min a.1 b.1, max (a.2.1 + a.2.2.2) (b.2.1 + b.2.2.2) - min a.2.1 b.2.1) := by
    unfold RightR at *; simp only; omega
  refine ⟨hr, ⟨h, hr, ?_⟩, ⟨k, hr, ?_⟩, fun q hq kq => ⟨hr, hq.2.1, ?_⟩⟩
  · simp only; omega
  · simp only; omega
  · have h1 := hq.2.2
    have h2 := kq.2.2
    simp only; omega
theorem joinR_zl (b : R4) (h : RightR b) : joinR zR b = b := by
  unfold joinR; rw [if_neg not_right_zR, if_pos h]
/-- r is the least rectangle that has all of l -/
def IsB (l : List R4) (r : R4) : Prop := (l = [] ∧ r = zR) ∨ (l ≠ [] ∧ RightR r ∧ (∀ a ∈ l, InR a r) ∧ ∀ q, (∀ a ∈ l, InR a q) → InR r q)
theorem IsB.uniq {l m : List R4} {r s : R4} (h : IsB l r) (k : IsB m s) (hm : ∀ a, a ∈ l ↔ a ∈ m) : r = s := by
  rcases h with ⟨rfl, rfl⟩ | ⟨h1, h2, h3, h4⟩
  · rcases k with ⟨rfl, rfl⟩ | ⟨k1, -⟩
    · rfl
    · exfalso
      obtain ⟨a, ha⟩ := List.exists_mem_of_ne_nil _ k1
      exact absurd ((hm a).2 ha) (by simp)
  · rcases k with ⟨rfl, rfl⟩ | ⟨k1, k2, k3, k4⟩
    · exfalso
      obtain ⟨a, ha⟩ := List.exists_mem_of_ne_nil _ h1
      exact absurd ((hm a).1 ha) (by simp)
    · exact inR_antisymm (h4 s (fun a ha => k3 a ((hm a).1 ha))) (k4 r (fun a ha => h3 a ((hm a).2 ha)))
theorem IsB.snoc {l : List R4} {r b : R4} (h : IsB l r) (hb : RightR b) : IsB (l ++ [b]) (joinR r b) := by
  rcases h with ⟨rfl, rfl⟩ | ⟨h1, h2, h3, h4⟩
  · rw [joinR_zl b hb]
    refine .inr ⟨by simp, hb, ?_, ?_⟩
    · intro a ha; simp at ha; subst ha; exact inR_refl hb
    · intro q hq; exact hq b (by simp)
  · obtain ⟨j1, j2, j3, j4⟩ := joinR_right h2 hb
    refine .inr ⟨by simp, j1, ?_, ?_⟩
    · intro a ha
      rcases List.mem_append.1 ha with ha | ha
      · exact inR_trans (h3 a ha) j2
      · simp at ha; subst ha; exact j3
    · intro q hq
      exact j4 q (h4 q (fun a ha => hq a (by simp [ha]))) (hq b (by simp))
theorem foldR_isB : ∀ (l pre : List R4) (acc : R4), IsB pre acc → (∀ a ∈ l, RightR a) → IsB (pre ++ l) (l.foldl joinR acc)
  | [], pre, acc, h, _ => by simpa using h
  | b :: l, pre, acc, h, hl => by
    have := foldR_isB l (pre ++ [b]) (joinR acc b) (h.snoc (hl b (by simp))) (fun a ha => hl a (by simp [ha]))
    simpa using this
theorem boundR_isB (l : List R4) (h : ∀ a ∈ l, RightR a) : IsB l (boundR l) := by
  have := foldR_isB l [] zR (.inl ⟨rfl, rfl⟩) h
  simpa [boundR] using this
/-- bounds of bounds -/
theorem IsB.flat {l : List R4} {r : R4} {f : R4 → List R4} (h : IsB l r) (hf : ∀ a ∈ l, f a ≠ [] ∧ IsB (f a) a) : IsB (l.flatMap f) r := by
  rcases h with ⟨rfl, rfl⟩ | ⟨h1, h2, h3, h4⟩
  · exact .inl ⟨rfl, rfl⟩
  · refine .inr ⟨?_, h2, ?_, ?_⟩
    · obtain ⟨a, ha⟩ := List.exists_mem_of_ne_nil _ h1
      obtain ⟨b, hb⟩ := List.exists_mem_of_ne_nil _ (hf a ha).1
      exact List.ne_nil_of_mem (List.mem_flatMap.2 ⟨a, ha, hb⟩)
    · intro b hb
      obtain ⟨a, ha, hba⟩ := List.mem_flatMap.1 hb
      rcases (hf a ha).2 with ⟨q, -⟩ | ⟨-, -, q, -⟩
      · rw [q] at hba; simp at hba
      · exact inR_trans (q b hba) (h3 a ha)
    · intro q hq
      refine h4 q (fun a ha => ?_)
      rcases (hf a ha).2 with ⟨e, -⟩ | ⟨-, -, -, k⟩
      · exact absurd e (hf a ha).1
      · exact k q (fun b hb => hq b (List.mem_flatMap.2 ⟨a, ha, hb⟩))
theorem MeetsR.mono {a b q : R4} (h : MeetsR a q) (k : InR a b) : MeetsR b q := by
  obtain ⟨h1, h2, h3, h4, h5, h6⟩ := h
  obtain ⟨k1, k2, k3, k4, k5, k6⟩ := k
  exact ⟨k2, h2, by omega, by omega, by omega, by omega⟩
theorem HoldsR.mono {a b : R4} {x y : Int} (h : HoldsR a x y) (k : InR a b) : HoldsR b x y := by
  obtain ⟨h1, h2, h3, h4, h5⟩ := h
  obtain ⟨k1, k2, k3, k4, k5, k6⟩ := k
  exact ⟨k2, by omega, by omega, by omega, by omega⟩
theorem meetsR_self {a : R4} (h : RightR a) : MeetsR a a := by
  unfold MeetsR RightR at *; omega
theorem meetsR_symm {a b : R4} : MeetsR a b ↔ MeetsR b a := by
  unfold MeetsR
  constructor <;> (rintro ⟨h1, h2, h3, h4, h5, h6⟩; exact ⟨h2, h1, h4, h3, h6, h5⟩)
theorem commR_meets (a b : R4) : (commR a b ≠ zR) ↔ MeetsR a b := by
  unfold commR
  by_cases h : RightR a ∧ RightR b
  · rw [if_pos h]
    have ha := h.1
    have hb := h.2
    unfold betwR
    unfold RightR at ha hb
    split
    · rename_i q
      constructor
      · intro z; exact absurd rfl z
      · intro z; unfold MeetsR at z; omega
    · rename_i q
      constructor
      · intro _; exact ⟨h.1, h.2, by omega, by omega, by omega, by omega⟩
      · intro z e
        have := congrArg (fun r : R4 => r.2.2.1) e
        simp only [zR] at this
        omega
  · rw [if_neg h]
    constructor
    · intro z; exact absurd rfl z
    · intro z; exact absurd ⟨z.1, z.2.1⟩ h
theorem commR_in {a b : R4} (h : MeetsR a b) : commR a b = a ↔ InR a b := by
  obtain ⟨h1, h2, h3, h4, h5, h6⟩ := h
  have a1 := h1
  have b1 := h2
  unfold RightR at a1 b1
  unfold commR betwR
  rw [if_pos ⟨h1, h2⟩, if_neg (by omega)]
  obtain ⟨ax, ay, aw, ah⟩ := a
  obtain ⟨bx, bxy, bw, bh⟩ := b
  simp only at *
  constructor
  · intro e
    simp only [Prod.mk.injEq] at e
    exact ⟨h1, h2, by simp only; omega, by simp only; omega, by simp only; omega, by simp only; omega⟩
  · rintro ⟨-, -, k3, k4, k5, k6⟩
    simp only at k3 k4 k5 k6
    simp only [Prod.mk.injEq]
    omega
theorem inR_meets {a b : R4} (h : InR a b) : MeetsR a b := (meetsR_self h.1).mono h |> meetsR_symm.1
end Go.Proofs.YtjbnfppnmljbmaaGreat
end
section
/- Worlds in which only some blocks may have turned. No program in sight. -/
namespace Go.Proofs.YtjbnfppnmljbmaaGreat
open Go.RowKit
open Go.Lib (hid)
set_option linter.unusedVariables false

/-- of what was there, only blocks of S may have turned -/
structure Upd (S : Nat → Prop) (w w' : World) : Prop where
  os : w'.os = w.os
  tape : w'.tape = w.tape
  output : w'.output = w.output
  size : w.heap.size ≤ w'.heap.size
  block : ∀ k, k < w.heap.size → ¬ S k → w'.heap[k]? = w.heap[k]?

theorem Upd.refl (S : Nat → Prop) (w : World) : Upd S w w := ⟨rfl, rfl, rfl, Nat.le_refl _, fun _ _ _ => rfl⟩
theorem Upd.trans {S T : Nat → Prop} {a b c : World} (h : Upd S a b) (k : Upd T b c) (hs : ∀ i, i < a.heap.size → T i → S i) : Upd S a c :=
  ⟨k.os.trans h.os, k.tape.trans h.tape, k.output.trans h.output, Nat.le_trans h.size k.size, fun i hi hn => (k.block i (Nat.lt_of_lt_of_le hi h.size) (fun ht => hn (hs i hi ht))).trans (h.block i hi hn)⟩
theorem Upd.mono {S T : Nat → Prop} {a b : World} (h : Upd S a b) (hs : ∀ i, i < a.heap.size → S i → T i) : Upd T a b :=
  ⟨h.os, h.tape, h.output, h.size, fun i hi hn => h.block i hi (fun x => hn (hs i hi x))⟩
theorem Upd.of_below {S : Nat → Prop} {w w' : World} (h : Below w.heap.size w w') : Upd S w w' := ⟨h.os, h.tape, h.output, h.size, fun k hk _ => h.block k hk⟩
theorem Upd.of_grown {w w' : World} {row : Option Nat} (h : w.grownBy w' row) : Upd (fun k => row = some k) w w' := ⟨h.os, h.tape, h.output, h.size, fun k hk hn => h.block k hk (fun e => hn e.symm)⟩
theorem Upd.below {S : Nat → Prop} {w w' : World} (h : Upd S w w') {B : Nat} (hB : B ≤ w.heap.size) (hs : ∀ k, k < w.heap.size → S k → B ≤ k) : Below B w w' :=
  ⟨h.os, h.tape, h.output, h.size, fun k hk => h.block k (by omega) (fun x => by have := hs k (by omega) x; omega)⟩
theorem Upd.cell {S : Nat → Prop} {w w' : World} (h : Upd S w w') {p : Addr} {v : Value} (hc : w.cell? p = some v) (hn : ¬ S p.block) : w'.cell? p = some v := by
  rw [← hc]; exact World.cell?_of_block (h.block _ (World.block_lt_of_cell? w _ hc) hn)
theorem Upd.heap {S : Nat → Prop} {w w' : World} (h : Upd S w w') {k : Nat} {o : Obj} (hc : w.heap[k]? = some o) (hn : ¬ S k) : w'.heap[k]? = some o := by
  rw [h.block k (Array.getElem?_eq_some_iff.1 hc).1 hn]; exact hc
theorem Upd.owns {S : Nat → Prop} {w w' : World} (h : Upd S w w') {base : Nat} {e : TypeId} {v : Value} {n : Nat} {xs : List Value} {size : Nat} (ho : w.ownsRow base e size v n xs) (hn : ∀ k, v.ownBlock = some k → ¬ S k) : w'.ownsRow base e size v n xs := by
  refine ⟨ho.1, ?_⟩
  rcases ho.2 with hv | ⟨g, cap, cur, rfl, hb, hg, r⟩
  · exact .inl hv
  · exact .inr ⟨g, cap, cur, rfl, hb, h.heap hg (hn g rfl), r⟩
theorem Upd.rd {S : Nat → Prop} {w w' : World} (h : Upd S w w') {a : Option Addr} {xs : List Value} (hr : Rd w a xs) (hn : ∀ b off, a = some ⟨b, off, none⟩ → ¬ S b) : Rd w' a xs :=
  hr.congr fun b off ha hlt => h.block b hlt (hn b off ha)
theorem Upd.slb {S : Nat → Prop} {w w' : World} (h : Upd S w w') {a : Option Addr} {n c : Nat} {l : List UInt8} (hl : SlB w (.slice a n c) l) (hn : ∀ b off, a = some ⟨b, off, none⟩ → ¬ S b) : SlB w' (.slice a n c) l := by
  obtain ⟨a', c', e, h1, h2, h3⟩ := hl
  simp only [Value.slice.injEq] at e
  obtain ⟨rfl, rfl, rfl⟩ := e
  exact ⟨a, c, rfl, h1, h.rd h2 hn, h3⟩

/-- a block of cells that may be written -/
def Blk (w : World) (g : Nat) (cs : Array Value) : Prop := ∃ e, w.heap[g]? = some (.cells cs e (0, 0))
theorem Blk.lt {w : World} {g : Nat} {cs : Array Value} (h : Blk w g cs) : g < w.heap.size := by obtain ⟨e, h⟩ := h; exact (Array.getElem?_eq_some_iff.1 h).1
theorem Blk.cell {w : World} {g : Nat} {cs : Array Value} (h : Blk w g cs) (i : Nat) : w.cell? ⟨g, i, none⟩ = cs[i]? := by
  obtain ⟨e, h⟩ := h; simp [World.cell?, h]
theorem Blk.unfrozen {w : World} {g : Nat} {cs : Array Value} (h : Blk w g cs) (i : Nat) : w.frozen? ⟨g, i, none⟩ = false := by
  obtain ⟨e, h⟩ := h; simp [World.frozen?, h]
theorem Blk.upd {S : Nat → Prop} {w w' : World} (h : Upd S w w') {g : Nat} {cs : Array Value} (hb : Blk w g cs) (hn : ¬ S g) : Blk w' g cs := by
  obtain ⟨e, hb⟩ := hb; exact ⟨e, h.heap hb hn⟩
theorem Blk.below {w w' : World} (h : Below w.heap.size w w') {g : Nat} {cs : Array Value} (hb : Blk w g cs) : Blk w' g cs :=
  hb.upd (S := fun _ => False) (Upd.of_below h) (fun x => x)
theorem Blk.new (w : World) (cs : Array Value) (e : TypeId) : Blk (w.alloc (.cells cs e)) w.heap.size cs := ⟨e, heap_alloc_new w _⟩
theorem Blk.set {w : World} {g : Nat} {cs : Array Value} (h : Blk w g cs) (i : Nat) (u : Value) : Blk (w.setCell ⟨g, i, none⟩ u) g (cs.setIfInBounds i u) := by
  obtain ⟨e, h⟩ := h; exact ⟨e, heap_setCell_same w g i cs e u h⟩
theorem Upd.setCell (w : World) (g i : Nat) (u : Value) : Upd (fun k => k = g) w (w.setCell ⟨g, i, none⟩ u) :=
  ⟨rfl, rfl, rfl, by simp, fun k _ hk => heap_setCell_other w ⟨g, i, none⟩ k u (fun e => hk e)⟩
theorem ownBlock_lt {w : World} {base : Nat} {e : TypeId} {v : Value} {n : Nat} {xs : List Value} {size : Nat} (h : w.ownsRow base e size v n xs) {k : Nat} (hk : v.ownBlock = some k) : k < w.heap.size := (h.lt k hk).2

/-- where an append leaves its value: in the block that it was in, or in a new one -/
theorem run_append_where {P : Program} (w : World) {t ty e : TypeId} {z : Value} {size bytes : Nat} (T : SlT P t e z size bytes)
    {base : Nat} {v : Value} {n : Nat} {xs : List Value} (hown : w.ownsRow base e size v n xs) {ad : Addr} {m c : Nat} {news : List Value} (hl : news.length = m * size) (hnews : ∀ j u, news[j]? = some u → w.cell? (ad.add j) = some u) (h1 : ∀ u ∈ news, u.oneCell' = true)
    (hbytes : (n + m) * bytes ≤ 140737488355328) {v' : Value} {w' : World} (hr : (Builtin.append_ #[t, t] ty #[v, .slice (some ad) m c]).run P w = .ok v' w') : ∀ k, v'.ownBlock = some k → v.ownBlock = some k ∨ w.heap.size ≤ k := by
  obtain ⟨i, hi, hz, hsz, hby⟩ := T.info
  have hmax : (n + m) * 1 ≤ (n + m) * bytes := Nat.mul_le_mul_left _ T.bpos
  have hm2 : m * 1 ≤ m * bytes := Nat.mul_le_mul_left _ T.bpos
  have hmb : m * bytes ≤ (n + m) * bytes := Nat.mul_le_mul_right _ (by omega)
  intro k hk
  rcases hown.2 with ⟨rfl, rfl⟩ | ⟨g, cap, cur, rfl, hbg, hg, hnc, hcm, hcs, htake⟩
  · by_cases h0 : m = 0
    · subst h0
      obtain ⟨v1, w1, h, -, -, hnil⟩ := run_append_own (P := P) w 0 t ty e i z size bytes T.u hi hz hsz hby T.zs T.pos _ 0 xs (ownsRow_base hown (Nat.zero_le _)) ad 0 c news hl hnews h1 (by unfold maxLen; omega) (by omega) (Nat.zero_le _)
      rw [h] at hr
      simp only [Result.ok.injEq] at hr
      obtain ⟨rfl, rfl⟩ := hr
      rw [hnil.2 ⟨rfl, rfl⟩] at hk
      simp [Value.ownBlock] at hk
    · have h := run_append_nil (P := P) w t ty e i z T.u hi hz ad m c news (by rw [hsz]; exact hl) hnews (by omega) (by omega) (by rw [hby]; omega)
      rw [h] at hr
      simp only [Result.ok.injEq] at hr
      obtain ⟨rfl, rfl⟩ := hr
      simp only [Value.ownBlock, Option.some.injEq] at hk
      exact .inr (by omega)
  · by_cases hroom : n + m ≤ cap
    · have hfit : n * i.size + news.length ≤ cur.size := by rw [hl, hcs, hsz, ← Nat.add_mul]; exact Nat.mul_le_mul_right _ hroom
      have h := run_append_room (P := P) w t ty e i T.u hi g n cap cur hg ad m c news (by rw [hsz]; exact hl) hnews h1 hroom hfit
      rw [h] at hr
      simp only [Result.ok.injEq] at hr
      obtain ⟨rfl, rfl⟩ := hr
      exact .inl hk
    · have holds : ∀ j u, xs[j]? = some u → w.cell? ((⟨g, 0, none⟩ : Addr).add j) = some u := hown.cells (g := g) rfl
      have h := run_append_grow (P := P) w t ty e i z T.u hi hz ⟨g, 0, none⟩ n cap xs (by rw [hsz]; exact hown.1) holds ad m c news (by rw [hsz]; exact hl) hnews (by omega) (by omega) (by rw [hby]; exact growslice_fits (by omega) hbytes)
      rw [h] at hr
      simp only [Result.ok.injEq] at hr
      obtain ⟨rfl, rfl⟩ := hr
      simp only [Value.ownBlock, Option.some.injEq] at hk
      exact .inr (by omega)

/-- append(s, x), one element more; it is told where the value lies -/
theorem wpList_append1w {P : Program} {t e : TypeId} {z : Value} {size bytes : Nat} (T : SlT P t e z size bytes) (w : World) {ops : Array Oper} {rest : List Oper} {o : Oper} {a : Act} {Q : Exit → Act → World → Prop}
    (hgd : o.guard = none) (s x : Operand) (us : Array Value) (ho : o.op = .call { callee := .builtin .append, args := #[s, x], argTypes := #[t, t] })
    (base : Nat) (v : Value) (n : Nat) (xs : List Value) (hs : a.eval s = v) (hown : w.ownsRow base e size v n xs)
    (hx : a.eval x = .slice (some ⟨w.heap.size, 0, none⟩) 1 1) (hl : us.size = size) (h1 : ∀ u ∈ us.toList, u.oneCell' = true)
    (hbytes : (n + 1) * bytes ≤ 140737488355328) (hbase : base ≤ w.heap.size)
    (h : ∀ v' w', w'.ownsRow base e size v' (n + 1) (xs ++ us.toList) → w.grownBy w' v.ownBlock → v' ≠ .slice none 0 0 → (∀ k, v'.ownBlock = some k → v.ownBlock = some k ∨ w.heap.size ≤ k) → wpList P ops Q rest (a.put o.dst v') w') : wpList P ops Q (o :: rest) a (w.alloc (.cells us e)) := by
  obtain ⟨i, hi, hz, hsz, hby⟩ := T.info
  have h63 : n + 1 ≤ maxLen := by
    have : (n + 1) * 1 ≤ (n + 1) * bytes := Nat.mul_le_mul_left _ T.bpos
    unfold maxLen; omega
  have hnews : ∀ j u, us.toList[j]? = some u → (w.alloc (.cells us e)).cell? ((⟨w.heap.size, 0, none⟩ : Addr).add j) = some u := by
    intro j u hu
    rw [Addr.add_lit, Nat.zero_add, World.cell?_alloc_new]
    simpa using hu
  obtain ⟨v', w', hr, h2, h3, h4⟩ := run_append_own (P := P) (w.alloc (.cells us e)) base t o.type e i z size bytes T.u hi hz hsz hby T.zs T.pos v n xs (hown.alloc _) ⟨w.heap.size, 0, none⟩ 1 1 us.toList (by simpa using hl) hnews h1 h63 hbytes (by simp; omega)
  have hwh := run_append_where (P := P) (w.alloc (.cells us e)) T (hown.alloc _) (by simpa using hl) hnews h1 hbytes hr
  have hg : w.grownBy w' v.ownBlock := ⟨h3.os, h3.tape, h3.output, by have := h3.size; simp at this; omega, fun k hk hne => (h3.block k (by simp; omega) hne).trans (Below.heap_alloc w _ k hk)⟩
  refine wpList_plain hgd fun K hK => ?_
  unfold Oper.wp execOp
  simp only [ho, resolve, invoke, builtin, Sem.run_bind, Sem.run_pure, Result.andThen_ok, List.map_toArray, List.map_cons, List.map_nil, hs, hx, hr]
  exact hK _ _ (h v' w' h2 hg (fun e => by simp [h4] at e) (fun k hk => by rcases hwh k hk with x | x; exact .inl x; exact .inr (by simp at x; omega)))

/-- append(s, x...); it is told where the value lies -/
theorem wpList_appendNw {P : Program} {t e : TypeId} {z : Value} {size bytes : Nat} (T : SlT P t e z size bytes) (w : World) {ops : Array Oper} {rest : List Oper} {o : Oper} {a : Act} {Q : Exit → Act → World → Prop}
    (hgd : o.guard = none) (s x : Operand) (ho : o.op = .call { callee := .builtin .append, args := #[s, x], argTypes := #[t, t] })
    (base : Nat) (v : Value) (n : Nat) (xs : List Value) (hs : a.eval s = v) (hown : w.ownsRow base e size v n xs)
    (ao : Option Addr) (m c : Nat) (news : List Value) (hx : a.eval x = .slice ao m c) (hl : news.length = m * size) (hc0 : m = 0 → ao = none → c = 0) (hrd : Rd w ao news) (h1 : ∀ u ∈ news, u.oneCell' = true)
    (hbytes : (n + m) * bytes ≤ 140737488355328) (hbase : base ≤ w.heap.size)
    (h : ∀ v' w', w'.ownsRow base e size v' (n + m) (xs ++ news) → w.grownBy w' v.ownBlock → (v' = .slice none 0 0 ↔ v = .slice none 0 0 ∧ m = 0) → (∀ k, v'.ownBlock = some k → v.ownBlock = some k ∨ w.heap.size ≤ k) → wpList P ops Q rest (a.put o.dst v') w') : wpList P ops Q (o :: rest) a w := by
  obtain ⟨i, hi, hz, hsz, hby⟩ := T.info
  have h63 : n + m ≤ maxLen := by
    have : (n + m) * 1 ≤ (n + m) * bytes := Nat.mul_le_mul_left _ T.bpos
    unfold maxLen; omega
  cases ao with
  | some ad =>
    have hnews : ∀ j u, news[j]? = some u → w.cell? (ad.add j) = some u := by
      intro j u hu
      obtain ⟨b, off, had, hc⟩ := hrd j (by have := (List.getElem?_eq_some_iff.1 hu).1; exact this)
      obtain rfl := Option.some.inj had
      rw [Addr.add_lit, hc, hu]
    obtain ⟨v', w', hr, h2, h3, h4⟩ := run_append_own (P := P) w base t o.type e i z size bytes T.u hi hz hsz hby T.zs T.pos v n xs hown ad m c news hl hnews h1 h63 hbytes hbase
    have hwh := run_append_where (P := P) w T hown hl hnews h1 hbytes hr
    refine wpList_plain hgd fun K hK => ?_
    unfold Oper.wp execOp
    simp only [ho, resolve, invoke, builtin, Sem.run_bind, Sem.run_pure, Result.andThen_ok, List.map_toArray, List.map_cons, List.map_nil, hs, hx, hr]
    exact hK _ _ (h v' w' h2 h3 h4 hwh)
  | none =>
    have hn : news = [] := by
      cases news with
      | nil => rfl
      | cons y ys => obtain ⟨b, off, had, _⟩ := hrd 0 (by simp); cases had
    subst hn
    have hm0 : m = 0 := by
      have := T.pos
      simp only [List.length_nil] at hl
      rcases Nat.eq_zero_or_pos m with h | h
      · exact h
      · have := Nat.mul_pos h T.pos; omega
    subst hm0
    obtain rfl := hc0 rfl rfl
    refine wpList_plain hgd fun K hK' => ?_
    have hrun := run_append_owned_none (P := P) w base t o.type e i size T.u hi v n xs hown
    unfold Oper.wp
    simp [execOp, ho, resolve, invoke, builtin, hs, hx, hrun, Result.andThen]
    exact hK' _ _ (h v w (by simpa using hown) (World.grownBy.refl _ _) (by simp) (fun k hk => .inl hk))
end Go.Proofs.YtjbnfppnmljbmaaGreat
end
