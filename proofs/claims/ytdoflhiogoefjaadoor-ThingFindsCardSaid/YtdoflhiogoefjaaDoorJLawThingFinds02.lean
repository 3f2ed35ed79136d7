/- Joined texts, in this order: Mem. Each one's first remark says what it proves; no condition beyond those that its theorems name. -/
import Derived.Test.YtdoflhiogoefjaaDoorJLawThingFinds01
section
/- Worlds in which only some blocks may have turned. No program in sight. -/
namespace Go.Proofs.YtdoflhiogoefjaaDoor
open Go.RowKit
open Go.Lib (hid)
set_option linter.unusedVariables false

/-- of what was there, only blocks of S may have turned -/
structure Upd (S : Nat → Prop) (w w' : World) : Prop where
  os : w'.os = w.os
  tape : w'.tape = w.tape
  output : w'.output = w.output
  size : w.heap.size ≤ w'.heap.size
  block : ∀ k, k < w.heap.size → ¬ S k → w'.heap[k]? = w.heap[k]?

theorem Upd.refl (S : Nat → Prop) (w : World) : Upd S w w := ⟨rfl, rfl, rfl, Nat.le_refl _, fun _ _ _ => rfl⟩
theorem Upd.trans {S T : Nat → Prop} {a b c : World} (h : Upd S a b) (k : Upd T b c) (hs : ∀ i, i < a.heap.size → T i → S i) : Upd S a c :=
  ⟨k.os.trans h.os, k.tape.trans h.tape, k.output.trans h.output, Nat.le_trans h.size k.size, fun i hi hn => (k.block i (Nat.lt_of_lt_of_le hi h.size) (fun ht => hn (hs i hi ht))).trans (h.block i hi hn)⟩
theorem Upd.mono {S T : Nat → Prop} {a b : World} (h : Upd S a b) (hs : ∀ i, i < a.heap.size → S i → T i) : Upd T a b :=
  ⟨h.os, h.tape, h.output, h.size, fun i hi hn => h.block i hi (fun x => hn (hs i hi x))⟩
theorem Upd.of_below {S : Nat → Prop} {w w' : World} (h : Below w.heap.size w w') : Upd S w w' := ⟨h.os, h.tape, h.output, h.size, fun k hk _ => h.block k hk⟩
theorem Upd.of_grown {w w' : World} {row : Option Nat} (h : w.grownBy w' row) : Upd (fun k => row = some k) w w' := ⟨h.os, h.tape, h.output, h.size, fun k hk hn => h.block k hk (fun e => hn e.symm)⟩
theorem Upd.below {S : Nat → Prop} {w w' : World} (h : Upd S w w') {B : Nat} (hB : B ≤ w.heap.size) (hs : ∀ k, k < w.heap.size → S k → B ≤ k) : Below B w w' :=
  ⟨h.os, h.tape, h.output, h.size, fun k hk => h.block k (by omega) (fun x => by have := hs k (by omega) x; omega)⟩
theorem Upd.cell {S : Nat → Prop} {w w' : World} (h : Upd S w w') {p : Addr} {v : Value} (hc : w.cell? p = some v) (hn : ¬ S p.block) : w'.cell? p = some v := by
  rw [← hc]; exact World.cell?_of_block (h.block _ (World.block_lt_of_cell? w _ hc) hn)
theorem Upd.heap {S : Nat → Prop} {w w' : World} (h : Upd S w w') {k : Nat} {o : Obj} (hc : w.heap[k]? = some o) (hn : ¬ S k) : w'.heap[k]? = some o := by
  rw [h.block k (Array.getElem?_eq_some_iff.1 hc).1 hn]; exact hc
theorem Upd.owns {S : Nat → Prop} {w w' : World} (h : Upd S w w') {base : Nat} {e : TypeId} {v : Value} {n : Nat} {xs : List Value} {size : Nat} (ho : w.ownsRow base e size v n xs) (hn : ∀ k, v.ownBlock = some k → ¬ S k) : w'.ownsRow base e size v n xs := by
  refine ⟨ho.1, ?_⟩
  rcases ho.2 with hv | ⟨g, cap, cur, rfl, hb, hg, r⟩
  · exact .inl hv
  · exact .inr ⟨g, cap, cur, rfl, hb, h.heap hg (hn g rfl), r⟩
theorem Upd.rd {S : Nat → Prop} {w w' : World} (h : Upd S w w') {a : Option Addr} {xs : List Value} (hr : Rd w a xs) (hn : ∀ b off, a = some ⟨b, off, none⟩ → ¬ S b) : Rd w' a xs :=
  hr.congr fun b off ha hlt => h.block b hlt (hn b off ha)
theorem Upd.slb {S : Nat → Prop} {w w' : World} (h : Upd S w w') {a : Option Addr} {n c : Nat} {l : List UInt8} (hl : SlB w (.slice a n c) l) (hn : ∀ b off, a = some ⟨b, off, none⟩ → ¬ S b) : SlB w' (.slice a n c) l := by
  obtain ⟨a', c', e, h1, h2, h3⟩ := hl
  simp only [Value.slice.injEq] at e
  obtain ⟨rfl, rfl, rfl⟩ := e
  exact ⟨a, c, rfl, h1, h.rd h2 hn, h3⟩

/-- a block of cells that may be written -/
def Blk (w : World) (g : Nat) (cs : Array Value) : Prop := ∃ e, w.heap[g]? = some (.cells cs e (0, 0))
theorem Blk.lt {w : World} {g : Nat} {cs : Array Value} (h : Blk w g cs) : g < w.heap.size := by obtain ⟨e, h⟩ := h; exact (Array.getElem?_eq_some_iff.1 h).1
theorem Blk.cell {w : World} {g : Nat} {cs : Array Value} (h : Blk w g cs) (i : Nat) : w.cell? ⟨g, i, none⟩ = cs[i]? := by
  obtain ⟨e, h⟩ := h; simp [World.cell?, h]
theorem Blk.unfrozen {w : World} {g : Nat} {cs : Array Value} (h : Blk w g cs) (i : Nat) : w.frozen? ⟨g, i, none⟩ = false := by
  obtain ⟨e, h⟩ := h; simp [World.frozen?, h]
theorem Blk.upd {S : Nat → Prop} {w w' : World} (h : Upd S w w') {g : Nat} {cs : Array Value} (hb : Blk w g cs) (hn : ¬ S g) : Blk w' g cs := by
  obtain ⟨e, hb⟩ := hb; exact ⟨e, h.heap hb hn⟩
theorem Blk.below {w w' : World} (h : Below w.heap.size w w') {g : Nat} {cs : Array Value} (hb : Blk w g cs) : Blk w' g cs :=
  hb.upd (S := fun _ => False) (Upd.of_below h) (fun x => x)
theorem Blk.new (w : World) (cs : Array Value) (e : TypeId) : Blk (w.alloc (.cells cs e)) w.heap.size cs := ⟨e, heap_alloc_new w _⟩
theorem Blk.set {w : World} {g : Nat} {cs : Array Value} (h : Blk w g cs) (i : Nat) (u : Value) : Blk (w.setCell ⟨g, i, none⟩ u) g (cs.setIfInBounds i u) := by
  obtain ⟨e, h⟩ := h; exact ⟨e, heap_setCell_same w g i cs e u h⟩
theorem Upd.setCell (w : World) (g i : Nat) (u : Value) : Upd (fun k => k = g) w (w.setCell ⟨g, i, none⟩ u) :=
  ⟨rfl, rfl, rfl, by simp, fun k _ hk => heap_setCell_other w ⟨g, i, none⟩ k u (fun e => hk e)⟩
theorem ownBlock_lt {w : World} {base : Nat} {e : TypeId} {v : Value} {n : Nat} {xs : List Value} {size : Nat} (h : w.ownsRow base e size v n xs) {k : Nat} (hk : v.ownBlock = some k) : k < w.heap.size := (h.lt k hk).2

/-- where an append leaves its value: in the block that it was in, or in a new one -/
theorem run_append_where {P : Program} (w : World) {t ty e : TypeId} {z : Value} {size bytes : Nat} (T : SlT P t e z size bytes)
    {base : Nat} {v : Value} {n : Nat} {xs : List Value} (hown : w.ownsRow base e size v n xs) {ad : Addr} {m c : Nat} {news : List Value} (hl : news.length = m * size) (hnews : ∀ j u, news[j]? = some u → w.cell? (ad.add j) = some u) (h1 : ∀ u ∈ news, u.oneCell' = true)
    (hbytes : (n + m) * bytes ≤ 140737488355328) {v' : Value} {w' : World} (hr : (Builtin.append_ #[t, t] ty #[v, .slice (some ad) m c]).run P w = .ok v' w') : ∀ k, v'.ownBlock = some k → v.ownBlock = some k ∨ w.heap.size ≤ k := by
  obtain ⟨i, hi, hz, hsz, hby⟩ := T.info
  have hmax : (n + m) * 1 ≤ (n + m) * bytes := Nat.mul_le_mul_left _ T.bpos
  have hm2 : m * 1 ≤ m * bytes := Nat.mul_le_mul_left _ T.bpos
  have hmb : m * bytes ≤ (n + m) * bytes := Nat.mul_le_mul_right _ (by omega)
  intro k hk
  rcases hown.2 with ⟨rfl, rfl⟩ | ⟨g, cap, cur, rfl, hbg, hg, hnc, hcm, hcs, htake⟩
  · by_cases h0 : m = 0
    · subst h0
      obtain ⟨v1, w1, h, -, -, hnil⟩ := run_append_own (P := P) w 0 t ty e i z size bytes T.u hi hz hsz hby T.zs T.pos _ 0 xs (ownsRow_base hown (Nat.zero_le _)) ad 0 c news hl hnews h1 (by unfold maxLen; omega) (by omega) (Nat.zero_le _)
      rw [h] at hr
      simp only [Result.ok.injEq] at hr
      obtain ⟨rfl, rfl⟩ := hr
      rw [hnil.2 ⟨rfl, rfl⟩] at hk
      simp [Value.ownBlock] at hk
    · have h := run_append_nil (P := P) w t ty e i z T.u hi hz ad m c news (by rw [hsz]; exact hl) hnews (by omega) (by omega) (by rw [hby]; omega)
      rw [h] at hr
      simp only [Result.ok.injEq] at hr
      obtain ⟨rfl, rfl⟩ := hr
      simp only [Value.ownBlock, Option.some.injEq] at hk
      exact .inr (by omega)
  · by_cases hroom : n + m ≤ cap
    · have hfit : n * i.size + news.length ≤ cur.size := by rw [hl, hcs, hsz, ← Nat.add_mul]; exact Nat.mul_le_mul_right _ hroom
      have h := run_append_room (P := P) w t ty e i T.u hi g n cap cur hg ad m c news (by rw [hsz]; exact hl) hnews h1 hroom hfit
      rw [h] at hr
      simp only [Result.ok.injEq] at hr
      obtain ⟨rfl, rfl⟩ := hr
      exact .inl hk
    · have holds : ∀ j u, xs[j]? = some u → w.cell? ((⟨g, 0, none⟩ : Addr).add j) = some u := hown.cells (g := g) rfl
      have h := run_append_grow (P := P) w t ty e i z T.u hi hz ⟨g, 0, none⟩ n cap xs (by rw [hsz]; exact hown.1) holds ad m c news (by rw [hsz]; exact hl) hnews (by omega) (by omega) (by rw [hby]; exact growslice_fits (by omega) hbytes)
      rw [h] at hr
      simp only [Result.ok.injEq] at hr
      obtain ⟨rfl, rfl⟩ := hr
      simp only [Value.ownBlock, Option.some.injEq] at hk
      exact .inr (by omega)

/-- append(s, x), one element more; it is told where the value lies -/
theorem wpList_append1w {P : Program} {t e : TypeId} {z : Value} {size bytes : Nat} (T : SlT P t e z size bytes) (w : World) {ops : Array Oper} {rest : List Oper} {o : Oper} {a : Act} {Q : Exit → Act → World → Prop}
    (hgd : o.guard = none) (s x : Operand) (us : Array Value) (ho : o.op = .call { callee := .builtin .append, args := #[s, x], argTypes := #[t, t] })
    (base : Nat) (v : Value) (n : Nat) (xs : List Value) (hs : a.eval s = v) (hown : w.ownsRow base e size v n xs)
    (hx : a.eval x = .slice (some ⟨w.heap.size, 0, none⟩) 1 1) (hl : us.size = size) (h1 : ∀ u ∈ us.toList, u.oneCell' = true)
    (hbytes : (n + 1) * bytes ≤ 140737488355328) (hbase : base ≤ w.heap.size)
    (h : ∀ v' w', w'.ownsRow base e size v' (n + 1) (xs ++ us.toList) → w.grownBy w' v.ownBlock → v' ≠ .slice none 0 0 → (∀ k, v'.ownBlock = some k → v.ownBlock = some k ∨ w.heap.size ≤ k) → wpList P ops Q rest (a.put o.dst v') w') : wpList P ops Q (o :: rest) a (w.alloc (.cells us e)) := by
  obtain ⟨i, hi, hz, hsz, hby⟩ := T.info
  have h63 : n + 1 ≤ maxLen := by
    have : (n + 1) * 1 ≤ (n + 1) * bytes := Nat.mul_le_mul_left _ T.bpos
    unfold maxLen; omega
  have hnews : ∀ j u, us.toList[j]? = some u → (w.alloc (.cells us e)).cell? ((⟨w.heap.size, 0, none⟩ : Addr).add j) = some u := by
    intro j u hu
    rw [Addr.add_lit, Nat.zero_add, World.cell?_alloc_new]
    simpa using hu
  obtain ⟨v', w', hr, h2, h3, h4⟩ := run_append_own (P := P) (w.alloc (.cells us e)) base t o.type e i z size bytes T.u hi hz hsz hby T.zs T.pos v n xs (hown.alloc _) ⟨w.heap.size, 0, none⟩ 1 1 us.toList (by simpa using hl) hnews h1 h63 hbytes (by simp; omega)
  have hwh := run_append_where (P := P) (w.alloc (.cells us e)) T (hown.alloc _) (by simpa using hl) hnews h1 hbytes hr
  have hg : w.grownBy w' v.ownBlock := ⟨h3.os, h3.tape, h3.output, by have := h3.size; simp at this; omega, fun k hk hne => (h3.block k (by simp; omega) hne).trans (Below.heap_alloc w _ k hk)⟩
  refine wpList_plain hgd fun K hK => ?_
  unfold Oper.wp execOp
  simp only [ho, resolve, invoke, builtin, Sem.run_bind, Sem.run_pure, Result.andThen_ok, List.map_toArray, List.map_cons, List.map_nil, hs, hx, hr]
  exact hK _ _ (h v' w' h2 hg (fun e => by simp [h4] at e) (fun k hk => by rcases hwh k hk with x | x; exact .inl x; exact .inr (by simp at x; omega)))

/-- append(s, x...); it is told where the value lies -/
theorem wpList_appendNw {P : Program} {t e : TypeId} {z : Value} {size bytes : Nat} (T : SlT P t e z size bytes) (w : World) {ops : Array Oper} {rest : List Oper} {o : Oper} {a : Act} {Q : Exit → Act → World → Prop}
    (hgd : o.guard = none) (s x : Operand) (ho : o.op = .call { callee := .builtin .append, args := #[s, x], argTypes := #[t, t] })
    (base : Nat) (v : Value) (n : Nat) (xs : List Value) (hs : a.eval s = v) (hown : w.ownsRow base e size v n xs)
    (ao : Option Addr) (m c : Nat) (news : List Value) (hx : a.eval x = .slice ao m c) (hl : news.length = m * size) (hc0 : m = 0 → ao = none → c = 0) (hrd : Rd w ao news) (h1 : ∀ u ∈ news, u.oneCell' = true)
    (hbytes : (n + m) * bytes ≤ 140737488355328) (hbase : base ≤ w.heap.size)
    (h : ∀ v' w', w'.ownsRow base e size v' (n + m) (xs ++ news) → w.grownBy w' v.ownBlock → (v' = .slice none 0 0 ↔ v = .slice none 0 0 ∧ m = 0) → (∀ k, v'.ownBlock = some k → v.ownBlock = some k ∨ w.heap.size ≤ k) → wpList P ops Q rest (a.put o.dst v') w') : wpList P ops Q (o :: rest) a w := by
  obtain ⟨i, hi, hz, hsz, hby⟩ := T.info
  have h63 : n + m ≤ maxLen := by
    have : (n + m) * 1 ≤ (n + m) * bytes := Nat.mul_le_mul_left _ T.bpos
    unfold maxLen; omega
  cases ao with
  | some ad =>
    have hnews : ∀ j u, news[j]? = some u → w.cell? (ad.add j) = some u := by
      intro j u hu
      obtain ⟨b, off, had, hc⟩ := hrd j (by have := (List.getElem?_eq_some_iff.1 hu).1; exact this)
      obtain rfl := Option.some.inj had
      rw [Addr.add_lit, hc, hu]
    obtain ⟨v', w', hr, h2, h3, h4⟩ := run_append_own (P := P) w base t o.type e i z size bytes T.u hi hz hsz hby T.zs T.pos v n xs hown ad m c news hl hnews h1 h63 hbytes hbase
    have hwh := run_append_where (P := P) w T hown hl hnews h1 hbytes hr
    refine wpList_plain hgd fun K hK => ?_
    unfold Oper.wp execOp
    simp only [ho, resolve, invoke, builtin, Sem.run_bind, Sem.run_pure, Result.andThen_ok, List.map_toArray, List.map_cons, List.map_nil, hs, hx, hr]
    exact hK _ _ (h v' w' h2 h3 h4 hwh)
  | none =>
    have hn : news = [] := by
      cases news with
      | nil => rfl
      | cons y ys => obtain ⟨b, off, had, _⟩ := hrd 0 (by simp); cases had
    subst hn
    have hm0 : m = 0 := by
      have := T.pos
      simp only [List.length_nil] at hl
      rcases Nat.eq_zero_or_pos m with h | h
      · exact h
      · have := Nat.mul_pos h T.pos; omega
    subst hm0
    obtain rfl := hc0 rfl rfl
    refine wpList_plain hgd fun K hK' => ?_
    have hrun := run_append_owned_none (P := P) w base t o.type e i size T.u hi v n xs hown
    unfold Oper.wp
    simp [execOp, ho, resolve, invoke, builtin, hs, hx, hrun, Result.andThen]
    exact hK' _ _ (h v w (by simpa using hown) (World.grownBy.refl _ _) (by simp) (fun k hk => .inl hk))
end Go.Proofs.YtdoflhiogoefjaaDoor
end
