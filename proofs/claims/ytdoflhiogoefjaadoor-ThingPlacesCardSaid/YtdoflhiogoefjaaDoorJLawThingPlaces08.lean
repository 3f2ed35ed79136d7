/- Joined texts, in this order: Mem2. Each one's first remark says what it proves; no condition beyond those that its theorems name. -/
import Derived.Test.YtdoflhiogoefjaaDoorJLawThingPlaces02
section
/- append of one element, as an equation on the run; a store into an own row. No program in sight. -/
namespace Go.Proofs.YtdoflhiogoefjaaDoor
open Go.RowKit
open Go.Lib (hid)
set_option linter.unusedVariables false

theorem run_app1 {P : Program} {t e : TypeId} {z : Value} {size bytes : Nat} (T : SlT P t e z size bytes) (w : World) (ty : TypeId) (base : Nat) (v : Value) (n : Nat) (xs : List Value) (hown : w.ownsRow base e size v n xs)
    (us : Array Value) (hl : us.size = size) (h1 : ∀ u ∈ us.toList, u.oneCell' = true) (hbytes : (n + 1) * bytes ≤ 140737488355328) (hbase : base ≤ w.heap.size) :
    ∃ v' w', (Builtin.append_ #[t, t] ty #[v, .slice (some ⟨w.heap.size, 0, none⟩) 1 1]).run P (w.alloc (.cells us e)) = .ok v' w' ∧ w'.ownsRow base e size v' (n + 1) (xs ++ us.toList) ∧ w.grownBy w' v.ownBlock ∧ v' ≠ .slice none 0 0 ∧
      (∀ k, v'.ownBlock = some k → v.ownBlock = some k ∨ w.heap.size ≤ k) := by
  obtain ⟨i, hi, hz, hsz, hby⟩ := T.info
  have h63 : n + 1 ≤ maxLen := by
    have : (n + 1) * 1 ≤ (n + 1) * bytes := Nat.mul_le_mul_left _ T.bpos
    unfold maxLen; omega
  have hnews : ∀ j u, us.toList[j]? = some u → (w.alloc (.cells us e)).cell? ((⟨w.heap.size, 0, none⟩ : Addr).add j) = some u := by
    intro j u hu
    rw [Addr.add_lit, Nat.zero_add, World.cell?_alloc_new]
    simpa using hu
  obtain ⟨v', w', hr, h2, h3, h4⟩ := run_append_own (P := P) (w.alloc (.cells us e)) base t ty e i z size bytes T.u hi hz hsz hby T.zs T.pos v n xs (hown.alloc _) ⟨w.heap.size, 0, none⟩ 1 1 us.toList (by simpa using hl) hnews h1 h63 hbytes (by simp; omega)
  have hwh := run_append_where (P := P) (w.alloc (.cells us e)) T (hown.alloc _) (by simpa using hl) hnews h1 hbytes hr
  exact ⟨v', w', hr, h2, ⟨h3.os, h3.tape, h3.output, by have := h3.size; simp at this; omega, fun k hk hne => (h3.block k (by simp; omega) hne).trans (Below.heap_alloc w _ k hk)⟩, fun e => by simp [h4] at e,
    fun k hk => by rcases hwh k hk with x | x; exact .inl x; exact .inr (by simp at x; omega)⟩
theorem step_app1 {P : Program} {t e : TypeId} {z : Value} {size bytes : Nat} (T : SlT P t e z size bytes) {W : World} (w : World) {us : Array Value} (hW : W = w.alloc (.cells us e)) {ops : Array Oper} {o : Oper} {a : Act} {K : Act → World → Prop} {Q : Exit → Act → World → Prop} {E : Prop}
    (hgd : o.guard = none) (s x : Operand) (ho : o.op = .call { callee := .builtin .append, args := #[s, x], argTypes := #[t, t] })
    (base : Nat) (v : Value) (n : Nat) (xs : List Value) (hs : a.eval s = v) (hown : w.ownsRow base e size v n xs)
    (hx : a.eval x = .slice (some ⟨w.heap.size, 0, none⟩) 1 1) (hl : us.size = size) (h1 : ∀ u ∈ us.toList, u.oneCell' = true)
    (hbytes : (n + 1) * bytes ≤ 140737488355328) (hbase : base ≤ w.heap.size)
    (h : ∀ v' w', w'.ownsRow base e size v' (n + 1) (xs ++ us.toList) → w.grownBy w' v.ownBlock → v' ≠ .slice none 0 0 → (∀ k, v'.ownBlock = some k → v.ownBlock = some k ∨ w.heap.size ≤ k) → K (a.put o.dst v') w') :
    if Region.wanted o (yielded ops a.tmps) = true then Oper.wp P o a W K Q else E := by
  have hw : Region.wanted o (yielded ops a.tmps) = true := by simp [Region.wanted, hgd]
  rw [if_pos hw]
  subst hW
  obtain ⟨v', w', hr, h2, h3, h4, h5⟩ := run_app1 (P := P) T w o.type base v n xs hown us hl h1 hbytes hbase
  unfold Oper.wp execOp
  simp only [ho, resolve, invoke, builtin, Sem.run_bind, Sem.run_pure, Result.andThen_ok, List.map_toArray, List.map_cons, List.map_nil, hs, hx, hr]
  exact h v' w' h2 h3 h4 h5
/-- []T{..}: a row of the call's own -/
theorem step_lit {P : Program} {W : World} {us : Array Value} {t e : TypeId} {n size : Nat} {parts : Array (Nat × Operand)} {ps : Array (Nat × Value)} {ops : Array Oper} {o : Oper} {a : Act} {K : Act → World → Prop} {Q : Exit → Act → World → Prop} {E : Prop}
    (hgd : o.guard = none) (hop : o.op = .buildSlice t n parts) (hps : (parts.map fun p => (p.1, a.eval p.2)) = ps) (hrun : (Instr.buildSlice t n ps).run P W = .ok (.slice (some ⟨W.heap.size, 0, none⟩) n n) (W.alloc (.cells us e))) (hl : us.size = n * size) (hn : n ≤ 1000)
    (h : ∀ g W', W.heap.size = g → Below W.heap.size W W' → W'.heap.size = g + 1 → W'.ownsRow g e size (.slice (some ⟨g, 0, none⟩) n n) n us.toList → K (a.put o.dst (.slice (some ⟨g, 0, none⟩) n n)) W') :
    if Region.wanted o (yielded ops a.tmps) = true then Oper.wp P o a W K Q else E := by
  have hw : Region.wanted o (yielded ops a.tmps) = true := by simp [Region.wanted, hgd]
  rw [if_pos hw]
  unfold Oper.wp execOp
  simp only [hop]
  have e1 : (parts.map fun (i, x) => (i, a.eval x)) = parts.map fun p => (p.1, a.eval p.2) := rfl
  rw [e1, hps]
  simp [hrun, Result.andThen, Oper.upon]
  exact h _ _ rfl ((Below.refl _ _).alloc (Nat.le_refl _) _) (by simp) ⟨by simpa using hl, .inr ⟨W.heap.size, n, us, rfl, Nat.le_refl _, heap_alloc_new W _, Nat.le_refl _, by unfold maxLen; omega, hl, by rw [List.take_of_length_le (by simp [hl])]⟩⟩
theorem step_appN {P : Program} {t e : TypeId} {z : Value} {size bytes : Nat} (T : SlT P t e z size bytes) {w : World} {ops : Array Oper} {o : Oper} {a : Act} {K : Act → World → Prop} {Q : Exit → Act → World → Prop} {E : Prop}
    (hgd : o.guard = none) (s x : Operand) (ho : o.op = .call { callee := .builtin .append, args := #[s, x], argTypes := #[t, t] })
    (base : Nat) (v : Value) (n : Nat) (xs : List Value) (hs : a.eval s = v) (hown : w.ownsRow base e size v n xs)
    (ao : Option Addr) (m c : Nat) (news : List Value) (hx : a.eval x = .slice ao m c) (hl : news.length = m * size) (hc0 : m = 0 → ao = none → c = 0) (hrd : Rd w ao news) (h1 : ∀ u ∈ news, u.oneCell' = true)
    (hbytes : (n + m) * bytes ≤ 140737488355328) (hbase : base ≤ w.heap.size)
    (h : ∀ v' w', w'.ownsRow base e size v' (n + m) (xs ++ news) → w.grownBy w' v.ownBlock → (v' = .slice none 0 0 ↔ v = .slice none 0 0 ∧ m = 0) → (∀ k, v'.ownBlock = some k → v.ownBlock = some k ∨ w.heap.size ≤ k) → K (a.put o.dst v') w') :
    if Region.wanted o (yielded ops a.tmps) = true then Oper.wp P o a w K Q else E := by
  have hw : Region.wanted o (yielded ops a.tmps) = true := by simp [Region.wanted, hgd]
  rw [if_pos hw]
  obtain ⟨i, hi, hz, hsz, hby⟩ := T.info
  have h63 : n + m ≤ maxLen := by
    have : (n + m) * 1 ≤ (n + m) * bytes := Nat.mul_le_mul_left _ T.bpos
    unfold maxLen; omega
  cases ao with
  | some ad =>
    have hnews : ∀ j u, news[j]? = some u → w.cell? (ad.add j) = some u := by
      intro j u hu
      obtain ⟨b, off, had, hc⟩ := hrd j (by have := (List.getElem?_eq_some_iff.1 hu).1; exact this)
      obtain rfl := Option.some.inj had
      rw [Addr.add_lit, hc, hu]
    obtain ⟨v', w', hr, h2, h3, h4⟩ := run_append_own (P := P) w base t o.type e i z size bytes T.u hi hz hsz hby T.zs T.pos v n xs hown ad m c news hl hnews h1 h63 hbytes hbase
    have hwh := run_append_where (P := P) w T hown hl hnews h1 hbytes hr
    unfold Oper.wp execOp
    simp only [ho, resolve, invoke, builtin, Sem.run_bind, Sem.run_pure, Result.andThen_ok, List.map_toArray, List.map_cons, List.map_nil, hs, hx, hr]
    exact h v' w' h2 h3 h4 hwh
  | none =>
    have hn : news = [] := by
      cases news with
      | nil => rfl
      | cons y ys => obtain ⟨b, off, had, _⟩ := hrd 0 (by simp); cases had
    subst hn
    have hm0 : m = 0 := by
      have := T.pos
      simp only [List.length_nil] at hl
      rcases Nat.eq_zero_or_pos m with h | h
      · exact h
      · have := Nat.mul_pos h T.pos; omega
    subst hm0
    obtain rfl := hc0 rfl rfl
    have hrun := run_append_owned_none (P := P) w base t o.type e i size T.u hi v n xs hown
    unfold Oper.wp
    simp [execOp, ho, resolve, invoke, builtin, hs, hx, hrun, Result.andThen, Oper.upon]
    exact h v w (by simpa using hown) (World.grownBy.refl _ _) (by simp) (fun k hk => .inl hk)
theorem step_make {P : Program} {t e : TypeId} {z : Value} {bytes : Nat} (T : SlT P t e z 1 bytes) (hzc : z.cells = #[z]) {w : World} {ops : Array Oper} {o : Oper} {a : Act} {K : Act → World → Prop} {Q : Exit → Act → World → Prop} {E : Prop}
    (hg : o.guard = none) (l c : Operand) (hop : o.op = Op.makeSlice t l c) (base : Nat) (kl kc : IntKind) (L C : Int) (n m : Nat) (hl : a.eval l = .int kl L) (hc : a.eval c = .int kc C) (hL : L = (n : Int)) (hC : C = (m : Int)) (hnm : n ≤ m)
    (b2 : bytes * m ≤ 281474976710656) (b4 : base ≤ w.heap.size)
    (hK : ∀ g w', w.heap.size = g → w'.ownsRow base e 1 (.slice (some ⟨g, 0, none⟩) n m) n (List.replicate n z) → Below w.heap.size w w' → w'.heap.size = g + 1 → K (a.put o.dst (.slice (some ⟨g, 0, none⟩) n m)) w') :
    if Region.wanted o (yielded ops a.tmps) = true then Oper.wp P o a w K Q else E := by
  have hw : Region.wanted o (yielded ops a.tmps) = true := by simp [Region.wanted, hg]
  rw [if_pos hw]
  obtain ⟨i, hi, hz, hsz, hby⟩ := T.info
  have hm : m ≤ maxLen := by
    have : 1 * m ≤ bytes * m := Nat.mul_le_mul_right _ T.bpos
    unfold maxLen; omega
  have hb' : (i.bytes : Int) * (m : Int) ≤ 281474976710656 := by
    have h : ((i.bytes * m : Nat) : Int) ≤ 281474976710656 := by rw [hby]; omega
    rwa [Int.natCast_mul] at h
  have hr := run_make (P := P) w t e i z T.u hi hz kl kc n m (by omega) (by omega) hb' (by unfold maxLen at hm; omega)
  simp only [Int.toNat_natCast] at hr
  subst hL
  subst hC
  unfold Oper.wp
  simp [execOp, hop, hl, hc, hr, Result.andThen, Oper.upon]
  refine hK _ _ rfl ?_ ((Below.refl _ _).alloc (Nat.le_refl _) _) (by simp)
  rw [hsz, Nat.mul_one]
  refine ⟨by simp, .inr ⟨w.heap.size, m, _, rfl, b4, heap_alloc_new w _, hnm, hm, by simp [size_madeCells], ?_⟩⟩
  rw [hzc, toList_madeCells_one]
  simp [hnm]
theorem owns_below {w w' : World} {base : Nat} {e : TypeId} {v : Value} {n : Nat} {xs : List Value} {size : Nat} (h : w.ownsRow base e size v n xs) (hb : Below w.heap.size w w') : w'.ownsRow base e size v n xs :=
  Upd.owns (S := fun _ => False) (Upd.of_below hb) h (fun _ _ x => x)
theorem Upd.new {S : Nat → Prop} {w w' : World} (h : Upd S w w') (o : Obj) : Upd S w (w'.alloc o) := h.trans (Upd.of_below (S := fun _ => False) ((Below.refl _ _).alloc (Nat.le_refl _) o)) (fun _ _ x => x.elim)
theorem Upd.drew {S : Nat → Prop} {w w' : World} (h : Upd S w w') : Upd S w w'.drew := ⟨h.os, h.tape, h.output, h.size, h.block⟩
theorem Upd.drewN {S : Nat → Prop} {w w' : World} (h : Upd S w w') (n : Nat) : Upd S w (w'.drewN n) := ⟨h.os, h.tape, h.output, h.size, h.block⟩
end Go.Proofs.YtdoflhiogoefjaaDoor
end
