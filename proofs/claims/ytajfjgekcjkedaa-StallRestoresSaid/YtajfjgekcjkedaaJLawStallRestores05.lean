/- Joined texts, in this order: Mem2, Pairs, Region, Bytes. Each one's first remark says what it proves; no condition beyond those that its theorems name. -/
import Derived.Test.YtajfjgekcjkedaaJLawStallRestores01
import Derived.WalkKit
import Derived.Lib.Hide
import Derived.Deep.RegionHeld
import Derived.Test.YtajfjgekcjkedaaProg
import Derived.Lib.SlBytesConst
import Derived.Deep.QuietTactic
import Derived.BigQuiet
import Derived.Deep.RegionHeld3
section
/- append of one element, as an equation on the run; a store into an own row. No program in sight. -/
namespace Go.Proofs.Ytajfjgekcjkedaa
open Go.RowKit
open Go.Lib (hid)
set_option linter.unusedVariables false

theorem run_app1 {P : Program} {t e : TypeId} {z : Value} {size bytes : Nat} (T : SlT P t e z size bytes) (w : World) (ty : TypeId) (base : Nat) (v : Value) (n : Nat) (xs : List Value) (hown : w.ownsRow base e size v n xs)
    (us : Array Value) (hl : us.size = size) (h1 : ∀ u ∈ us.toList, u.oneCell' = true) (hbytes : (n + 1) * bytes ≤ 140737488355328) (hbase : base ≤ w.heap.size) :
    ∃ v' w', (Builtin.append_ #[t, t] ty #[v, .slice (some ⟨w.heap.size, 0, none⟩) 1 1]).run P (w.alloc (.cells us e)) = .ok v' w' ∧ w'.ownsRow base e size v' (n + 1) (xs ++ us.toList) ∧ w.grownBy w' v.ownBlock ∧ v' ≠ .slice none 0 0 ∧
      (∀ k, v'.ownBlock = some k → v.ownBlock = some k ∨ w.heap.size ≤ k) := by
  obtain ⟨i, hi, hz, hsz, hby⟩ := T.info
  have h63 : n + 1 ≤ maxLen := by
    have : (n + 1) * 1 ≤ (n + 1) * bytes := Nat.mul_le_mul_left _ T.bpos
    unfold maxLen; omega
  have hnews : ∀ j u, us.toList[j]? = some u → (w.alloc (.cells us e)).cell? ((⟨w.heap.size, 0, none⟩ : Addr).add j) = some u := by
    intro j u hu
    rw [Addr.add_lit, Nat.zero_add, World.cell?_alloc_new]
    simpa using hu
  obtain ⟨v', w', hr, h2, h3, h4⟩ := run_append_own (P := P) (w.alloc (.cells us e)) base t ty e i z size bytes T.u hi hz hsz hby T.zs T.pos v n xs (hown.alloc _) ⟨w.heap.size, 0, none⟩ 1 1 us.toList (by simpa using hl) hnews h1 h63 hbytes (by simp; omega)
  have hwh := run_append_where (P := P) (w.alloc (.cells us e)) T (hown.alloc _) (by simpa using hl) hnews h1 hbytes hr
  exact ⟨v', w', hr, h2, ⟨h3.os, h3.tape, h3.output, by have := h3.size; simp at this; omega, fun k hk hne => (h3.block k (by simp; omega) hne).trans (Below.heap_alloc w _ k hk)⟩, fun e => by simp [h4] at e,
    fun k hk => by rcases hwh k hk with x | x; exact .inl x; exact .inr (by simp at x; omega)⟩
theorem step_app1 {P : Program} {t e : TypeId} {z : Value} {size bytes : Nat} (T : SlT P t e z size bytes) {W : World} (w : World) {us : Array Value} (hW : W = w.alloc (.cells us e)) {ops : Array Oper} {o : Oper} {a : Act} {K : Act → World → Prop} {Q : Exit → Act → World → Prop} {E : Prop}
    (hgd : o.guard = none) (s x : Operand) (ho : o.op = .call { callee := .builtin .append, args := #[s, x], argTypes := #[t, t] })
    (base : Nat) (v : Value) (n : Nat) (xs : List Value) (hs : a.eval s = v) (hown : w.ownsRow base e size v n xs)
    (hx : a.eval x = .slice (some ⟨w.heap.size, 0, none⟩) 1 1) (hl : us.size = size) (h1 : ∀ u ∈ us.toList, u.oneCell' = true)
    (hbytes : (n + 1) * bytes ≤ 140737488355328) (hbase : base ≤ w.heap.size)
    (h : ∀ v' w', w'.ownsRow base e size v' (n + 1) (xs ++ us.toList) → w.grownBy w' v.ownBlock → v' ≠ .slice none 0 0 → (∀ k, v'.ownBlock = some k → v.ownBlock = some k ∨ w.heap.size ≤ k) → K (a.put o.dst v') w') :
    if Region.wanted o (yielded ops a.tmps) = true then Oper.wp P o a W K Q else E := by
  have hw : Region.wanted o (yielded ops a.tmps) = true := by simp [Region.wanted, hgd]
  rw [if_pos hw]
  subst hW
  obtain ⟨v', w', hr, h2, h3, h4, h5⟩ := run_app1 (P := P) T w o.type base v n xs hown us hl h1 hbytes hbase
  unfold Oper.wp execOp
  simp only [ho, resolve, invoke, builtin, Sem.run_bind, Sem.run_pure, Result.andThen_ok, List.map_toArray, List.map_cons, List.map_nil, hs, hx, hr]
  exact h v' w' h2 h3 h4 h5
/-- []T{..}: a row of the call's own -/
theorem step_lit {P : Program} {W : World} {us : Array Value} {t e : TypeId} {n size : Nat} {parts : Array (Nat × Operand)} {ps : Array (Nat × Value)} {ops : Array Oper} {o : Oper} {a : Act} {K : Act → World → Prop} {Q : Exit → Act → World → Prop} {E : Prop}
    (hgd : o.guard = none) (hop : o.op = .buildSlice t n parts) (hps : (parts.map fun p => (p.1, a.eval p.2)) = ps) (hrun : (Instr.buildSlice t n ps).run P W = .ok (.slice (some ⟨W.heap.size, 0, none⟩) n n) (W.alloc (.cells us e))) (hl : us.size = n * size) (hn : n ≤ 1000)
    (h : ∀ g W', W.heap.size = g → Below W.heap.size W W' → W'.heap.size = g + 1 → W'.ownsRow g e size (.slice (some ⟨g, 0, none⟩) n n) n us.toList → K (a.put o.dst (.slice (some ⟨g, 0, none⟩) n n)) W') :
    if Region.wanted o (yielded ops a.tmps) = true then Oper.wp P o a W K Q else E := by
  have hw : Region.wanted o (yielded ops a.tmps) = true := by simp [Region.wanted, hgd]
  rw [if_pos hw]
  unfold Oper.wp execOp
  simp only [hop]
  have e1 : (parts.map fun (i, x) => (i, a.eval x)) = parts.map fun p => (p.1, a.eval p.2) := rfl
  rw [e1, hps]
  simp [hrun, Result.andThen, Oper.upon]
  exact h _ _ rfl ((Below.refl _ _).alloc (Nat.le_refl _) _) (by simp) ⟨by simpa using hl, .inr ⟨W.heap.size, n, us, rfl, Nat.le_refl _, heap_alloc_new W _, Nat.le_refl _, by unfold maxLen; omega, hl, by rw [List.take_of_length_le (by simp [hl])]⟩⟩
theorem step_appN {P : Program} {t e : TypeId} {z : Value} {size bytes : Nat} (T : SlT P t e z size bytes) {w : World} {ops : Array Oper} {o : Oper} {a : Act} {K : Act → World → Prop} {Q : Exit → Act → World → Prop} {E : Prop}
    (hgd : o.guard = none) (s x : Operand) (ho : o.op = .call { callee := .builtin .append, args := #[s, x], argTypes := #[t, t] })
    (base : Nat) (v : Value) (n : Nat) (xs : List Value) (hs : a.eval s = v) (hown : w.ownsRow base e size v n xs)
    (ao : Option Addr) (m c : Nat) (news : List Value) (hx : a.eval x = .slice ao m c) (hl : news.length = m * size) (hc0 : m = 0 → ao = none → c = 0) (hrd : Rd w ao news) (h1 : ∀ u ∈ news, u.oneCell' = true)
    (hbytes : (n + m) * bytes ≤ 140737488355328) (hbase : base ≤ w.heap.size)
    (h : ∀ v' w', w'.ownsRow base e size v' (n + m) (xs ++ news) → w.grownBy w' v.ownBlock → (v' = .slice none 0 0 ↔ v = .slice none 0 0 ∧ m = 0) → (∀ k, v'.ownBlock = some k → v.ownBlock = some k ∨ w.heap.size ≤ k) → K (a.put o.dst v') w') :
    if Region.wanted o (yielded ops a.tmps) = true then Oper.wp P o a w K Q else E := by
  have hw : Region.wanted o (yielded ops a.tmps) = true := by simp [Region.wanted, hgd]
  rw [if_pos hw]
  obtain ⟨i, hi, hz, hsz, hby⟩ := T.info
  have h63 : n + m ≤ maxLen := by
    have : (n + m) * 1 ≤ (n + m) * bytes := Nat.mul_le_mul_left _ T.bpos
    unfold maxLen; omega
  cases ao with
  | some ad =>
    have hnews : ∀ j u, news[j]? = some u → w.cell? (ad.add j) = some u := by
      intro j u hu
      obtain ⟨b, off, had, hc⟩ := hrd j (by have := (List.getElem?_eq_some_iff.1 hu).1; exact this)
      obtain rfl := Option.some.inj had
      rw [Addr.add_lit, hc, hu]
    obtain ⟨v', w', hr, h2, h3, h4⟩ := run_append_own (P := P) w base t o.type e i z size bytes T.u hi hz hsz hby T.zs T.pos v n xs hown ad m c news hl hnews h1 h63 hbytes hbase
    have hwh := run_append_where (P := P) w T hown hl hnews h1 hbytes hr
    unfold Oper.wp execOp
    simp only [ho, resolve, invoke, builtin, Sem.run_bind, Sem.run_pure, Result.andThen_ok, List.map_toArray, List.map_cons, List.map_nil, hs, hx, hr]
    exact h v' w' h2 h3 h4 hwh
  | none =>
    have hn : news = [] := by
      cases news with
      | nil => rfl
      | cons y ys => obtain ⟨b, off, had, _⟩ := hrd 0 (by simp); cases had
    subst hn
    have hm0 : m = 0 := by
      have := T.pos
      simp only [List.length_nil] at hl
      rcases Nat.eq_zero_or_pos m with h | h
      · exact h
      · have := Nat.mul_pos h T.pos; omega
    subst hm0
    obtain rfl := hc0 rfl rfl
    have hrun := run_append_owned_none (P := P) w base t o.type e i size T.u hi v n xs hown
    unfold Oper.wp
    simp [execOp, ho, resolve, invoke, builtin, hs, hx, hrun, Result.andThen, Oper.upon]
    exact h v w (by simpa using hown) (World.grownBy.refl _ _) (by simp) (fun k hk => .inl hk)
theorem step_make {P : Program} {t e : TypeId} {z : Value} {bytes : Nat} (T : SlT P t e z 1 bytes) (hzc : z.cells = #[z]) {w : World} {ops : Array Oper} {o : Oper} {a : Act} {K : Act → World → Prop} {Q : Exit → Act → World → Prop} {E : Prop}
    (hg : o.guard = none) (l c : Operand) (hop : o.op = Op.makeSlice t l c) (base : Nat) (kl kc : IntKind) (L C : Int) (n m : Nat) (hl : a.eval l = .int kl L) (hc : a.eval c = .int kc C) (hL : L = (n : Int)) (hC : C = (m : Int)) (hnm : n ≤ m)
    (b2 : bytes * m ≤ 281474976710656) (b4 : base ≤ w.heap.size)
    (hK : ∀ g w', w.heap.size = g → w'.ownsRow base e 1 (.slice (some ⟨g, 0, none⟩) n m) n (List.replicate n z) → Below w.heap.size w w' → w'.heap.size = g + 1 → K (a.put o.dst (.slice (some ⟨g, 0, none⟩) n m)) w') :
    if Region.wanted o (yielded ops a.tmps) = true then Oper.wp P o a w K Q else E := by
  have hw : Region.wanted o (yielded ops a.tmps) = true := by simp [Region.wanted, hg]
  rw [if_pos hw]
  obtain ⟨i, hi, hz, hsz, hby⟩ := T.info
  have hm : m ≤ maxLen := by
    have : 1 * m ≤ bytes * m := Nat.mul_le_mul_right _ T.bpos
    unfold maxLen; omega
  have hb' : (i.bytes : Int) * (m : Int) ≤ 281474976710656 := by
    have h : ((i.bytes * m : Nat) : Int) ≤ 281474976710656 := by rw [hby]; omega
    rwa [Int.natCast_mul] at h
  have hr := run_make (P := P) w t e i z T.u hi hz kl kc n m (by omega) (by omega) hb' (by unfold maxLen at hm; omega)
  simp only [Int.toNat_natCast] at hr
  subst hL
  subst hC
  unfold Oper.wp
  simp [execOp, hop, hl, hc, hr, Result.andThen, Oper.upon]
  refine hK _ _ rfl ?_ ((Below.refl _ _).alloc (Nat.le_refl _) _) (by simp)
  rw [hsz, Nat.mul_one]
  refine ⟨by simp, .inr ⟨w.heap.size, m, _, rfl, b4, heap_alloc_new w _, hnm, hm, by simp [size_madeCells], ?_⟩⟩
  rw [hzc, toList_madeCells_one]
  simp [hnm]
theorem owns_below {w w' : World} {base : Nat} {e : TypeId} {v : Value} {n : Nat} {xs : List Value} {size : Nat} (h : w.ownsRow base e size v n xs) (hb : Below w.heap.size w w') : w'.ownsRow base e size v n xs :=
  Upd.owns (S := fun _ => False) (Upd.of_below hb) h (fun _ _ x => x)
theorem Upd.new {S : Nat → Prop} {w w' : World} (h : Upd S w w') (o : Obj) : Upd S w (w'.alloc o) := h.trans (Upd.of_below (S := fun _ => False) ((Below.refl _ _).alloc (Nat.le_refl _) o)) (fun _ _ x => x.elim)
theorem Upd.drew {S : Nat → Prop} {w w' : World} (h : Upd S w w') : Upd S w w'.drew := ⟨h.os, h.tape, h.output, h.size, h.block⟩
theorem Upd.drewN {S : Nat → Prop} {w w' : World} (h : Upd S w w') (n : Nat) : Upd S w (w'.drewN n) := ⟨h.os, h.tape, h.output, h.size, h.block⟩
end Go.Proofs.Ytajfjgekcjkedaa
end
section
/- Slices of structs of two numbers. No program in sight. -/
namespace Go.Proofs.Ytajfjgekcjkedaa
open Go.RowKit
open Go.Lib (hid)
set_option linter.unusedVariables false

/-- the cells of a list of pairs -/
def pv (X : List (Int × Int)) : List Value := X.flatMap fun p => [Value.int .i64 p.1, .int .i64 p.2]
theorem pv_length (X : List (Int × Int)) : (pv X).length = X.length * 2 := by
  unfold pv
  induction X with
  | nil => rfl
  | cons p X ih => rw [List.flatMap_cons, List.length_append, ih]; simp; omega
theorem pv_append (X Y : List (Int × Int)) : pv (X ++ Y) = pv X ++ pv Y := by unfold pv; rw [List.flatMap_append]
theorem pv_one (p : Int × Int) : pv [p] = [.int .i64 p.1, .int .i64 p.2] := rfl
theorem pv_oneCell (X : List (Int × Int)) : ∀ u ∈ pv X, u.oneCell' = true := by
  intro u hu
  unfold pv at hu
  obtain ⟨p, -, hp⟩ := List.mem_flatMap.1 hu
  simp at hp
  rcases hp with rfl | rfl <;> rfl
theorem pv_at : ∀ (X : List (Int × Int)) (i : Nat) (p : Int × Int), X[i]? = some p → (pv X)[i * 2]? = some (.int .i64 p.1) ∧ (pv X)[i * 2 + 1]? = some (.int .i64 p.2)
  | [], i, p, h => by simp at h
  | q :: X, 0, p, h => by simp at h; subst h; exact ⟨rfl, rfl⟩
  | q :: X, i + 1, p, h => by
    simp at h
    have := pv_at X i p h
    have e : pv (q :: X) = .int .i64 q.1 :: .int .i64 q.2 :: pv X := rfl
    rw [e, show (i + 1) * 2 = i * 2 + 1 + 1 by omega]
    simpa using this
theorem pv_set2 : ∀ (X : List (Int × Int)) (j : Nat) (h x y : Int), X[j]? = some (h, x) → pv (X.set j (h, y)) = (pv X).set (j * 2 + 1) (.int .i64 y)
  | [], j, h, x, y, e => by simp at e
  | q :: X, 0, h, x, y, e => by simp at e; subst e; rfl
  | q :: X, j + 1, h, x, y, e => by
    simp at e
    have ih := pv_set2 X j h x y e
    have e1 : ∀ X : List (Int × Int), pv (q :: X) = .int .i64 q.1 :: .int .i64 q.2 :: pv X := fun _ => rfl
    rw [List.set_cons_succ, e1, e1, ih, show (j + 1) * 2 + 1 = (j * 2 + 1) + 1 + 1 by omega, List.set_cons_succ, List.set_cons_succ]
theorem Rd.pair {w : World} {a : Option Addr} {X : List (Int × Int)} (h : Rd w a (pv X)) (i : Nat) (hi : i < X.length) :
    ∃ b off x y, a = some ⟨b, off, none⟩ ∧ w.cell? ⟨b, off + i * 2, none⟩ = some (.int .i64 x) ∧ w.cell? ⟨b, off + i * 2 + 1, none⟩ = some (.int .i64 y) ∧ X[i]? = some (x, y) ∧ X.drop i = (x, y) :: X.drop (i + 1) ∧ X.take (i + 1) = X.take i ++ [(x, y)] := by
  have hx : X[i]? = some X[i] := List.getElem?_eq_getElem hi
  obtain ⟨h1, h2⟩ := pv_at X i _ hx
  obtain ⟨b, off, ha, hc⟩ := h (i * 2) (by rw [pv_length]; omega)
  obtain ⟨b', off', ha', hc'⟩ := h (i * 2 + 1) (by rw [pv_length]; omega)
  rw [ha] at ha'
  simp at ha'
  obtain ⟨rfl, rfl⟩ := ha'
  exact ⟨b, off, X[i].1, X[i].2, ha, by rw [hc, h1], by rw [Nat.add_assoc, hc', h2], hx, List.drop_eq_getElem_cons hi, by rw [List.take_succ_eq_append_getElem hi]⟩
/-- the slice reads as the list of pairs -/
def SlP (w : World) (v : Value) (X : List (Int × Int)) : Prop := ∃ a cap, v = .slice a X.length cap ∧ Rd w a (pv X) ∧ X.length ≤ cap ∧ cap ≤ 9223372036854775807 ∧ (a = none → cap = 0)
theorem SlP.nil (w : World) : SlP w (.slice none 0 0) [] := ⟨none, 0, rfl, Rd.nil _ _, by simp, by omega, fun _ => rfl⟩
theorem SlP.below {w w' : World} {v : Value} {X : List (Int × Int)} (h : SlP w v X) (hb : Below w.heap.size w w') : SlP w' v X := by
  obtain ⟨a, c, rfl, h2, h3⟩ := h
  exact ⟨a, c, rfl, h2.below' hb, h3⟩
theorem SlP.upd {S : Nat → Prop} {w w' : World} {v : Value} {X : List (Int × Int)} (h : SlP w v X) (hu : Upd S w w') (hn : ∀ k, v.ownBlock = some k → ¬ S k) : SlP w' v X := by
  obtain ⟨a, c, rfl, h2, h3⟩ := h
  exact ⟨a, c, rfl, hu.rd h2 (fun b off e => hn _ (by rw [e]; rfl)), h3⟩
theorem SlP.of_own {w : World} {base : Nat} {e : TypeId} {v : Value} {X : List (Int × Int)} (h : w.ownsRow base e 2 v X.length (pv X)) : SlP w v X := by
  obtain ⟨a, cap, rfl, h1, h2, hr, h3⟩ := ownsRow.rd h
  exact ⟨a, cap, rfl, hr, h1, by unfold maxLen at h2; omega, h3⟩
end Go.Proofs.Ytajfjgekcjkedaa
end
section
/- A region that draws its order: reads are taken first while S holds; the operations of 'ex' wait for all others, and behind them S need not hold. No program in sight. -/
namespace Go.Proofs.Ytajfjgekcjkedaa
set_option linter.unusedVariables false
section
variable {P : Program} {ops : Array Oper} {Q : Exit → Act → World → Prop} {md : Region.Mode} {S : World → Prop} {ex : List Nat}

/-- the operations of ex wait for all that are not of ex -/
def lateOk (md : Region.Mode) (ops : Array Oper) (ex : List Nat) : Bool :=
  ex.all fun j => (List.range ops.size).all fun k => ex.contains k || ((ops[j]?.map fun o => o.after.any fun e => Region.binds md e && e.on == k).getD false)
theorem lateOk_spec (h : lateOk md ops ex = true) {j i : Nat} (hj : j ∈ ex) (hi : i < ops.size) (hn : i ∉ ex) : ∃ o, ops[j]? = some o ∧ ∃ e ∈ o.after, Region.binds md e = true ∧ e.on = i := by
  have h1 := List.all_eq_true.1 (List.all_eq_true.1 h j hj) i (List.mem_range.2 hi)
  rw [Bool.or_eq_true] at h1
  rcases h1 with h2 | h2
  · exact absurd (by simpa using h2) hn
  · cases ho : ops[j]? with
    | none => rw [ho] at h2; simp at h2
    | some o =>
      rw [ho] at h2
      simp only [Option.map_some, Option.getD_some, Array.any_eq_true] at h2
      obtain ⟨m, hm, hb⟩ := h2
      simp only [Bool.and_eq_true, beq_iff_eq] at hb
      exact ⟨o, rfl, o.after[m], Array.getElem_mem hm, hb.1, hb.2⟩

def wpK (P : Program) (md : Region.Mode) (ops : Array Oper) (Q : Exit → Act → World → Prop) (ex : List Nat) (S : World → Prop) : Nat → Array Bool → Act → World → Prop
  | 0, l, a, w => Region.ready md ops l = [] ∧ Q .normal a w
  | n + 1, l, a, w => (Region.ready md ops l = [] → Q .normal a w) ∧ ∀ i ∈ Region.ready md ops l, wpOp P ops Q i (fun a' w' => (i ∈ ex ∨ S w') ∧ wpK P md ops Q ex S n (l.setIfInBounds i true) a' w') a w
theorem wpK.any : ∀ (n : Nat) (l : Array Bool) (a : Act) (w : World), wpK P md ops Q ex S n l a w → wpAny P md ops Q n l a w
  | 0, _, _, _, h => h
  | n + 1, _, _, _, h => ⟨h.1, fun i hi => wpOp_mono (fun a' w' k => wpK.any n _ a' w' k.2) (h.2 i hi)⟩

theorem wpK.first (hex : lateOk md ops ex = true) {i : Nat} {oi : Oper} {v : Value} (hi : ops[i]? = some oi) (hin : i ∉ ex) (hsel : ∀ (j : Nat) (o : Oper) cs b, ops[j]? = some o → o.op ≠ .select cs b)
    (hQ : ∀ c a w, Q (.panic c) (a.put oi.dst v) w → Q (.panic c) a w) : ∀ (n : Nat) (l : Array Bool) (a : Act) (w : World),
      (∀ j oj, ops[j]? = some oj → j ≠ i → l.getD j true = false → (∀ e ∈ oj.after, Region.binds md e = true → e.on ≠ i) → oi.apart ops oj = true) →
      i ∈ Region.ready md ops l → YieldsIf P ops S oi v a → S w → wpK P md ops Q ex S n (l.setIfInBounds i true) (a.put oi.dst v) w → wpK P md ops Q ex S (n + 1) l a w := by
  -- an operation of ex does not come up while i has not
  have hno : ∀ (l : Array Bool) (j : Nat), i ∈ Region.ready md ops l → j ∈ Region.ready md ops l → j ∉ ex := by
    intro l j hir hjr hje
    obtain ⟨o, ho, e, he, hb, hon⟩ := lateOk_spec hex hje (Array.getElem?_eq_some_iff.1 hi).1 hin
    obtain ⟨-, o', ho', hall⟩ := mem_ready.1 hjr
    obtain rfl : o = o' := by rw [ho] at ho'; exact Option.some.inj ho'
    have h1 := hall e he hb
    have h0 := (mem_ready.1 hir).1
    rw [hon] at h1
    rcases Nat.lt_or_ge i l.size with h' | h'
    · simp [h'] at h0 h1; rw [h0] at h1; cases h1
    · simp [Array.getElem?_eq_none h'] at h1
  intro n
  induction n with
  | zero =>
    intro l a w hfree hr hy hS H
    refine ⟨fun h => (by rw [h] at hr; cases hr), fun j hj => ?_⟩
    by_cases hji : j = i
    · subst hji; exact hy.wpOp hi hS ⟨.inr hS, H⟩
    · have := ready_mono hj hji
      rw [H.1] at this
      cases this
  | succ n ih =>
    intro l a w hfree hr hy hS H
    refine ⟨fun h => (by rw [h] at hr; cases hr), fun j hj => ?_⟩
    by_cases hji : j = i
    · subst hji; exact hy.wpOp hi hS ⟨.inr hS, H⟩
    · have hjx := hno l j hr hj
      obtain ⟨hjun, oj, hoj, hall⟩ := mem_ready.1 hj
      have hnot : ∀ e ∈ oj.after, Region.binds md e = true → e.on ≠ i := fun e he hb heq => by
        have h1 := hall e he hb
        have h0 := (mem_ready.1 hr).1
        rw [heq] at h1
        rcases Nat.lt_or_ge i l.size with h' | h'
        · simp [h'] at h0 h1; rw [h0] at h1; cases h1
        · simp [Array.getElem?_eq_none h'] at h1
      have h2 := wpOp_putIf hoj (hfree j oj hoj hji hjun hnot) (fun cs b => hsel i oi cs b hi) (fun cs b => hsel j oj cs b hoj) hQ hy (H.2 j (ready_mono hj hji))
      refine wpOp_mono (fun a' w' k => ?_) h2
      have hS' : S w' := k.2.1.resolve_left hjx
      refine ⟨.inr hS', ih _ a' w' (fun m om hm hmi hun hno' => ?_) (ready_mono hr (Ne.symm hji)) k.1 hS' (by rw [Array.setIfInBounds_comm _ _ hji]; exact k.2.2)⟩
      refine hfree m om hm hmi ?_ hno'
      by_cases hjm : j = m
      · subst hjm; exact hjun
      · rw [getD_set_ne true hjm] at hun; exact hun

/-- operation i is taken first -/
theorem wpK.take {i : Nat} {oi : Oper} {v : Value} {n : Nat} {l : Array Bool} {a : Act} {w : World} (hi : ops[i]? = some oi) (hex : lateOk md ops ex = true) (hin : ex.contains i = false)
    (hs : Region.noSelect ops = true) (hf : Region.free md ops l i = true) (hr : (Region.ready md ops l).contains i = true)
    (hQ : ∀ c a w, Q (.panic c) (a.put oi.dst v) w → Q (.panic c) a w) (hy : YieldsIf P ops S oi v a) (hS : S w)
    (h : wpK P md ops Q ex S n (l.setIfInBounds i true) (a.put oi.dst v) w) : wpK P md ops Q ex S (n + 1) l a w :=
  wpK.first hex hi (by simpa using hin) (Region.noSelect_spec hs) hQ n l a w (Region.free_spec hi hf) (by simpa using hr) hy hS h
/-- operation i alone may come up now -/
theorem wpK.step {i : Nat} {oi : Oper} {n : Nat} {l : Array Bool} {a : Act} {w : World} (hr : Region.ready md ops l = [i]) (ho : ops[i]? = some oi)
    (h : ∀ K' : Act → World → Prop, Shut (∀ a w, S w → (S w → wpK P md ops Q ex S n (l.setIfInBounds i true) a w) → K' a w) → if Region.wanted oi (yielded ops a.tmps) = true then Oper.wp P oi a w K' Q else K' (a.put oi.dst undef) w) :
    wpK P md ops Q ex S (n + 1) l a w := by
  refine ⟨fun h0 => (by rw [hr] at h0; cases h0), fun j hj => ?_⟩
  rw [hr] at hj
  obtain rfl := List.mem_singleton.1 hj
  exact wpOp_step ho (fun K' hK => h K' (fun a w hS hW => hK a w ⟨.inr hS, hW hS⟩))
/-- one of two comes up now -/
theorem wpK.two {i j : Nat} {oi oj : Oper} {n : Nat} {l : Array Bool} {a : Act} {w : World} (hr : Region.ready md ops l = [i, j]) (ho : ops[i]? = some oi) (ho' : ops[j]? = some oj)
    (h : ∀ K' : Act → World → Prop, Shut (∀ a w, S w → (S w → wpK P md ops Q ex S n (l.setIfInBounds i true) a w) → K' a w) → if Region.wanted oi (yielded ops a.tmps) = true then Oper.wp P oi a w K' Q else K' (a.put oi.dst undef) w)
    (h' : ∀ K' : Act → World → Prop, Shut (∀ a w, S w → (S w → wpK P md ops Q ex S n (l.setIfInBounds j true) a w) → K' a w) → if Region.wanted oj (yielded ops a.tmps) = true then Oper.wp P oj a w K' Q else K' (a.put oj.dst undef) w) :
    wpK P md ops Q ex S (n + 1) l a w := by
  refine ⟨fun h0 => (by rw [hr] at h0; cases h0), fun k hk => ?_⟩
  rw [hr] at hk
  rcases List.mem_cons.1 hk with rfl | hk
  · exact wpOp_step ho (fun K' hK => h K' (fun a w hS hW => hK a w ⟨.inr hS, hW hS⟩))
  · obtain rfl := List.mem_singleton.1 hk
    exact wpOp_step ho' (fun K' hK => h' K' (fun a w hS hW => hK a w ⟨.inr hS, hW hS⟩))
/-- the same, of an operation behind which S need not hold -/
theorem wpK.late {i : Nat} {oi : Oper} {n : Nat} {l : Array Bool} {a : Act} {w : World} (hr : Region.ready md ops l = [i]) (ho : ops[i]? = some oi) (hin : ex.contains i = true)
    (h : ∀ K' : Act → World → Prop, Shut (∀ a w, wpK P md ops Q ex S n (l.setIfInBounds i true) a w → K' a w) → if Region.wanted oi (yielded ops a.tmps) = true then Oper.wp P oi a w K' Q else K' (a.put oi.dst undef) w) :
    wpK P md ops Q ex S (n + 1) l a w := by
  refine ⟨fun h0 => (by rw [hr] at h0; cases h0), fun j hj => ?_⟩
  rw [hr] at hj
  obtain rfl := List.mem_singleton.1 hj
  exact wpOp_step ho (fun K' hK => h K' (fun a w hW => hK a w ⟨.inl (by simpa using hin), hW⟩))
theorem wpK.done {l : Array Bool} {a : Act} {w : World} (hr : Region.ready md ops l = []) (h : Q .normal a w) : ∀ n, wpK P md ops Q ex S n l a w
  | 0 => ⟨hr, h⟩
  | _ + 1 => ⟨fun _ => h, by rw [hr]; simp⟩
theorem wp_region_kept (ex : List Nat) (S : World → Prop) {id : Nat} {a : Act} {w : World} (hm : P.follows .mixedOrders = true) (hS : S w.drew)
    (h : S w.drew → wpK P .any ops Q ex S ops.size (Array.replicate ops.size false) a w.drew) : (Code.region id ops true).wp P Q a w :=
  wp_region_any hm (wpK.any _ _ _ _ (h hS))
end
end Go.Proofs.Ytajfjgekcjkedaa
end
section
/- Contracts of the package bytes: Equal, Clone. -/
namespace Go.Proofs.Ytajfjgekcjkedaa
open Go.RowKit
open Go.Lib (hid)
set_option linter.unusedVariables false

theorem Rd.nil_of_none {w : World} {xs : List Value} (h : Rd w none xs) : xs = [] := by
  cases xs with
  | nil => rfl
  | cons y ys => obtain ⟨b, off, had, _⟩ := h 0 (by simp); cases had

theorem bv_oneCell (l : List UInt8) : ∀ u ∈ bv l, u.oneCell' = true := by
  intro u hu
  obtain ⟨_, _, rfl⟩ := List.mem_map.1 hu
  rfl

/-- what is owned reads as bytes -/
theorem ownsRow.slb {w : World} {base : Nat} {v : Value} {l : List UInt8} (h : w.ownsRow base 5 1 v l.length (bv l)) (hm : l.length ≤ 9223372036854775807) : SlB w v l := by
  obtain ⟨a, cap, rfl, h1, h2, hr, h3⟩ := ownsRow.rd h
  exact ⟨a, cap, rfl, hm, hr, h1, by unfold maxLen at h2; omega, h3⟩
theorem SlB.below {w w' : World} {v : Value} {l : List UInt8} (h : SlB w v l) (hb : Below w.heap.size w w') : SlB w' v l := by
  obtain ⟨a, c, rfl, h1, h2, h3⟩ := h
  exact ⟨a, c, rfl, h1, h2.below' hb, h3⟩

theorem Below.next {w w1 w2 : World} (h : Below w.heap.size w w1) (k : Below w1.heap.size w1 w2) : Below w.heap.size w w2 := h.trans (k.mono h.size)
theorem Below.new (w : World) (o : Obj) : Below w.heap.size w (w.alloc o) := (Below.refl _ _).alloc (Nat.le_refl _) o
theorem Below.grownBy {w w' : World} (hb : Below w.heap.size w w') : w.grownBy w' none := ⟨hb.os, hb.tape, hb.output, hb.size, fun k hk _ => hb.block k hk⟩
theorem ownsRow_below {w w' : World} {base : Nat} {e : TypeId} {v : Value} {n : Nat} {xs : List Value} {size : Nat} (h : w.ownsRow base e size v n xs) (hb : Below w.heap.size w w') : w'.ownsRow base e size v n xs :=
  h.kept (Below.grownBy hb) (by cases v.ownBlock <;> simp)
theorem cell_block0 (w : World) (u : Value) (e : TypeId) : (w.alloc (.cells #[u] e)).cell? ⟨w.heap.size, 0, none⟩ = some u := by
  rw [World.cell?_alloc_new]; rfl
theorem cell_block1 (w : World) (o : Obj) (u : Value) (e : TypeId) : ((w.alloc o).alloc (.cells #[u] e)).cell? ⟨w.heap.size + 1, 0, none⟩ = some u := by
  rw [← World.size_alloc w o]; exact cell_block0 _ _ _
theorem Below.drawn (w : World) (n : Nat) : Below w.heap.size w (w.drewN n) := below_drewN (Below.refl _ _) n

theorem str_append (l m : List UInt8) : ((⟨l.toArray⟩ : ByteArray) ++ (⟨m.toArray⟩ : ByteArray)) = ⟨(l ++ m).toArray⟩ := by
  apply ByteArray.ext
  simp

/-- a slice of bytes that the call has just laid -/
theorem slb_lit (w : World) (cs : Array Value) (fr : Nat × Nat) (l : List UInt8) (h : cs.toList = bv l) (hl : l.length ≤ 1000) (n : Nat) (hn : n = l.length) : SlB (w.alloc (.cells cs 5 fr)) (.slice (some ⟨w.heap.size, 0, none⟩) n n) l := by
  subst hn
  refine ⟨_, _, rfl, by omega, fun i hi => ⟨w.heap.size, 0, rfl, ?_⟩, Nat.le_refl _, by omega, nofun⟩
  rw [Nat.zero_add, ← h, Array.getElem?_toList]
  have : (w.alloc (.cells cs 5 fr)).heap[w.heap.size]? = some (.cells cs 5 fr) := by show (w.heap.push _)[w.heap.size]? = _; simp
  unfold World.cell?
  rw [this]
  simp
end Go.Proofs.Ytajfjgekcjkedaa
end
