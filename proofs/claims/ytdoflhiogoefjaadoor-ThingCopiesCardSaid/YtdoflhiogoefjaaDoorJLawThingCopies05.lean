/- Joined texts, in this order: ThingMath, Mem2, Ints, Bytes, Iv. Each one's first remark says what it proves; no condition beyond those that its theorems name. -/
import Derived.Test.YtdoflhiogoefjaaDoorJLawThingCopies03
import Derived.Test.YtdoflhiogoefjaaDoorJLawThingCopies04
import Derived.Test.YtdoflhiogoefjaaDoorJLawThingCopies01
import Derived.Test.YtdoflhiogoefjaaDoorProg
import Derived.Lib.SlBytesConst
import Derived.Deep.QuietTactic
import Derived.BigQuiet
import Derived.Deep.RegionHeld3
section
/- Plain: things as a list that rises by numbers, and what the document's calls do to it. -/
namespace Go.Proofs.YtdoflhiogoefjaaDoor
open Go.RowKit
open Go.Lib (hid)
set_option linter.unusedVariables false

abbrev P3 := MP.P3
structure Th where
  id : Int
  nm : List UInt8
  ow : Int
  pl : P3
structure ThX where
  L : List Th
  nx : Int
def kI (x : Th) : Int := x.id
def kN (x : Int) : Int := x
def strV (l : List UInt8) : Value := .string ⟨l.toArray⟩
def thV (x : Th) : Value := .agg #[.int .i64 x.id, strV x.nm, .int .i64 x.ow, .int .i64 x.pl.1, .int .i64 x.pl.2.1, .int .i64 x.pl.2.2]
def fdT (L : List Th) (n : Int) : Option Th := L.find? (fun x => x.id == n)
def inT (L : List Th) (p : P3) : List Int := (L.filter (fun x => decide (x.pl = p))).map (·.id)
def rightP (p : P3) : Bool := decide (1 ≤ p.1) && decide (p.1 ≤ 4) && decide (1 ≤ p.2.1) && (if p.1 = 2 then decide (1 ≤ p.2.2) && decide (p.2.2 ≤ 4) else decide (p.2.2 = 0))
def delT (L : List Th) (n : Int) : List Th := L.filter (fun x => !decide (x.id = n))
def setT21 (L : List Th) (n : Int) (p : P3) (o : Int) : List Th := L.map (fun x => if x.id = n then ⟨x.id, x.nm, o, p⟩ else x)
def makeE (L : List Th) (nm : List UInt8) (o : Int) : Int := if nameB nm = false then 16 else if o < 1 then 10 else if 4096 ≤ L.length then 12 else 0
def makeX (X : ThX) (nm : List UInt8) (o : Int) : ThX := if makeE X.L nm o = 0 then ⟨X.L ++ [⟨X.nx, nm, o, (1, o, 0)⟩], X.nx + 1⟩ else X
def makeI (X : ThX) (nm : List UInt8) (o : Int) : Int := if makeE X.L nm o = 0 then X.nx else 0
def moveE (L : List Th) (n : Int) (p : P3) (o : Int) : Int := if (fdT L n).isSome then (if rightP p = false ∨ o < 1 then 10 else 0) else 14
def moveX (X : ThX) (n : Int) (p : P3) (o : Int) : ThX := if moveE X.L n p o = 0 then ⟨setT21 X.L n p o, X.nx⟩ else X
def destE (L : List Th) (n : Int) : Int := if (fdT L n).isSome then 0 else 14
def destX (X : ThX) (n : Int) : ThX := if destE X.L n = 0 then ⟨delT X.L n, X.nx⟩ else X
structure TInv (X : ThX) : Prop where
  s : SortK kI X.L
  n : 1 ≤ X.nx
  one : ∀ x ∈ X.L, (1 ≤ x.id ∧ x.id < X.nx) ∧ nameB x.nm = true ∧ (1 ≤ x.ow ∧ x.ow ≤ 9223372036854775807) ∧ rightP x.pl = true
theorem fdT_some {L : List Th} (hs : SortK kI L) {x : Th} {n : Int} : fdT L n = some x ↔ x ∈ L ∧ x.id = n := by
  unfold fdT
  constructor
  · intro h
    exact ⟨List.mem_of_find?_eq_some h, by have := List.find?_some h; simpa using this⟩
  · rintro ⟨h, rfl⟩
    cases e : L.find? (fun y => y.id == x.id) with
    | none => have := List.find?_eq_none.1 e x h; simp at this
    | some y =>
      have h1 := List.mem_of_find?_eq_some e
      have h2 := List.find?_some e
      rw [sortK_inj kI hs h1 h (by simpa [kI] using h2)]
theorem fdT_none {L : List Th} {n : Int} : fdT L n = none ↔ ∀ x ∈ L, x.id ≠ n := by
  unfold fdT
  rw [List.find?_eq_none]
  simp
theorem inT_mem {L : List Th} {p : P3} {n : Int} : n ∈ inT L p ↔ ∃ x ∈ L, x.pl = p ∧ x.id = n := by
  unfold inT
  simp only [List.mem_map, List.mem_filter, decide_eq_true_eq]
  constructor
  · rintro ⟨x, ⟨h1, h2⟩, h3⟩; exact ⟨x, h1, h2, h3⟩
  · rintro ⟨x, h1, h2, h3⟩; exact ⟨x, ⟨h1, h2⟩, h3⟩
theorem inT_sorted {L : List Th} (hs : SortK kI L) (p : P3) : SortK kN (inT L p) := by
  unfold inT SortK
  rw [List.pairwise_map]
  exact List.Pairwise.filter _ hs
theorem inT_len (L : List Th) (p : P3) : (inT L p).length ≤ L.length := by
  unfold inT; rw [List.length_map]; exact List.length_filter_le _ _
theorem inT_ins {L : List Th} (hs : SortK kI L) (x : Th) (p : P3) : inT (insK kI L x) p = if p = x.pl then insK kN (inT L p) x.id else inT L p := by
  unfold inT
  rw [filter_insK kI _ hs]
  by_cases h : p = x.pl
  · rw [if_pos h, if_pos (by simp [h])]
    rw [map_insK kI (fun x => x.id) kN (fun _ => rfl)]
  · rw [if_neg h, if_neg (by simp; exact fun q => h q.symm)]
theorem inT_del {L : List Th} (n : Int) (p : P3) : inT (delT L n) p = (inT L p).filter (fun y => !decide (y = n)) := by
  unfold inT delT
  rw [List.filter_filter, List.filter_map, List.filter_filter]
  congr 1
  apply List.filter_congr
  intro x _
  simp [Function.comp, Bool.and_comm]
theorem inT_del_other {L : List Th} (hs : SortK kI L) {x : Th} (hx : x ∈ L) {p : P3} (hp : p ≠ x.pl) : inT (delT L x.id) p = inT L p := by
  rw [inT_del]
  apply List.filter_eq_self.2
  intro y hy
  obtain ⟨z, h1, h2, h3⟩ := inT_mem.1 hy
  have : y ≠ x.id := fun q => by
    have := sortK_inj kI hs h1 hx (by show z.id = x.id; rw [h3, q])
    subst this
    exact hp h2.symm
  simpa using this
theorem delT_sorted {L : List Th} (hs : SortK kI L) (n : Int) : SortK kI (delT L n) := List.Pairwise.filter _ hs
theorem mem_delT {L : List Th} {n : Int} {x : Th} : x ∈ delT L n ↔ x ∈ L ∧ x.id ≠ n := by
  unfold delT; simp
theorem countP_posK {l : List Int} (hs : SortK kN l) (t : Int) : l.countP (fun y => decide (y < t)) = posK kN l t := by
  induction l with
  | nil => rfl
  | cons q l ih =>
    have h2 := List.pairwise_cons.1 hs
    rw [List.countP_cons, ih h2.2]
    show _ = (if kN q < t then posK kN l t + 1 else 0)
    by_cases h : q < t
    · simp [h, kN]
    · have h0 : l.countP (fun y => decide (y < t)) = 0 := by
        rw [List.countP_eq_zero]
        intro y hy
        have h3 := h2.1 y hy
        simp only [kN] at h3
        simp; omega
      rw [← ih h2.2, h0]
      simp [h, kN]
theorem sortK_ext {α : Type} (key : α → Int) : ∀ {l m : List α}, SortK key l → SortK key m → (∀ x, x ∈ l ↔ x ∈ m) → l = m
  | [], [], _, _, _ => rfl
  | [], y :: m, _, _, h => by have := (h y).2 (by simp); simp at this
  | x :: l, [], _, _, h => by have := (h x).1 (by simp); simp at this
  | x :: l, y :: m, hl, hm, h => by
    have h1 := List.pairwise_cons.1 hl
    have h2 := List.pairwise_cons.1 hm
    have hxy : x = y := by
      rcases List.mem_cons.1 ((h x).1 (by simp)) with e | e
      · exact e
      · rcases List.mem_cons.1 ((h y).2 (by simp)) with e2 | e2
        · exact e2.symm
        · have a := h2.1 x e
          have b := h1.1 y e2
          omega
    subst hxy
    rw [sortK_ext key h1.2 h2.2 (fun z => ?_)]
    constructor
    · intro hz
      rcases List.mem_cons.1 ((h z).1 (by simp [hz])) with e | e
      · subst e; have := h1.1 z hz; omega
      · exact e
    · intro hz
      rcases List.mem_cons.1 ((h z).2 (by simp [hz])) with e | e
      · subst e; have := h2.1 z hz; omega
      · exact e
theorem setT21_sorted {L : List Th} (hs : SortK kI L) (n : Int) (p : P3) (o : Int) : SortK kI (setT21 L n p o) := by
  unfold setT21 SortK
  rw [List.pairwise_map]
  refine List.Pairwise.imp ?_ hs
  intro a b h
  have e : ∀ x : Th, kI (if x.id = n then (⟨x.id, x.nm, o, p⟩ : Th) else x) = kI x := fun x => by split <;> rfl
  rw [e, e]; exact h
/-- taken, and put anew: set -/
theorem ins_delT {L : List Th} (hs : SortK kI L) {x : Th} (hx : x ∈ L) (p : P3) (o : Int) : insK kI (delT L x.id) ⟨x.id, x.nm, o, p⟩ = setT21 L x.id p o := by
  refine sortK_ext kI (insK_sorted kI (delT_sorted hs _) (fun y hy => (mem_delT.1 hy).2)) (setT21_sorted hs _ _ _) (fun z => ?_)
  rw [mem_insK, mem_delT]
  unfold setT21
  rw [List.mem_map]
  constructor
  · rintro (rfl | ⟨h1, h2⟩)
    · exact ⟨x, hx, by rw [if_pos rfl]⟩
    · exact ⟨z, h1, by rw [if_neg h2]⟩
  · rintro ⟨y, hy, rfl⟩
    by_cases h : y.id = x.id
    · have := sortK_inj kI hs hy hx h
      subst this
      left; rw [if_pos rfl]
    · right; rw [if_neg h]; exact ⟨hy, h⟩
theorem ins_end {L : List Th} {x : Th} (h : ∀ y ∈ L, y.id < x.id) : insK kI L x = L ++ [x] := by
  induction L with
  | nil => rfl
  | cons q l ih =>
    rw [insK_cons, if_pos (show kI q < kI x from h q (by simp)), ih (fun y hy => h y (by simp [hy]))]; rfl
theorem fdT_ins {L : List Th} (hs : SortK kI L) {x : Th} (hx : ∀ y ∈ L, y.id ≠ x.id) (n : Int) : fdT (insK kI L x) n = if n = x.id then some x else fdT L n := by
  have hs2 := insK_sorted kI hs hx
  by_cases h : n = x.id
  · rw [if_pos h]
    exact (fdT_some hs2).2 ⟨(mem_insK kI).2 (.inl rfl), h.symm⟩
  · rw [if_neg h]
    cases e : fdT L n with
    | none =>
      rw [fdT_none] at e ⊢
      intro y hy
      rcases (mem_insK kI).1 hy with rfl | hy
      · exact fun q => h q.symm
      · exact e y hy
    | some y =>
      obtain ⟨h1, h2⟩ := (fdT_some hs).1 e
      exact (fdT_some hs2).2 ⟨(mem_insK kI).2 (.inr h1), h2⟩
theorem fdT_del {L : List Th} (hs : SortK kI L) (n k : Int) : fdT (delT L n) k = if k = n then none else fdT L k := by
  by_cases h : k = n
  · rw [if_pos h, fdT_none]
    intro y hy; rw [h]; exact (mem_delT.1 hy).2
  · rw [if_neg h]
    cases e : fdT L k with
    | none =>
      rw [fdT_none] at e ⊢
      intro y hy; exact e y (mem_delT.1 hy).1
    | some y =>
      obtain ⟨h1, h2⟩ := (fdT_some hs).1 e
      exact (fdT_some (delT_sorted hs n)).2 ⟨mem_delT.2 ⟨h1, by rw [h2]; exact h⟩, h2⟩
theorem TInv.new : TInv ⟨[], 1⟩ := ⟨List.Pairwise.nil, by show (1 : Int) ≤ 1; omega, by simp⟩
theorem TInv.make {X : ThX} (h : TInv X) {nm : List UInt8} {o : Int} (ho : 1 ≤ o ∧ o ≤ 9223372036854775807) (hn : nameB nm = true) : TInv ⟨X.L ++ [⟨X.nx, nm, o, (1, o, 0)⟩], X.nx + 1⟩ := by
  have e := ins_end (L := X.L) (x := ⟨X.nx, nm, o, (1, o, 0)⟩) (fun y hy => (h.one y hy).1.2)
  refine ⟨?_, by have := h.n; show 1 ≤ X.nx + 1; omega, ?_⟩
  · show SortK kI (X.L ++ [_])
    rw [← e]
    exact insK_sorted kI h.s (fun y hy => by have := (h.one y hy).1.2; simp only [kI]; omega)
  · intro x hx
    rcases List.mem_append.1 hx with hx | hx
    · have := h.one x hx; exact ⟨⟨this.1.1, by have := this.1.2; show x.id < X.nx + 1; omega⟩, this.2⟩
    · simp only [List.mem_singleton] at hx
      subst hx
      exact ⟨⟨h.n, by show X.nx < X.nx + 1; omega⟩, hn, ho, by simp [rightP, ho.1]⟩
theorem TInv.del {X : ThX} (h : TInv X) (n : Int) : TInv ⟨delT X.L n, X.nx⟩ := ⟨delT_sorted h.s n, h.n, fun x hx => h.one x (mem_delT.1 hx).1⟩
theorem TInv.set {X : ThX} (h : TInv X) (n : Int) {p : P3} {o : Int} (ho : 1 ≤ o ∧ o ≤ 9223372036854775807) (hp : rightP p = true) : TInv ⟨setT21 X.L n p o, X.nx⟩ := by
  refine ⟨setT21_sorted h.s _ _ _, h.n, fun x hx => ?_⟩
  obtain ⟨y, hy, rfl⟩ := List.mem_map.1 hx
  have := h.one y hy
  split
  · exact ⟨this.1, this.2.1, ho, hp⟩
  · exact this
theorem setT21_len (L : List Th) (n : Int) (p : P3) (o : Int) : (setT21 L n p o).length = L.length := List.length_map _
end Go.Proofs.YtdoflhiogoefjaaDoor
end
section
/- append of one element, as an equation on the run; a store into an own row. No program in sight. -/
namespace Go.Proofs.YtdoflhiogoefjaaDoor
open Go.RowKit
open Go.Lib (hid)
set_option linter.unusedVariables false

theorem run_app1 {P : Program} {t e : TypeId} {z : Value} {size bytes : Nat} (T : SlT P t e z size bytes) (w : World) (ty : TypeId) (base : Nat) (v : Value) (n : Nat) (xs : List Value) (hown : w.ownsRow base e size v n xs)
    (us : Array Value) (hl : us.size = size) (h1 : ∀ u ∈ us.toList, u.oneCell' = true) (hbytes : (n + 1) * bytes ≤ 140737488355328) (hbase : base ≤ w.heap.size) :
    ∃ v' w', (Builtin.append_ #[t, t] ty #[v, .slice (some ⟨w.heap.size, 0, none⟩) 1 1]).run P (w.alloc (.cells us e)) = .ok v' w' ∧ w'.ownsRow base e size v' (n + 1) (xs ++ us.toList) ∧ w.grownBy w' v.ownBlock ∧ v' ≠ .slice none 0 0 ∧
      (∀ k, v'.ownBlock = some k → v.ownBlock = some k ∨ w.heap.size ≤ k) := by
  obtain ⟨i, hi, hz, hsz, hby⟩ := T.info
  have h63 : n + 1 ≤ maxLen := by
    have : (n + 1) * 1 ≤ (n + 1) * bytes := Nat.mul_le_mul_left _ T.bpos
    unfold maxLen; omega
  have hnews : ∀ j u, us.toList[j]? = some u → (w.alloc (.cells us e)).cell? ((⟨w.heap.size, 0, none⟩ : Addr).add j) = some u := by
    intro j u hu
    rw [Addr.add_lit, Nat.zero_add, World.cell?_alloc_new]
    simpa using hu
  obtain ⟨v', w', hr, h2, h3, h4⟩ := run_append_own (P := P) (w.alloc (.cells us e)) base t ty e i z size bytes T.u hi hz hsz hby T.zs T.pos v n xs (hown.alloc _) ⟨w.heap.size, 0, none⟩ 1 1 us.toList (by simpa using hl) hnews h1 h63 hbytes (by simp; omega)
  have hwh := run_append_where (P := P) (w.alloc (.cells us e)) T (hown.alloc _) (by simpa using hl) hnews h1 hbytes hr
  exact ⟨v', w', hr, h2, ⟨h3.os, h3.tape, h3.output, by have := h3.size; simp at this; omega, fun k hk hne => (h3.block k (by simp; omega) hne).trans (Below.heap_alloc w _ k hk)⟩, fun e => by simp [h4] at e,
    fun k hk => by rcases hwh k hk with x | x; exact .inl x; exact .inr (by simp at x; omega)⟩
theorem step_app1 {P : Program} {t e : TypeId} {z : Value} {size bytes : Nat} (T : SlT P t e z size bytes) {W : World} (w : World) {us : Array Value} (hW : W = w.alloc (.cells us e)) {ops : Array Oper} {o : Oper} {a : Act} {K : Act → World → Prop} {Q : Exit → Act → World → Prop} {E : Prop}
    (hgd : o.guard = none) (s x : Operand) (ho : o.op = .call { callee := .builtin .append, args := #[s, x], argTypes := #[t, t] })
    (base : Nat) (v : Value) (n : Nat) (xs : List Value) (hs : a.eval s = v) (hown : w.ownsRow base e size v n xs)
    (hx : a.eval x = .slice (some ⟨w.heap.size, 0, none⟩) 1 1) (hl : us.size = size) (h1 : ∀ u ∈ us.toList, u.oneCell' = true)
    (hbytes : (n + 1) * bytes ≤ 140737488355328) (hbase : base ≤ w.heap.size)
    (h : ∀ v' w', w'.ownsRow base e size v' (n + 1) (xs ++ us.toList) → w.grownBy w' v.ownBlock → v' ≠ .slice none 0 0 → (∀ k, v'.ownBlock = some k → v.ownBlock = some k ∨ w.heap.size ≤ k) → K (a.put o.dst v') w') :
    if Region.wanted o (yielded ops a.tmps) = true then Oper.wp P o a W K Q else E := by
  have hw : Region.wanted o (yielded ops a.tmps) = true := by simp [Region.wanted, hgd]
  rw [if_pos hw]
  subst hW
  obtain ⟨v', w', hr, h2, h3, h4, h5⟩ := run_app1 (P := P) T w o.type base v n xs hown us hl h1 hbytes hbase
  unfold Oper.wp execOp
  simp only [ho, resolve, invoke, builtin, Sem.run_bind, Sem.run_pure, Result.andThen_ok, List.map_toArray, List.map_cons, List.map_nil, hs, hx, hr]
  exact h v' w' h2 h3 h4 h5
/-- []T{..}: a row of the call's own -/
theorem step_lit {P : Program} {W : World} {us : Array Value} {t e : TypeId} {n size : Nat} {parts : Array (Nat × Operand)} {ps : Array (Nat × Value)} {ops : Array Oper} {o : Oper} {a : Act} {K : Act → World → Prop} {Q : Exit → Act → World → Prop} {E : Prop}
    (hgd : o.guard = none) (hop : o.op = .buildSlice t n parts) (hps : (parts.map fun p => (p.1, a.eval p.2)) = ps) (hrun : (Instr.buildSlice t n ps).run P W = .ok (.slice (some ⟨W.heap.size, 0, none⟩) n n) (W.alloc (.cells us e))) (hl : us.size = n * size) (hn : n ≤ 1000)
    (h : ∀ g W', W.heap.size = g → Below W.heap.size W W' → W'.heap.size = g + 1 → W'.ownsRow g e size (.slice (some ⟨g, 0, none⟩) n n) n us.toList → K (a.put o.dst (.slice (some ⟨g, 0, none⟩) n n)) W') :
    if Region.wanted o (yielded ops a.tmps) = true then Oper.wp P o a W K Q else E := by
  have hw : Region.wanted o (yielded ops a.tmps) = true := by simp [Region.wanted, hgd]
  rw [if_pos hw]
  unfold Oper.wp execOp
  simp only [hop]
  have e1 : (parts.map fun (i, x) => (i, a.eval x)) = parts.map fun p => (p.1, a.eval p.2) := rfl
  rw [e1, hps]
  simp [hrun, Result.andThen, Oper.upon]
  exact h _ _ rfl ((Below.refl _ _).alloc (Nat.le_refl _) _) (by simp) ⟨by simpa using hl, .inr ⟨W.heap.size, n, us, rfl, Nat.le_refl _, heap_alloc_new W _, Nat.le_refl _, by unfold maxLen; omega, hl, by rw [List.take_of_length_le (by simp [hl])]⟩⟩
theorem step_appN {P : Program} {t e : TypeId} {z : Value} {size bytes : Nat} (T : SlT P t e z size bytes) {w : World} {ops : Array Oper} {o : Oper} {a : Act} {K : Act → World → Prop} {Q : Exit → Act → World → Prop} {E : Prop}
    (hgd : o.guard = none) (s x : Operand) (ho : o.op = .call { callee := .builtin .append, args := #[s, x], argTypes := #[t, t] })
    (base : Nat) (v : Value) (n : Nat) (xs : List Value) (hs : a.eval s = v) (hown : w.ownsRow base e size v n xs)
    (ao : Option Addr) (m c : Nat) (news : List Value) (hx : a.eval x = .slice ao m c) (hl : news.length = m * size) (hc0 : m = 0 → ao = none → c = 0) (hrd : Rd w ao news) (h1 : ∀ u ∈ news, u.oneCell' = true)
    (hbytes : (n + m) * bytes ≤ 140737488355328) (hbase : base ≤ w.heap.size)
    (h : ∀ v' w', w'.ownsRow base e size v' (n + m) (xs ++ news) → w.grownBy w' v.ownBlock → (v' = .slice none 0 0 ↔ v = .slice none 0 0 ∧ m = 0) → (∀ k, v'.ownBlock = some k → v.ownBlock = some k ∨ w.heap.size ≤ k) → K (a.put o.dst v') w') :
    if Region.wanted o (yielded ops a.tmps) = true then Oper.wp P o a w K Q else E := by
  have hw : Region.wanted o (yielded ops a.tmps) = true := by simp [Region.wanted, hgd]
  rw [if_pos hw]
  obtain ⟨i, hi, hz, hsz, hby⟩ := T.info
  have h63 : n + m ≤ maxLen := by
    have : (n + m) * 1 ≤ (n + m) * bytes := Nat.mul_le_mul_left _ T.bpos
    unfold maxLen; omega
  cases ao with
  | some ad =>
    have hnews : ∀ j u, news[j]? = some u → w.cell? (ad.add j) = some u := by
      intro j u hu
      obtain ⟨b, off, had, hc⟩ := hrd j (by have := (List.getElem?_eq_some_iff.1 hu).1; exact this)
      obtain rfl := Option.some.inj had
      rw [Addr.add_lit, hc, hu]
    obtain ⟨v', w', hr, h2, h3, h4⟩ := run_append_own (P := P) w base t o.type e i z size bytes T.u hi hz hsz hby T.zs T.pos v n xs hown ad m c news hl hnews h1 h63 hbytes hbase
    have hwh := run_append_where (P := P) w T hown hl hnews h1 hbytes hr
    unfold Oper.wp execOp
    simp only [ho, resolve, invoke, builtin, Sem.run_bind, Sem.run_pure, Result.andThen_ok, List.map_toArray, List.map_cons, List.map_nil, hs, hx, hr]
    exact h v' w' h2 h3 h4 hwh
  | none =>
    have hn : news = [] := by
      cases news with
      | nil => rfl
      | cons y ys => obtain ⟨b, off, had, _⟩ := hrd 0 (by simp); cases had
    subst hn
    have hm0 : m = 0 := by
      have := T.pos
      simp only [List.length_nil] at hl
      rcases Nat.eq_zero_or_pos m with h | h
      · exact h
      · have := Nat.mul_pos h T.pos; omega
    subst hm0
    obtain rfl := hc0 rfl rfl
    have hrun := run_append_owned_none (P := P) w base t o.type e i size T.u hi v n xs hown
    unfold Oper.wp
    simp [execOp, ho, resolve, invoke, builtin, hs, hx, hrun, Result.andThen, Oper.upon]
    exact h v w (by simpa using hown) (World.grownBy.refl _ _) (by simp) (fun k hk => .inl hk)
theorem step_make {P : Program} {t e : TypeId} {z : Value} {bytes : Nat} (T : SlT P t e z 1 bytes) (hzc : z.cells = #[z]) {w : World} {ops : Array Oper} {o : Oper} {a : Act} {K : Act → World → Prop} {Q : Exit → Act → World → Prop} {E : Prop}
    (hg : o.guard = none) (l c : Operand) (hop : o.op = Op.makeSlice t l c) (base : Nat) (kl kc : IntKind) (L C : Int) (n m : Nat) (hl : a.eval l = .int kl L) (hc : a.eval c = .int kc C) (hL : L = (n : Int)) (hC : C = (m : Int)) (hnm : n ≤ m)
    (b2 : bytes * m ≤ 281474976710656) (b4 : base ≤ w.heap.size)
    (hK : ∀ g w', w.heap.size = g → w'.ownsRow base e 1 (.slice (some ⟨g, 0, none⟩) n m) n (List.replicate n z) → Below w.heap.size w w' → w'.heap.size = g + 1 → K (a.put o.dst (.slice (some ⟨g, 0, none⟩) n m)) w') :
    if Region.wanted o (yielded ops a.tmps) = true then Oper.wp P o a w K Q else E := by
  have hw : Region.wanted o (yielded ops a.tmps) = true := by simp [Region.wanted, hg]
  rw [if_pos hw]
  obtain ⟨i, hi, hz, hsz, hby⟩ := T.info
  have hm : m ≤ maxLen := by
    have : 1 * m ≤ bytes * m := Nat.mul_le_mul_right _ T.bpos
    unfold maxLen; omega
  have hb' : (i.bytes : Int) * (m : Int) ≤ 281474976710656 := by
    have h : ((i.bytes * m : Nat) : Int) ≤ 281474976710656 := by rw [hby]; omega
    rwa [Int.natCast_mul] at h
  have hr := run_make (P := P) w t e i z T.u hi hz kl kc n m (by omega) (by omega) hb' (by unfold maxLen at hm; omega)
  simp only [Int.toNat_natCast] at hr
  subst hL
  subst hC
  unfold Oper.wp
  simp [execOp, hop, hl, hc, hr, Result.andThen, Oper.upon]
  refine hK _ _ rfl ?_ ((Below.refl _ _).alloc (Nat.le_refl _) _) (by simp)
  rw [hsz, Nat.mul_one]
  refine ⟨by simp, .inr ⟨w.heap.size, m, _, rfl, b4, heap_alloc_new w _, hnm, hm, by simp [size_madeCells], ?_⟩⟩
  rw [hzc, toList_madeCells_one]
  simp [hnm]
theorem owns_below {w w' : World} {base : Nat} {e : TypeId} {v : Value} {n : Nat} {xs : List Value} {size : Nat} (h : w.ownsRow base e size v n xs) (hb : Below w.heap.size w w') : w'.ownsRow base e size v n xs :=
  Upd.owns (S := fun _ => False) (Upd.of_below hb) h (fun _ _ x => x)
theorem Upd.new {S : Nat → Prop} {w w' : World} (h : Upd S w w') (o : Obj) : Upd S w (w'.alloc o) := h.trans (Upd.of_below (S := fun _ => False) ((Below.refl _ _).alloc (Nat.le_refl _) o)) (fun _ _ x => x.elim)
theorem Upd.drew {S : Nat → Prop} {w w' : World} (h : Upd S w w') : Upd S w w'.drew := ⟨h.os, h.tape, h.output, h.size, h.block⟩
theorem Upd.drewN {S : Nat → Prop} {w w' : World} (h : Upd S w w') (n : Nat) : Upd S w (w'.drewN n) := ⟨h.os, h.tape, h.output, h.size, h.block⟩
end Go.Proofs.YtdoflhiogoefjaaDoor
end
section
/- Contracts: slices of numbers: Index, Contains. -/
namespace Go.Proofs.YtdoflhiogoefjaaDoor
open Go.RowKit
open Go.Lib (hid)
set_option linter.unusedVariables false

/-- the slice reads as the list of numbers -/
def SlI (w : World) (v : Value) (l : List Int) : Prop := ∃ a c, v = .slice a l.length c ∧ Rd w a (l.map (.int .i64)) ∧ l.length ≤ c ∧ c ≤ 9223372036854775807 ∧ (a = none → c = 0)
theorem SlI.nil (w : World) : SlI w (.slice none 0 0) [] := ⟨none, 0, rfl, Rd.nil _ _, by simp, by omega, fun _ => rfl⟩
theorem SlI.below {w w' : World} {v : Value} {l : List Int} (h : SlI w v l) (hb : Below w.heap.size w w') : SlI w' v l := by
  obtain ⟨a, c, rfl, h2, h3⟩ := h
  exact ⟨a, c, rfl, h2.below' hb, h3⟩
theorem SlI.upd {S : Nat → Prop} {w w' : World} {v : Value} {l : List Int} (h : SlI w v l) (hu : Upd S w w') (hn : ∀ k, v.ownBlock = some k → ¬ S k) : SlI w' v l := by
  obtain ⟨a, c, rfl, h2, h3⟩ := h
  exact ⟨a, c, rfl, hu.rd h2 (fun b off e => hn _ (by rw [e]; rfl)), h3⟩
theorem SlI.of_own {w : World} {base : Nat} {e : TypeId} {v : Value} {l : List Int} (h : w.ownsRow base e 1 v l.length (l.map (.int .i64))) : SlI w v l := by
  obtain ⟨a, cap, rfl, h1, h2, hr, h3⟩ := ownsRow.rd h
  exact ⟨a, cap, rfl, hr, h1, by unfold maxLen at h2; omega, h3⟩
/-- an incoming slice of numbers -/
theorem sli_of_row {w : World} {a : Option Addr} {len cap : Nat} {zs : List Int}
    (h : (a = none ∧ len = 0 ∧ cap = 0 ∧ zs = []) ∨
      ∃ x, a = some x ∧ len ≤ cap ∧ cap ≤ maxLen ∧ zs.length = cap ∧ (∀ i, i < zs.length → w.cell? (x.add i) = some (.int .i64 (zs.getD i 0))) ∧ ∀ n ∈ zs, (Lit.int .i64 n).wf = true) :
    ∃ l : List Int, len = l.length ∧ SlI w (.slice a len cap) l ∧ ∀ n ∈ l, (Lit.int .i64 n).wf = true := by
  obtain ⟨ys, rfl, h1, h2, h3, h4, h5, h6⟩ := Rd.of_row h
  exact ⟨ys, rfl, ⟨a, cap, rfl, h2, h4, h5, h6⟩, h3⟩

end Go.Proofs.YtdoflhiogoefjaaDoor
end
section
/- Contracts of the package bytes: Equal, Clone. -/
namespace Go.Proofs.YtdoflhiogoefjaaDoor
open Go.RowKit
open Go.Lib (hid)
set_option linter.unusedVariables false

theorem Rd.nil_of_none {w : World} {xs : List Value} (h : Rd w none xs) : xs = [] := by
  cases xs with
  | nil => rfl
  | cons y ys => obtain ⟨b, off, had, _⟩ := h 0 (by simp); cases had

theorem bv_oneCell (l : List UInt8) : ∀ u ∈ bv l, u.oneCell' = true := by
  intro u hu
  obtain ⟨_, _, rfl⟩ := List.mem_map.1 hu
  rfl

/-- what is owned reads as bytes -/
theorem ownsRow.slb {w : World} {base : Nat} {v : Value} {l : List UInt8} (h : w.ownsRow base 5 1 v l.length (bv l)) (hm : l.length ≤ 9223372036854775807) : SlB w v l := by
  obtain ⟨a, cap, rfl, h1, h2, hr, h3⟩ := ownsRow.rd h
  exact ⟨a, cap, rfl, hm, hr, h1, by unfold maxLen at h2; omega, h3⟩
theorem SlB.below {w w' : World} {v : Value} {l : List UInt8} (h : SlB w v l) (hb : Below w.heap.size w w') : SlB w' v l := by
  obtain ⟨a, c, rfl, h1, h2, h3⟩ := h
  exact ⟨a, c, rfl, h1, h2.below' hb, h3⟩

theorem Below.next {w w1 w2 : World} (h : Below w.heap.size w w1) (k : Below w1.heap.size w1 w2) : Below w.heap.size w w2 := h.trans (k.mono h.size)
theorem Below.new (w : World) (o : Obj) : Below w.heap.size w (w.alloc o) := (Below.refl _ _).alloc (Nat.le_refl _) o
theorem Below.grownBy {w w' : World} (hb : Below w.heap.size w w') : w.grownBy w' none := ⟨hb.os, hb.tape, hb.output, hb.size, fun k hk _ => hb.block k hk⟩
theorem ownsRow_below {w w' : World} {base : Nat} {e : TypeId} {v : Value} {n : Nat} {xs : List Value} {size : Nat} (h : w.ownsRow base e size v n xs) (hb : Below w.heap.size w w') : w'.ownsRow base e size v n xs :=
  h.kept (Below.grownBy hb) (by cases v.ownBlock <;> simp)
theorem cell_block0 (w : World) (u : Value) (e : TypeId) : (w.alloc (.cells #[u] e)).cell? ⟨w.heap.size, 0, none⟩ = some u := by
  rw [World.cell?_alloc_new]; rfl
theorem cell_block1 (w : World) (o : Obj) (u : Value) (e : TypeId) : ((w.alloc o).alloc (.cells #[u] e)).cell? ⟨w.heap.size + 1, 0, none⟩ = some u := by
  rw [← World.size_alloc w o]; exact cell_block0 _ _ _
theorem Below.drawn (w : World) (n : Nat) : Below w.heap.size w (w.drewN n) := below_drewN (Below.refl _ _) n

theorem str_append (l m : List UInt8) : ((⟨l.toArray⟩ : ByteArray) ++ (⟨m.toArray⟩ : ByteArray)) = ⟨(l ++ m).toArray⟩ := by
  apply ByteArray.ext
  simp

/-- a slice of bytes that the call has just laid -/
theorem slb_lit (w : World) (cs : Array Value) (fr : Nat × Nat) (l : List UInt8) (h : cs.toList = bv l) (hl : l.length ≤ 1000) (n : Nat) (hn : n = l.length) : SlB (w.alloc (.cells cs 5 fr)) (.slice (some ⟨w.heap.size, 0, none⟩) n n) l := by
  subst hn
  refine ⟨_, _, rfl, by omega, fun i hi => ⟨w.heap.size, 0, rfl, ?_⟩, Nat.le_refl _, by omega, nofun⟩
  rw [Nat.zero_add, ← h, Array.getElem?_toList]
  have : (w.alloc (.cells cs 5 fr)).heap[w.heap.size]? = some (.cells cs 5 fr) := by show (w.heap.push _)[w.heap.size]? = _; simp
  unfold World.cell?
  rw [this]
  simp
end Go.Proofs.YtdoflhiogoefjaaDoor
end
section
/- Numbers as the cells of a row. No program in sight. -/
namespace Go.Proofs.YtdoflhiogoefjaaDoor
def iv (l : List Int) : List Value := l.map (Value.int .i64)
end Go.Proofs.YtdoflhiogoefjaaDoor
end
