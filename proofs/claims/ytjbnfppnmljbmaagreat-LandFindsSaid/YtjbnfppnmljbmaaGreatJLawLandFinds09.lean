/- Joined texts, in this order: RegionY, RtWalk, RtIter. Each one's first remark says what it proves; no condition beyond those that its theorems name. -/
import Derived.Test.YtjbnfppnmljbmaaGreatJLawLandFinds02
import Derived.OrdersIn
import Derived.RangeFuncCalls
import Derived.Test.YtjbnfppnmljbmaaGreatJLawLandFinds08
section
/- A region that draws its order, inside the wide fence: reads are taken first while S holds; the operations of 'ex' wait for all others. No program in sight. -/
namespace Go.Proofs.YtjbnfppnmljbmaaGreat
set_option linter.unusedVariables false
section
variable {P : Program} {ops : Array Oper} {Q : Exit → Act → World → Prop} {md : Region.Mode} {S : World → Prop} {ex : List Nat} {m : Nat}

theorem YieldsIf.wpOpIn {i : Nat} {o : Oper} {v : Value} {a : Act} (hi : ops[i]? = some o) (hy : YieldsIf P ops S o v a)
    {K : Act → World → Prop} {w : World} (hS : S w) (h : K (a.put o.dst v) w) : wpOpIn Fence.wide m P ops Q i K a w := by
  unfold Go.wpOpIn
  simp only [hi]
  rcases hy with ⟨hw, hv⟩ | ⟨hw, rfl⟩
  · have hro : Fence.wide.round = none := rfl
    simp only [hw, if_true, Oper.wpIn, hro, Oper.semAt_none, hv w hS, Oper.uponIn]
    exact ⟨fun _ _ => trivial, h⟩
  · simp only [hw, Bool.false_eq_true, if_false]; exact ⟨fun _ _ => trivial, h⟩
theorem wpOpIn_putIf {j : Nat} {oi oj : Oper} {v : Value} (hj : ops[j]? = some oj) (hap : oi.apart ops oj = true)
    (hsi : ∀ cs b, oi.op ≠ .select cs b) (hsj : ∀ cs b, oj.op ≠ .select cs b)
    (hQ : ∀ c a w, Q (.panic c) (a.put oi.dst v) w → Q (.panic c) a w) {K : Act → World → Prop} {a : Act} {w : World}
    (hy : YieldsIf P ops S oi v a) (h : wpOpIn Fence.wide m P ops Q j K (a.put oi.dst v) w) :
    wpOpIn Fence.wide m P ops Q j (fun a' w' => YieldsIf P ops S oi v a' ∧ K (a'.put oi.dst v) w') a w := by
  have hro : Fence.wide.round = none := rfl
  obtain ⟨h1, h2, h3⟩ := Oper.apart_spec hap
  have keep : ∀ (a : Act), YieldsIf P ops S oi v a → ∀ u, YieldsIf P ops S oi v (a.put oj.dst u) := fun a hy u =>
    hy.of_same (execOp_put oi hsi a oj.dst u h3) (wanted_put oi a oj.dst u h3)
  have keepD : ∀ d, YieldsIf P ops S oi v { a with defers := d :: a.defers } := fun d => hy.of_same rfl rfl
  unfold wpOpIn at *
  simp only [hj] at *
  rw [wanted_put oj a oi.dst v h1] at h
  split
  · rename_i hw
    simp only [hw, if_true] at h
    unfold Oper.wpIn at *
    refine ⟨fun _ _ => trivial, ?_⟩
    have h := h.2
    rw [hro, Oper.semAt_none, execOp_put oj hsj a oi.dst v h1] at h
    rw [hro, Oper.semAt_none]
    generalize (execOp a.eval oj).run P w = r at *
    cases r with
    | ok x w' =>
      cases x <;> simp only [Oper.uponIn] at h ⊢
      case value u => exact ⟨keep a hy u, by rw [← Act.put_comm a v u h2]; exact h⟩
      case skip => exact ⟨keep a hy _, by rw [← Act.put_comm a v undef h2]; exact h⟩
      case defer d =>
        refine ⟨keep _ (keepD d) _, ?_⟩
        rw [← Act.put_comm _ v undef h2, ← Act.put_defers]
        exact h
      case enter f args =>
        refine ⟨h.1, CallsIn.mono h.2 fun e w'' he => ?_⟩
        cases e with
        | returned u => exact ⟨keep a hy u, by rw [← Act.put_comm a v u h2]; exact he⟩
        | panicked c => exact hQ _ _ _ he
        | outgrown => exact he
      case row row args => exact ⟨h.1, RowsIn.mono h.2 fun u w'' he => ⟨keep a hy u, by rw [← Act.put_comm a v u h2]; exact he⟩⟩
      case round l f tmps assign body =>
        refine ⟨h.1, RoundIn.mono h.2 fun e w'' he => ?_⟩
        cases e with
        | returned u => exact ⟨keep a hy u, by rw [← Act.put_comm a v u h2]; exact he⟩
        | panicked c => exact hQ _ _ _ he
        | outgrown => exact he
    | halt x w' =>
      cases x <;> simp only [Oper.uponIn] at h ⊢
      case panic u => exact hQ _ _ _ h
  · rename_i hw
    simp only [hw] at h
    exact ⟨fun _ _ => trivial, keep a hy _, by rw [← Act.put_comm a v undef h2]; exact h.2⟩
/-- whatever is listed has all that it waits for listed -/
def closedL (md : Region.Mode) (ops : Array Oper) (l : Array Bool) : Bool :=
  (List.range ops.size).all fun k => !(l.getD k false) || ((ops[k]?.map fun o => o.after.all fun e => !(Region.binds md e) || l.getD e.on false).getD false)
/-- j waits for i, through others too -/
def waitsL (md : Region.Mode) (ops : Array Oper) : Nat → Nat → Nat → Bool
  | 0, _, _ => false
  | f + 1, j, i => (ops[j]?.map fun o => o.after.any fun e => Region.binds md e && (e.on == i || waitsL md ops f e.on i)).getD false
def lateW (md : Region.Mode) (ops : Array Oper) (ex : List Nat) (l : Array Bool) (i : Nat) : Bool := closedL md ops l && ex.all fun j => waitsL md ops ops.size j i
def ClosedP (md : Region.Mode) (ops : Array Oper) (l : Array Bool) : Prop := ∀ k, k < ops.size → l.getD k false = true → ∃ o, ops[k]? = some o ∧ ∀ e ∈ o.after, Region.binds md e = true → l.getD e.on false = true
theorem closedL_spec {l : Array Bool} (h : closedL md ops l = true) : ClosedP md ops l := by
  intro k hk hl
  have h1 := List.all_eq_true.1 h k (List.mem_range.2 hk)
  rw [hl] at h1
  cases ho : ops[k]? with
  | none => rw [ho] at h1; simp at h1
  | some o =>
    rw [ho] at h1
    simp only [Bool.not_true, Bool.false_or, Option.map_some, Option.getD_some, Array.all_eq_true] at h1
    refine ⟨o, rfl, fun e he hb => ?_⟩
    obtain ⟨q, hq, rfl⟩ := Array.mem_iff_getElem.1 he
    have := h1 q hq
    rw [hb] at this
    simpa using this
theorem ClosedP.set {l : Array Bool} (h : ClosedP md ops l) {j : Nat} (hj : j ∈ Region.ready md ops l) : ClosedP md ops (l.setIfInBounds j true) := by
  intro k hk hl
  by_cases e : j = k
  · subst e
    obtain ⟨-, o, ho, hall⟩ := mem_ready.1 hj
    exact ⟨o, ho, fun e he hb => getD_set_true (hall e he hb)⟩
  · rw [getD_set_ne false e] at hl
    obtain ⟨o, ho, hall⟩ := h k hk hl
    exact ⟨o, ho, fun e he hb => getD_set_true (hall e he hb)⟩
theorem waits_listed {l : Array Bool} (hc : ClosedP md ops l) {i : Nat} : ∀ (f j : Nat), (∃ o, ops[j]? = some o ∧ ∀ e ∈ o.after, Region.binds md e = true → l.getD e.on false = true) → waitsL md ops f j i = true → l.getD i false = true
  | 0, _, _, h => by cases h
  | f + 1, j, ⟨o, ho, hall⟩, h => by
    unfold waitsL at h
    rw [ho] at h
    simp only [Option.map_some, Option.getD_some, Array.any_eq_true] at h
    obtain ⟨q, hq, hb⟩ := h
    rw [Bool.and_eq_true, Bool.or_eq_true] at hb
    have hl := hall _ (Array.getElem_mem hq) hb.1
    rcases hb.2 with e | e
    · rw [beq_iff_eq] at e
      rw [e] at hl; exact hl
    · have hsz : (o.after[q]).on < ops.size := by
        rcases Nat.lt_or_ge (o.after[q]).on ops.size with z | z
        · exact z
        · exfalso
          cases f with
          | zero => cases e
          | succ f => unfold waitsL at e; rw [Array.getElem?_eq_none z] at e; cases e
      exact waits_listed hc f _ (hc _ hsz hl) e
def wpKY (m : Nat) (P : Program) (md : Region.Mode) (ops : Array Oper) (Q : Exit → Act → World → Prop) (ex : List Nat) (S : World → Prop) : Nat → Array Bool → Act → World → Prop
  | 0, l, a, w => Region.ready md ops l = [] ∧ Q .normal a w
  | n + 1, l, a, w => (Region.ready md ops l = [] → Q .normal a w) ∧ ∀ i ∈ Region.ready md ops l, wpOpIn Fence.wide m P ops Q i (fun a' w' => (i ∈ ex ∨ S w') ∧ wpKY m P md ops Q ex S n (l.setIfInBounds i true) a' w') a w
theorem wpKY.any : ∀ (n : Nat) (l : Array Bool) (a : Act) (w : World), wpKY m P md ops Q ex S n l a w → wpAnyIn Fence.wide m P md ops Q n l a w
  | 0, _, _, _, h => h
  | n + 1, _, _, _, h => ⟨h.1, fun i hi => wpOpIn_mono (fun a' w' k => wpKY.any n _ a' w' k.2) (h.2 i hi)⟩
theorem wpKY.first {i : Nat} (hw : ∀ j ∈ ex, waitsL md ops ops.size j i = true) {oi : Oper} {v : Value} (hi : ops[i]? = some oi) (hsel : ∀ (j : Nat) (o : Oper) cs b, ops[j]? = some o → o.op ≠ .select cs b)
    (hQ : ∀ c a w, Q (.panic c) (a.put oi.dst v) w → Q (.panic c) a w) : ∀ (n : Nat) (l : Array Bool) (a : Act) (w : World), ClosedP md ops l →
      (∀ j oj, ops[j]? = some oj → j ≠ i → l.getD j true = false → (∀ e ∈ oj.after, Region.binds md e = true → e.on ≠ i) → oi.apart ops oj = true) →
      i ∈ Region.ready md ops l → YieldsIf P ops S oi v a → S w → wpKY m P md ops Q ex S n (l.setIfInBounds i true) (a.put oi.dst v) w → wpKY m P md ops Q ex S (n + 1) l a w := by
  have hno : ∀ (l : Array Bool) (j : Nat), ClosedP md ops l → i ∈ Region.ready md ops l → j ∈ Region.ready md ops l → j ∉ ex := by
    intro l j hc hir hjr hje
    have h1 := waits_listed hc ops.size j (mem_ready.1 hjr).2 (hw j hje)
    have h0 := (mem_ready.1 hir).1
    rcases Nat.lt_or_ge i l.size with h' | h'
    · simp [h'] at h0 h1; rw [h0] at h1; cases h1
    · simp [Array.getElem?_eq_none h'] at h1
  intro n
  induction n with
  | zero =>
    intro l a w hc hfree hr hy hS H
    refine ⟨fun h => (by rw [h] at hr; cases hr), fun j hj => ?_⟩
    by_cases hji : j = i
    · subst hji; exact YieldsIf.wpOpIn hi hy hS ⟨.inr hS, H⟩
    · have := ready_mono hj hji
      rw [H.1] at this
      cases this
  | succ n ih =>
    intro l a w hc hfree hr hy hS H
    refine ⟨fun h => (by rw [h] at hr; cases hr), fun j hj => ?_⟩
    by_cases hji : j = i
    · subst hji; exact YieldsIf.wpOpIn hi hy hS ⟨.inr hS, H⟩
    · have hjx := hno l j hc hr hj
      obtain ⟨hjun, oj, hoj, hall⟩ := mem_ready.1 hj
      have hnot : ∀ e ∈ oj.after, Region.binds md e = true → e.on ≠ i := fun e he hb heq => by
        have h1 := hall e he hb
        have h0 := (mem_ready.1 hr).1
        rw [heq] at h1
        rcases Nat.lt_or_ge i l.size with h' | h'
        · simp [h'] at h0 h1; rw [h0] at h1; cases h1
        · simp [Array.getElem?_eq_none h'] at h1
      have h2 := wpOpIn_putIf hoj (hfree j oj hoj hji hjun hnot) (fun cs b => hsel i oi cs b hi) (fun cs b => hsel j oj cs b hoj) hQ hy (H.2 j (ready_mono hj hji))
      refine wpOpIn_mono (fun a' w' k => ?_) h2
      have hS' : S w' := k.2.1.resolve_left hjx
      refine ⟨.inr hS', ih _ a' w' (hc.set hj) (fun m om hm hmi hun hno' => ?_) (ready_mono hr (Ne.symm hji)) k.1 hS' (by rw [Array.setIfInBounds_comm _ _ hji]; exact k.2.2)⟩
      refine hfree m om hm hmi ?_ hno'
      by_cases hjm : j = m
      · subst hjm; exact hjun
      · rw [getD_set_ne true hjm] at hun; exact hun
theorem wpKY.take {i : Nat} {oi : Oper} {v : Value} {n : Nat} {l : Array Bool} {a : Act} {w : World} (hi : ops[i]? = some oi) (hex : lateW md ops ex l i = true)
    (hs : Region.noSelect ops = true) (hf : Region.free md ops l i = true) (hr : (Region.ready md ops l).contains i = true)
    (hQ : ∀ c a w, Q (.panic c) (a.put oi.dst v) w → Q (.panic c) a w) (hy : YieldsIf P ops S oi v a) (hS : S w)
    (h : wpKY m P md ops Q ex S n (l.setIfInBounds i true) (a.put oi.dst v) w) : wpKY m P md ops Q ex S (n + 1) l a w := by
  rw [lateW, Bool.and_eq_true, List.all_eq_true] at hex
  exact wpKY.first hex.2 hi (Region.noSelect_spec hs) hQ n l a w (closedL_spec hex.1) (Region.free_spec hi hf) (by simpa using hr) hy hS h
theorem wpKY.step {i : Nat} {oi : Oper} {n : Nat} {l : Array Bool} {a : Act} {w : World} (hr : Region.ready md ops l = [i]) (ho : ops[i]? = some oi)
    (h : ∀ K' : Act → World → Prop, Shut (∀ a w, S w → (S w → wpKY m P md ops Q ex S n (l.setIfInBounds i true) a w) → K' a w) → if Region.wanted oi (yielded ops a.tmps) = true then Oper.wpIn Fence.wide m P oi a w K' Q else (∀ f, oi.about P w a.eval = some f → Fence.wide.fn f) ∧ K' (a.put oi.dst undef) w) :
    wpKY m P md ops Q ex S (n + 1) l a w := by
  refine ⟨fun h0 => (by rw [hr] at h0; cases h0), fun j hj => ?_⟩
  rw [hr] at hj
  obtain rfl := List.mem_singleton.1 hj
  exact wpOpIn_step ho (fun K' hK => h K' (fun a w hS hW => hK a w ⟨.inr hS, hW hS⟩))
theorem wpKY.late {i : Nat} {oi : Oper} {n : Nat} {l : Array Bool} {a : Act} {w : World} (hr : Region.ready md ops l = [i]) (ho : ops[i]? = some oi) (hin : ex.contains i = true)
    (h : ∀ K' : Act → World → Prop, Shut (∀ a w, wpKY m P md ops Q ex S n (l.setIfInBounds i true) a w → K' a w) → if Region.wanted oi (yielded ops a.tmps) = true then Oper.wpIn Fence.wide m P oi a w K' Q else (∀ f, oi.about P w a.eval = some f → Fence.wide.fn f) ∧ K' (a.put oi.dst undef) w) :
    wpKY m P md ops Q ex S (n + 1) l a w := by
  refine ⟨fun h0 => (by rw [hr] at h0; cases h0), fun j hj => ?_⟩
  rw [hr] at hj
  obtain rfl := List.mem_singleton.1 hj
  exact wpOpIn_step ho (fun K' hK => h K' (fun a w hW => hK a w ⟨.inl (by simpa using hin), hW⟩))
theorem wpKY.done {l : Array Bool} {a : Act} {w : World} (hr : Region.ready md ops l = []) (h : Q .normal a w) : ∀ n, wpKY m P md ops Q ex S n l a w
  | 0 => ⟨hr, h⟩
  | _ + 1 => ⟨fun _ => h, by rw [hr]; simp⟩
theorem wpIn_region_keptY (ex : List Nat) (S : World → Prop) {id : Nat} {a : Act} {w : World} (hm : P.follows .mixedOrders = true) (hS : S w.drew)
    (h : S w.drew → wpKY m P .any ops Q ex S ops.size (Array.replicate ops.size false) a w.drew) : (Code.region id ops true).wpIn Fence.wide m P Q a w :=
  wpIn_region_any hm (wpKY.any _ _ _ _ (h hS))
end
end Go.Proofs.YtjbnfppnmljbmaaGreat
end
section
/- Contract of rtree's walk: what it gives, and how it stops. -/
namespace Go.Proofs.YtjbnfppnmljbmaaGreat
open Go.RowKit
open Go.Lib (hid)
set_option linter.unusedVariables false
attribute [local go_sem] Oper.semAt_some

def WalkPost (n0 B : Nat) (J Jx : List Tg → World → Prop) (W : World) (pre Y : List Tg) (e : Ending) (W' : World) : Prop :=
  (e = .returned (.bool true) ∧ J (pre ++ Y) W' ∧ KeepR n0 B W W') ∨ (e = .returned (.bool false) ∧ ∃ s, s <+: Y ∧ Jx (pre ++ s) W')
/-- what the walk leans on: the test, and the rounds -/
structure WalkEnv (m l g : Nat) (ba lb : Array Value) (n0 B N : Nat) (t : R4 → Bool) (J Jx : List Tg → World → Prop) (W0 : World) : Prop where
  yld : ∀ pre x W1, J pre W1 → pre.length < N → YieldAt Fence.wide m Tryz.prog l #[rV x.1, .int .i64 x.2] W1 fun e W' => (e = .returned (.bool true) ∧ J (pre ++ [x]) W' ∧ KeepR n0 B W1 W') ∨ (e = .returned (.bool false) ∧ Jx (pre ++ [x]) W')
  tst : ∀ W', KeepR n0 B W0 W' → ∀ r, Calls Tryz.prog g (ba ++ #[rV r] ++ lb) W' fun e W2 => e = .returned (.bool (t r)) ∧ Below W'.heap.size W' W2
  eg : ∀ args w, (callFunc g args).run Tryz.prog w = .ok (.enter g args) w
  mono : ∀ a b, InR a b → t a = true → t b = true
  grow : ∀ pre W1 W2, J pre W1 → Below W1.heap.size W1 W2 → J pre W2
  n0B : n0 ≤ B
  BW : B ≤ W0.heap.size
theorem NodeAt.keep {n0 B : Nat} {W W' : World} (h : KeepR n0 B W W') {d : Nat} {n : Nd} (hn : NodeAt d W n) (hl : ∀ k ∈ blkN d n, k < n0) : NodeAt d W' n :=
  hn.upd h.upd (fun k hk q => by have := hl k hk; omega)
/-- a thing's own walk gives nothing -/
theorem walk0 (n : Nd) (v1 v2 : Value) (w : World) (h : NodeAt 0 w n) : Calls Tryz.prog 75 #[ptrN n, v1, v2] w fun e w' => e = .returned (.bool true) ∧ Below w.heap.size w w' := by
  have c4 := h.blk.c7.2.1
  rw [h.2] at c4
  unfold ptrN
  obtain ⟨p, hp⟩ : ∃ p, n.p = p := ⟨_, rfl⟩
  rw [hp] at c4 ⊢
  clear h hp
  go_enter Tryz.func75, Tryz.ntmps75
  go_wp2_with fail
  go_loop [14] (fun v14 => v14 = .int .i64 0) (fun _ => 0)
  case atStart => rfl
  case round =>
    obtain rfl := hrel
    go_wp2_with fail
    go_ret
    exact ⟨rfl, Below.refl _ _⟩
def WalkSpec (d : Nat) : Prop := ∀ (m l g : Nat) (ba lb : Array Value) (n0 B N : Nat) (t : R4 → Bool) (J Jx : List Tg → World → Prop) (W0 W : World) (n : Nd) (pre : List Tg), WalkEnv m l g ba lb n0 B N t J Jx W0 → KeepR n0 B W0 W → NodeAt (d + 1) W n → (∀ k ∈ blkN (d + 1) n, k < n0) → Shape1 d n → J pre W → pre.length + (flR t (thgN (d + 1) n)).length ≤ N → d ≤ 1000 →
  Calls Tryz.prog 75 #[ptrN n, .func (.func g) ba lb, .func (.yield l) #[] #[]] W (WalkPost n0 B J Jx W pre (flR t (thgN (d + 1) n)))
/-- where the walk stands in a round -/
def WkR (n0 B : Nat) (J : List Tg → World → Prop) (W : World) (pre : List Tg) (t : R4 → Bool) (d m : Nat) (ks : List Nd) (v14 : Value) (wr : World) : Prop :=
  ∃ k : Nat, v14 = .int .i64 (k : Int) ∧ k ≤ m ∧ Hid (J (pre ++ flR t (thgF d (ks.take k))) wr ∧ KeepR n0 B W wr)
theorem flR_nil_of {t : R4 → Bool} {l : List Tg} (h : ∀ x ∈ l, t x.1 = false) : flR t l = [] := by
  unfold flR
  rw [List.filter_eq_nil_iff]
  intro x hx
  rw [h x hx]; simp
set_option maxRecDepth 100000 in
set_option maxHeartbeats 4000000 in
theorem walk_zero : WalkSpec 0 := by
  intro m l g ba lb n0 B N t J Jx W0 W n pre env hk0 hn hlow hsh hj hN hd
  have eg := env.eg
  have HE := hid env
  have HK0 := hid hk0
  have HN := hid hn
  have HLOW := hid hlow
  have HSH := hid hsh
  have HJ := hid hj
  have HNN := hid hN
  obtain ⟨a, c, hkv, hsl⟩ := SlN.of_own hn.2.1 (fun k hk => (hn.2.2 k hk).rat)
  have c4 := hn.blk.c7.2.1
  rw [hkv] at c4
  obtain ⟨M, hM⟩ : ∃ M, n.ks.length = M := ⟨_, rfl⟩
  rw [hM] at c4 hsl
  have HSL := hid hsl
  have HM := hid hM
  have HKV : Hid (n.kv = .slice a M c) := hid (by rw [hkv, hM])
  have hM4 : M ≤ 4 := by rw [← hM]; exact hsh.len
  obtain ⟨p, hp⟩ : ∃ p, n.p = p := ⟨_, rfl⟩
  unfold ptrN
  rw [hp] at c4 ⊢
  clear env hk0 hn hlow hsh hj hN hkv hsl hM hp
  refine (callsIn_wide (n := m + 5)).1 ?_
  refine callsIn_of_wp Tryz.func75 rfl trivial ?_ rfl
  simp only [Tryz.ntmps75, List.size_toArray, List.length_cons, List.length_nil, Nat.reduceAdd, Nat.reduceSub, Array.replicate_succ, Array.replicate_zero, List.push_toArray, List.append_toArray, List.nil_append, List.cons_append]
  gi_wp2
  clear c4
  gi_loopw [14] (fun v14 wr => WkR n0 B J W pre t 0 M n.ks v14 wr) (fun v14 _ => M - (intOf v14).toNat)
  case atStart => exact ⟨0, rfl, by omega, hid ⟨by simpa [thgF, flR] using HJ.out, KeepR.refl _ _ _⟩⟩
  case round =>
    obtain ⟨k, rfl, hk, HR⟩ := hrel
    by_cases hlt : k < M
    · have k1 : (k : Int) < (M : Int) := by omega
      have k0 : (0 : Int) ≤ (k : Int) := by omega
      have HNr : Hid (NodeAt (0 + 1) wr n) := hid (HN.out.keep HR.out.2 HLOW.out)
      have hslr : SlN wr a M c n.ks := slN_of (by have := HNr.out.2.1; rw [HKV.out] at this; exact this) (fun k hk => (HNr.out.2.2 k hk).rat)
      obtain ⟨bk, off, nk, rfl, hnk, hc, hr, htk⟩ := hslr.at hlt
      have HMEM := hid (List.mem_of_getElem? hnk)
      have HTK : Hid (flR t (thgF 0 (n.ks.take (k + 1))) = flR t (thgF 0 (n.ks.take k)) ++ flR t (thgN 0 nk)) := hid (by rw [htk, thgF, List.flatMap_append, flR_append]; simp)
      have HPF : Hid (flR t (thgF 0 (n.ks.take (k + 1))) <+: flR t (thgN (0 + 1) n)) := hid (by
        have e : thgN (0 + 1) n = thgF 0 (n.ks.take (k + 1)) ++ thgF 0 (n.ks.drop (k + 1)) := by
          show thgF 0 n.ks = _
          rw [thgF, thgF, thgF, ← List.flatMap_append, List.take_append_drop]
        rw [e, flR_append]; exact List.prefix_append _ _)
      have HNK := hid (HNr.out.2.2 nk HMEM.out)
      obtain ⟨-, -, h5, h6⟩ := HNK.out.blk.c7
      obtain ⟨nr, hnr⟩ : ∃ z, nk.r = z := ⟨_, rfl⟩
      obtain ⟨nv, hnv⟩ : ∃ z, nk.v = z := ⟨_, rfl⟩
      obtain ⟨pk, hpk⟩ : ∃ z, nk.p = z := ⟨_, rfl⟩
      rw [hnr] at hr
      rw [hnv] at h5
      rw [hpk] at hr h5 h6 hc
      have HNR := hid (And.intro hnr (And.intro hnv hpk))
      have HTST := hid (HE.out.tst wr (HK0.out.trans HR.out.2) nr)
      obtain ⟨tb, htb⟩ : ∃ tb, t nr = tb := ⟨_, rfl⟩
      rw [htb] at HTST
      have HTB := hid htb
      clear hslr hnk htk hnr hnv hpk htb
      obtain ⟨nx, ny, na, nb⟩ := nr
      simp only [rV] at HTST
      obtain ⟨r0, r1, r2, r3⟩ := hr
      simp only at r0 r1 r2 r3
      cases tb with
      | false =>
        gi_wp2_with (refine ⟨trivial, ?_⟩; refine (callsIn_wide.2 HTST.out).mono ?_; rintro e w4 ⟨rfl, hb4⟩)
        have HR4 : Hid (J (pre ++ flR t (thgF 0 (n.ks.take (k + 1)))) w4 ∧ KeepR n0 B W w4) := hid (by
          refine ⟨?_, HR.out.2.trans (KeepR.of_below hb4 (by have h1 := HE.out.n0B; have h2 := HE.out.BW; have h3 := HK0.out.size; have h4 := HR.out.2.size; omega))⟩
          have e : flR t (thgN 0 nk) = [] := by simp [flR, thgN, HNR.out.1, HTB.out]
          rw [HTK.out, e, List.append_nil]
          exact HE.out.grow _ _ _ HR.out.1 hb4)
        go_roundw
        case rel => exact ⟨k + 1, by go_num, by omega, HR4⟩
        case measure => simp [intOf]; omega
      | true =>
        gi_wp2_with (refine ⟨trivial, ?_⟩; refine (callsIn_wide.2 HTST.out).mono ?_; rintro e w4 ⟨rfl, hb4⟩)
        have HR4 : Hid (J (pre ++ flR t (thgF 0 (n.ks.take k))) w4 ∧ KeepR n0 B W w4) := hid ⟨HE.out.grow _ _ _ HR.out.1 hb4, HR.out.2.trans (KeepR.of_below hb4 (by have h1 := HE.out.n0B; have h2 := HE.out.BW; have h3 := HK0.out.size; have h4 := HR.out.2.size; omega))⟩
        have HNK4 := hid (HNK.out.below hb4)
        replace r0 := cellOf_belowR hb4 r0
        replace r1 := cellOf_belowR hb4 r1
        replace r2 := cellOf_belowR hb4 r2
        replace r3 := cellOf_belowR hb4 r3
        replace h5 := cellOf_belowR hb4 h5
        replace h6 := cellOf_belowR hb4 h6
        have HX : Hid (flR t (thgN 0 nk) = [((nx, ny, na, nb), nv)]) := hid (by simp [flR, thgN, HNR.out.1, HNR.out.2.1, HTB.out])
        have HLT : Hid ((pre ++ flR t (thgF 0 (n.ks.take k))).length < N) := hid (by
          have h1 := HNN.out
          have h2 := HPF.out.length_le
          rw [HTK.out, HX.out, List.length_append] at h2
          simp only [List.length_cons, List.length_nil] at h2
          rw [List.length_append]; omega)
        obtain ⟨fn, tmps, assign, body, hy, hR⟩ := yieldAt_any (m' := m + 5 - 1) (HE.out.yld _ ((nx, ny, na, nb), nv) w4.drew (HE.out.grow _ _ _ HR4.out.1 (Below.refl w4.heap.size w4).drew) HLT.out)
        simp only [rV] at hy
        have hR2 := hR.mono (R' := fun e W' => ∃ b, e = .returned (.bool b) ∧ Hid ((b = true ∧ J (pre ++ flR t (thgF 0 (n.ks.take (k + 1)))) W' ∧ KeepR n0 B w4.drew W') ∨ (b = false ∧ Jx (pre ++ flR t (thgF 0 (n.ks.take (k + 1)))) W'))) (fun e W' h => by
          rw [HTK.out, HX.out, ← List.append_assoc]
          rcases h with ⟨e1, h1, h2⟩ | ⟨e1, h1⟩
          · exact ⟨true, e1, hid (.inl ⟨rfl, h1, h2⟩)⟩
          · exact ⟨false, e1, hid (.inr ⟨rfl, h1⟩)⟩)
        have HY2 := hid hR2
        clear hR hb4 hc hR2
        refine wpIn_region_keptY [15, 16, 17, 18] (fun y => y = w4.drew) (by kernel_rfl) (by rfl) (fun hH => ?_)
        refine wpKY.take (i := 0) (v := _) (by simp only [List.getElem?_toArray, List.getElem?_cons_succ, List.getElem?_cons_zero]; rfl) (by kernel_rfl) (by kernel_rfl) (by kernel_rfl) (by kernel_rfl) (by exact fun _ _ _ h => h) (by first | exact Or.inl ⟨by rfl, by intro w hSw; go_simp; try with_reducible rfl⟩ | exact Or.inr ⟨by rfl, rfl⟩) hH ?_
        try simp only [Act.put, List.setIfInBounds_toArray, List.set_cons_zero, List.set_cons_succ]
        refine wpKY.take (i := 1) (v := _) (by simp only [List.getElem?_toArray, List.getElem?_cons_succ, List.getElem?_cons_zero]; rfl) (by kernel_rfl) (by kernel_rfl) (by kernel_rfl) (by kernel_rfl) (by exact fun _ _ _ h => h) (by first | exact Or.inl ⟨by rfl, by intro w hSw; go_simp; try with_reducible rfl⟩ | exact Or.inr ⟨by rfl, rfl⟩) hH ?_
        try simp only [Act.put, List.setIfInBounds_toArray, List.set_cons_zero, List.set_cons_succ]
        refine wpKY.take (i := 2) (v := _) (by simp only [List.getElem?_toArray, List.getElem?_cons_succ, List.getElem?_cons_zero]; rfl) (by kernel_rfl) (by kernel_rfl) (by kernel_rfl) (by kernel_rfl) (by exact fun _ _ _ h => h) (by first | exact Or.inl ⟨by rfl, by intro w hSw; go_simp; try with_reducible rfl⟩ | exact Or.inr ⟨by rfl, rfl⟩) hH ?_
        try simp only [Act.put, List.setIfInBounds_toArray, List.set_cons_zero, List.set_cons_succ]
        refine wpKY.take (i := 3) (v := _) (by simp only [List.getElem?_toArray, List.getElem?_cons_succ, List.getElem?_cons_zero]; rfl) (by kernel_rfl) (by kernel_rfl) (by kernel_rfl) (by kernel_rfl) (by exact fun _ _ _ h => h) (by first | exact Or.inl ⟨by rfl, by intro w hSw; go_simp; try with_reducible rfl⟩ | exact Or.inr ⟨by rfl, rfl⟩) hH ?_
        try simp only [Act.put, List.setIfInBounds_toArray, List.set_cons_zero, List.set_cons_succ]
        refine wpKY.take (i := 4) (v := _) (by simp only [List.getElem?_toArray, List.getElem?_cons_succ, List.getElem?_cons_zero]; rfl) (by kernel_rfl) (by kernel_rfl) (by kernel_rfl) (by kernel_rfl) (by exact fun _ _ _ h => h) (by first | exact Or.inl ⟨by rfl, by intro w hSw; go_simp; try with_reducible rfl⟩ | exact Or.inr ⟨by rfl, rfl⟩) hH ?_
        try simp only [Act.put, List.setIfInBounds_toArray, List.set_cons_zero, List.set_cons_succ]
        refine wpKY.take (i := 5) (v := _) (by simp only [List.getElem?_toArray, List.getElem?_cons_succ, List.getElem?_cons_zero]; rfl) (by kernel_rfl) (by kernel_rfl) (by kernel_rfl) (by kernel_rfl) (by exact fun _ _ _ h => h) (by first | exact Or.inl ⟨by rfl, by intro w hSw; go_simp; try with_reducible rfl⟩ | exact Or.inr ⟨by rfl, rfl⟩) hH ?_
        try simp only [Act.put, List.setIfInBounds_toArray, List.set_cons_zero, List.set_cons_succ]
        refine wpKY.take (i := 6) (v := _) (by simp only [List.getElem?_toArray, List.getElem?_cons_succ, List.getElem?_cons_zero]; rfl) (by kernel_rfl) (by kernel_rfl) (by kernel_rfl) (by kernel_rfl) (by exact fun _ _ _ h => h) (by first | exact Or.inl ⟨by rfl, by intro w hSw; go_simp; try with_reducible rfl⟩ | exact Or.inr ⟨by rfl, rfl⟩) hH ?_
        try simp only [Act.put, List.setIfInBounds_toArray, List.set_cons_zero, List.set_cons_succ]
        refine wpKY.take (i := 7) (v := _) (by simp only [List.getElem?_toArray, List.getElem?_cons_succ, List.getElem?_cons_zero]; rfl) (by kernel_rfl) (by kernel_rfl) (by kernel_rfl) (by kernel_rfl) (by exact fun _ _ _ h => h) (by first | exact Or.inl ⟨by rfl, by intro w hSw; go_simp; try with_reducible rfl⟩ | exact Or.inr ⟨by rfl, rfl⟩) hH ?_
        try simp only [Act.put, List.setIfInBounds_toArray, List.set_cons_zero, List.set_cons_succ]
        refine wpKY.take (i := 8) (v := _) (by simp only [List.getElem?_toArray, List.getElem?_cons_succ, List.getElem?_cons_zero]; rfl) (by kernel_rfl) (by kernel_rfl) (by kernel_rfl) (by kernel_rfl) (by exact fun _ _ _ h => h) (by first | exact Or.inl ⟨by rfl, by intro w hSw; go_simp; try with_reducible rfl⟩ | exact Or.inr ⟨by rfl, rfl⟩) hH ?_
        try simp only [Act.put, List.setIfInBounds_toArray, List.set_cons_zero, List.set_cons_succ]
        refine wpKY.take (i := 9) (v := _) (by simp only [List.getElem?_toArray, List.getElem?_cons_succ, List.getElem?_cons_zero]; rfl) (by kernel_rfl) (by kernel_rfl) (by kernel_rfl) (by kernel_rfl) (by exact fun _ _ _ h => h) (by first | exact Or.inl ⟨by rfl, by intro w hSw; go_simp; try with_reducible rfl⟩ | exact Or.inr ⟨by rfl, rfl⟩) hH ?_
        try simp only [Act.put, List.setIfInBounds_toArray, List.set_cons_zero, List.set_cons_succ]
        refine wpKY.take (i := 10) (v := _) (by simp only [List.getElem?_toArray, List.getElem?_cons_succ, List.getElem?_cons_zero]; rfl) (by kernel_rfl) (by kernel_rfl) (by kernel_rfl) (by kernel_rfl) (by exact fun _ _ _ h => h) (by first | exact Or.inl ⟨by rfl, by intro w hSw; go_simp; try with_reducible rfl⟩ | exact Or.inr ⟨by rfl, rfl⟩) hH ?_
        try simp only [Act.put, List.setIfInBounds_toArray, List.set_cons_zero, List.set_cons_succ]
        refine wpKY.take (i := 11) (v := _) (by simp only [List.getElem?_toArray, List.getElem?_cons_succ, List.getElem?_cons_zero]; rfl) (by kernel_rfl) (by kernel_rfl) (by kernel_rfl) (by kernel_rfl) (by exact fun _ _ _ h => h) (by first | exact Or.inl ⟨by rfl, by intro w hSw; go_simp; try with_reducible rfl⟩ | exact Or.inr ⟨by rfl, rfl⟩) hH ?_
        try simp only [Act.put, List.setIfInBounds_toArray, List.set_cons_zero, List.set_cons_succ]
        refine wpKY.take (i := 12) (v := _) (by simp only [List.getElem?_toArray, List.getElem?_cons_succ, List.getElem?_cons_zero]; rfl) (by kernel_rfl) (by kernel_rfl) (by kernel_rfl) (by kernel_rfl) (by exact fun _ _ _ h => h) (by first | exact Or.inl ⟨by rfl, by intro w hSw; go_simp; try with_reducible rfl⟩ | exact Or.inr ⟨by rfl, rfl⟩) hH ?_
        try simp only [Act.put, List.setIfInBounds_toArray, List.set_cons_zero, List.set_cons_succ]
        refine wpKY.take (i := 13) (v := _) (by simp only [List.getElem?_toArray, List.getElem?_cons_succ, List.getElem?_cons_zero]; rfl) (by kernel_rfl) (by kernel_rfl) (by kernel_rfl) (by kernel_rfl) (by exact fun _ _ _ h => h) (by first | exact Or.inl ⟨by rfl, by intro w hSw; go_simp; try with_reducible rfl⟩ | exact Or.inr ⟨by rfl, rfl⟩) hH ?_
        try simp only [Act.put, List.setIfInBounds_toArray, List.set_cons_zero, List.set_cons_succ]
        refine wpKY.take (i := 14) (v := _) (by simp only [List.getElem?_toArray, List.getElem?_cons_succ, List.getElem?_cons_zero]; rfl) (by kernel_rfl) (by kernel_rfl) (by kernel_rfl) (by kernel_rfl) (by exact fun _ _ _ h => h) (by first | exact Or.inl ⟨by rfl, by intro w hSw; go_simp; try with_reducible rfl⟩ | exact Or.inr ⟨by rfl, rfl⟩) hH ?_
        try simp only [Act.put, List.setIfInBounds_toArray, List.set_cons_zero, List.set_cons_succ]
        refine wpKY.late (i := 15) (by kernel_rfl) (by simp only [List.getElem?_toArray, List.getElem?_cons_succ, List.getElem?_cons_zero]; rfl) (by kernel_rfl) (fun K hK => ?_)
        go_simp
        refine HY2.out.mono ?_; rintro e W3 ⟨b, rfl, HB3⟩; go_simp
        refine hK.out _ _ ?_
        clear hK K
        try simp only [Act.put, List.setIfInBounds_toArray, List.set_cons_zero, List.set_cons_succ]
        refine wpKY.late (i := 16) (by kernel_rfl) (by simp only [List.getElem?_toArray, List.getElem?_cons_succ, List.getElem?_cons_zero]; rfl) (by kernel_rfl) (fun K hK => ?_)
        go_simp
        refine hK.out _ _ ?_
        clear hK K
        try simp only [Act.put, List.setIfInBounds_toArray, List.set_cons_zero, List.set_cons_succ]
        refine wpKY.late (i := 17) (by kernel_rfl) (by simp only [List.getElem?_toArray, List.getElem?_cons_succ, List.getElem?_cons_zero]; rfl) (by kernel_rfl) (fun K hK => ?_)
        go_simp
        refine hK.out _ _ ?_
        clear hK K
        try simp only [Act.put, List.setIfInBounds_toArray, List.set_cons_zero, List.set_cons_succ]
        refine wpKY.late (i := 18) (by kernel_rfl) (by simp only [List.getElem?_toArray, List.getElem?_cons_succ, List.getElem?_cons_zero]; rfl) (by kernel_rfl) (fun K hK => ?_)
        go_simp
        refine hK.out _ _ ?_
        clear hK K
        try simp only [Act.put, List.setIfInBounds_toArray, List.set_cons_zero, List.set_cons_succ]
        refine wpKY.done (by kernel_rfl) ?_ _
        have HB4 := hid (And.intro HE.out.n0B (And.intro HE.out.BW (And.intro HK0.out.size HR4.out.2.size)))
        have HKB : Hid (∀ j ∈ blkN 0 nk, j < n0) := hid (fun j hj => HLOW.out j (by rw [blkN_succ]; exact List.mem_cons_of_mem _ (List.mem_append_right _ (List.mem_flatMap.2 ⟨nk, HMEM.out, hj⟩))))
        clear r0 r1 r2 r3 h5 h6 hy hH
        cases b with
        | false =>
          have HQ : Hid (WalkPost n0 B J Jx W pre (flR t (thgN (0 + 1) n)) (.returned (.bool false)) W3) := hid (by
            right
            rcases HB3.out with ⟨q, -⟩ | ⟨-, q⟩
            · cases q
            · exact ⟨rfl, _, HPF.out, q⟩)
          gi_wp2
          refine bodyPost_ret (results_tmp rfl _ _ _) rfl ?_
          exact HQ.out
        | true =>
          have HR5 : Hid (J (pre ++ flR t (thgF 0 (n.ks.take (k + 1)))) W3 ∧ KeepR n0 B W W3) := hid (by
            rcases HB3.out with ⟨-, q1, q2⟩ | ⟨q, -⟩
            · exact ⟨q1, (HR4.out.2.trans (KeepR.of_below (Below.refl w4.heap.size w4).drew (by have := HB4.out; omega))).trans q2⟩
            · cases q)
          have HN5 : Hid (NodeAt 0 W3 nk) := hid ((HNK4.out.below (Below.refl w4.heap.size w4).drew).keep (by
            rcases HB3.out with ⟨-, q1, q2⟩ | ⟨q, -⟩
            · exact q2
            · cases q) HKB.out)
          have hw0 := walk0 nk (.func (.func g) ba lb) (.func (.yield l) #[] #[]) W3 HN5.out
          unfold ptrN at hw0
          rw [HNR.out.2.2] at hw0
          have HW0 := hid hw0
          clear hw0
          gi_wp2_with (refine ⟨trivial, ?_⟩; refine (callsIn_wide.2 HW0.out).mono ?_; rintro e w6 ⟨rfl, hb6⟩)
          have HR6 : Hid (J (pre ++ flR t (thgF 0 (n.ks.take (k + 1)))) w6 ∧ KeepR n0 B W w6) := hid ⟨HE.out.grow _ _ _ HR5.out.1 hb6, HR5.out.2.trans (KeepR.of_below hb6 (by have h1 := HB4.out; have h2 := HR5.out.2.size; omega))⟩
          clear hb6
          go_roundw
          case rel => exact ⟨k + 1, by go_num, by omega, HR6⟩
          case measure => simp [intOf]; omega
    · have k1 : ¬ (k : Int) < (M : Int) := by omega
      have HQ : Hid (WalkPost n0 B J Jx W pre (flR t (thgN (0 + 1) n)) (.returned (.bool true)) wr) := hid (by
        left
        refine ⟨rfl, ?_, HR.out.2⟩
        have := HR.out.1
        rw [List.take_of_length_le (by rw [HM.out]; omega)] at this
        exact this)
      gi_wp2
      refine bodyPost_ret (results_tmp rfl _ _ _) rfl ?_
      exact HQ.out
set_option maxRecDepth 100000 in
set_option maxHeartbeats 4000000 in
theorem walk_succ (d : Nat) (ih : WalkSpec d) : WalkSpec (d + 1) := by
  intro m l g ba lb n0 B N t J Jx W0 W n pre env hk0 hn hlow hsh hj hN hd
  have eg := env.eg
  have HIH := hid ih
  have HD := hid hd
  have HE := hid env
  have HK0 := hid hk0
  have HN := hid hn
  have HLOW := hid hlow
  have HSH := hid hsh
  have HJ := hid hj
  have HNN := hid hN
  obtain ⟨a, c, hkv, hsl⟩ := SlN.of_own hn.2.1 (fun k hk => (hn.2.2 k hk).rat)
  have c4 := hn.blk.c7.2.1
  rw [hkv] at c4
  obtain ⟨M, hM⟩ : ∃ M, n.ks.length = M := ⟨_, rfl⟩
  rw [hM] at c4 hsl
  have HSL := hid hsl
  have HM := hid hM
  have HKV : Hid (n.kv = .slice a M c) := hid (by rw [hkv, hM])
  have hM4 : M ≤ 4 := by rw [← hM]; exact hsh.len
  obtain ⟨p, hp⟩ : ∃ p, n.p = p := ⟨_, rfl⟩
  unfold ptrN
  rw [hp] at c4 ⊢
  clear ih hd env hk0 hn hlow hsh hj hN hkv hsl hM hp
  refine (callsIn_wide (n := m + 5)).1 ?_
  refine callsIn_of_wp Tryz.func75 rfl trivial ?_ rfl
  simp only [Tryz.ntmps75, List.size_toArray, List.length_cons, List.length_nil, Nat.reduceAdd, Nat.reduceSub, Array.replicate_succ, Array.replicate_zero, List.push_toArray, List.append_toArray, List.nil_append, List.cons_append]
  gi_wp2
  clear c4
  gi_loopw [14] (fun v14 wr => WkR n0 B J W pre t (d + 1) M n.ks v14 wr) (fun v14 _ => M - (intOf v14).toNat)
  case atStart => exact ⟨0, rfl, by omega, hid ⟨by simpa [thgF, flR] using HJ.out, KeepR.refl _ _ _⟩⟩
  case round =>
    obtain ⟨k, rfl, hk, HR⟩ := hrel
    by_cases hlt : k < M
    · have k1 : (k : Int) < (M : Int) := by omega
      have k0 : (0 : Int) ≤ (k : Int) := by omega
      have HNr : Hid (NodeAt (d + 1 + 1) wr n) := hid (HN.out.keep HR.out.2 HLOW.out)
      have hslr : SlN wr a M c n.ks := slN_of (by have := HNr.out.2.1; rw [HKV.out] at this; exact this) (fun k hk => (HNr.out.2.2 k hk).rat)
      obtain ⟨bk, off, nk, rfl, hnk, hc, hr, htk⟩ := hslr.at hlt
      have HMEM := hid (List.mem_of_getElem? hnk)
      have HTK : Hid (flR t (thgF (d + 1) (n.ks.take (k + 1))) = flR t (thgF (d + 1) (n.ks.take k)) ++ flR t (thgN (d + 1) nk)) := hid (by rw [htk, thgF, List.flatMap_append, flR_append]; simp)
      have HPF : Hid (flR t (thgF (d + 1) (n.ks.take (k + 1))) <+: flR t (thgN (d + 1 + 1) n)) := hid (by
        have e : thgN (d + 1 + 1) n = thgF (d + 1) (n.ks.take (k + 1)) ++ thgF (d + 1) (n.ks.drop (k + 1)) := by
          show thgF (d + 1) n.ks = _
          rw [thgF, thgF, thgF, ← List.flatMap_append, List.take_append_drop]
        rw [e, flR_append]; exact List.prefix_append _ _)
      have HNK := hid (HNr.out.2.2 nk HMEM.out)
      obtain ⟨-, -, h5, h6⟩ := HNK.out.blk.c7
      obtain ⟨nr, hnr⟩ : ∃ z, nk.r = z := ⟨_, rfl⟩
      obtain ⟨nv, hnv⟩ : ∃ z, nk.v = z := ⟨_, rfl⟩
      obtain ⟨pk, hpk⟩ : ∃ z, nk.p = z := ⟨_, rfl⟩
      rw [hnr] at hr
      rw [hnv] at h5
      rw [hpk] at hr h5 h6 hc
      have HNR := hid (And.intro hnr (And.intro hnv hpk))
      have HTST := hid (HE.out.tst wr (HK0.out.trans HR.out.2) nr)
      obtain ⟨tb, htb⟩ : ∃ tb, t nr = tb := ⟨_, rfl⟩
      rw [htb] at HTST
      have HTB := hid htb
      clear hslr hnk htk hnr hnv hpk htb
      obtain ⟨nx, ny, na, nb⟩ := nr
      simp only [rV] at HTST
      obtain ⟨r0, r1, r2, r3⟩ := hr
      simp only at r0 r1 r2 r3
      cases tb with
      | false =>
        gi_wp2_with (refine ⟨trivial, ?_⟩; refine (callsIn_wide.2 HTST.out).mono ?_; rintro e w4 ⟨rfl, hb4⟩)
        have HR4 : Hid (J (pre ++ flR t (thgF (d + 1) (n.ks.take (k + 1)))) w4 ∧ KeepR n0 B W w4) := hid (by
          refine ⟨?_, HR.out.2.trans (KeepR.of_below hb4 (by have h1 := HE.out.n0B; have h2 := HE.out.BW; have h3 := HK0.out.size; have h4 := HR.out.2.size; omega))⟩
          have e : flR t (thgN (d + 1) nk) = [] := flR_nil_of (fun x hx => by
            cases hz : t x.1 with
            | false => rfl
            | true =>
              have h1 := HE.out.mono x.1 nk.r ((HSH.out.kids nk HMEM.out).sub hx) hz
              rw [HNR.out.1, HTB.out] at h1; cases h1)
          rw [HTK.out, e, List.append_nil]
          exact HE.out.grow _ _ _ HR.out.1 hb4)
        go_roundw
        case rel => exact ⟨k + 1, by go_num, by omega, HR4⟩
        case measure => simp [intOf]; omega
      | true =>
        gi_wp2_with (refine ⟨trivial, ?_⟩; refine (callsIn_wide.2 HTST.out).mono ?_; rintro e w4 ⟨rfl, hb4⟩)
        have HR4 : Hid (J (pre ++ flR t (thgF (d + 1) (n.ks.take k))) w4 ∧ KeepR n0 B W w4) := hid ⟨HE.out.grow _ _ _ HR.out.1 hb4, HR.out.2.trans (KeepR.of_below hb4 (by have h1 := HE.out.n0B; have h2 := HE.out.BW; have h3 := HK0.out.size; have h4 := HR.out.2.size; omega))⟩
        have HNK4 := hid (HNK.out.below hb4)
        replace r0 := cellOf_belowR hb4 r0
        replace r1 := cellOf_belowR hb4 r1
        replace r2 := cellOf_belowR hb4 r2
        replace r3 := cellOf_belowR hb4 r3
        replace h5 := cellOf_belowR hb4 h5
        replace h6 := cellOf_belowR hb4 h6
        obtain ⟨D, hD⟩ : ∃ D : Int, ((d + 1 : Nat) : Int) = D := ⟨_, rfl⟩
        rw [hD] at h6
        have hD0 : (D == 0) = false := by simp; omega
        clear hD hb4 hc
        refine wpIn_region_keptY [] (fun y => y = w4.drew) (by kernel_rfl) (by rfl) (fun hH => ?_)
        refine wpKY.take (i := 0) (v := _) (by simp only [List.getElem?_toArray, List.getElem?_cons_succ, List.getElem?_cons_zero]; rfl) (by kernel_rfl) (by kernel_rfl) (by kernel_rfl) (by kernel_rfl) (by exact fun _ _ _ h => h) (by first | exact Or.inl ⟨by rfl, by intro w hSw; go_simp; try with_reducible rfl⟩ | exact Or.inr ⟨by rfl, rfl⟩) hH ?_
        try simp only [Act.put, List.setIfInBounds_toArray, List.set_cons_zero, List.set_cons_succ]
        refine wpKY.take (i := 1) (v := _) (by simp only [List.getElem?_toArray, List.getElem?_cons_succ, List.getElem?_cons_zero]; rfl) (by kernel_rfl) (by kernel_rfl) (by kernel_rfl) (by kernel_rfl) (by exact fun _ _ _ h => h) (by first | exact Or.inl ⟨by rfl, by intro w hSw; go_simp; try with_reducible rfl⟩ | exact Or.inr ⟨by rfl, rfl⟩) hH ?_
        try simp only [Act.put, List.setIfInBounds_toArray, List.set_cons_zero, List.set_cons_succ]
        refine wpKY.take (i := 2) (v := _) (by simp only [List.getElem?_toArray, List.getElem?_cons_succ, List.getElem?_cons_zero]; rfl) (by kernel_rfl) (by kernel_rfl) (by kernel_rfl) (by kernel_rfl) (by exact fun _ _ _ h => h) (by first | exact Or.inl ⟨by rfl, by intro w hSw; go_simp; try with_reducible rfl⟩ | exact Or.inr ⟨by rfl, rfl⟩) hH ?_
        try simp only [Act.put, List.setIfInBounds_toArray, List.set_cons_zero, List.set_cons_succ]
        refine wpKY.take (i := 3) (v := _) (by simp only [List.getElem?_toArray, List.getElem?_cons_succ, List.getElem?_cons_zero]; rfl) (by kernel_rfl) (by kernel_rfl) (by kernel_rfl) (by kernel_rfl) (by exact fun _ _ _ h => h) (by first | exact Or.inl ⟨by rfl, by intro w hSw; go_simp; try with_reducible rfl⟩ | exact Or.inr ⟨by rfl, rfl⟩) hH ?_
        try simp only [Act.put, List.setIfInBounds_toArray, List.set_cons_zero, List.set_cons_succ]
        refine wpKY.take (i := 4) (v := _) (by simp only [List.getElem?_toArray, List.getElem?_cons_succ, List.getElem?_cons_zero]; rfl) (by kernel_rfl) (by kernel_rfl) (by kernel_rfl) (by kernel_rfl) (by exact fun _ _ _ h => h) (by first | exact Or.inl ⟨by rfl, by intro w hSw; go_simp; try with_reducible rfl⟩ | exact Or.inr ⟨by rfl, rfl⟩) hH ?_
        try simp only [Act.put, List.setIfInBounds_toArray, List.set_cons_zero, List.set_cons_succ]
        refine wpKY.take (i := 5) (v := _) (by simp only [List.getElem?_toArray, List.getElem?_cons_succ, List.getElem?_cons_zero]; rfl) (by kernel_rfl) (by kernel_rfl) (by kernel_rfl) (by kernel_rfl) (by exact fun _ _ _ h => h) (by first | exact Or.inl ⟨by rfl, by intro w hSw; go_simp; try with_reducible rfl⟩ | exact Or.inr ⟨by rfl, rfl⟩) hH ?_
        try simp only [Act.put, List.setIfInBounds_toArray, List.set_cons_zero, List.set_cons_succ]
        refine wpKY.take (i := 6) (v := _) (by simp only [List.getElem?_toArray, List.getElem?_cons_succ, List.getElem?_cons_zero]; rfl) (by kernel_rfl) (by kernel_rfl) (by kernel_rfl) (by kernel_rfl) (by exact fun _ _ _ h => h) (by first | exact Or.inl ⟨by rfl, by intro w hSw; go_simp; try with_reducible rfl⟩ | exact Or.inr ⟨by rfl, rfl⟩) hH ?_
        try simp only [Act.put, List.setIfInBounds_toArray, List.set_cons_zero, List.set_cons_succ]
        refine wpKY.take (i := 7) (v := _) (by simp only [List.getElem?_toArray, List.getElem?_cons_succ, List.getElem?_cons_zero]; rfl) (by kernel_rfl) (by kernel_rfl) (by kernel_rfl) (by kernel_rfl) (by exact fun _ _ _ h => h) (by first | exact Or.inl ⟨by rfl, by intro w hSw; go_simp; try with_reducible rfl⟩ | exact Or.inr ⟨by rfl, rfl⟩) hH ?_
        try simp only [Act.put, List.setIfInBounds_toArray, List.set_cons_zero, List.set_cons_succ]
        refine wpKY.take (i := 8) (v := _) (by simp only [List.getElem?_toArray, List.getElem?_cons_succ, List.getElem?_cons_zero]; rfl) (by kernel_rfl) (by kernel_rfl) (by kernel_rfl) (by kernel_rfl) (by exact fun _ _ _ h => h) (by first | exact Or.inl ⟨by rfl, by intro w hSw; go_simp; try with_reducible rfl⟩ | exact Or.inr ⟨by rfl, rfl⟩) hH ?_
        try simp only [Act.put, List.setIfInBounds_toArray, List.set_cons_zero, List.set_cons_succ]
        refine wpKY.take (i := 9) (v := _) (by simp only [List.getElem?_toArray, List.getElem?_cons_succ, List.getElem?_cons_zero]; rfl) (by kernel_rfl) (by kernel_rfl) (by kernel_rfl) (by kernel_rfl) (by exact fun _ _ _ h => h) (by first | exact Or.inl ⟨by rfl, by intro w hSw; go_simp; try with_reducible rfl⟩ | exact Or.inr ⟨by rfl, rfl⟩) hH ?_
        try simp only [Act.put, List.setIfInBounds_toArray, List.set_cons_zero, List.set_cons_succ]
        refine wpKY.take (i := 10) (v := _) (by simp only [List.getElem?_toArray, List.getElem?_cons_succ, List.getElem?_cons_zero]; rfl) (by kernel_rfl) (by kernel_rfl) (by kernel_rfl) (by kernel_rfl) (by exact fun _ _ _ h => h) (by first | exact Or.inl ⟨by rfl, by intro w hSw; go_simp; try with_reducible rfl⟩ | exact Or.inr ⟨by rfl, rfl⟩) hH ?_
        try simp only [Act.put, List.setIfInBounds_toArray, List.set_cons_zero, List.set_cons_succ]
        refine wpKY.take (i := 11) (v := _) (by simp only [List.getElem?_toArray, List.getElem?_cons_succ, List.getElem?_cons_zero]; rfl) (by kernel_rfl) (by kernel_rfl) (by kernel_rfl) (by kernel_rfl) (by exact fun _ _ _ h => h) (by first | exact Or.inl ⟨by rfl, by intro w hSw; go_simp; try with_reducible rfl⟩ | exact Or.inr ⟨by rfl, rfl⟩) hH ?_
        try simp only [Act.put, List.setIfInBounds_toArray, List.set_cons_zero, List.set_cons_succ]
        refine wpKY.take (i := 12) (v := _) (by simp only [List.getElem?_toArray, List.getElem?_cons_succ, List.getElem?_cons_zero]; rfl) (by kernel_rfl) (by kernel_rfl) (by kernel_rfl) (by kernel_rfl) (by exact fun _ _ _ h => h) (by first | exact Or.inl ⟨by rfl, by intro w hSw; go_simp; try with_reducible rfl⟩ | exact Or.inr ⟨by rfl, rfl⟩) hH ?_
        try simp only [Act.put, List.setIfInBounds_toArray, List.set_cons_zero, List.set_cons_succ]
        refine wpKY.take (i := 13) (v := _) (by simp only [List.getElem?_toArray, List.getElem?_cons_succ, List.getElem?_cons_zero]; rfl) (by kernel_rfl) (by kernel_rfl) (by kernel_rfl) (by kernel_rfl) (by exact fun _ _ _ h => h) (by first | exact Or.inl ⟨by rfl, by intro w hSw; go_simp; try with_reducible rfl⟩ | exact Or.inr ⟨by rfl, rfl⟩) hH ?_
        try simp only [Act.put, List.setIfInBounds_toArray, List.set_cons_zero, List.set_cons_succ]
        refine wpKY.take (i := 14) (v := _) (by simp only [List.getElem?_toArray, List.getElem?_cons_succ, List.getElem?_cons_zero]; rfl) (by kernel_rfl) (by kernel_rfl) (by kernel_rfl) (by kernel_rfl) (by exact fun _ _ _ h => h) (by first | exact Or.inl ⟨by rfl, by intro w hSw; go_simp; try with_reducible rfl⟩ | exact Or.inr ⟨by rfl, rfl⟩) hH ?_
        try simp only [Act.put, List.setIfInBounds_toArray, List.set_cons_zero, List.set_cons_succ]
        refine wpKY.take (i := 15) (v := _) (by simp only [List.getElem?_toArray, List.getElem?_cons_succ, List.getElem?_cons_zero]; rfl) (by kernel_rfl) (by kernel_rfl) (by kernel_rfl) (by kernel_rfl) (by exact fun _ _ _ h => h) (by first | exact Or.inl ⟨by rfl, by intro w hSw; go_simp; try with_reducible rfl⟩ | exact Or.inr ⟨by rfl, rfl⟩) hH ?_
        try simp only [Act.put, List.setIfInBounds_toArray, List.set_cons_zero, List.set_cons_succ]
        refine wpKY.take (i := 16) (v := _) (by simp only [List.getElem?_toArray, List.getElem?_cons_succ, List.getElem?_cons_zero]; rfl) (by kernel_rfl) (by kernel_rfl) (by kernel_rfl) (by kernel_rfl) (by exact fun _ _ _ h => h) (by first | exact Or.inl ⟨by rfl, by intro w hSw; go_simp; try with_reducible rfl⟩ | exact Or.inr ⟨by rfl, rfl⟩) hH ?_
        try simp only [Act.put, List.setIfInBounds_toArray, List.set_cons_zero, List.set_cons_succ]
        refine wpKY.take (i := 17) (v := _) (by simp only [List.getElem?_toArray, List.getElem?_cons_succ, List.getElem?_cons_zero]; rfl) (by kernel_rfl) (by kernel_rfl) (by kernel_rfl) (by kernel_rfl) (by exact fun _ _ _ h => h) (by first | exact Or.inl ⟨by rfl, by intro w hSw; go_simp; try with_reducible rfl⟩ | exact Or.inr ⟨by rfl, rfl⟩) hH ?_
        try simp only [Act.put, List.setIfInBounds_toArray, List.set_cons_zero, List.set_cons_succ]
        refine wpKY.take (i := 18) (v := _) (by simp only [List.getElem?_toArray, List.getElem?_cons_succ, List.getElem?_cons_zero]; rfl) (by kernel_rfl) (by kernel_rfl) (by kernel_rfl) (by kernel_rfl) (by exact fun _ _ _ h => h) (by first | exact Or.inl ⟨by rfl, by intro w hSw; go_simp; try with_reducible rfl⟩ | exact Or.inr ⟨by rfl, rfl⟩) hH ?_
        try simp only [Act.put, List.setIfInBounds_toArray, List.set_cons_zero, List.set_cons_succ]
        refine wpKY.done (by kernel_rfl) ?_ _
        have HB4 := hid (And.intro HE.out.n0B (And.intro HE.out.BW (And.intro HK0.out.size HR4.out.2.size)))
        have HKB : Hid (∀ j ∈ blkN (d + 1) nk, j < n0) := hid (fun j hj => HLOW.out j (by rw [blkN_succ]; exact List.mem_cons_of_mem _ (List.mem_append_right _ (List.mem_flatMap.2 ⟨nk, HMEM.out, hj⟩))))
        clear r0 r1 r2 r3 h5 h6 hH hD0
        obtain ⟨w5, hw5⟩ : ∃ w5, w5 = w4.drew := ⟨_, rfl⟩
        try rw [← hw5]
        have HR5 : Hid (J (pre ++ flR t (thgF (d + 1) (n.ks.take k))) w5 ∧ KeepR n0 B W w5) := hid (by
          rw [hw5]
          exact ⟨HE.out.grow _ _ _ HR4.out.1 (Below.refl w4.heap.size w4).drew, HR4.out.2.trans (KeepR.of_below (Below.refl w4.heap.size w4).drew (by have := HB4.out; omega))⟩)
        have HN5 : Hid (NodeAt (d + 1) w5 nk) := hid (by rw [hw5]; exact HNK4.out.below (Below.refl w4.heap.size w4).drew)
        have hw0 := HIH.out m l g ba lb n0 B N t J Jx W0 w5 nk (pre ++ flR t (thgF (d + 1) (n.ks.take k))) HE.out (HK0.out.trans HR5.out.2) HN5.out HKB.out (HSH.out.kids nk HMEM.out).one HR5.out.1 (by
          have h1 := HNN.out
          have h2 := HPF.out.length_le
          rw [HTK.out, List.length_append] at h2
          rw [List.length_append]; omega) (by have := HD.out; omega)
        unfold ptrN at hw0
        rw [HNR.out.2.2] at hw0
        have HW0 := hid hw0
        clear hw0 hw5
        gi_wp2_with (refine ⟨trivial, ?_⟩; refine (callsIn_wide.2 HW0.out).mono ?_; rintro e w6 (⟨rfl, hj6, hk6⟩ | ⟨rfl, s6, hs6, hx6⟩))
        · have HR6 : Hid (J (pre ++ flR t (thgF (d + 1) (n.ks.take (k + 1)))) w6 ∧ KeepR n0 B W w6) := hid ⟨by rw [HTK.out, ← List.append_assoc]; exact hj6, HR5.out.2.trans hk6⟩
          clear hj6 hk6
          gi_wp2
          go_roundw
          case rel => exact ⟨k + 1, by go_num, by omega, HR6⟩
          case measure => simp [intOf]; omega
        · have HQ : Hid (WalkPost n0 B J Jx W pre (flR t (thgN (d + 1 + 1) n)) (.returned (.bool false)) w6) := hid (by
            right
            refine ⟨rfl, flR t (thgF (d + 1) (n.ks.take k)) ++ s6, ?_, by rw [← List.append_assoc]; exact hx6⟩
            exact List.IsPrefix.trans (by rw [HTK.out]; exact (List.prefix_append_right_inj _).2 hs6) HPF.out)
          clear hs6 hx6
          gi_wp2
          refine bodyPost_ret (results_tmp rfl _ _ _) rfl ?_
          exact HQ.out
    · have k1 : ¬ (k : Int) < (M : Int) := by omega
      have HQ : Hid (WalkPost n0 B J Jx W pre (flR t (thgN (d + 1 + 1) n)) (.returned (.bool true)) wr) := hid (by
        left
        refine ⟨rfl, ?_, HR.out.2⟩
        have := HR.out.1
        rw [List.take_of_length_le (by rw [HM.out]; omega)] at this
        exact this)
      gi_wp2
      refine bodyPost_ret (results_tmp rfl _ _ _) rfl ?_
      exact HQ.out
theorem walk_all : ∀ d, WalkSpec d
  | 0 => walk_zero
  | d + 1 => walk_succ d (walk_all d)
end Go.Proofs.YtjbnfppnmljbmaaGreat
end
section
/- Rtree's iterators: Meets, At, All. -/
namespace Go.Proofs.YtjbnfppnmljbmaaGreat
open Go.RowKit
open Go.Lib (hid)
set_option linter.unusedVariables false
attribute [local go_sem] Oper.semAt_some

/-- a test on rectangles, as a function value -/
structure TestAt (n0 B g : Nat) (ba lb : Array Value) (t : R4 → Bool) (W0 : World) : Prop where
  tst : ∀ W', KeepR n0 B W0 W' → ∀ r, Calls Tryz.prog g (ba ++ #[rV r] ++ lb) W' fun e W2 => e = .returned (.bool (t r)) ∧ Below W'.heap.size W' W2
  eg : ∀ args w, (callFunc g args).run Tryz.prog w = .ok (.enter g args) w
  mono : ∀ a b, InR a b → t a = true → t b = true
abbrev itV (bT bI : Nat) : Value := .func (.func 74) #[] #[.pointer (some ⟨bT, 0, none⟩), .pointer (some ⟨bI, 0, none⟩)]
set_option maxRecDepth 100000 in
set_option maxHeartbeats 1000000 in
theorem rt_where1 (m l g : Nat) (ba lb : Array Value) (n0 B : Nat) (t : R4 → Bool) (J Jx : List Tg → World → Prop) (W : World) (bT bI s d : Nat) (n : Nd) (cnt : Int)
    (env : WalkEnv m l g ba lb n0 B (flR t (thgN (d + 1) n)).length t J Jx W) (hT : Blk W bT #[.pointer (some ⟨s, 0, none⟩)]) (hI : Blk W bI #[.func (.func g) ba lb]) (ht : TreeAt W s d n cnt) (hl : ∀ k ∈ blkN (d + 1) n, k < n0) (h0 : J [] W) (hd : d ≤ 1000) :
    Calls Tryz.prog 74 #[.func (.yield l) #[] #[], .pointer (some ⟨bT, 0, none⟩), .pointer (some ⟨bI, 0, none⟩)] W fun e W' => e = .returned (.tuple #[]) ∧ (J (flR t (thgN (d + 1) n)) W' ∨ ∃ s, s <+: flR t (thgN (d + 1) n) ∧ Jx s W') := by
  have hwalk := walk_all d m l g ba lb n0 B _ t J Jx W W.drew n [] env (KeepR.of_below (Below.refl W.heap.size W).drew (Nat.le_trans env.n0B env.BW)) (ht.node.below (Below.refl W.heap.size W).drew) hl ht.sh (env.grow _ _ _ h0 (Below.refl W.heap.size W).drew) (by simp) hd
  have hb := ht.blk
  unfold ptrN at hb hwalk
  obtain ⟨p, hp⟩ : ∃ p, n.p = p := ⟨_, rfl⟩
  rw [hp] at hb hwalk
  have c0 : W.cell? ⟨s, 0, none⟩ = some (.pointer (some ⟨p, 0, none⟩)) := by rw [hb.cell]; rfl
  have t0 : W.cell? ⟨bT, 0, none⟩ = some (.pointer (some ⟨s, 0, none⟩)) := by rw [hT.cell]; rfl
  have i0 : W.cell? ⟨bI, 0, none⟩ = some (.func (.func g) ba lb) := by rw [hI.cell]; rfl
  have HW := hid (hwalk.mono (R' := fun e W' => ∃ b : Bool, e = .returned (.bool b) ∧ Hid (J (flR t (thgN (d + 1) n)) W' ∨ ∃ s, s <+: flR t (thgN (d + 1) n) ∧ Jx s W')) (fun e W' h => by
    rcases h with ⟨e1, h1, -⟩ | ⟨e1, s2, h2, h3⟩
    · exact ⟨true, e1, hid (.inl h1)⟩
    · exact ⟨false, e1, hid (.inr ⟨s2, h2, h3⟩)⟩))
  clear env hT hI ht hl h0 hd hb hp hwalk
  refine (callsIn_wide (n := 5)).1 ?_
  refine callsIn_of_wp Tryz.func74 rfl trivial ?_ rfl
  simp only [Tryz.ntmps74, List.size_toArray, List.length_cons, List.length_nil, Nat.reduceAdd, Nat.reduceSub, Array.replicate_succ, Array.replicate_zero, List.push_toArray, List.append_toArray, List.nil_append, List.cons_append]
  refine wpIn_region_keptY [6] (fun y => y = W.drew) (by kernel_rfl) (by rfl) (fun hH => ?_)
  refine wpKY.take (i := 0) (v := _) (by simp only [List.getElem?_toArray, List.getElem?_cons_succ, List.getElem?_cons_zero]; rfl) (by kernel_rfl) (by kernel_rfl) (by kernel_rfl) (by kernel_rfl) (by exact fun _ _ _ h => h) (by first | exact Or.inl ⟨by rfl, by intro w hSw; go_simp; try with_reducible rfl⟩ | exact Or.inr ⟨by rfl, rfl⟩) hH ?_
  try simp only [Act.put, List.setIfInBounds_toArray, List.set_cons_zero, List.set_cons_succ]
  refine wpKY.take (i := 1) (v := _) (by simp only [List.getElem?_toArray, List.getElem?_cons_succ, List.getElem?_cons_zero]; rfl) (by kernel_rfl) (by kernel_rfl) (by kernel_rfl) (by kernel_rfl) (by exact fun _ _ _ h => h) (by first | exact Or.inl ⟨by rfl, by intro w hSw; go_simp; try with_reducible rfl⟩ | exact Or.inr ⟨by rfl, rfl⟩) hH ?_
  try simp only [Act.put, List.setIfInBounds_toArray, List.set_cons_zero, List.set_cons_succ]
  refine wpKY.take (i := 2) (v := _) (by simp only [List.getElem?_toArray, List.getElem?_cons_succ, List.getElem?_cons_zero]; rfl) (by kernel_rfl) (by kernel_rfl) (by kernel_rfl) (by kernel_rfl) (by exact fun _ _ _ h => h) (by first | exact Or.inl ⟨by rfl, by intro w hSw; go_simp; try with_reducible rfl⟩ | exact Or.inr ⟨by rfl, rfl⟩) hH ?_
  try simp only [Act.put, List.setIfInBounds_toArray, List.set_cons_zero, List.set_cons_succ]
  refine wpKY.take (i := 3) (v := _) (by simp only [List.getElem?_toArray, List.getElem?_cons_succ, List.getElem?_cons_zero]; rfl) (by kernel_rfl) (by kernel_rfl) (by kernel_rfl) (by kernel_rfl) (by exact fun _ _ _ h => h) (by first | exact Or.inl ⟨by rfl, by intro w hSw; go_simp; try with_reducible rfl⟩ | exact Or.inr ⟨by rfl, rfl⟩) hH ?_
  try simp only [Act.put, List.setIfInBounds_toArray, List.set_cons_zero, List.set_cons_succ]
  refine wpKY.take (i := 4) (v := _) (by simp only [List.getElem?_toArray, List.getElem?_cons_succ, List.getElem?_cons_zero]; rfl) (by kernel_rfl) (by kernel_rfl) (by kernel_rfl) (by kernel_rfl) (by exact fun _ _ _ h => h) (by first | exact Or.inl ⟨by rfl, by intro w hSw; go_simp; try with_reducible rfl⟩ | exact Or.inr ⟨by rfl, rfl⟩) hH ?_
  try simp only [Act.put, List.setIfInBounds_toArray, List.set_cons_zero, List.set_cons_succ]
  refine wpKY.take (i := 5) (v := _) (by simp only [List.getElem?_toArray, List.getElem?_cons_succ, List.getElem?_cons_zero]; rfl) (by kernel_rfl) (by kernel_rfl) (by kernel_rfl) (by kernel_rfl) (by exact fun _ _ _ h => h) (by first | exact Or.inl ⟨by rfl, by intro w hSw; go_simp; try with_reducible rfl⟩ | exact Or.inr ⟨by rfl, rfl⟩) hH ?_
  try simp only [Act.put, List.setIfInBounds_toArray, List.set_cons_zero, List.set_cons_succ]
  refine wpKY.late (i := 6) (by kernel_rfl) (by simp only [List.getElem?_toArray, List.getElem?_cons_succ, List.getElem?_cons_zero]; rfl) (by kernel_rfl) (fun K hK => ?_)
  go_simp
  refine ⟨trivial, ?_⟩; refine (callsIn_wide.2 HW.out).mono ?_; rintro e W2 ⟨b, rfl, HB⟩; go_simp
  refine hK.out _ _ ?_
  clear hK K
  try simp only [Act.put, List.setIfInBounds_toArray, List.set_cons_zero, List.set_cons_succ]
  refine wpKY.done (by kernel_rfl) ?_ _
  go_end0
  exact ⟨rfl, HB.out⟩
set_option maxRecDepth 100000 in
theorem rt_where (w : World) (s g : Nat) (ba lb : Array Value) :
    Calls Tryz.prog 52 #[.pointer (some ⟨s, 0, none⟩), .func (.func g) ba lb] w fun e w' => ∃ bT bI, e = .returned (itV bT bI) ∧ Blk w' bT #[.pointer (some ⟨s, 0, none⟩)] ∧ Blk w' bI #[.func (.func g) ba lb] ∧ Below w.heap.size w w' := by
  go_enter Tryz.func52, Tryz.ntmps52
  go_wp2_with fail
  go_ret
  refine ⟨w.heap.size, w.heap.size + 1, rfl, (Blk.new w _ _).below (Below.new _ _), ?_, Below.next (Below.new _ _) (Below.new _ _)⟩
  have := Blk.new (w.alloc (.cells #[.pointer (some ⟨s, 0, none⟩)] 73)) #[.func (.func g) ba lb] 40
  simpa using this
/-- the iterator stops, or comes to its end -/
theorem stops_where (bT bI s d g : Nat) (n : Nd) (cnt : Int) (n0 : Nat) (ba lb : Array Value) (t : R4 → Bool) (w0 : World) (hn0 : n0 ≤ w0.heap.size)
    (hT : Blk w0 bT #[.pointer (some ⟨s, 0, none⟩)]) (hI : Blk w0 bI #[.func (.func g) ba lb]) (ht : TreeAt w0 s d n cnt) (hl : ∀ k ∈ blkN (d + 1) n, k < n0) (hd : d ≤ 1000) (hte : TestAt n0 w0.heap.size g ba lb t w0) :
    SeqStopsK Fence.wide 4 Tryz.prog 74 #[.pointer (some ⟨bT, 0, none⟩), .pointer (some ⟨bI, 0, none⟩)] (fun x : Tg => #[rV x.1, .int .i64 x.2]) (KeepR n0 w0.heap.size) (fun ys => ys = flR t (thgN (d + 1) n)) (fun pre => pre <+: flR t (thgN (d + 1) n)) (flR t (thgN (d + 1) n)).length w0 := by
  intro l J Jx W hW hJ _ hY h0
  have env : WalkEnv 3 l g ba lb n0 w0.heap.size (flR t (thgN (d + 1) n)).length t J Jx W := ⟨hY, fun W' hk r => hte.tst W' ((KeepR.of_below hW hn0).trans hk) r, hte.eg, hte.mono, fun pre W1 W2 h hb => hJ pre W1 W2 none h (grown_belowR hb) (fun r e => by cases e), hn0, hW.size⟩
  refine callsIn_wide.2 ((rt_where1 3 l g ba lb n0 w0.heap.size t J Jx W bT bI s d n cnt env (hT.below hW) (hI.below hW) (ht.below hW) hl h0 hd).mono ?_)
  rintro e W' ⟨rfl, h | ⟨s2, h2, h3⟩⟩
  · exact ⟨⟨_, rfl⟩, .inl ⟨_, rfl, h⟩⟩
  · exact ⟨⟨_, rfl⟩, .inr ⟨s2, h2, h3⟩⟩
theorem test_All (n0 B : Nat) (W0 : World) : TestAt n0 B 71 #[] #[] rightR W0 :=
  ⟨fun W' _ r => by simpa using rect_Right r _ (hid rfl) W', fun args w => by simp [callFunc, go_sem]; kernel_rfl, fun a b h _ => (rightR_iff b).2 h.2.1⟩
end Go.Proofs.YtjbnfppnmljbmaaGreat
end
