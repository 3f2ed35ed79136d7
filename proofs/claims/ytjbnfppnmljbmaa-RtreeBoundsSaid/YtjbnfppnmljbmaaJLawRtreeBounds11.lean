/- Joined texts, in this order: RegionY. Each one's first remark says what it proves; no condition beyond those that its theorems name. -/
import Derived.Test.YtjbnfppnmljbmaaJLawRtreeBounds03
import Derived.OrdersIn
import Derived.RangeFuncCalls
section
/- A region that draws its order, inside the wide fence: reads are taken first while S holds; the operations of 'ex' wait for all others. No program in sight. -/
namespace Go.Proofs.Ytjbnfppnmljbmaa
set_option linter.unusedVariables false
section
variable {P : Program} {ops : Array Oper} {Q : Exit → Act → World → Prop} {md : Region.Mode} {S : World → Prop} {ex : List Nat} {m : Nat}

theorem YieldsIf.wpOpIn {i : Nat} {o : Oper} {v : Value} {a : Act} (hi : ops[i]? = some o) (hy : YieldsIf P ops S o v a)
    {K : Act → World → Prop} {w : World} (hS : S w) (h : K (a.put o.dst v) w) : wpOpIn Fence.wide m P ops Q i K a w := by
  unfold Go.wpOpIn
  simp only [hi]
  rcases hy with ⟨hw, hv⟩ | ⟨hw, rfl⟩
  · have hro : Fence.wide.round = none := rfl
    simp only [hw, if_true, Oper.wpIn, hro, Oper.semAt_none, hv w hS, Oper.uponIn]
    exact ⟨fun _ _ => trivial, h⟩
  · simp only [hw, Bool.false_eq_true, if_false]; exact ⟨fun _ _ => trivial, h⟩
theorem wpOpIn_putIf {j : Nat} {oi oj : Oper} {v : Value} (hj : ops[j]? = some oj) (hap : oi.apart ops oj = true)
    (hsi : ∀ cs b, oi.op ≠ .select cs b) (hsj : ∀ cs b, oj.op ≠ .select cs b)
    (hQ : ∀ c a w, Q (.panic c) (a.put oi.dst v) w → Q (.panic c) a w) {K : Act → World → Prop} {a : Act} {w : World}
    (hy : YieldsIf P ops S oi v a) (h : wpOpIn Fence.wide m P ops Q j K (a.put oi.dst v) w) :
    wpOpIn Fence.wide m P ops Q j (fun a' w' => YieldsIf P ops S oi v a' ∧ K (a'.put oi.dst v) w') a w := by
  have hro : Fence.wide.round = none := rfl
  obtain ⟨h1, h2, h3⟩ := Oper.apart_spec hap
  have keep : ∀ (a : Act), YieldsIf P ops S oi v a → ∀ u, YieldsIf P ops S oi v (a.put oj.dst u) := fun a hy u =>
    hy.of_same (execOp_put oi hsi a oj.dst u h3) (wanted_put oi a oj.dst u h3)
  have keepD : ∀ d, YieldsIf P ops S oi v { a with defers := d :: a.defers } := fun d => hy.of_same rfl rfl
  unfold wpOpIn at *
  simp only [hj] at *
  rw [wanted_put oj a oi.dst v h1] at h
  split
  · rename_i hw
    simp only [hw, if_true] at h
    unfold Oper.wpIn at *
    refine ⟨fun _ _ => trivial, ?_⟩
    have h := h.2
    rw [hro, Oper.semAt_none, execOp_put oj hsj a oi.dst v h1] at h
    rw [hro, Oper.semAt_none]
    generalize (execOp a.eval oj).run P w = r at *
    cases r with
    | ok x w' =>
      cases x <;> simp only [Oper.uponIn] at h ⊢
      case value u => exact ⟨keep a hy u, by rw [← Act.put_comm a v u h2]; exact h⟩
      case skip => exact ⟨keep a hy _, by rw [← Act.put_comm a v undef h2]; exact h⟩
      case defer d =>
        refine ⟨keep _ (keepD d) _, ?_⟩
        rw [← Act.put_comm _ v undef h2, ← Act.put_defers]
        exact h
      case enter f args =>
        refine ⟨h.1, CallsIn.mono h.2 fun e w'' he => ?_⟩
        cases e with
        | returned u => exact ⟨keep a hy u, by rw [← Act.put_comm a v u h2]; exact he⟩
        | panicked c => exact hQ _ _ _ he
        | outgrown => exact he
      case row row args => exact ⟨h.1, RowsIn.mono h.2 fun u w'' he => ⟨keep a hy u, by rw [← Act.put_comm a v u h2]; exact he⟩⟩
      case round l f tmps assign body =>
        refine ⟨h.1, RoundIn.mono h.2 fun e w'' he => ?_⟩
        cases e with
        | returned u => exact ⟨keep a hy u, by rw [← Act.put_comm a v u h2]; exact he⟩
        | panicked c => exact hQ _ _ _ he
        | outgrown => exact he
    | halt x w' =>
      cases x <;> simp only [Oper.uponIn] at h ⊢
      case panic u => exact hQ _ _ _ h
  · rename_i hw
    simp only [hw] at h
    exact ⟨fun _ _ => trivial, keep a hy _, by rw [← Act.put_comm a v undef h2]; exact h.2⟩
/-- whatever is listed has all that it waits for listed -/
def closedL (md : Region.Mode) (ops : Array Oper) (l : Array Bool) : Bool :=
  (List.range ops.size).all fun k => !(l.getD k false) || ((ops[k]?.map fun o => o.after.all fun e => !(Region.binds md e) || l.getD e.on false).getD false)
/-- j waits for i, through others too -/
def waitsL (md : Region.Mode) (ops : Array Oper) : Nat → Nat → Nat → Bool
  | 0, _, _ => false
  | f + 1, j, i => (ops[j]?.map fun o => o.after.any fun e => Region.binds md e && (e.on == i || waitsL md ops f e.on i)).getD false
def lateW (md : Region.Mode) (ops : Array Oper) (ex : List Nat) (l : Array Bool) (i : Nat) : Bool := closedL md ops l && ex.all fun j => waitsL md ops ops.size j i
def ClosedP (md : Region.Mode) (ops : Array Oper) (l : Array Bool) : Prop := ∀ k, k < ops.size → l.getD k false = true → ∃ o, ops[k]? = some o ∧ ∀ e ∈ o.after, Region.binds md e = true → l.getD e.on false = true
theorem closedL_spec {l : Array Bool} (h : closedL md ops l = true) : ClosedP md ops l := by
  intro k hk hl
  have h1 := List.all_eq_true.1 h k (List.mem_range.2 hk)
  rw [hl] at h1
  cases ho : ops[k]? with
  | none => rw [ho] at h1; simp at h1
  | some o =>
    rw [ho] at h1
    simp only [Bool.not_true, Bool.false_or, Option.map_some, Option.getD_some, Array.all_eq_true] at h1
    refine ⟨o, rfl, fun e he hb => ?_⟩
    obtain ⟨q, hq, rfl⟩ := Array.mem_iff_getElem.1 he
    have := h1 q hq
    rw [hb] at this
    simpa using this
theorem ClosedP.set {l : Array Bool} (h : ClosedP md ops l) {j : Nat} (hj : j ∈ Region.ready md ops l) : ClosedP md ops (l.setIfInBounds j true) := by
  intro k hk hl
  by_cases e : j = k
  · subst e
    obtain ⟨-, o, ho, hall⟩ := mem_ready.1 hj
    exact ⟨o, ho, fun e he hb => getD_set_true (hall e he hb)⟩
  · rw [getD_set_ne false e] at hl
    obtain ⟨o, ho, hall⟩ := h k hk hl
    exact ⟨o, ho, fun e he hb => getD_set_true (hall e he hb)⟩
theorem waits_listed {l : Array Bool} (hc : ClosedP md ops l) {i : Nat} : ∀ (f j : Nat), (∃ o, ops[j]? = some o ∧ ∀ e ∈ o.after, Region.binds md e = true → l.getD e.on false = true) → waitsL md ops f j i = true → l.getD i false = true
  | 0, _, _, h => by cases h
  | f + 1, j, ⟨o, ho, hall⟩, h => by
    unfold waitsL at h
    rw [ho] at h
    simp only [Option.map_some, Option.getD_some, Array.any_eq_true] at h
    obtain ⟨q, hq, hb⟩ := h
    rw [Bool.and_eq_true, Bool.or_eq_true] at hb
    have hl := hall _ (Array.getElem_mem hq) hb.1
    rcases hb.2 with e | e
    · rw [beq_iff_eq] at e
      rw [e] at hl; exact hl
    · have hsz : (o.after[q]).on < ops.size := by
        rcases Nat.lt_or_ge (o.after[q]).on ops.size with z | z
        · exact z
        · exfalso
          cases f with
          | zero => cases e
          | succ f => unfold waitsL at e; rw [Array.getElem?_eq_none z] at e; cases e
      exact waits_listed hc f _ (hc _ hsz hl) e
def wpKY (m : Nat) (P : Program) (md : Region.Mode) (ops : Array Oper) (Q : Exit → Act → World → Prop) (ex : List Nat) (S : World → Prop) : Nat → Array Bool → Act → World → Prop
  | 0, l, a, w => Region.ready md ops l = [] ∧ Q .normal a w
  | n + 1, l, a, w => (Region.ready md ops l = [] → Q .normal a w) ∧ ∀ i ∈ Region.ready md ops l, wpOpIn Fence.wide m P ops Q i (fun a' w' => (i ∈ ex ∨ S w') ∧ wpKY m P md ops Q ex S n (l.setIfInBounds i true) a' w') a w
theorem wpKY.any : ∀ (n : Nat) (l : Array Bool) (a : Act) (w : World), wpKY m P md ops Q ex S n l a w → wpAnyIn Fence.wide m P md ops Q n l a w
  | 0, _, _, _, h => h
  | n + 1, _, _, _, h => ⟨h.1, fun i hi => wpOpIn_mono (fun a' w' k => wpKY.any n _ a' w' k.2) (h.2 i hi)⟩
theorem wpKY.first {i : Nat} (hw : ∀ j ∈ ex, waitsL md ops ops.size j i = true) {oi : Oper} {v : Value} (hi : ops[i]? = some oi) (hsel : ∀ (j : Nat) (o : Oper) cs b, ops[j]? = some o → o.op ≠ .select cs b)
    (hQ : ∀ c a w, Q (.panic c) (a.put oi.dst v) w → Q (.panic c) a w) : ∀ (n : Nat) (l : Array Bool) (a : Act) (w : World), ClosedP md ops l →
      (∀ j oj, ops[j]? = some oj → j ≠ i → l.getD j true = false → (∀ e ∈ oj.after, Region.binds md e = true → e.on ≠ i) → oi.apart ops oj = true) →
      i ∈ Region.ready md ops l → YieldsIf P ops S oi v a → S w → wpKY m P md ops Q ex S n (l.setIfInBounds i true) (a.put oi.dst v) w → wpKY m P md ops Q ex S (n + 1) l a w := by
  have hno : ∀ (l : Array Bool) (j : Nat), ClosedP md ops l → i ∈ Region.ready md ops l → j ∈ Region.ready md ops l → j ∉ ex := by
    intro l j hc hir hjr hje
    have h1 := waits_listed hc ops.size j (mem_ready.1 hjr).2 (hw j hje)
    have h0 := (mem_ready.1 hir).1
    rcases Nat.lt_or_ge i l.size with h' | h'
    · simp [h'] at h0 h1; rw [h0] at h1; cases h1
    · simp [Array.getElem?_eq_none h'] at h1
  intro n
  induction n with
  | zero =>
    intro l a w hc hfree hr hy hS H
    refine ⟨fun h => (by rw [h] at hr; cases hr), fun j hj => ?_⟩
    by_cases hji : j = i
    · subst hji; exact YieldsIf.wpOpIn hi hy hS ⟨.inr hS, H⟩
    · have := ready_mono hj hji
      rw [H.1] at this
      cases this
  | succ n ih =>
    intro l a w hc hfree hr hy hS H
    refine ⟨fun h => (by rw [h] at hr; cases hr), fun j hj => ?_⟩
    by_cases hji : j = i
    · subst hji; exact YieldsIf.wpOpIn hi hy hS ⟨.inr hS, H⟩
    · have hjx := hno l j hc hr hj
      obtain ⟨hjun, oj, hoj, hall⟩ := mem_ready.1 hj
      have hnot : ∀ e ∈ oj.after, Region.binds md e = true → e.on ≠ i := fun e he hb heq => by
        have h1 := hall e he hb
        have h0 := (mem_ready.1 hr).1
        rw [heq] at h1
        rcases Nat.lt_or_ge i l.size with h' | h'
        · simp [h'] at h0 h1; rw [h0] at h1; cases h1
        · simp [Array.getElem?_eq_none h'] at h1
      have h2 := wpOpIn_putIf hoj (hfree j oj hoj hji hjun hnot) (fun cs b => hsel i oi cs b hi) (fun cs b => hsel j oj cs b hoj) hQ hy (H.2 j (ready_mono hj hji))
      refine wpOpIn_mono (fun a' w' k => ?_) h2
      have hS' : S w' := k.2.1.resolve_left hjx
      refine ⟨.inr hS', ih _ a' w' (hc.set hj) (fun m om hm hmi hun hno' => ?_) (ready_mono hr (Ne.symm hji)) k.1 hS' (by rw [Array.setIfInBounds_comm _ _ hji]; exact k.2.2)⟩
      refine hfree m om hm hmi ?_ hno'
      by_cases hjm : j = m
      · subst hjm; exact hjun
      · rw [getD_set_ne true hjm] at hun; exact hun
theorem wpKY.take {i : Nat} {oi : Oper} {v : Value} {n : Nat} {l : Array Bool} {a : Act} {w : World} (hi : ops[i]? = some oi) (hex : lateW md ops ex l i = true)
    (hs : Region.noSelect ops = true) (hf : Region.free md ops l i = true) (hr : (Region.ready md ops l).contains i = true)
    (hQ : ∀ c a w, Q (.panic c) (a.put oi.dst v) w → Q (.panic c) a w) (hy : YieldsIf P ops S oi v a) (hS : S w)
    (h : wpKY m P md ops Q ex S n (l.setIfInBounds i true) (a.put oi.dst v) w) : wpKY m P md ops Q ex S (n + 1) l a w := by
  rw [lateW, Bool.and_eq_true, List.all_eq_true] at hex
  exact wpKY.first hex.2 hi (Region.noSelect_spec hs) hQ n l a w (closedL_spec hex.1) (Region.free_spec hi hf) (by simpa using hr) hy hS h
theorem wpKY.step {i : Nat} {oi : Oper} {n : Nat} {l : Array Bool} {a : Act} {w : World} (hr : Region.ready md ops l = [i]) (ho : ops[i]? = some oi)
    (h : ∀ K' : Act → World → Prop, Shut (∀ a w, S w → (S w → wpKY m P md ops Q ex S n (l.setIfInBounds i true) a w) → K' a w) → if Region.wanted oi (yielded ops a.tmps) = true then Oper.wpIn Fence.wide m P oi a w K' Q else (∀ f, oi.about P w a.eval = some f → Fence.wide.fn f) ∧ K' (a.put oi.dst undef) w) :
    wpKY m P md ops Q ex S (n + 1) l a w := by
  refine ⟨fun h0 => (by rw [hr] at h0; cases h0), fun j hj => ?_⟩
  rw [hr] at hj
  obtain rfl := List.mem_singleton.1 hj
  exact wpOpIn_step ho (fun K' hK => h K' (fun a w hS hW => hK a w ⟨.inr hS, hW hS⟩))
theorem wpKY.late {i : Nat} {oi : Oper} {n : Nat} {l : Array Bool} {a : Act} {w : World} (hr : Region.ready md ops l = [i]) (ho : ops[i]? = some oi) (hin : ex.contains i = true)
    (h : ∀ K' : Act → World → Prop, Shut (∀ a w, wpKY m P md ops Q ex S n (l.setIfInBounds i true) a w → K' a w) → if Region.wanted oi (yielded ops a.tmps) = true then Oper.wpIn Fence.wide m P oi a w K' Q else (∀ f, oi.about P w a.eval = some f → Fence.wide.fn f) ∧ K' (a.put oi.dst undef) w) :
    wpKY m P md ops Q ex S (n + 1) l a w := by
  refine ⟨fun h0 => (by rw [hr] at h0; cases h0), fun j hj => ?_⟩
  rw [hr] at hj
  obtain rfl := List.mem_singleton.1 hj
  exact wpOpIn_step ho (fun K' hK => h K' (fun a w hW => hK a w ⟨.inl (by simpa using hin), hW⟩))
theorem wpKY.done {l : Array Bool} {a : Act} {w : World} (hr : Region.ready md ops l = []) (h : Q .normal a w) : ∀ n, wpKY m P md ops Q ex S n l a w
  | 0 => ⟨hr, h⟩
  | _ + 1 => ⟨fun _ => h, by rw [hr]; simp⟩
theorem wpIn_region_keptY (ex : List Nat) (S : World → Prop) {id : Nat} {a : Act} {w : World} (hm : P.follows .mixedOrders = true) (hS : S w.drew)
    (h : S w.drew → wpKY m P .any ops Q ex S ops.size (Array.replicate ops.size false) a w.drew) : (Code.region id ops true).wpIn Fence.wide m P Q a w :=
  wpIn_region_any hm (wpKY.any _ _ _ _ (h hS))
end
end Go.Proofs.Ytjbnfppnmljbmaa
end
