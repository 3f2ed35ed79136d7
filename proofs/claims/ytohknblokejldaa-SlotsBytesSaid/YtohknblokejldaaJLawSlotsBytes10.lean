/- Joined texts, in this order: Region, IntsEq, SealMath, SealHalves. Each one's first remark says what it proves; no condition beyond those that its theorems name. -/
import Derived.WalkKit
import Derived.Lib.Hide
import Derived.Deep.RegionHeld
import Derived.Test.YtohknblokejldaaJLawSlotsBytes09
import Derived.Test.YtohknblokejldaaJLawSlotsBytes03
import Derived.Test.YtohknblokejldaaJLawSlotsBytes01
import Derived.Test.YtohknblokejldaaProg
section
/- A region that draws its order: reads are taken first while S holds; the operations of 'ex' wait for all others, and behind them S need not hold. No program in sight. -/
namespace Go.Proofs.Ytohknblokejldaa
set_option linter.unusedVariables false
section
variable {P : Program} {ops : Array Oper} {Q : Exit → Act → World → Prop} {md : Region.Mode} {S : World → Prop} {ex : List Nat}

/-- the operations of ex wait for all that are not of ex -/
def lateOk (md : Region.Mode) (ops : Array Oper) (ex : List Nat) : Bool :=
  ex.all fun j => (List.range ops.size).all fun k => ex.contains k || ((ops[j]?.map fun o => o.after.any fun e => Region.binds md e && e.on == k).getD false)
theorem lateOk_spec (h : lateOk md ops ex = true) {j i : Nat} (hj : j ∈ ex) (hi : i < ops.size) (hn : i ∉ ex) : ∃ o, ops[j]? = some o ∧ ∃ e ∈ o.after, Region.binds md e = true ∧ e.on = i := by
  have h1 := List.all_eq_true.1 (List.all_eq_true.1 h j hj) i (List.mem_range.2 hi)
  rw [Bool.or_eq_true] at h1
  rcases h1 with h2 | h2
  · exact absurd (by simpa using h2) hn
  · cases ho : ops[j]? with
    | none => rw [ho] at h2; simp at h2
    | some o =>
      rw [ho] at h2
      simp only [Option.map_some, Option.getD_some, Array.any_eq_true] at h2
      obtain ⟨m, hm, hb⟩ := h2
      simp only [Bool.and_eq_true, beq_iff_eq] at hb
      exact ⟨o, rfl, o.after[m], Array.getElem_mem hm, hb.1, hb.2⟩

def wpK (P : Program) (md : Region.Mode) (ops : Array Oper) (Q : Exit → Act → World → Prop) (ex : List Nat) (S : World → Prop) : Nat → Array Bool → Act → World → Prop
  | 0, l, a, w => Region.ready md ops l = [] ∧ Q .normal a w
  | n + 1, l, a, w => (Region.ready md ops l = [] → Q .normal a w) ∧ ∀ i ∈ Region.ready md ops l, wpOp P ops Q i (fun a' w' => (i ∈ ex ∨ S w') ∧ wpK P md ops Q ex S n (l.setIfInBounds i true) a' w') a w
theorem wpK.any : ∀ (n : Nat) (l : Array Bool) (a : Act) (w : World), wpK P md ops Q ex S n l a w → wpAny P md ops Q n l a w
  | 0, _, _, _, h => h
  | n + 1, _, _, _, h => ⟨h.1, fun i hi => wpOp_mono (fun a' w' k => wpK.any n _ a' w' k.2) (h.2 i hi)⟩

theorem wpK.first (hex : lateOk md ops ex = true) {i : Nat} {oi : Oper} {v : Value} (hi : ops[i]? = some oi) (hin : i ∉ ex) (hsel : ∀ (j : Nat) (o : Oper) cs b, ops[j]? = some o → o.op ≠ .select cs b)
    (hQ : ∀ c a w, Q (.panic c) (a.put oi.dst v) w → Q (.panic c) a w) : ∀ (n : Nat) (l : Array Bool) (a : Act) (w : World),
      (∀ j oj, ops[j]? = some oj → j ≠ i → l.getD j true = false → (∀ e ∈ oj.after, Region.binds md e = true → e.on ≠ i) → oi.apart ops oj = true) →
      i ∈ Region.ready md ops l → YieldsIf P ops S oi v a → S w → wpK P md ops Q ex S n (l.setIfInBounds i true) (a.put oi.dst v) w → wpK P md ops Q ex S (n + 1) l a w := by
  -- an operation of ex does not come up while i has not
  have hno : ∀ (l : Array Bool) (j : Nat), i ∈ Region.ready md ops l → j ∈ Region.ready md ops l → j ∉ ex := by
    intro l j hir hjr hje
    obtain ⟨o, ho, e, he, hb, hon⟩ := lateOk_spec hex hje (Array.getElem?_eq_some_iff.1 hi).1 hin
    obtain ⟨-, o', ho', hall⟩ := mem_ready.1 hjr
    obtain rfl : o = o' := by rw [ho] at ho'; exact Option.some.inj ho'
    have h1 := hall e he hb
    have h0 := (mem_ready.1 hir).1
    rw [hon] at h1
    rcases Nat.lt_or_ge i l.size with h' | h'
    · simp [h'] at h0 h1; rw [h0] at h1; cases h1
    · simp [Array.getElem?_eq_none h'] at h1
  intro n
  induction n with
  | zero =>
    intro l a w hfree hr hy hS H
    refine ⟨fun h => (by rw [h] at hr; cases hr), fun j hj => ?_⟩
    by_cases hji : j = i
    · subst hji; exact hy.wpOp hi hS ⟨.inr hS, H⟩
    · have := ready_mono hj hji
      rw [H.1] at this
      cases this
  | succ n ih =>
    intro l a w hfree hr hy hS H
    refine ⟨fun h => (by rw [h] at hr; cases hr), fun j hj => ?_⟩
    by_cases hji : j = i
    · subst hji; exact hy.wpOp hi hS ⟨.inr hS, H⟩
    · have hjx := hno l j hr hj
      obtain ⟨hjun, oj, hoj, hall⟩ := mem_ready.1 hj
      have hnot : ∀ e ∈ oj.after, Region.binds md e = true → e.on ≠ i := fun e he hb heq => by
        have h1 := hall e he hb
        have h0 := (mem_ready.1 hr).1
        rw [heq] at h1
        rcases Nat.lt_or_ge i l.size with h' | h'
        · simp [h'] at h0 h1; rw [h0] at h1; cases h1
        · simp [Array.getElem?_eq_none h'] at h1
      have h2 := wpOp_putIf hoj (hfree j oj hoj hji hjun hnot) (fun cs b => hsel i oi cs b hi) (fun cs b => hsel j oj cs b hoj) hQ hy (H.2 j (ready_mono hj hji))
      refine wpOp_mono (fun a' w' k => ?_) h2
      have hS' : S w' := k.2.1.resolve_left hjx
      refine ⟨.inr hS', ih _ a' w' (fun m om hm hmi hun hno' => ?_) (ready_mono hr (Ne.symm hji)) k.1 hS' (by rw [Array.setIfInBounds_comm _ _ hji]; exact k.2.2)⟩
      refine hfree m om hm hmi ?_ hno'
      by_cases hjm : j = m
      · subst hjm; exact hjun
      · rw [getD_set_ne true hjm] at hun; exact hun

/-- operation i is taken first -/
theorem wpK.take {i : Nat} {oi : Oper} {v : Value} {n : Nat} {l : Array Bool} {a : Act} {w : World} (hi : ops[i]? = some oi) (hex : lateOk md ops ex = true) (hin : ex.contains i = false)
    (hs : Region.noSelect ops = true) (hf : Region.free md ops l i = true) (hr : (Region.ready md ops l).contains i = true)
    (hQ : ∀ c a w, Q (.panic c) (a.put oi.dst v) w → Q (.panic c) a w) (hy : YieldsIf P ops S oi v a) (hS : S w)
    (h : wpK P md ops Q ex S n (l.setIfInBounds i true) (a.put oi.dst v) w) : wpK P md ops Q ex S (n + 1) l a w :=
  wpK.first hex hi (by simpa using hin) (Region.noSelect_spec hs) hQ n l a w (Region.free_spec hi hf) (by simpa using hr) hy hS h
/-- operation i alone may come up now -/
theorem wpK.step {i : Nat} {oi : Oper} {n : Nat} {l : Array Bool} {a : Act} {w : World} (hr : Region.ready md ops l = [i]) (ho : ops[i]? = some oi)
    (h : ∀ K' : Act → World → Prop, Shut (∀ a w, S w → (S w → wpK P md ops Q ex S n (l.setIfInBounds i true) a w) → K' a w) → if Region.wanted oi (yielded ops a.tmps) = true then Oper.wp P oi a w K' Q else K' (a.put oi.dst undef) w) :
    wpK P md ops Q ex S (n + 1) l a w := by
  refine ⟨fun h0 => (by rw [hr] at h0; cases h0), fun j hj => ?_⟩
  rw [hr] at hj
  obtain rfl := List.mem_singleton.1 hj
  exact wpOp_step ho (fun K' hK => h K' (fun a w hS hW => hK a w ⟨.inr hS, hW hS⟩))
/-- one of two comes up now -/
theorem wpK.two {i j : Nat} {oi oj : Oper} {n : Nat} {l : Array Bool} {a : Act} {w : World} (hr : Region.ready md ops l = [i, j]) (ho : ops[i]? = some oi) (ho' : ops[j]? = some oj)
    (h : ∀ K' : Act → World → Prop, Shut (∀ a w, S w → (S w → wpK P md ops Q ex S n (l.setIfInBounds i true) a w) → K' a w) → if Region.wanted oi (yielded ops a.tmps) = true then Oper.wp P oi a w K' Q else K' (a.put oi.dst undef) w)
    (h' : ∀ K' : Act → World → Prop, Shut (∀ a w, S w → (S w → wpK P md ops Q ex S n (l.setIfInBounds j true) a w) → K' a w) → if Region.wanted oj (yielded ops a.tmps) = true then Oper.wp P oj a w K' Q else K' (a.put oj.dst undef) w) :
    wpK P md ops Q ex S (n + 1) l a w := by
  refine ⟨fun h0 => (by rw [hr] at h0; cases h0), fun k hk => ?_⟩
  rw [hr] at hk
  rcases List.mem_cons.1 hk with rfl | hk
  · exact wpOp_step ho (fun K' hK => h K' (fun a w hS hW => hK a w ⟨.inr hS, hW hS⟩))
  · obtain rfl := List.mem_singleton.1 hk
    exact wpOp_step ho' (fun K' hK => h' K' (fun a w hS hW => hK a w ⟨.inr hS, hW hS⟩))
/-- the same, of an operation behind which S need not hold -/
theorem wpK.late {i : Nat} {oi : Oper} {n : Nat} {l : Array Bool} {a : Act} {w : World} (hr : Region.ready md ops l = [i]) (ho : ops[i]? = some oi) (hin : ex.contains i = true)
    (h : ∀ K' : Act → World → Prop, Shut (∀ a w, wpK P md ops Q ex S n (l.setIfInBounds i true) a w → K' a w) → if Region.wanted oi (yielded ops a.tmps) = true then Oper.wp P oi a w K' Q else K' (a.put oi.dst undef) w) :
    wpK P md ops Q ex S (n + 1) l a w := by
  refine ⟨fun h0 => (by rw [hr] at h0; cases h0), fun j hj => ?_⟩
  rw [hr] at hj
  obtain rfl := List.mem_singleton.1 hj
  exact wpOp_step ho (fun K' hK => h K' (fun a w hW => hK a w ⟨.inl (by simpa using hin), hW⟩))
theorem wpK.done {l : Array Bool} {a : Act} {w : World} (hr : Region.ready md ops l = []) (h : Q .normal a w) : ∀ n, wpK P md ops Q ex S n l a w
  | 0 => ⟨hr, h⟩
  | _ + 1 => ⟨fun _ => h, by rw [hr]; simp⟩
theorem wp_region_kept (ex : List Nat) (S : World → Prop) {id : Nat} {a : Act} {w : World} (hm : P.follows .mixedOrders = true) (hS : S w.drew)
    (h : S w.drew → wpK P .any ops Q ex S ops.size (Array.replicate ops.size false) a w.drew) : (Code.region id ops true).wp P Q a w :=
  wp_region_any hm (wpK.any _ _ _ _ (h hS))
end
end Go.Proofs.Ytohknblokejldaa
end
section
/- Contract: slices.Equal of numbers. -/
namespace Go.Proofs.Ytohknblokejldaa
open Go.RowKit
open Go.Lib (hid)
set_option linter.unusedVariables false

set_option maxRecDepth 100000 in
set_option maxHeartbeats 1000000 in
theorem sl_EqualI (l1 l2 : List Int) (v1 v2 : Value) (w : World) (h1 : SlI w v1 l1) (h2 : SlI w v2 l2) (b : Bool) (hb : Hid (decide (l1 = l2) = b)) :
    Calls Try.prog 51 #[v1, v2] w fun e w' => e = .returned (.bool b) ∧ Below w.heap.size w w' := by
  have H1 := hid h1
  have H2 := hid h2
  obtain ⟨a1, c1, rfl, -, q1, q2, -⟩ := h1
  obtain ⟨a2, c2, rfl, -, q3, q4, -⟩ := h2
  have hn1 : l1.length ≤ 9223372036854775807 := by omega
  have hn2 : l2.length ≤ 9223372036854775807 := by omega
  clear q1 q2 q3 q4
  by_cases hlen : l1.length = l2.length
  case neg =>
    have hq : ((l1.length : Int) != (l2.length : Int)) = true := by simp; omega
    have hne : ¬ l1 = l2 := fun q => hlen (by rw [q])
    have hb2 := hb.out
    rw [decide_eq_false hne] at hb2
    subst hb2
    have HB := hid (Below.refl w.heap.size w)
    clear hlen hne
    go_enter Try.func51, Try.ntmps51
    go_wp2
    go_ret
    exact ⟨rfl, HB.out⟩
  have hq : ((l1.length : Int) != (l2.length : Int)) = false := by simp; omega
  have HL := hid hlen
  clear hlen
  go_enter Try.func51, Try.ntmps51
  go_wp2
  go_loopw [5, 13] (fun v5 v13 wr => ∃ (k : Nat), v13 = .int .i64 k ∧ k ≤ l1.length ∧ Hid (decide (l1.drop k = l2.drop k) = b) ∧ Hid (Below w.heap.size w wr)) (fun _ v13 _ => l1.length - (intOf v13).toNat)
  case atStart => exact ⟨0, rfl, by omega, hb, hid (Below.refl _ _)⟩
  case round =>
    obtain ⟨k, rfl, hk, hs, HB⟩ := hrel
    by_cases hlt : k < l1.length
    · obtain ⟨a1', c1', e1, hr1, -⟩ := H1.out.below HB.out
      obtain ⟨a2', c2', e2, hr2, -⟩ := H2.out.below HB.out
      simp only [Value.slice.injEq] at e1 e2
      obtain ⟨rfl, -, rfl⟩ := e1
      obtain ⟨rfl, -, rfl⟩ := e2
      have hlt2 : k < l2.length := by have := HL.out; omega
      obtain ⟨b1, o1, y1, rfl, hc1, -, hd1, -, -⟩ := hr1.int k hlt
      obtain ⟨b2, o2, y2, rfl, hc2, -, hd2, -, -⟩ := hr2.int k hlt2
      have hw1 : ∀ x, Below wr.heap.size wr x → x.cell? ⟨b1, o1 + k, none⟩ = some (.int .i64 y1) := fun x hb => by rw [← hc1]; exact World.cell?_of_block (hb.block _ (World.block_lt_of_cell? wr _ hc1))
      have hw2 : ∀ x, Below wr.heap.size wr x → x.cell? ⟨b2, o2 + k, none⟩ = some (.int .i64 y2) := fun x hb => by rw [← hc2]; exact World.cell?_of_block (hb.block _ (World.block_lt_of_cell? wr _ hc2))
      have j0 : (k : Int) < (l2.length : Int) := by omega
      have h3 := hs.out
      rw [hd1, hd2] at h3
      have hk0 := (Below.refl wr.heap.size wr).drew
      by_cases hx : y1 = y2
      · have hxb : (y1 != y2) = false := by simpa using hx
        have h4 : decide (l1.drop (k + 1) = l2.drop (k + 1)) = b := by rw [← h3]; simp [hx]
        have H4 := hid h4
        have HB2 := hid (Below.next HB.out hk0)
        clear h3 h4 hx hd1 hd2 hr1 hr2 hc1 hc2
        go_wp2_with fail
        refine wp_region_kept [] (fun x => Below wr.heap.size wr x) (by kernel_rfl) (by assumption) (fun hH => ?_)
        refine wpK.take (i := 0) (v := _) (by simp only [List.getElem?_toArray, List.getElem?_cons_succ, List.getElem?_cons_zero]; rfl) (by kernel_rfl) (by kernel_rfl) (by kernel_rfl) (by kernel_rfl) (by kernel_rfl) (by exact fun _ _ _ h => h) (by first | exact Or.inl ⟨by rfl, by intro w hSw; go_simp; try with_reducible rfl⟩ | exact Or.inr ⟨by rfl, rfl⟩) hH ?_
        try simp only [Act.put, List.setIfInBounds_toArray, List.set_cons_zero, List.set_cons_succ]
        refine wpK.take (i := 1) (v := _) (by simp only [List.getElem?_toArray, List.getElem?_cons_succ, List.getElem?_cons_zero]; rfl) (by kernel_rfl) (by kernel_rfl) (by kernel_rfl) (by kernel_rfl) (by kernel_rfl) (by exact fun _ _ _ h => h) (by first | exact Or.inl ⟨by rfl, by intro w hSw; go_simp; try with_reducible rfl⟩ | exact Or.inr ⟨by rfl, rfl⟩) hH ?_
        try simp only [Act.put, List.setIfInBounds_toArray, List.set_cons_zero, List.set_cons_succ]
        refine wpK.take (i := 2) (v := _) (by simp only [List.getElem?_toArray, List.getElem?_cons_succ, List.getElem?_cons_zero]; rfl) (by kernel_rfl) (by kernel_rfl) (by kernel_rfl) (by kernel_rfl) (by kernel_rfl) (by exact fun _ _ _ h => h) (by first | exact Or.inl ⟨by rfl, by intro w hSw; go_simp; try with_reducible rfl⟩ | exact Or.inr ⟨by rfl, rfl⟩) hH ?_
        try simp only [Act.put, List.setIfInBounds_toArray, List.set_cons_zero, List.set_cons_succ]
        refine wpK.take (i := 3) (v := _) (by simp only [List.getElem?_toArray, List.getElem?_cons_succ, List.getElem?_cons_zero]; rfl) (by kernel_rfl) (by kernel_rfl) (by kernel_rfl) (by kernel_rfl) (by kernel_rfl) (by exact fun _ _ _ h => h) (by first | exact Or.inl ⟨by rfl, by intro w hSw; go_simp; try with_reducible rfl⟩ | exact Or.inr ⟨by rfl, rfl⟩) hH ?_
        try simp only [Act.put, List.setIfInBounds_toArray, List.set_cons_zero, List.set_cons_succ]
        refine wpK.take (i := 4) (v := _) (by simp only [List.getElem?_toArray, List.getElem?_cons_succ, List.getElem?_cons_zero]; rfl) (by kernel_rfl) (by kernel_rfl) (by kernel_rfl) (by kernel_rfl) (by kernel_rfl) (by exact fun _ _ _ h => h) (by first | exact Or.inl ⟨by rfl, by intro w hSw; go_simp; try with_reducible rfl⟩ | exact Or.inr ⟨by rfl, rfl⟩) hH ?_
        try simp only [Act.put, List.setIfInBounds_toArray, List.set_cons_zero, List.set_cons_succ]
        refine wpK.take (i := 5) (v := _) (by simp only [List.getElem?_toArray, List.getElem?_cons_succ, List.getElem?_cons_zero]; rfl) (by kernel_rfl) (by kernel_rfl) (by kernel_rfl) (by kernel_rfl) (by kernel_rfl) (by exact fun _ _ _ h => h) (by first | exact Or.inl ⟨by rfl, by intro w hSw; go_simp; try with_reducible rfl⟩ | exact Or.inr ⟨by rfl, rfl⟩) hH ?_
        try simp only [Act.put, List.setIfInBounds_toArray, List.set_cons_zero, List.set_cons_succ]
        refine wpK.take (i := 6) (v := _) (by simp only [List.getElem?_toArray, List.getElem?_cons_succ, List.getElem?_cons_zero]; rfl) (by kernel_rfl) (by kernel_rfl) (by kernel_rfl) (by kernel_rfl) (by kernel_rfl) (by exact fun _ _ _ h => h) (by first | exact Or.inl ⟨by rfl, by intro w hSw; go_simp; try with_reducible rfl⟩ | exact Or.inr ⟨by rfl, rfl⟩) hH ?_
        try simp only [Act.put, List.setIfInBounds_toArray, List.set_cons_zero, List.set_cons_succ]
        refine wpK.take (i := 7) (v := _) (by simp only [List.getElem?_toArray, List.getElem?_cons_succ, List.getElem?_cons_zero]; rfl) (by kernel_rfl) (by kernel_rfl) (by kernel_rfl) (by kernel_rfl) (by kernel_rfl) (by exact fun _ _ _ h => h) (by first | exact Or.inl ⟨by rfl, by intro w hSw; go_simp; try with_reducible rfl⟩ | exact Or.inr ⟨by rfl, rfl⟩) hH ?_
        try simp only [Act.put, List.setIfInBounds_toArray, List.set_cons_zero, List.set_cons_succ]
        refine wpK.take (i := 8) (v := _) (by simp only [List.getElem?_toArray, List.getElem?_cons_succ, List.getElem?_cons_zero]; rfl) (by kernel_rfl) (by kernel_rfl) (by kernel_rfl) (by kernel_rfl) (by kernel_rfl) (by exact fun _ _ _ h => h) (by first | exact Or.inl ⟨by rfl, by intro w hSw; go_simp; try with_reducible rfl⟩ | exact Or.inr ⟨by rfl, rfl⟩) hH ?_
        try simp only [Act.put, List.setIfInBounds_toArray, List.set_cons_zero, List.set_cons_succ]
        refine wpK.done (by kernel_rfl) ?_ _
        clear hw1 hw2 hH hk0
        go_wp2_with fail
        go_roundw
        case rel => exact ⟨k + 1, by go_num, by omega, H4, HB2⟩
        case measure => simp [intOf]; omega
      · have hxb : (y1 != y2) = true := by simpa using hx
        have h4 : false = b := by rw [← h3]; simp [hx]
        subst h4
        have HB2 := hid (Below.next HB.out hk0)
        clear h3 hx hd1 hd2 hr1 hr2 hc1 hc2
        go_wp2_with fail
        refine wp_region_kept [] (fun x => Below wr.heap.size wr x) (by kernel_rfl) (by assumption) (fun hH => ?_)
        refine wpK.take (i := 0) (v := _) (by simp only [List.getElem?_toArray, List.getElem?_cons_succ, List.getElem?_cons_zero]; rfl) (by kernel_rfl) (by kernel_rfl) (by kernel_rfl) (by kernel_rfl) (by kernel_rfl) (by exact fun _ _ _ h => h) (by first | exact Or.inl ⟨by rfl, by intro w hSw; go_simp; try with_reducible rfl⟩ | exact Or.inr ⟨by rfl, rfl⟩) hH ?_
        try simp only [Act.put, List.setIfInBounds_toArray, List.set_cons_zero, List.set_cons_succ]
        refine wpK.take (i := 1) (v := _) (by simp only [List.getElem?_toArray, List.getElem?_cons_succ, List.getElem?_cons_zero]; rfl) (by kernel_rfl) (by kernel_rfl) (by kernel_rfl) (by kernel_rfl) (by kernel_rfl) (by exact fun _ _ _ h => h) (by first | exact Or.inl ⟨by rfl, by intro w hSw; go_simp; try with_reducible rfl⟩ | exact Or.inr ⟨by rfl, rfl⟩) hH ?_
        try simp only [Act.put, List.setIfInBounds_toArray, List.set_cons_zero, List.set_cons_succ]
        refine wpK.take (i := 2) (v := _) (by simp only [List.getElem?_toArray, List.getElem?_cons_succ, List.getElem?_cons_zero]; rfl) (by kernel_rfl) (by kernel_rfl) (by kernel_rfl) (by kernel_rfl) (by kernel_rfl) (by exact fun _ _ _ h => h) (by first | exact Or.inl ⟨by rfl, by intro w hSw; go_simp; try with_reducible rfl⟩ | exact Or.inr ⟨by rfl, rfl⟩) hH ?_
        try simp only [Act.put, List.setIfInBounds_toArray, List.set_cons_zero, List.set_cons_succ]
        refine wpK.take (i := 3) (v := _) (by simp only [List.getElem?_toArray, List.getElem?_cons_succ, List.getElem?_cons_zero]; rfl) (by kernel_rfl) (by kernel_rfl) (by kernel_rfl) (by kernel_rfl) (by kernel_rfl) (by exact fun _ _ _ h => h) (by first | exact Or.inl ⟨by rfl, by intro w hSw; go_simp; try with_reducible rfl⟩ | exact Or.inr ⟨by rfl, rfl⟩) hH ?_
        try simp only [Act.put, List.setIfInBounds_toArray, List.set_cons_zero, List.set_cons_succ]
        refine wpK.take (i := 4) (v := _) (by simp only [List.getElem?_toArray, List.getElem?_cons_succ, List.getElem?_cons_zero]; rfl) (by kernel_rfl) (by kernel_rfl) (by kernel_rfl) (by kernel_rfl) (by kernel_rfl) (by exact fun _ _ _ h => h) (by first | exact Or.inl ⟨by rfl, by intro w hSw; go_simp; try with_reducible rfl⟩ | exact Or.inr ⟨by rfl, rfl⟩) hH ?_
        try simp only [Act.put, List.setIfInBounds_toArray, List.set_cons_zero, List.set_cons_succ]
        refine wpK.take (i := 5) (v := _) (by simp only [List.getElem?_toArray, List.getElem?_cons_succ, List.getElem?_cons_zero]; rfl) (by kernel_rfl) (by kernel_rfl) (by kernel_rfl) (by kernel_rfl) (by kernel_rfl) (by exact fun _ _ _ h => h) (by first | exact Or.inl ⟨by rfl, by intro w hSw; go_simp; try with_reducible rfl⟩ | exact Or.inr ⟨by rfl, rfl⟩) hH ?_
        try simp only [Act.put, List.setIfInBounds_toArray, List.set_cons_zero, List.set_cons_succ]
        refine wpK.take (i := 6) (v := _) (by simp only [List.getElem?_toArray, List.getElem?_cons_succ, List.getElem?_cons_zero]; rfl) (by kernel_rfl) (by kernel_rfl) (by kernel_rfl) (by kernel_rfl) (by kernel_rfl) (by exact fun _ _ _ h => h) (by first | exact Or.inl ⟨by rfl, by intro w hSw; go_simp; try with_reducible rfl⟩ | exact Or.inr ⟨by rfl, rfl⟩) hH ?_
        try simp only [Act.put, List.setIfInBounds_toArray, List.set_cons_zero, List.set_cons_succ]
        refine wpK.take (i := 7) (v := _) (by simp only [List.getElem?_toArray, List.getElem?_cons_succ, List.getElem?_cons_zero]; rfl) (by kernel_rfl) (by kernel_rfl) (by kernel_rfl) (by kernel_rfl) (by kernel_rfl) (by exact fun _ _ _ h => h) (by first | exact Or.inl ⟨by rfl, by intro w hSw; go_simp; try with_reducible rfl⟩ | exact Or.inr ⟨by rfl, rfl⟩) hH ?_
        try simp only [Act.put, List.setIfInBounds_toArray, List.set_cons_zero, List.set_cons_succ]
        refine wpK.take (i := 8) (v := _) (by simp only [List.getElem?_toArray, List.getElem?_cons_succ, List.getElem?_cons_zero]; rfl) (by kernel_rfl) (by kernel_rfl) (by kernel_rfl) (by kernel_rfl) (by kernel_rfl) (by exact fun _ _ _ h => h) (by first | exact Or.inl ⟨by rfl, by intro w hSw; go_simp; try with_reducible rfl⟩ | exact Or.inr ⟨by rfl, rfl⟩) hH ?_
        try simp only [Act.put, List.setIfInBounds_toArray, List.set_cons_zero, List.set_cons_succ]
        refine wpK.done (by kernel_rfl) ?_ _
        clear hw1 hw2 hH hk0
        go_wp2_with fail
        go_ret
        exact ⟨rfl, HB2.out⟩
    · have h1 := hs.out
      rw [List.drop_of_length_le (by omega), List.drop_of_length_le (by have := HL.out; omega)] at h1
      simp only [decide_true] at h1
      subst h1
      go_wp2_with fail
      go_ret
      exact ⟨rfl, HB.out⟩
end Go.Proofs.Ytohknblokejldaa
end
section
/- The sum of the package seal, as a plain function on numbers: by half bytes, and bit by bit: one and the same. No program in sight. -/
namespace Go.Proofs.Ytohknblokejldaa
open Go.RowKit
open Go.Lib (hid)
set_option linter.unusedVariables false

/-- one bit of the register -/
def bit1 (x : Nat) : Nat := if x % 2 = 1 then (x / 2) ^^^ 3988292384 else x / 2
/-- what half a byte does to the register -/
def tab (i : Nat) : Nat := bit1 (bit1 (bit1 (bit1 i)))
def nib (x : Nat) : Nat := (x / 16) ^^^ tab (x % 16)
def crcStep (x : Nat) (b : UInt8) : Nat := nib (nib (x ^^^ b.toNat))
def crcFrom (x : Nat) (l : List UInt8) : Nat := l.foldl crcStep x
def crc (l : List UInt8) : Nat := 4294967295 - crcFrom 4294967295 l

theorem div2_xor (x y : Nat) : (x ^^^ y) / 2 = (x / 2) ^^^ (y / 2) := by
  have := Nat.shiftRight_xor_distrib (a := x) (b := y) (i := 1)
  simpa [Nat.shiftRight_eq_div_pow] using this
theorem mod2_xor (x y : Nat) : (x ^^^ y) % 2 = (x % 2 + y % 2) % 2 := by
  have h := Nat.testBit_xor x y 0
  have h2 : x % 2 < 2 := Nat.mod_lt _ (by omega)
  have h3 : y % 2 < 2 := Nat.mod_lt _ (by omega)
  have h1 : (x ^^^ y) % 2 < 2 := Nat.mod_lt _ (by omega)
  rw [Nat.testBit_zero, Nat.testBit_zero, Nat.testBit_zero] at h
  rcases Nat.lt_or_ge (x % 2) 1 with a | a <;> rcases Nat.lt_or_ge (y % 2) 1 with b | b
  · have e1 : decide (x % 2 = 1) = false := by simp; omega
    have e2 : decide (y % 2 = 1) = false := by simp; omega
    rw [e1, e2] at h
    have := of_decide_eq_false h
    omega
  · have e1 : decide (x % 2 = 1) = false := by simp; omega
    have e2 : decide (y % 2 = 1) = true := by simp; omega
    rw [e1, e2] at h
    have := of_decide_eq_true h
    omega
  · have e1 : decide (x % 2 = 1) = true := by simp; omega
    have e2 : decide (y % 2 = 1) = false := by simp; omega
    rw [e1, e2] at h
    have := of_decide_eq_true h
    omega
  · have e1 : decide (x % 2 = 1) = true := by simp; omega
    have e2 : decide (y % 2 = 1) = true := by simp; omega
    rw [e1, e2] at h
    have := of_decide_eq_false h
    omega
theorem bit1_xor (x y : Nat) : bit1 (x ^^^ y) = bit1 x ^^^ bit1 y := by
  unfold bit1
  rw [div2_xor, mod2_xor]
  have h2 : x % 2 < 2 := Nat.mod_lt _ (by omega)
  have h3 : y % 2 < 2 := Nat.mod_lt _ (by omega)
  by_cases a : x % 2 = 1 <;> by_cases b : y % 2 = 1
  · rw [if_neg (by omega), if_pos a, if_pos b]
    rw [Nat.xor_assoc, ← Nat.xor_assoc 3988292384, Nat.xor_comm 3988292384 (y / 2), Nat.xor_assoc (y / 2), Nat.xor_self, Nat.xor_zero]
  · rw [if_pos (by omega), if_pos a, if_neg b, Nat.xor_assoc, Nat.xor_comm (y / 2), ← Nat.xor_assoc]
  · rw [if_pos (by omega), if_neg a, if_pos b, Nat.xor_assoc]
  · rw [if_neg (by omega), if_neg a, if_neg b]
theorem bit1_even (x : Nat) : bit1 (2 * x) = x := by unfold bit1; rw [if_neg (by omega)]; omega

/-- four bits are half a byte -/
theorem nib_bits (x : Nat) : nib x = bit1 (bit1 (bit1 (bit1 x))) := by
  have h : x = (2 * (2 * (2 * (2 * (x / 16))))) ^^^ (x % 16) := by
    have e : 2 * (2 * (2 * (2 * (x / 16)))) = 2 ^ 4 * (x / 16) := by omega
    have e2 : x = 2 ^ 4 * (x / 16) + x % 16 := by omega
    rw [e]
    apply Nat.eq_of_testBit_eq
    intro i
    rw [Nat.testBit_xor, Nat.testBit_two_pow_mul]
    conv => lhs; rw [e2, Nat.testBit_two_pow_mul_add _ (show x % 16 < 2 ^ 4 by omega)]
    by_cases hi : i < 4
    · simp [hi, show ¬ i ≥ 4 by omega]
    · have hr : (x % 16).testBit i = false := Nat.testBit_lt_two_pow (Nat.lt_of_lt_of_le (show x % 16 < 2 ^ 4 by omega) (Nat.pow_le_pow_right (by omega) (by omega)))
      simp [hi, show i ≥ 4 by omega, hr]
  conv => rhs; rw [h]
  rw [bit1_xor, bit1_xor, bit1_xor, bit1_xor, bit1_even, bit1_even, bit1_even, bit1_even]
  rfl
end Go.Proofs.Ytohknblokejldaa
end
section
/- The table of the package seal. -/
namespace Go.Proofs.Ytohknblokejldaa
open Go.RowKit
open Go.Lib (hid)
set_option linter.unusedVariables false

theorem seal_halves (w : World) : Calls Try.prog 113 #[] w fun e w' => e = .returned (.agg #[.int .u32 0, .int .u32 498536548, .int .u32 997073096, .int .u32 651767980, .int .u32 1994146192, .int .u32 1802195444, .int .u32 1303535960, .int .u32 1342533948, .int .u32 3988292384, .int .u32 4027552580, .int .u32 3604390888, .int .u32 3412177804, .int .u32 2607071920, .int .u32 2262029012, .int .u32 2685067896, .int .u32 3183342108]) ∧ Below w.heap.size w w' := by
  go_enter Try.func113, Try.ntmps113
  go_wp2
  go_returns
  exact ⟨rfl, by go_grown⟩

end Go.Proofs.Ytohknblokejldaa
end
