/- Joined texts, in this order: Region, ThingPut. Each one's first remark says what it proves; no condition beyond those that its theorems name. -/
import Derived.WalkKit
import Derived.Lib.Hide
import Derived.Deep.RegionHeld
import Derived.Test.YtdoflhiogoefjaaDoorJLawThingCopies11
import Derived.Test.YtdoflhiogoefjaaDoorJLawThingCopies05
section
/- A region that draws its order: reads are taken first while S holds; the operations of 'ex' wait for all others, and behind them S need not hold. No program in sight. -/
namespace Go.Proofs.YtdoflhiogoefjaaDoor
set_option linter.unusedVariables false
section
variable {P : Program} {ops : Array Oper} {Q : Exit → Act → World → Prop} {md : Region.Mode} {S : World → Prop} {ex : List Nat}

/-- the operations of ex wait for all that are not of ex -/
def lateOk (md : Region.Mode) (ops : Array Oper) (ex : List Nat) : Bool :=
  ex.all fun j => (List.range ops.size).all fun k => ex.contains k || ((ops[j]?.map fun o => o.after.any fun e => Region.binds md e && e.on == k).getD false)
theorem lateOk_spec (h : lateOk md ops ex = true) {j i : Nat} (hj : j ∈ ex) (hi : i < ops.size) (hn : i ∉ ex) : ∃ o, ops[j]? = some o ∧ ∃ e ∈ o.after, Region.binds md e = true ∧ e.on = i := by
  have h1 := List.all_eq_true.1 (List.all_eq_true.1 h j hj) i (List.mem_range.2 hi)
  rw [Bool.or_eq_true] at h1
  rcases h1 with h2 | h2
  · exact absurd (by simpa using h2) hn
  · cases ho : ops[j]? with
    | none => rw [ho] at h2; simp at h2
    | some o =>
      rw [ho] at h2
      simp only [Option.map_some, Option.getD_some, Array.any_eq_true] at h2
      obtain ⟨m, hm, hb⟩ := h2
      simp only [Bool.and_eq_true, beq_iff_eq] at hb
      exact ⟨o, rfl, o.after[m], Array.getElem_mem hm, hb.1, hb.2⟩

def wpK (P : Program) (md : Region.Mode) (ops : Array Oper) (Q : Exit → Act → World → Prop) (ex : List Nat) (S : World → Prop) : Nat → Array Bool → Act → World → Prop
  | 0, l, a, w => Region.ready md ops l = [] ∧ Q .normal a w
  | n + 1, l, a, w => (Region.ready md ops l = [] → Q .normal a w) ∧ ∀ i ∈ Region.ready md ops l, wpOp P ops Q i (fun a' w' => (i ∈ ex ∨ S w') ∧ wpK P md ops Q ex S n (l.setIfInBounds i true) a' w') a w
theorem wpK.any : ∀ (n : Nat) (l : Array Bool) (a : Act) (w : World), wpK P md ops Q ex S n l a w → wpAny P md ops Q n l a w
  | 0, _, _, _, h => h
  | n + 1, _, _, _, h => ⟨h.1, fun i hi => wpOp_mono (fun a' w' k => wpK.any n _ a' w' k.2) (h.2 i hi)⟩

theorem wpK.first (hex : lateOk md ops ex = true) {i : Nat} {oi : Oper} {v : Value} (hi : ops[i]? = some oi) (hin : i ∉ ex) (hsel : ∀ (j : Nat) (o : Oper) cs b, ops[j]? = some o → o.op ≠ .select cs b)
    (hQ : ∀ c a w, Q (.panic c) (a.put oi.dst v) w → Q (.panic c) a w) : ∀ (n : Nat) (l : Array Bool) (a : Act) (w : World),
      (∀ j oj, ops[j]? = some oj → j ≠ i → l.getD j true = false → (∀ e ∈ oj.after, Region.binds md e = true → e.on ≠ i) → oi.apart ops oj = true) →
      i ∈ Region.ready md ops l → YieldsIf P ops S oi v a → S w → wpK P md ops Q ex S n (l.setIfInBounds i true) (a.put oi.dst v) w → wpK P md ops Q ex S (n + 1) l a w := by
  -- an operation of ex does not come up while i has not
  have hno : ∀ (l : Array Bool) (j : Nat), i ∈ Region.ready md ops l → j ∈ Region.ready md ops l → j ∉ ex := by
    intro l j hir hjr hje
    obtain ⟨o, ho, e, he, hb, hon⟩ := lateOk_spec hex hje (Array.getElem?_eq_some_iff.1 hi).1 hin
    obtain ⟨-, o', ho', hall⟩ := mem_ready.1 hjr
    obtain rfl : o = o' := by rw [ho] at ho'; exact Option.some.inj ho'
    have h1 := hall e he hb
    have h0 := (mem_ready.1 hir).1
    rw [hon] at h1
    rcases Nat.lt_or_ge i l.size with h' | h'
    · simp [h'] at h0 h1; rw [h0] at h1; cases h1
    · simp [Array.getElem?_eq_none h'] at h1
  intro n
  induction n with
  | zero =>
    intro l a w hfree hr hy hS H
    refine ⟨fun h => (by rw [h] at hr; cases hr), fun j hj => ?_⟩
    by_cases hji : j = i
    · subst hji; exact hy.wpOp hi hS ⟨.inr hS, H⟩
    · have := ready_mono hj hji
      rw [H.1] at this
      cases this
  | succ n ih =>
    intro l a w hfree hr hy hS H
    refine ⟨fun h => (by rw [h] at hr; cases hr), fun j hj => ?_⟩
    by_cases hji : j = i
    · subst hji; exact hy.wpOp hi hS ⟨.inr hS, H⟩
    · have hjx := hno l j hr hj
      obtain ⟨hjun, oj, hoj, hall⟩ := mem_ready.1 hj
      have hnot : ∀ e ∈ oj.after, Region.binds md e = true → e.on ≠ i := fun e he hb heq => by
        have h1 := hall e he hb
        have h0 := (mem_ready.1 hr).1
        rw [heq] at h1
        rcases Nat.lt_or_ge i l.size with h' | h'
        · simp [h'] at h0 h1; rw [h0] at h1; cases h1
        · simp [Array.getElem?_eq_none h'] at h1
      have h2 := wpOp_putIf hoj (hfree j oj hoj hji hjun hnot) (fun cs b => hsel i oi cs b hi) (fun cs b => hsel j oj cs b hoj) hQ hy (H.2 j (ready_mono hj hji))
      refine wpOp_mono (fun a' w' k => ?_) h2
      have hS' : S w' := k.2.1.resolve_left hjx
      refine ⟨.inr hS', ih _ a' w' (fun m om hm hmi hun hno' => ?_) (ready_mono hr (Ne.symm hji)) k.1 hS' (by rw [Array.setIfInBounds_comm _ _ hji]; exact k.2.2)⟩
      refine hfree m om hm hmi ?_ hno'
      by_cases hjm : j = m
      · subst hjm; exact hjun
      · rw [getD_set_ne true hjm] at hun; exact hun

/-- operation i is taken first -/
theorem wpK.take {i : Nat} {oi : Oper} {v : Value} {n : Nat} {l : Array Bool} {a : Act} {w : World} (hi : ops[i]? = some oi) (hex : lateOk md ops ex = true) (hin : ex.contains i = false)
    (hs : Region.noSelect ops = true) (hf : Region.free md ops l i = true) (hr : (Region.ready md ops l).contains i = true)
    (hQ : ∀ c a w, Q (.panic c) (a.put oi.dst v) w → Q (.panic c) a w) (hy : YieldsIf P ops S oi v a) (hS : S w)
    (h : wpK P md ops Q ex S n (l.setIfInBounds i true) (a.put oi.dst v) w) : wpK P md ops Q ex S (n + 1) l a w :=
  wpK.first hex hi (by simpa using hin) (Region.noSelect_spec hs) hQ n l a w (Region.free_spec hi hf) (by simpa using hr) hy hS h
/-- operation i alone may come up now -/
theorem wpK.step {i : Nat} {oi : Oper} {n : Nat} {l : Array Bool} {a : Act} {w : World} (hr : Region.ready md ops l = [i]) (ho : ops[i]? = some oi)
    (h : ∀ K' : Act → World → Prop, Shut (∀ a w, S w → (S w → wpK P md ops Q ex S n (l.setIfInBounds i true) a w) → K' a w) → if Region.wanted oi (yielded ops a.tmps) = true then Oper.wp P oi a w K' Q else K' (a.put oi.dst undef) w) :
    wpK P md ops Q ex S (n + 1) l a w := by
  refine ⟨fun h0 => (by rw [hr] at h0; cases h0), fun j hj => ?_⟩
  rw [hr] at hj
  obtain rfl := List.mem_singleton.1 hj
  exact wpOp_step ho (fun K' hK => h K' (fun a w hS hW => hK a w ⟨.inr hS, hW hS⟩))
/-- one of two comes up now -/
theorem wpK.two {i j : Nat} {oi oj : Oper} {n : Nat} {l : Array Bool} {a : Act} {w : World} (hr : Region.ready md ops l = [i, j]) (ho : ops[i]? = some oi) (ho' : ops[j]? = some oj)
    (h : ∀ K' : Act → World → Prop, Shut (∀ a w, S w → (S w → wpK P md ops Q ex S n (l.setIfInBounds i true) a w) → K' a w) → if Region.wanted oi (yielded ops a.tmps) = true then Oper.wp P oi a w K' Q else K' (a.put oi.dst undef) w)
    (h' : ∀ K' : Act → World → Prop, Shut (∀ a w, S w → (S w → wpK P md ops Q ex S n (l.setIfInBounds j true) a w) → K' a w) → if Region.wanted oj (yielded ops a.tmps) = true then Oper.wp P oj a w K' Q else K' (a.put oj.dst undef) w) :
    wpK P md ops Q ex S (n + 1) l a w := by
  refine ⟨fun h0 => (by rw [hr] at h0; cases h0), fun k hk => ?_⟩
  rw [hr] at hk
  rcases List.mem_cons.1 hk with rfl | hk
  · exact wpOp_step ho (fun K' hK => h K' (fun a w hS hW => hK a w ⟨.inr hS, hW hS⟩))
  · obtain rfl := List.mem_singleton.1 hk
    exact wpOp_step ho' (fun K' hK => h' K' (fun a w hS hW => hK a w ⟨.inr hS, hW hS⟩))
/-- the same, of an operation behind which S need not hold -/
theorem wpK.late {i : Nat} {oi : Oper} {n : Nat} {l : Array Bool} {a : Act} {w : World} (hr : Region.ready md ops l = [i]) (ho : ops[i]? = some oi) (hin : ex.contains i = true)
    (h : ∀ K' : Act → World → Prop, Shut (∀ a w, wpK P md ops Q ex S n (l.setIfInBounds i true) a w → K' a w) → if Region.wanted oi (yielded ops a.tmps) = true then Oper.wp P oi a w K' Q else K' (a.put oi.dst undef) w) :
    wpK P md ops Q ex S (n + 1) l a w := by
  refine ⟨fun h0 => (by rw [hr] at h0; cases h0), fun j hj => ?_⟩
  rw [hr] at hj
  obtain rfl := List.mem_singleton.1 hj
  exact wpOp_step ho (fun K' hK => h K' (fun a w hW => hK a w ⟨.inl (by simpa using hin), hW⟩))
theorem wpK.done {l : Array Bool} {a : Act} {w : World} (hr : Region.ready md ops l = []) (h : Q .normal a w) : ∀ n, wpK P md ops Q ex S n l a w
  | 0 => ⟨hr, h⟩
  | _ + 1 => ⟨fun _ => h, by rw [hr]; simp⟩
theorem wp_region_kept (ex : List Nat) (S : World → Prop) {id : Nat} {a : Act} {w : World} (hm : P.follows .mixedOrders = true) (hS : S w.drew)
    (h : S w.drew → wpK P .any ops Q ex S ops.size (Array.replicate ops.size false) a w.drew) : (Code.region id ops true).wp P Q a w :=
  wp_region_any hm (wpK.any _ _ _ _ (h hS))
end
end Go.Proofs.YtdoflhiogoefjaaDoor
end
section
/- Contracts of the package thing: New, put, take. -/
namespace Go.Proofs.YtdoflhiogoefjaaDoor
open Go.RowKit
open Go.Lib (hid)
set_option linter.unusedVariables false

theorem zero_ints21 (w : World) : (zeroValue 41).run Tryd.prog w = .ok (.slice none 0 0) w := by kernel_rfl
theorem lit_int21 (n : Int) (W : World) : (Instr.buildSlice 41 1 #[(0, .int .i64 n)]).run Tryd.prog W = .ok (.slice (some ⟨W.heap.size, 0, none⟩) 1 1) (W.alloc (.cells #[.int .i64 n] 3)) := by kernel_rfl
theorem thing_New (w : World) : Calls Tryd.prog 11 #[] w fun e w' => ∃ s, e = .returned (.pointer (some ⟨s, 0, none⟩)) ∧ ThingIs w' s (fun k => w.heap.size ≤ k) ⟨[], 1⟩ ∧ Below w.heap.size w w' := by
  have hmm := @run_makeMap Tryd.prog
  go_enter Tryd.func11, Tryd.ntmps11
  go_wp2
  go_ret
  have h1 : MapE (w.alloc (.map #[] 0)) w.heap.size [] := MapE.new w
  have h2 : MP.MapP ((w.alloc (.map #[] 0)).alloc (.map #[] 0)) (w.alloc (.map #[] 0)).heap.size [] := MP.MapP.new _
  have hz : (w.alloc (.map #[] 0)).heap.size = w.heap.size + 1 := by simp
  rw [hz] at h2
  have hz2 : ((w.alloc (.map #[] 0)).alloc (.map #[] 0)).heap.size = w.heap.size + 1 + 1 := by simp
  have hb := Blk.new ((w.alloc (.map #[] 0)).alloc (.map #[] 0)) #[.map (some w.heap.size), .map (some (w.heap.size + 1)), .int .i64 1] 71
  rw [hz2] at hb
  refine ⟨w.heap.size + 1 + 1, rfl, ⟨⟨w.heap.size, w.heap.size + 1, [], [], ⟨hb, (h1.below (Below.new _ _)).below (Below.new _ _), h2.below (Below.new _ _), by omega, by omega, by omega, by omega, by omega, by omega, by simp, by simp, by simp⟩, ⟨List.Perm.refl _, fun _ => rfl⟩, List.Pairwise.nil⟩, TInv.new⟩, (((Below.refl _ _).alloc (Nat.le_refl _) _).alloc (by simp) _).alloc (by simp; omega) _⟩
theorem owns_one21 {w : World} {g : Nat} {a : Value} (h : w.ownsRow g 3 1 (.slice (some ⟨g, 0, none⟩) 1 1) 1 [a]) : w.heap[g]? = some (.cells #[a] 3 (0, 0)) := by
  rcases h.2 with ⟨q, -⟩ | ⟨g', cap, cur, q, -, hg, -, -, hc, ht⟩
  · simp at q
  · simp only [Value.slice.injEq, Option.some.injEq, Addr.mk.injEq, and_true, true_and] at q
    obtain ⟨rfl, rfl⟩ := q
    have h2 : cur.toList = [a] := by rw [← ht, List.take_of_length_le (by simp; omega)]
    have h3 : cur = #[a] := by apply Array.ext'; simpa using h2
    rw [h3] at hg
    exact hg
/-- what a call leaves that hands nothing back -/
def CPost (w : World) (s : Nat) (F : Nat → Prop) (L : List Th) (nx : Int) (e : Ending) (w' : World) : Prop :=
  e = .returned (.tuple #[]) ∧ ThCore w' s (fun k => F k ∨ w.heap.size ≤ k) L nx ∧ Upd F w w'
set_option maxRecDepth 100000 in
set_option maxHeartbeats 4000000 in
theorem thing_put {s : Nat} {F : Nat → Prop} {L : List Th} {nx : Int} (w : World) (h : ThCore w s F L nx) (x : Th) (hx : ∀ y ∈ L, y.id ≠ x.id) (hl : L.length ≤ 900) :
    Calls Tryd.prog 41 #[.pointer (some ⟨s, 0, none⟩), thV x] w (CPost w s F (insK kI L x) nx) := by
  obtain ⟨b1, b2, M, R, hp0, hr, hs⟩ := h
  obtain ⟨v, hv⟩ := hp0.place hr x.pl
  have hp := hp0.weaken (G := fun k => F k ∧ k < w.heap.size) (fun k q q2 => ⟨q, q2⟩)
  have HF0 := hid (fun k (q : v.ownBlock = some k) => (hv.feet k q).1)
  have HPL : Hid (PlAt w s (fun k => F k ∧ k < w.heap.size) b1 b2 R x.pl v (inT L x.pl)) := hid ⟨hv.look, hv.own, fun k hk => ⟨⟨(hv.feet k hk).1, (hv.own.lt k hk).2⟩, (hv.feet k hk).2⟩, hv.far⟩
  have HP := hid hp
  obtain ⟨l, hlx⟩ : ∃ l, l = inT L x.pl := ⟨_, rfl⟩
  have HLX := hid hlx
  have HSL : Hid (SortK kN l) := hid (by rw [hlx]; exact inT_sorted hs x.pl)
  have HLL : Hid (l.length ≤ 900) := hid (by rw [hlx]; exact Nat.le_trans (inT_len L x.pl) hl)
  rw [← hlx] at HPL
  have HREL := hid (fun v' => hr.ins hs hx v')
  have HSN := hid (insK_sorted kI hs hx)
  have HMN : Hid (∀ y ∈ M, y.id ≠ x.id) := hid (fun y hy => hx y (hr.r1.mem_iff.1 hy))
  obtain ⟨a, c, hva, -⟩ := ownsRow.rd hv.own
  rw [← hlx] at hva
  have HVA := hid hva
  have HNOT : Hid (¬ ∃ y ∈ L, y.id = x.id) := hid (fun ⟨y, h1, h2⟩ => hx y h1 h2)
  obtain ⟨xi, xn, xo, xk, xh, xs⟩ := x
  simp only at HPL HREL HMN hlx HLX
  clear hp hp0 hr hs hv hx hlx hva
  unfold thV
  simp only
  go_enter Tryd.func41, Tryd.ntmps41
  go_upto_region 1 with fail
  obtain ⟨w1, hw1⟩ : ∃ w1, w1 = w.alloc (.cells #[.int .i64 xi, strV xn, .int .i64 xo, .int .i64 xk, .int .i64 xh, .int .i64 xs] 48) := ⟨_, rfl⟩
  rw [← hw1]
  obtain ⟨bx, hbx⟩ : ∃ b, b = w.heap.size := ⟨_, rfl⟩
  rw [← hbx]
  have hb1 : Below w.heap.size w w1 := by rw [hw1]; exact Below.new _ _
  have HX1 : Hid (Blk w1 bx #[.int .i64 xi, strV xn, .int .i64 xo, .int .i64 xk, .int .i64 xh, .int .i64 xs]) := hid (by rw [hw1, hbx]; exact Blk.new _ _ _)
  have HP1 := hid (HP.out.upd (S := fun _ => False) (Upd.of_below hb1) (fun _ q => q.elim))
  have HO1 := hid (owns_below HPL.out.own hb1)
  have HB1 := hid hb1
  have HBX : Hid (bx = w.heap.size) := hid hbx
  clear hw1 hb1 hbx
  obtain ⟨ct0, ct1, -⟩ := HP1.out.cells
  have e1 : ∀ y, Below w1.heap.size w1 y → y.cell? ⟨s, 1, none⟩ = some (.map (some b2)) := fun y hy => by rw [← ct1]; exact World.cell?_of_block (hy.block s HP1.out.blk.lt)
  have x0 : ∀ y, Below w1.heap.size w1 y → y.cell? ⟨bx, 0, none⟩ = some (.int .i64 xi) := fun y hy => by rw [(HX1.out.below hy).cell]; rfl
  have x3 : ∀ y, Below w1.heap.size w1 y → y.cell? ⟨bx, 3, none⟩ = some (.int .i64 xk) := fun y hy => by rw [(HX1.out.below hy).cell]; rfl
  have x4 : ∀ y, Below w1.heap.size w1 y → y.cell? ⟨bx, 4, none⟩ = some (.int .i64 xh) := fun y hy => by rw [(HX1.out.below hy).cell]; rfl
  have x5 : ∀ y, Below w1.heap.size w1 y → y.cell? ⟨bx, 5, none⟩ = some (.int .i64 xs) := fun y hy => by rw [(HX1.out.below hy).cell]; rfl
  have hlk : ∀ y, Below w1.heap.size w1 y → (Instr.lookup 69 (.map (some b2)) (.agg #[.int .i64 xk, .int .i64 xh, .int .i64 xs]) false).run Tryd.prog y = .ok (.slice a l.length c) y := fun y hy => by
    have := (HP1.out.m2.below hy).run_lookup (P := Tryd.prog) Tryd.underlying69 placeKey (.slice none 0 0) (zero_ints21 y) (xk, xh, xs) false
    rw [HPL.out.look, HVA.out] at this
    exact this
  have hyd := (Below.refl w1.heap.size w1).drew
  refine wp_region_kept [7] (fun y => Below w1.heap.size w1 y) (by kernel_rfl) (by assumption) (fun hH => ?_)
  refine wpK.take (i := 0) (v := _) (by simp only [List.getElem?_toArray, List.getElem?_cons_succ, List.getElem?_cons_zero]; rfl) (by kernel_rfl) (by kernel_rfl) (by kernel_rfl) (by kernel_rfl) (by kernel_rfl) (by exact fun _ _ _ h => h) (by first | exact Or.inl ⟨by rfl, by intro w hSw; go_simp; try with_reducible rfl⟩ | exact Or.inr ⟨by rfl, rfl⟩) hH ?_
  try simp only [Act.put, List.setIfInBounds_toArray, List.set_cons_zero, List.set_cons_succ]
  refine wpK.take (i := 1) (v := _) (by simp only [List.getElem?_toArray, List.getElem?_cons_succ, List.getElem?_cons_zero]; rfl) (by kernel_rfl) (by kernel_rfl) (by kernel_rfl) (by kernel_rfl) (by kernel_rfl) (by exact fun _ _ _ h => h) (by first | exact Or.inl ⟨by rfl, by intro w hSw; go_simp; try with_reducible rfl⟩ | exact Or.inr ⟨by rfl, rfl⟩) hH ?_
  try simp only [Act.put, List.setIfInBounds_toArray, List.set_cons_zero, List.set_cons_succ]
  refine wpK.take (i := 2) (v := _) (by simp only [List.getElem?_toArray, List.getElem?_cons_succ, List.getElem?_cons_zero]; rfl) (by kernel_rfl) (by kernel_rfl) (by kernel_rfl) (by kernel_rfl) (by kernel_rfl) (by exact fun _ _ _ h => h) (by first | exact Or.inl ⟨by rfl, by intro w hSw; go_simp; try with_reducible rfl⟩ | exact Or.inr ⟨by rfl, rfl⟩) hH ?_
  try simp only [Act.put, List.setIfInBounds_toArray, List.set_cons_zero, List.set_cons_succ]
  refine wpK.take (i := 3) (v := _) (by simp only [List.getElem?_toArray, List.getElem?_cons_succ, List.getElem?_cons_zero]; rfl) (by kernel_rfl) (by kernel_rfl) (by kernel_rfl) (by kernel_rfl) (by kernel_rfl) (by exact fun _ _ _ h => h) (by first | exact Or.inl ⟨by rfl, by intro w hSw; go_simp; try with_reducible rfl⟩ | exact Or.inr ⟨by rfl, rfl⟩) hH ?_
  try simp only [Act.put, List.setIfInBounds_toArray, List.set_cons_zero, List.set_cons_succ]
  refine wpK.take (i := 4) (v := _) (by simp only [List.getElem?_toArray, List.getElem?_cons_succ, List.getElem?_cons_zero]; rfl) (by kernel_rfl) (by kernel_rfl) (by kernel_rfl) (by kernel_rfl) (by kernel_rfl) (by exact fun _ _ _ h => h) (by first | exact Or.inl ⟨by rfl, by intro w hSw; go_simp; try with_reducible rfl⟩ | exact Or.inr ⟨by rfl, rfl⟩) hH ?_
  try simp only [Act.put, List.setIfInBounds_toArray, List.set_cons_zero, List.set_cons_succ]
  refine wpK.take (i := 5) (v := _) (by simp only [List.getElem?_toArray, List.getElem?_cons_succ, List.getElem?_cons_zero]; rfl) (by kernel_rfl) (by kernel_rfl) (by kernel_rfl) (by kernel_rfl) (by kernel_rfl) (by exact fun _ _ _ h => h) (by first | exact Or.inl ⟨by rfl, by intro w hSw; go_simp; try with_reducible rfl⟩ | exact Or.inr ⟨by rfl, rfl⟩) hH ?_
  try simp only [Act.put, List.setIfInBounds_toArray, List.set_cons_zero, List.set_cons_succ]
  refine wpK.take (i := 6) (v := _) (by simp only [List.getElem?_toArray, List.getElem?_cons_succ, List.getElem?_cons_zero]; rfl) (by kernel_rfl) (by kernel_rfl) (by kernel_rfl) (by kernel_rfl) (by kernel_rfl) (by exact fun _ _ _ h => h) (by first | exact Or.inl ⟨by rfl, by intro w hSw; go_simp; try with_reducible rfl⟩ | exact Or.inr ⟨by rfl, rfl⟩) hH ?_
  try simp only [Act.put, List.setIfInBounds_toArray, List.set_cons_zero, List.set_cons_succ]
  refine wpK.late (i := 7) (by kernel_rfl) (by simp only [List.getElem?_toArray, List.getElem?_cons_succ, List.getElem?_cons_zero]; rfl) (by kernel_rfl) (fun K hK => ?_)
  go_simp
  refine hK.out _ _ ?_
  clear hK K
  try simp only [Act.put, List.setIfInBounds_toArray, List.set_cons_zero, List.set_cons_succ]
  refine wpK.done (by kernel_rfl) ?_ _
  clear e1 x0 x3 x4 x5 hlk hyd hH
  generalize hw2 : w1.drew = w2
  have hb2 : Below w1.heap.size w1 w2 := by rw [← hw2]; exact (Below.refl _ _).drew
  have HX2 := hid (HX1.out.below hb2)
  have HP2 := hid (HP1.out.upd (S := fun _ => False) (Upd.of_below hb2) (fun _ q => q.elim))
  have HO2 := hid (owns_below HO1.out hb2)
  have HB2 := hid (Below.next HB1.out hb2)
  clear hw2 hb2 ct0 ct1
  have x0 : w2.cell? ⟨bx, 0, none⟩ = some (.int .i64 xi) := by rw [HX2.out.cell]; rfl
  go_wp2_with fail
  refine (sl_SearchI l (.slice a l.length c) xi w2 (by rw [← HVA.out]; exact SlI.of_own HO2.out) (by have := HLL.out; omega) (by have := HSL.out; unfold SortK at this; exact this.imp (fun q => by simp only [kN] at q; omega))).mono ?_
  rintro e w3 ⟨rfl, hb3⟩
  obtain ⟨i, hi⟩ : ∃ i, l.countP (fun y => decide (y < xi)) = i := ⟨_, rfl⟩
  rw [hi]
  have HI : Hid (i = posK kN l xi) := hid (by rw [← hi]; exact countP_posK HSL.out xi)
  have HIL : Hid (i ≤ l.length) := hid (by rw [HI.out]; exact posK_le kN l xi)
  have HX3 := hid (HX2.out.below hb3)
  have HP3 := hid (HP2.out.upd (S := fun _ => False) (Upd.of_below hb3) (fun _ q => q.elim))
  have HO3 := hid (owns_below HO2.out hb3)
  have HB3 := hid (Below.next HB2.out hb3)
  clear hi hb3 x0
  go_upto_region 3 with fail
  have hyb := (Below.refl w3.heap.size w3).drew
  have hyd : Upd (fun k => v.ownBlock = some k) w3 w3.drew := Upd.of_below hyb
  have HNB : Hid (v.ownBlock ≠ some bx) := hid (fun q => by have := (HPL.out.own.lt bx q).2; have := HBX.out; omega)
  have HVL : Hid (∀ k, v.ownBlock = some k → k < w.heap.size) := hid (fun k q => (HPL.out.own.lt k q).2)
  have e1 : ∀ y, Upd (fun k => v.ownBlock = some k) w3 y → y.cell? ⟨s, 1, none⟩ = some (.map (some b2)) := fun y hy => by rw [(HP3.out.blk.upd hy (fun q => (HPL.out.feet s q).2.1 rfl)).cell]; rfl
  have x0 : ∀ y, Upd (fun k => v.ownBlock = some k) w3 y → y.cell? ⟨bx, 0, none⟩ = some (.int .i64 xi) := fun y hy => by rw [(HX3.out.upd hy HNB.out).cell]; rfl
  have x3 : ∀ y, Upd (fun k => v.ownBlock = some k) w3 y → y.cell? ⟨bx, 3, none⟩ = some (.int .i64 xk) := fun y hy => by rw [(HX3.out.upd hy HNB.out).cell]; rfl
  have x4 : ∀ y, Upd (fun k => v.ownBlock = some k) w3 y → y.cell? ⟨bx, 4, none⟩ = some (.int .i64 xh) := fun y hy => by rw [(HX3.out.upd hy HNB.out).cell]; rfl
  have x5 : ∀ y, Upd (fun k => v.ownBlock = some k) w3 y → y.cell? ⟨bx, 5, none⟩ = some (.int .i64 xs) := fun y hy => by rw [(HX3.out.upd hy HNB.out).cell]; rfl
  refine wp_region_kept [12] (fun y => Upd (fun k => v.ownBlock = some k) w3 y) (by kernel_rfl) (by assumption) (fun hH => ?_)
  refine wpK.take (i := 0) (v := _) (by simp only [List.getElem?_toArray, List.getElem?_cons_succ, List.getElem?_cons_zero]; rfl) (by kernel_rfl) (by kernel_rfl) (by kernel_rfl) (by kernel_rfl) (by kernel_rfl) (by exact fun _ _ _ h => h) (by first | exact Or.inl ⟨by rfl, by intro w hSw; go_simp; try with_reducible rfl⟩ | exact Or.inr ⟨by rfl, rfl⟩) hH ?_
  try simp only [Act.put, List.setIfInBounds_toArray, List.set_cons_zero, List.set_cons_succ]
  refine wpK.take (i := 1) (v := _) (by simp only [List.getElem?_toArray, List.getElem?_cons_succ, List.getElem?_cons_zero]; rfl) (by kernel_rfl) (by kernel_rfl) (by kernel_rfl) (by kernel_rfl) (by kernel_rfl) (by exact fun _ _ _ h => h) (by first | exact Or.inl ⟨by rfl, by intro w hSw; go_simp; try with_reducible rfl⟩ | exact Or.inr ⟨by rfl, rfl⟩) hH ?_
  try simp only [Act.put, List.setIfInBounds_toArray, List.set_cons_zero, List.set_cons_succ]
  refine wpK.take (i := 2) (v := _) (by simp only [List.getElem?_toArray, List.getElem?_cons_succ, List.getElem?_cons_zero]; rfl) (by kernel_rfl) (by kernel_rfl) (by kernel_rfl) (by kernel_rfl) (by kernel_rfl) (by exact fun _ _ _ h => h) (by first | exact Or.inl ⟨by rfl, by intro w hSw; go_simp; try with_reducible rfl⟩ | exact Or.inr ⟨by rfl, rfl⟩) hH ?_
  try simp only [Act.put, List.setIfInBounds_toArray, List.set_cons_zero, List.set_cons_succ]
  refine wpK.take (i := 3) (v := _) (by simp only [List.getElem?_toArray, List.getElem?_cons_succ, List.getElem?_cons_zero]; rfl) (by kernel_rfl) (by kernel_rfl) (by kernel_rfl) (by kernel_rfl) (by kernel_rfl) (by exact fun _ _ _ h => h) (by first | exact Or.inl ⟨by rfl, by intro w hSw; go_simp; try with_reducible rfl⟩ | exact Or.inr ⟨by rfl, rfl⟩) hH ?_
  try simp only [Act.put, List.setIfInBounds_toArray, List.set_cons_zero, List.set_cons_succ]
  refine wpK.take (i := 4) (v := _) (by simp only [List.getElem?_toArray, List.getElem?_cons_succ, List.getElem?_cons_zero]; rfl) (by kernel_rfl) (by kernel_rfl) (by kernel_rfl) (by kernel_rfl) (by kernel_rfl) (by exact fun _ _ _ h => h) (by first | exact Or.inl ⟨by rfl, by intro w hSw; go_simp; try with_reducible rfl⟩ | exact Or.inr ⟨by rfl, rfl⟩) hH ?_
  try simp only [Act.put, List.setIfInBounds_toArray, List.set_cons_zero, List.set_cons_succ]
  refine wpK.take (i := 5) (v := _) (by simp only [List.getElem?_toArray, List.getElem?_cons_succ, List.getElem?_cons_zero]; rfl) (by kernel_rfl) (by kernel_rfl) (by kernel_rfl) (by kernel_rfl) (by kernel_rfl) (by exact fun _ _ _ h => h) (by first | exact Or.inl ⟨by rfl, by intro w hSw; go_simp; try with_reducible rfl⟩ | exact Or.inr ⟨by rfl, rfl⟩) hH ?_
  try simp only [Act.put, List.setIfInBounds_toArray, List.set_cons_zero, List.set_cons_succ]
  refine wpK.take (i := 6) (v := _) (by simp only [List.getElem?_toArray, List.getElem?_cons_succ, List.getElem?_cons_zero]; rfl) (by kernel_rfl) (by kernel_rfl) (by kernel_rfl) (by kernel_rfl) (by kernel_rfl) (by exact fun _ _ _ h => h) (by first | exact Or.inl ⟨by rfl, by intro w hSw; go_simp; try with_reducible rfl⟩ | exact Or.inr ⟨by rfl, rfl⟩) hH ?_
  try simp only [Act.put, List.setIfInBounds_toArray, List.set_cons_zero, List.set_cons_succ]
  refine wpK.take (i := 7) (v := _) (by simp only [List.getElem?_toArray, List.getElem?_cons_succ, List.getElem?_cons_zero]; rfl) (by kernel_rfl) (by kernel_rfl) (by kernel_rfl) (by kernel_rfl) (by kernel_rfl) (by exact fun _ _ _ h => h) (by first | exact Or.inl ⟨by rfl, by intro w hSw; go_simp; try with_reducible rfl⟩ | exact Or.inr ⟨by rfl, rfl⟩) hH ?_
  try simp only [Act.put, List.setIfInBounds_toArray, List.set_cons_zero, List.set_cons_succ]
  refine wpK.take (i := 8) (v := _) (by simp only [List.getElem?_toArray, List.getElem?_cons_succ, List.getElem?_cons_zero]; rfl) (by kernel_rfl) (by kernel_rfl) (by kernel_rfl) (by kernel_rfl) (by kernel_rfl) (by exact fun _ _ _ h => h) (by first | exact Or.inl ⟨by rfl, by intro w hSw; go_simp; try with_reducible rfl⟩ | exact Or.inr ⟨by rfl, rfl⟩) hH ?_
  try simp only [Act.put, List.setIfInBounds_toArray, List.set_cons_zero, List.set_cons_succ]
  refine wpK.take (i := 9) (v := _) (by simp only [List.getElem?_toArray, List.getElem?_cons_succ, List.getElem?_cons_zero]; rfl) (by kernel_rfl) (by kernel_rfl) (by kernel_rfl) (by kernel_rfl) (by kernel_rfl) (by exact fun _ _ _ h => h) (by first | exact Or.inl ⟨by rfl, by intro w hSw; go_simp; try with_reducible rfl⟩ | exact Or.inr ⟨by rfl, rfl⟩) hH ?_
  try simp only [Act.put, List.setIfInBounds_toArray, List.set_cons_zero, List.set_cons_succ]
  refine wpK.step (i := 10) (by kernel_rfl) (by simp only [List.getElem?_toArray, List.getElem?_cons_succ, List.getElem?_cons_zero]; rfl) (fun K hK => ?_)
  refine step_lit (us := #[.int .i64 xi]) (e := 3) (size := 1) (ps := #[(0, .int .i64 xi)]) rfl rfl (by simp only [List.map_toArray, List.map_cons, List.map_nil]; rfl) (lit_int21 xi _) rfl (by omega) ?_; intro bp wB hbp hbB hzB hoB; (have hkB := Below.next hyb hbB); (have hkU : Upd (fun k => v.ownBlock = some k) w3 wB := Upd.of_below hkB)
  refine hK.out _ _ (by assumption) (fun hH => ?_)
  clear hK K
  try simp only [Act.put, List.setIfInBounds_toArray, List.set_cons_zero, List.set_cons_succ]
  refine wpK.step (i := 11) (by kernel_rfl) (by simp only [List.getElem?_toArray, List.getElem?_cons_succ, List.getElem?_cons_zero]; rfl) (fun K hK => ?_)
  go_simp
  (refine (sl_InsertI l xi i (.slice a l.length c) 0 bp wB (by rw [← HVA.out]; exact owns_below HO3.out hkB) (Nat.zero_le _) (by have := HLL.out; omega) HIL.out (owns_one21 hoB) (by rw [← HVA.out]; intro k q; have h1 := HVL.out k q; have h2 := hbp; have h3 := HB3.out.size; have h4 : w3.drew.heap.size = w3.heap.size := rfl; omega)).mono ?_); rintro e wC ⟨vC, rfl, hoC, hgC, hvC⟩; (have huC : Upd (fun k => v.ownBlock = some k) wB wC := by rw [HVA.out]; exact Upd.of_grown hgC); (have hkC := hkU.trans huC (fun _ _ q => q)); (obtain ⟨aC, cC, hvc, -⟩ := ownsRow.rd hoC); (obtain ⟨N, hN⟩ : ∃ N, N = l.length + 1 := ⟨_, rfl⟩); (rw [← hN] at hvc); (have HN := hid hN); (clear hN); (subst hvc); go_simp
  refine hK.out _ _ (by assumption) (fun hH => ?_)
  clear hK K
  try simp only [Act.put, List.setIfInBounds_toArray, List.set_cons_zero, List.set_cons_succ]
  refine wpK.late (i := 12) (by kernel_rfl) (by simp only [List.getElem?_toArray, List.getElem?_cons_succ, List.getElem?_cons_zero]; rfl) (by kernel_rfl) (fun K hK => ?_)
  refine MP.step_putE _ rfl _ _ _ rfl Tryd.underlying69 placeKey rfl (HP3.out.m2.upd hkC (fun q => (HPL.out.feet b2 q).2.2.2 rfl)) (xk, xh, xs) rfl (.slice aC N cC) rfl ?_; intro wD hmD huD hzD
  refine hK.out _ _ ?_
  clear hK K
  try simp only [Act.put, List.setIfInBounds_toArray, List.set_cons_zero, List.set_cons_succ]
  refine wpK.done (by kernel_rfl) ?_ _
  have HUD : Hid (Upd (fun k => v.ownBlock = some k ∨ k = b2) w wD) := hid (((Upd.of_below (S := fun k => v.ownBlock = some k ∨ k = b2) HB3.out).trans hkC (fun _ _ q => .inl q)).trans huD (fun _ _ q => .inr q))
  have HXD : Hid (Blk wD bx #[.int .i64 xi, strV xn, .int .i64 xo, .int .i64 xk, .int .i64 xh, .int .i64 xs]) := hid ((HX3.out.upd hkC HNB.out).upd huD (fun q => by have := HP.out.m2.lt; have := HBX.out; omega))
  have HMD := hid hmD
  have HGN : Hid (∀ k, (Value.slice aC N cC).ownBlock = some k → v.ownBlock = some k ∨ w.heap.size ≤ k) := hid (fun k hk => by
    rcases hvC k hk with q | q
    · left; rw [HVA.out]; exact q
    · right; have := HB3.out.size; have := hkB.size; omega)
  have HOD : Hid (ownI0 wD (.slice aC N cC) (insK kN l xi)) := hid (by
    have h1 : iv (l.take i ++ xi :: l.drop i) = iv (insK kN l xi) := by rw [insK_split]; simp only [kN]; rw [HI.out]
    rw [h1] at hoC
    unfold ownI0
    rw [insK_len]
    exact huD.owns hoC (fun k hk q => by
      rcases HGN.out k hk with e | e
      · exact (HPL.out.feet k e).2.2.2 q
      · have := HP.out.m2.lt; omega))
  have HM1 : Hid (MapE wD b1 (M.map thKV)) := hid ((HP3.out.m1.upd hkC (fun q => (HPL.out.feet b1 q).2.2.1 rfl)).upd huD (fun q => HP3.out.n3 q))
  have HBS : Hid (Blk wD s #[.map (some b1), .map (some b2), .int .i64 nx]) := hid ((HP3.out.blk.upd hkC (fun q => (HPL.out.feet s q).2.1 rfl)).upd huD (fun q => HP3.out.n2 q))
  clear hmD huD hzD hvC hgC huC hkC hoC hoB hkB hkU hbp hbB hzB e1 x0 x3 x4 x5 hyb hyd hH
  have hyd := (Below.refl wD.heap.size wD).drew
  have e0 : ∀ y, Below wD.heap.size wD y → y.cell? ⟨s, 0, none⟩ = some (.map (some b1)) := fun y hy => by rw [(HBS.out.below hy).cell]; rfl
  have x0 : ∀ y, Below wD.heap.size wD y → y.cell? ⟨bx, 0, none⟩ = some (.int .i64 xi) := fun y hy => by rw [(HXD.out.below hy).cell]; rfl
  have x1 : ∀ y, Below wD.heap.size wD y → y.cell? ⟨bx, 1, none⟩ = some (strV xn) := fun y hy => by rw [(HXD.out.below hy).cell]; rfl
  have x2 : ∀ y, Below wD.heap.size wD y → y.cell? ⟨bx, 2, none⟩ = some (.int .i64 xo) := fun y hy => by rw [(HXD.out.below hy).cell]; rfl
  have x3 : ∀ y, Below wD.heap.size wD y → y.cell? ⟨bx, 3, none⟩ = some (.int .i64 xk) := fun y hy => by rw [(HXD.out.below hy).cell]; rfl
  have x4 : ∀ y, Below wD.heap.size wD y → y.cell? ⟨bx, 4, none⟩ = some (.int .i64 xh) := fun y hy => by rw [(HXD.out.below hy).cell]; rfl
  have x5 : ∀ y, Below wD.heap.size wD y → y.cell? ⟨bx, 5, none⟩ = some (.int .i64 xs) := fun y hy => by rw [(HXD.out.below hy).cell]; rfl
  go_upto_region 4 with fail
  refine wp_region_kept [7] (fun y => Below wD.heap.size wD y) (by kernel_rfl) (by assumption) (fun hH => ?_)
  refine wpK.take (i := 0) (v := _) (by simp only [List.getElem?_toArray, List.getElem?_cons_succ, List.getElem?_cons_zero]; rfl) (by kernel_rfl) (by kernel_rfl) (by kernel_rfl) (by kernel_rfl) (by kernel_rfl) (by exact fun _ _ _ h => h) (by first | exact Or.inl ⟨by rfl, by intro w hSw; go_simp; try with_reducible rfl⟩ | exact Or.inr ⟨by rfl, rfl⟩) hH ?_
  try simp only [Act.put, List.setIfInBounds_toArray, List.set_cons_zero, List.set_cons_succ]
  refine wpK.take (i := 1) (v := _) (by simp only [List.getElem?_toArray, List.getElem?_cons_succ, List.getElem?_cons_zero]; rfl) (by kernel_rfl) (by kernel_rfl) (by kernel_rfl) (by kernel_rfl) (by kernel_rfl) (by exact fun _ _ _ h => h) (by first | exact Or.inl ⟨by rfl, by intro w hSw; go_simp; try with_reducible rfl⟩ | exact Or.inr ⟨by rfl, rfl⟩) hH ?_
  try simp only [Act.put, List.setIfInBounds_toArray, List.set_cons_zero, List.set_cons_succ]
  refine wpK.take (i := 2) (v := _) (by simp only [List.getElem?_toArray, List.getElem?_cons_succ, List.getElem?_cons_zero]; rfl) (by kernel_rfl) (by kernel_rfl) (by kernel_rfl) (by kernel_rfl) (by kernel_rfl) (by exact fun _ _ _ h => h) (by first | exact Or.inl ⟨by rfl, by intro w hSw; go_simp; try with_reducible rfl⟩ | exact Or.inr ⟨by rfl, rfl⟩) hH ?_
  try simp only [Act.put, List.setIfInBounds_toArray, List.set_cons_zero, List.set_cons_succ]
  refine wpK.take (i := 3) (v := _) (by simp only [List.getElem?_toArray, List.getElem?_cons_succ, List.getElem?_cons_zero]; rfl) (by kernel_rfl) (by kernel_rfl) (by kernel_rfl) (by kernel_rfl) (by kernel_rfl) (by exact fun _ _ _ h => h) (by first | exact Or.inl ⟨by rfl, by intro w hSw; go_simp; try with_reducible rfl⟩ | exact Or.inr ⟨by rfl, rfl⟩) hH ?_
  try simp only [Act.put, List.setIfInBounds_toArray, List.set_cons_zero, List.set_cons_succ]
  refine wpK.take (i := 4) (v := _) (by simp only [List.getElem?_toArray, List.getElem?_cons_succ, List.getElem?_cons_zero]; rfl) (by kernel_rfl) (by kernel_rfl) (by kernel_rfl) (by kernel_rfl) (by kernel_rfl) (by exact fun _ _ _ h => h) (by first | exact Or.inl ⟨by rfl, by intro w hSw; go_simp; try with_reducible rfl⟩ | exact Or.inr ⟨by rfl, rfl⟩) hH ?_
  try simp only [Act.put, List.setIfInBounds_toArray, List.set_cons_zero, List.set_cons_succ]
  refine wpK.take (i := 5) (v := _) (by simp only [List.getElem?_toArray, List.getElem?_cons_succ, List.getElem?_cons_zero]; rfl) (by kernel_rfl) (by kernel_rfl) (by kernel_rfl) (by kernel_rfl) (by kernel_rfl) (by exact fun _ _ _ h => h) (by first | exact Or.inl ⟨by rfl, by intro w hSw; go_simp; try with_reducible rfl⟩ | exact Or.inr ⟨by rfl, rfl⟩) hH ?_
  try simp only [Act.put, List.setIfInBounds_toArray, List.set_cons_zero, List.set_cons_succ]
  refine wpK.take (i := 6) (v := _) (by simp only [List.getElem?_toArray, List.getElem?_cons_succ, List.getElem?_cons_zero]; rfl) (by kernel_rfl) (by kernel_rfl) (by kernel_rfl) (by kernel_rfl) (by kernel_rfl) (by exact fun _ _ _ h => h) (by first | exact Or.inl ⟨by rfl, by intro w hSw; go_simp; try with_reducible rfl⟩ | exact Or.inr ⟨by rfl, rfl⟩) hH ?_
  try simp only [Act.put, List.setIfInBounds_toArray, List.set_cons_zero, List.set_cons_succ]
  refine wpK.late (i := 7) (by kernel_rfl) (by simp only [List.getElem?_toArray, List.getElem?_cons_succ, List.getElem?_cons_zero]; rfl) (by kernel_rfl) (fun K hK => ?_)
  refine step_putE _ rfl _ _ _ rfl Tryd.underlying68 Tryd.underlying3 rfl (HM1.out.below hyd) xi rfl (thV ⟨xi, xn, xo, (xk, xh, xs)⟩) rfl ?_; intro wE hmE huE hzE
  refine hK.out _ _ ?_
  clear hK K
  try simp only [Act.put, List.setIfInBounds_toArray, List.set_cons_zero, List.set_cons_succ]
  refine wpK.done (by kernel_rfl) ?_ _
  have HQ : Hid (CPost w s F (insK kI L ⟨xi, xn, xo, (xk, xh, xs)⟩) nx (.returned (.tuple #[])) wE) := hid (by
    have hUE : Upd (fun k => (v.ownBlock = some k ∨ k = b2) ∨ k = b1) w wE := ((HUD.out.mono (fun k _ q => .inl q)).trans (Upd.of_below hyd) (fun _ _ q => q)).trans huE (fun _ _ q => .inr q)
    have hKE := (Upd.of_below (S := fun k => k = b1) hyd).trans huE (fun _ _ q => q)
    have hm' : MapE wE b1 ((M ++ [(⟨xi, xn, xo, (xk, xh, xs)⟩ : Th)]).map thKV) := by rw [← putM HMN.out]; exact hmE
    have h2' : MP.MapP wE b2 ((putRow R ⟨(xk, xh, xs), .slice aC N cC, insK kN l xi⟩).map PRow.key) := by
      rw [putRow_key]
      exact HMD.out.upd hKE (fun q => HP.out.n3 q.symm)
    have hP := HP.out.remake hUE (xk, xh, xs) v (.slice aC N cC) (insK kN l xi) (HBS.out.upd hKE (fun q => HP.out.n1 q)) hm' h2' HPL.out.feet HPL.out.far
      (fun q hq hn k hk hk2 => by
        rcases hk2 with (e | e) | e
        · exact HPL.out.far q hq hn k hk e
        · exact (HP.out.feet q hq k hk).2.2.2 e
        · exact (HP.out.feet q hq k hk).2.2.1 e)
      (hKE.owns HOD.out (fun k hk q => by
        rcases HGN.out k hk with e | e
        · exact (HPL.out.feet k e).2.2.1 q
        · have := HP.out.m1.lt; omega)) HGN.out (fun q hq => putRow_mem hq)
    have hREL := HREL.out (.slice aC N cC)
    rw [← HLX.out] at hREL
    refine ⟨rfl, ⟨b1, b2, _, _, hP.weaken (fun k q _ => ?_), hREL, HSN.out⟩, hUE.mono (fun k _ q => ?_)⟩
    · rcases q with q | q
      · exact .inl q.1
      · exact .inr q
    · rcases q with (q | q) | q
      · exact HF0.out k q
      · subst q; exact HP.out.f2.1
      · subst q; exact HP.out.f1.1)
  clear hmE huE hzE e0 x0 x1 x2 x3 x4 x5 hyd hH
  go_wp2_with fail
  go_end0
  exact HQ.out
end Go.Proofs.YtdoflhiogoefjaaDoor
end
