/- Joined texts, in this order: RtIter2, RegionW, Inv, RtAny. Each one's first remark says what it proves; no condition beyond those that its theorems name. -/
import Derived.Test.YtjbnfppnmljbmaaGreatJLawLandFinds09
import Derived.Test.YtjbnfppnmljbmaaGreatJLawLandFinds02
import Derived.OrdersIn
import Derived.RangeFuncCalls
section
/- Rtree's iterators Meets and At. -/
namespace Go.Proofs.YtjbnfppnmljbmaaGreat
open Go.RowKit
open Go.Lib (hid)
set_option linter.unusedVariables false
attribute [local go_sem] Oper.semAt_some

def tMeets (r : R4) (q : R4) : Bool := decide (MeetsR r q)
def tHolds (x y : Int) (q : R4) : Bool := decide (HoldsR q x y)
set_option maxRecDepth 100000 in
theorem rt_Meets4 (w : World) (s : Nat) (x y a b : Int) : Calls Tryz.prog 31 #[.pointer (some ⟨s, 0, none⟩), .agg #[.int .i64 x, .int .i64 y, .int .i64 a, .int .i64 b]] w fun e w' => ∃ bT bI, e = .returned (itV bT bI) ∧ Blk w' bT #[.pointer (some ⟨s, 0, none⟩)] ∧ Blk w' bI #[.func (.func 53) #[.agg #[.int .i64 x, .int .i64 y, .int .i64 a, .int .i64 b]] #[]] ∧ Below w.heap.size w w' := by
  go_enter Tryz.func31, Tryz.ntmps31
  go_upto_region 1 with fail
  obtain ⟨w1, hw⟩ : ∃ w1, w1 = w.alloc (.cells #[.int .i64 x, .int .i64 y, .int .i64 a, .int .i64 b] 25) := ⟨_, rfl⟩
  rw [← hw]
  obtain ⟨g, hg⟩ : ∃ g, g = w.heap.size := ⟨_, rfl⟩
  rw [← hg]
  have hb : Below w.heap.size w w1 := by rw [hw]; exact Below.new _ _
  have HX : Hid (Blk w1 g #[.int .i64 x, .int .i64 y, .int .i64 a, .int .i64 b]) := hid (by rw [hw, hg]; exact Blk.new _ _ _)
  have HB := hid hb
  obtain ⟨c0, c1, c2, c3⟩ := HX.out.c4r
  clear hw hg hb
  go_wp2_with fail
  refine (rt_where w1 s 53 #[.agg #[.int .i64 x, .int .i64 y, .int .i64 a, .int .i64 b]] #[]).mono ?_
  rintro e w2 ⟨bT, bI, rfl, h1, h2, hb⟩
  have HQ := hid (And.intro h1 (And.intro h2 (Below.next HB.out hb)))
  clear h1 h2 hb c0 c1 c2 c3
  go_wp2_with fail
  go_ret
  exact ⟨bT, bI, rfl, HQ.out.1, HQ.out.2.1, HQ.out.2.2⟩
theorem test_Meets (n0 B : Nat) (W0 : World) (x y a b : Int) : TestAt n0 B 53 #[.agg #[.int .i64 x, .int .i64 y, .int .i64 a, .int .i64 b]] #[] (tMeets (x, y, a, b)) W0 :=
  ⟨fun W' _ r => by
    have := rect_Meets4 x y a b r.1 r.2.1 r.2.2.1 r.2.2.2 W'
    simpa [rV, tMeets] using this, fun args w => by simp [callFunc, go_sem]; kernel_rfl, fun p q h k => decide_eq_true (meetsR_symm.1 ((meetsR_symm.1 (of_decide_eq_true k)).mono h))⟩
set_option maxRecDepth 100000 in
theorem rt_At1 (w : World) (bx bY : Nat) (px py : Int) (r : R4) (hx : Blk w bx #[.int .i64 px]) (hy : Blk w bY #[.int .i64 py]) :
    Calls Tryz.prog 57 #[rV r, .pointer (some ⟨bx, 0, none⟩), .pointer (some ⟨bY, 0, none⟩)] w fun e w' => e = .returned (.bool (tHolds px py r)) ∧ Below w.heap.size w w' := by
  obtain ⟨x, y, a, b⟩ := r
  unfold tHolds
  simp only [rV]
  have HX := hid hx
  have HY := hid hy
  clear hx hy
  go_enter Tryz.func57, Tryz.ntmps57
  go_upto_region 1 with fail
  obtain ⟨w1, hw⟩ : ∃ w1, w1 = w.alloc (.cells #[.int .i64 x, .int .i64 y, .int .i64 a, .int .i64 b] 25) := ⟨_, rfl⟩
  rw [← hw]
  obtain ⟨g, hg⟩ : ∃ g, g = w.heap.size := ⟨_, rfl⟩
  rw [← hg]
  have hb : Below w.heap.size w w1 := by rw [hw]; exact Below.new _ _
  have HG : Hid (Blk w1 g #[.int .i64 x, .int .i64 y, .int .i64 a, .int .i64 b]) := hid (by rw [hw, hg]; exact Blk.new _ _ _)
  have HB := hid hb
  obtain ⟨c0, c1, c2, c3⟩ := HG.out.c4r
  have d0 : w1.cell? ⟨bx, 0, none⟩ = some (.int .i64 px) := by rw [(HX.out.below hb).cell]; rfl
  have d1 : w1.cell? ⟨bY, 0, none⟩ = some (.int .i64 py) := by rw [(HY.out.below hb).cell]; rfl
  clear hw hg hb
  go_wp2_with fail
  refine (rect_Holds4 x y a b px py w1).mono ?_
  rintro e w2 ⟨rfl, hb⟩
  have HB2 := hid (Below.next HB.out hb)
  clear hb c0 c1 c2 c3 d0 d1
  go_wp2_with fail
  go_ret
  exact ⟨rfl, HB2.out⟩
set_option maxRecDepth 100000 in
theorem rt_At (w : World) (s : Nat) (px py : Int) : Calls Tryz.prog 35 #[.pointer (some ⟨s, 0, none⟩), .int .i64 px, .int .i64 py] w fun e w' => ∃ bT bI bx bY, e = .returned (itV bT bI) ∧ Blk w' bT #[.pointer (some ⟨s, 0, none⟩)] ∧ Blk w' bI #[.func (.func 57) #[] #[.pointer (some ⟨bx, 0, none⟩), .pointer (some ⟨bY, 0, none⟩)]] ∧ Blk w' bx #[.int .i64 px] ∧ Blk w' bY #[.int .i64 py] ∧ Below w.heap.size w w' := by
  go_enter Tryz.func35, Tryz.ntmps35
  go_upto_region 1 with fail
  generalize hW : World.alloc (World.alloc w _) _ = w1
  obtain ⟨g, hg⟩ : ∃ g, g = w.heap.size := ⟨_, rfl⟩
  obtain ⟨go, hgo⟩ : ∃ go, go = w.heap.size + 1 := ⟨_, rfl⟩
  have hz : (World.alloc w (.cells #[.int .i64 px] 3)).heap.size = w.heap.size + 1 := by simp
  try rw [hz]
  try rw [← hgo]
  try rw [← hg]
  have hb : Below w.heap.size w w1 := by rw [← hW]; exact Below.next (Below.new _ _) (Below.new _ _)
  have HX : Hid (Blk w1 g #[.int .i64 px]) := hid (by rw [← hW, hg]; exact (Blk.new w _ _).below (Below.new _ _))
  have HO : Hid (Blk w1 go #[.int .i64 py]) := hid (by rw [← hW, hgo, ← hz]; exact Blk.new _ _ _)
  have HB := hid hb
  clear hW hg hgo hz hb
  go_wp2_with fail
  refine (rt_where w1 s 57 #[] #[.pointer (some ⟨g, 0, none⟩), .pointer (some ⟨go, 0, none⟩)]).mono ?_
  rintro e w2 ⟨bT, bI, rfl, h1, h2, hb⟩
  have HQ := hid (And.intro h1 (And.intro h2 (And.intro (HX.out.below hb) (And.intro (HO.out.below hb) (Below.next HB.out hb)))))
  clear h1 h2 hb
  go_wp2_with fail
  go_ret
  exact ⟨bT, bI, g, go, rfl, HQ.out⟩
theorem KeepR.blkLow {n0 B : Nat} {W W' : World} (h : KeepR n0 B W W') {g : Nat} {cs : Array Value} (hg : g < n0) (hk : Blk W g cs) : Blk W' g cs := by
  obtain ⟨e, hk⟩ := hk; exact ⟨e, (h.low g hg).trans hk⟩
theorem test_At (n0 B : Nat) (W0 : World) (px py : Int) (bx bY : Nat) (hx : Blk W0 bx #[.int .i64 px]) (hy : Blk W0 bY #[.int .i64 py]) (h1 : bx < n0) (h2 : bY < n0) : TestAt n0 B 57 #[] #[.pointer (some ⟨bx, 0, none⟩), .pointer (some ⟨bY, 0, none⟩)] (tHolds px py) W0 :=
  ⟨fun W' hk r => by
    have := rt_At1 W' bx bY px py r (hk.blkLow h1 hx) (hk.blkLow h2 hy)
    simpa using this, fun args w => by simp [callFunc, go_sem]; kernel_rfl, fun p q h k => decide_eq_true ((of_decide_eq_true k).mono h)⟩
end Go.Proofs.YtjbnfppnmljbmaaGreat
end
section
/- A region inside a round of a range over a function, in the wide fence: it is walked as the same region outside, if it defers nothing. No program in sight. -/
namespace Go.Proofs.YtjbnfppnmljbmaaGreat
set_option linter.unusedVariables false
section
variable {P : Program} {ops : Array Oper} {Q : Exit → Act → World → Prop} {md : Region.Mode} {S : World → Prop} {ex : List Nat}
def noDefer (ops : Array Oper) : Bool := ops.all fun o => match o.op with | .defer _ => false | _ => true
theorem noDefer_spec (h : noDefer ops = true) {i : Nat} {o : Oper} (ho : ops[i]? = some o) (c) : o.op ≠ .defer c := by
  obtain ⟨hi, rfl⟩ := Array.getElem?_eq_some_iff.1 ho
  have := (Array.all_eq_true.1 h) i hi
  intro e
  rw [e] at this
  cases this
theorem wpOpIn_of {l n i : Nat} (hlo : ¬ LetsOut Q) (hnd : noDefer ops = true) {K : Act → World → Prop} {a : Act} {w : World} (h : wpOp P ops Q i K a w) : wpOpIn (Fence.wide.inRound l) n P ops Q i K a w := by
  unfold wpOp at h
  unfold wpOpIn
  cases ho : ops[i]? with
  | none => simpa [ho] using h
  | some o =>
    simp only [ho] at h ⊢
    split
    · rename_i hw
      simp only [hw, if_true] at h
      replace h := h.resolve_right (fun q => hlo q.2)
      unfold Oper.wpIn
      refine ⟨fun _ _ => trivial, ?_⟩
      rw [Oper.semAt_eq _ _ _ (noDefer_spec hnd ho)]
      unfold Oper.wp at h
      generalize (execOp a.eval o).run P w = r at h ⊢
      cases r with
      | ok x w' =>
        cases x <;> simp only [Oper.upon, Oper.uponIn] at h ⊢
        case value => exact h
        case skip => exact h
        case defer => exact h
        case enter f args => exact ⟨(fun h => by cases h), CallsIn.inRound l (callsIn_wide.2 h)⟩
        case row row args =>
          refine ⟨(fun h => by cases h), fun c cs _ => ?_⟩
          obtain ⟨v, w', r, s⟩ := h c cs
          exact ⟨v, w', r, stepsIn_wide.2 s⟩
      | halt x w' => cases x <;> simp only [Oper.upon, Oper.uponIn] at h ⊢ <;> exact h
    · rename_i hw
      simp only [hw] at h
      exact ⟨fun _ _ => trivial, h⟩
theorem wpAnyIn_of {l n : Nat} (hlo : ¬ LetsOut Q) (hnd : noDefer ops = true) : ∀ (m : Nat) (ls : Array Bool) (a : Act) (w : World), wpAny P md ops Q m ls a w → wpAnyIn (Fence.wide.inRound l) n P md ops Q m ls a w
  | 0, _, _, _, h => h
  | m + 1, _, _, _, h => ⟨h.1, fun i hi => wpOpIn_mono (fun a' w' k => wpAnyIn_of hlo hnd m _ a' w' k) (wpOpIn_of hlo hnd (h.2 i hi))⟩
theorem wpIn_region_kept {l n : Nat} (ex : List Nat) (S : World → Prop) {id : Nat} {a : Act} {w : World} (hm : P.follows .mixedOrders = true) (hS : S w.drew) (h : S w.drew → wpK P .any ops Q ex S ops.size (Array.replicate ops.size false) a w.drew)
    (hnd : noDefer ops = true := by kernel_rfl) (hlo : ¬ LetsOut Q := by (rintro ⟨_, _, h⟩; exact h)) : (Code.region id ops true).wpIn (Fence.wide.inRound l) n P Q a w :=
  wpIn_region_any hm (wpAnyIn_of hlo hnd _ _ _ _ (wpK.any _ _ _ _ (h hS)))
end
end Go.Proofs.YtjbnfppnmljbmaaGreat
end
section
/- A region that draws its order, by one statement per operation: what each operation leaves is said by Φ, which all later steps keep; no order is gone through. No program in sight. -/
namespace Go.Proofs.YtjbnfppnmljbmaaGreat
set_option linter.unusedVariables false
section
variable {P : Program} {ops : Array Oper} {Q : Exit → Act → World → Prop} {md : Region.Mode} {S : World → Prop} {ex : List Nat}

def dstOf (ops : Array Oper) (i : Nat) : Option Tmp := (ops[i]?).bind (·.dst)
def acts (ops : Array Oper) (a : Act) (u : Nat → Value) : List Nat → Act
  | [] => a
  | i :: l => (acts ops a u l).put (dstOf ops i) (u i)
def upd (u : Nat → Value) (i : Nat) (v : Value) : Nat → Value := fun j => if j = i then v else u j
theorem upd_same (u : Nat → Value) (i : Nat) (v : Value) : upd u i v i = v := by simp [upd]
theorem upd_ne (u : Nat → Value) {i j : Nat} (v : Value) (h : j ≠ i) : upd u i v j = u j := by simp [upd, h]
def hypAll (Φ : Nat → (Nat → Value) → World → Prop) (u : Nat → Value) (w : World) : List Nat → Prop
  | [] => True
  | j :: l => Φ j u w ∧ hypAll Φ u w l
def oblAll (O : Nat → Prop) : List Nat → Prop
  | [] => True
  | j :: l => O j ∧ oblAll O l
theorem hypAll_of {Φ : Nat → (Nat → Value) → World → Prop} {u : Nat → Value} {w : World} : ∀ {l : List Nat}, (∀ j ∈ l, Φ j u w) → hypAll Φ u w l
  | [], _ => trivial
  | j :: l, h => ⟨h j (by simp), hypAll_of fun k hk => h k (by simp [hk])⟩
theorem oblAll_mem {O : Nat → Prop} : ∀ {l : List Nat}, oblAll O l → ∀ j ∈ l, O j
  | [], _, j, h => by cases h
  | k :: l, h, j, hj => by
    rcases List.mem_cons.1 hj with rfl | hj
    · exact h.1
    · exact oblAll_mem h.2 j hj

theorem acts_notin (a : Act) (u : Nat → Value) (i : Nat) (v : Value) : ∀ (L : List Nat), i ∉ L → acts ops a (upd u i v) L = acts ops a u L
  | [], _ => rfl
  | j :: l, h => by
    simp only [List.mem_cons, not_or] at h
    rw [acts, acts, acts_notin a u i v l h.2, upd_ne u v (Ne.symm h.1)]
theorem put_put (a : Act) (d : Option Tmp) (v v' : Value) : (a.put d v).put d v' = a.put d v' := by
  cases d with
  | none => rfl
  | some d => simp [Act.put]
theorem put_comm (a : Act) (d d' : Option Tmp) (v v' : Value) (h : ∀ t, d = some t → d' ≠ some t) : (a.put d v).put d' v' = (a.put d' v').put d v := by
  cases d with
  | none => rfl
  | some d =>
    cases d' with
    | none => rfl
    | some d' =>
      have : d ≠ d' := fun e => h d rfl (by rw [e])
      simp only [Act.put]
      rw [Array.setIfInBounds_comm _ _ this]
theorem acts_upd (a : Act) (u : Nat → Value) (i : Nat) (v : Value) : ∀ (L : List Nat), L.Nodup → (∀ j ∈ L, ∀ k ∈ L, j ≠ k → ∀ t, dstOf ops j = some t → dstOf ops k ≠ some t) → i ∈ L → acts ops a (upd u i v) L = (acts ops a u L).put (dstOf ops i) v
  | [], _, _, h => by cases h
  | j :: l, hnd, hd, hi => by
    rw [List.nodup_cons] at hnd
    by_cases hij : i = j
    · subst hij
      rw [acts, acts, acts_notin a u i v l hnd.1, upd_same, put_put]
    · have hil : i ∈ l := by
        rcases List.mem_cons.1 hi with h | h
        · exact absurd h hij
        · exact h
      rw [acts, acts, acts_upd a u i v l hnd.2 (fun p hp q hq => hd p (by simp [hp]) q (by simp [hq])) hil, upd_ne u v (Ne.symm hij)]
      exact put_comm _ _ _ _ _ (hd i hi j (by simp) hij)
theorem put_self (a : Act) (d : Option Tmp) : a.put d (match d with | some t => a.tmps.getD t undef | none => undef) = a := by
  cases d with
  | none => rfl
  | some d =>
    obtain ⟨t, df⟩ := a
    simp only [Act.put]
    congr 1
    apply Array.ext
    · simp
    · intro k h1 h2
      rw [Array.getElem_setIfInBounds]
      split
      · rename_i e
        subst e
        simp at h1
        simp [h1]
      · rfl
theorem acts_self (a : Act) : ∀ (L : List Nat), acts ops a (fun i => match dstOf ops i with | some t => a.tmps.getD t undef | none => undef) L = a
  | [] => rfl
  | i :: l => by rw [acts, acts_self a l]; exact put_self a _

/-- the direct needs of an operation -/
def needsOf (md : Region.Mode) (ops : Array Oper) (i : Nat) : List Nat := ((ops[i]?).map fun o => (o.after.toList.filter fun e => Region.binds md e).map (·.on)).getD []
def invOk (md : Region.Mode) (ops : Array Oper) (ex : List Nat) (l0 : Array Bool) (todo : List Nat) (anc : Nat → List Nat) : Bool :=
  (l0.size == ops.size) && lateOk md ops ex
  && decide todo.Nodup
  && (todo.all fun j => decide (j < ops.size) && !l0.getD j true && !ex.contains j)
  && (todo.all fun j => todo.all fun k => j == k || (dstOf ops j).all fun t => dstOf ops k != some t)
  && ((List.range ops.size).all fun j => l0.getD j true || todo.contains j || ex.contains j)
  && (todo.all fun j => (needsOf md ops j).all fun k => l0.getD k false || (todo.contains k && decide (k < j)))
  && (todo.all fun i => (anc i).all fun j => todo.contains j && ((needsOf md ops i).contains j || (needsOf md ops i).any fun k => todo.contains k && (anc k).contains j))

theorem cnt_set {p q : Nat → Bool} {i : Nat} : ∀ (L : List Nat), L.Nodup → i ∈ L → p i = true → q i = false → (∀ j, j ≠ i → q j = p j) → (L.filter p).length = (L.filter q).length + 1
  | [], _, h, _, _, _ => by cases h
  | j :: l, hnd, hi, hp, hq, he => by
    rw [List.nodup_cons] at hnd
    by_cases hij : i = j
    · subst hij
      have : l.filter q = l.filter p := List.filter_congr (fun k hk => he k (fun e => hnd.1 (e ▸ hk)))
      rw [List.filter_cons, if_pos hp, List.filter_cons, if_neg (by simp [hq]), this]
      rfl
    · have hil : i ∈ l := by
        rcases List.mem_cons.1 hi with h | h
        · exact absurd h hij
        · exact h
      have ih := cnt_set l hnd.2 hil hp hq he
      rw [List.filter_cons, List.filter_cons, he j (Ne.symm hij)]
      split
      · simp [ih]
      · exact ih
theorem mem_needs {j k : Nat} {o : Oper} (ho : ops[j]? = some o) : k ∈ needsOf md ops j ↔ ∃ e ∈ o.after, Region.binds md e = true ∧ e.on = k := by
  unfold needsOf
  rw [ho]
  simp only [Option.map_some, Option.getD_some, List.mem_map, List.mem_filter, Array.mem_toList_iff]
  constructor
  · rintro ⟨e, ⟨h1, h2⟩, h3⟩; exact ⟨e, h1, h2, h3⟩
  · rintro ⟨e, h1, h2, h3⟩; exact ⟨e, ⟨h1, h2⟩, h3⟩

theorem wpK.inv {le : World → World → Prop} (hrefl : ∀ w, le w w) (htrans : ∀ a b c, le a b → le b c → le a c)
    (todo : List Nat) (anc : Nat → List Nat) (Φ : Nat → (Nat → Value) → World → Prop) {l0 : Array Bool} {a : Act} {w0 : World} {m : Nat}
    (hchk : invOk md ops ex l0 todo anc = true)
    (hstab0 : oblAll (fun i => ∀ u w w', le w w' → Φ i u w → Φ i u w') todo)
    (hcong0 : oblAll (fun i => ∀ u j v w, j ≠ i → j ∉ anc i → Φ i u w → Φ i (upd u j v) w) todo)
    (hS : ∀ x, le w0 x → S x)
    (hobl : ∀ u, oblAll (fun i => ∀ w, le w0 w → hypAll Φ u w (anc i) → wpOp P ops Q i (fun a' w' => ∃ v, a' = (acts ops a u todo).put (dstOf ops i) v ∧ le w w' ∧ Φ i (upd u i v) w') (acts ops a u todo) w) todo ∧
      ∀ w, le w0 w → hypAll Φ u w todo → wpK P md ops Q ex S m (todo.foldl (fun l j => l.setIfInBounds j true) l0) (acts ops a u todo) w) :
    wpK P md ops Q ex S (todo.length + m) l0 a w0 := by
  have hstab := oblAll_mem hstab0
  have hcong := oblAll_mem hcong0
  unfold invOk at hchk
  simp only [Bool.and_eq_true] at hchk
  obtain ⟨⟨⟨⟨⟨⟨⟨c1, c2⟩, c3⟩, c4⟩, c5⟩, c6⟩, c7⟩, c8⟩ := hchk
  have hl0 : l0.size = ops.size := by simpa using c1
  have hnd : todo.Nodup := of_decide_eq_true c3
  have h4 : ∀ j ∈ todo, j < ops.size ∧ l0.getD j true = false ∧ j ∉ ex := fun j hj => by
    have := List.all_eq_true.1 c4 j hj
    simp only [Bool.and_eq_true, decide_eq_true_eq, Bool.not_eq_true'] at this
    exact ⟨this.1.1, this.1.2, by simpa using this.2⟩
  have h5 : ∀ j ∈ todo, ∀ k ∈ todo, j ≠ k → ∀ t, dstOf ops j = some t → dstOf ops k ≠ some t := fun j hj k hk hne t ht => by
    have := List.all_eq_true.1 (List.all_eq_true.1 c5 j hj) k hk
    rw [Bool.or_eq_true] at this
    rcases this with h | h
    · exact absurd (by simpa using h) hne
    · rw [ht] at h
      simpa using h
  have h6 : ∀ j, j < ops.size → l0.getD j true = false → j ∈ todo ∨ j ∈ ex := fun j hj h0 => by
    have := List.all_eq_true.1 c6 j (List.mem_range.2 hj)
    simp only [Bool.or_eq_true] at this
    rcases this with (h | h) | h
    · rw [h0] at h; cases h
    · exact .inl (by simpa using h)
    · exact .inr (by simpa using h)
  have h7 : ∀ j ∈ todo, ∀ k ∈ needsOf md ops j, l0.getD k false = true ∨ (k ∈ todo ∧ k < j) := fun j hj k hk => by
    have := List.all_eq_true.1 (List.all_eq_true.1 c7 j hj) k hk
    simp only [Bool.or_eq_true, Bool.and_eq_true, decide_eq_true_eq] at this
    rcases this with h | ⟨h, h'⟩
    · exact .inl h
    · exact .inr ⟨by simpa using h, h'⟩
  have h8 : ∀ i ∈ todo, ∀ j ∈ anc i, j ∈ todo ∧ (j ∈ needsOf md ops i ∨ ∃ k ∈ needsOf md ops i, k ∈ todo ∧ j ∈ anc k) := fun i hi j hj => by
    have := List.all_eq_true.1 (List.all_eq_true.1 c8 i hi) j hj
    simp only [Bool.or_eq_true, Bool.and_eq_true, List.any_eq_true, List.contains_iff_mem] at this
    refine ⟨this.1, this.2.imp id ?_⟩
    rintro ⟨k, hk, h, h'⟩
    exact ⟨k, hk, h, h'⟩
  -- the steps
  have key : ∀ (k : Nat) (l : Array Bool) (u : Nat → Value) (w : World), le w0 w → l.size = ops.size → (∀ j ∈ todo, l.getD j true = true → Φ j u w) → (∀ j, j ∉ todo → l[j]? = l0[j]?) →
      (∀ j ∈ todo, l.getD j true = true → ∀ p ∈ needsOf md ops j, p ∈ todo → l.getD p true = true) → (todo.filter fun j => !l.getD j true).length = k → wpK P md ops Q ex S (k + m) l (acts ops a u todo) w := by
    intro k
    induction k with
    | zero =>
      intro l u w hle hls hΦ hrest hcl hcnt
      have hdone : ∀ j ∈ todo, l.getD j true = true := fun j hj => by
        have := List.length_eq_zero_iff.1 hcnt
        rw [List.filter_eq_nil_iff] at this
        simpa using this j hj
      have hE : l = todo.foldl (fun l j => l.setIfInBounds j true) l0 := by
        have hf : ∀ (L : List Nat) (x : Array Bool), (L.foldl (fun l j => l.setIfInBounds j true) x).size = x.size := by
          intro L; induction L with
          | nil => intro x; rfl
          | cons j L ih => intro x; rw [List.foldl_cons, ih]; simp
        have hin : ∀ (L : List Nat) (x : Array Bool) (j : Nat), j < x.size → (L.foldl (fun l j => l.setIfInBounds j true) x)[j]? = if j ∈ L then some true else x[j]? := by
          intro L; induction L with
          | nil => intro x j hj; simp
          | cons i L ih =>
            intro x j hj
            rw [List.foldl_cons, ih _ j (by simpa using hj)]
            by_cases h1 : j ∈ L
            · simp [h1]
            · by_cases h2 : j = i
              · subst h2; simp [h1, hj]
              · have h3 : i ≠ j := fun e => h2 e.symm
                simp [h1, h2, Array.getElem?_setIfInBounds_ne h3]
        apply Array.ext
        · rw [hf, hl0, hls]
        · intro j hj hj'
          have hjl : j < l0.size := by rw [hl0, ← hls]; exact hj
          have e1 := hin todo l0 j hjl
          by_cases hm : j ∈ todo
          · rw [if_pos hm] at e1
            have := hdone j hm
            simp [hj] at this
            rw [this]
            have := Array.getElem?_eq_some_iff.1 e1
            exact this.2.symm
          · rw [if_neg hm, ← hrest j hm] at e1
            rw [Array.getElem?_eq_getElem hj, Array.getElem?_eq_getElem hj'] at e1
            exact (Option.some.inj e1).symm
      rw [Nat.zero_add, hE]
      exact (hobl u).2 w hle (hypAll_of fun j hj => hΦ j hj (hdone j hj))
    | succ k ih =>
      intro l u w hle hls hΦ hrest hcl hcnt
      have hanc : ∀ (b i : Nat), i < b → i ∈ todo → (∀ p ∈ needsOf md ops i, p ∈ todo → l.getD p true = true) → ∀ j ∈ anc i, l.getD j true = true := by
        intro b
        induction b with
        | zero => intro i hi; omega
        | succ b ihb =>
          intro i hi hit hdeps j hj
          obtain ⟨hjt, hd | ⟨q, hq, hqt, hjq⟩⟩ := h8 i hit j hj
          · exact hdeps j hd hjt
          · have hlt : q < i := by
              rcases h7 i hit q hq with h | h
              · have := (h4 q hqt).2.1
                have h' : q < l0.size := by rw [hl0]; exact (h4 q hqt).1
                simp [h'] at this h
                rw [h] at this; cases this
              · exact h.2
            exact ihb q (by omega) hqt (fun p hp hpt => hcl q hqt (hdeps q hq hqt) p hp hpt) j hjq
      have hdoneN : ∀ {i : Nat} {o : Oper}, ops[i]? = some o → (∀ e ∈ o.after, Region.binds md e = true → l.getD e.on false = true) → ∀ p ∈ needsOf md ops i, p ∈ todo → l.getD p true = true := by
        intro i o ho hall p hp hpt
        obtain ⟨e, he, hb, rfl⟩ := (mem_needs ho).1 hp
        have h1 := hall e he hb
        have h' : e.on < l.size := by rw [hls]; exact (h4 _ hpt).1
        simp [h'] at h1 ⊢
        exact h1
      -- one that is not done
      have hone : ∃ j ∈ todo, l.getD j true = false := by
        have hpos : 0 < (todo.filter fun j => !l.getD j true).length := by omega
        obtain ⟨j, hj⟩ := List.exists_mem_of_length_pos hpos
        rw [List.mem_filter] at hj
        exact ⟨j, hj.1, by simpa using hj.2⟩
      have hready : Region.ready md ops l ≠ [] := by
        obtain ⟨j, hj, hjf⟩ := hone
        have : ∀ (b j : Nat), j < b → j ∈ todo → l.getD j true = false → ∃ i, i ∈ Region.ready md ops l := by
          intro b
          induction b with
          | zero => intro j h; omega
          | succ b ihb =>
            intro j hjb hj hjf
            obtain ⟨o, ho⟩ : ∃ o, ops[j]? = some o := ⟨_, Array.getElem?_eq_getElem (h4 j hj).1⟩
            by_cases hq : ∃ p ∈ needsOf md ops j, p ∈ todo ∧ l.getD p true = false
            · obtain ⟨p, hp, hpt, hpf⟩ := hq
              rcases h7 j hj p hp with h | h
              · have := (h4 p hpt).2.1
                have h' : p < l0.size := by rw [hl0]; exact (h4 p hpt).1
                simp [h'] at this h
                rw [h] at this; cases this
              · exact ihb p (by omega) hpt hpf
            · refine ⟨j, mem_ready.2 ⟨hjf, o, ho, fun e he hb => ?_⟩⟩
              have hp : e.on ∈ needsOf md ops j := (mem_needs ho).2 ⟨e, he, hb, rfl⟩
              rcases h7 j hj _ hp with h | h
              · have hnt : e.on ∉ todo := fun ht => by
                  have := (h4 _ ht).2.1
                  have h' : e.on < l0.size := by rw [hl0]; exact (h4 _ ht).1
                  simp [h'] at this h
                  rw [h] at this; cases this
                have := hrest _ hnt
                simp only [Array.getD_eq_getD_getElem?] at h ⊢
                rw [this]; exact h
              · have : l.getD e.on true = true := by
                  cases hv : l.getD e.on true with
                  | true => rfl
                  | false => exact absurd ⟨_, hp, h.1, hv⟩ hq
                have h' : e.on < l.size := by rw [hls]; exact (h4 _ h.1).1
                simp [h'] at this ⊢
                exact this
        obtain ⟨i, hi⟩ := this (j + 1) j (by omega) hj hjf
        intro h0
        rw [h0] at hi; cases hi
      rw [show k + 1 + m = (k + m) + 1 by omega]
      refine ⟨fun h0 => absurd h0 hready, fun i hi => ?_⟩
      obtain ⟨hif, o, ho, hall⟩ := mem_ready.1 hi
      have hin : i < ops.size := (Array.getElem?_eq_some_iff.1 ho).1
      have hit : i ∈ todo := by
        by_cases hm : i ∈ todo
        · exact hm
        · have e := hrest i hm
          have : l0.getD i true = false := by
            simp only [Array.getD_eq_getD_getElem?] at hif ⊢
            rw [← e]; exact hif
          rcases h6 i hin this with h | h
          · exact h
          · obtain ⟨j, hj, hjf⟩ := hone
            obtain ⟨o', ho', e, he, hb, hon⟩ := lateOk_spec c2 h (h4 j hj).1 (h4 j hj).2.2
            obtain rfl : o = o' := by rw [ho] at ho'; exact Option.some.inj ho'
            have h1 := hall e he hb
            rw [hon] at h1
            have h' : j < l.size := by rw [hls]; exact (h4 j hj).1
            simp [h'] at h1 hjf
            rw [h1] at hjf; cases hjf
      have hneeds := hdoneN ho hall
      have hob := oblAll_mem (hobl u).1 i hit w hle (hypAll_of fun j hj => hΦ j (h8 i hit j hj).1 (hanc (i + 1) i (by omega) hit hneeds j hj))
      refine wpOp_mono (fun a' w' hk => ?_) hob
      obtain ⟨v, rfl, hle', hphi⟩ := hk
      have hle2 := htrans _ _ _ hle hle'
      refine ⟨.inr (hS _ hle2), ?_⟩
      rw [← acts_upd a u i v todo hnd h5 hit]
      have hil : i < l.size := by rw [hls]; exact hin
      have hset : ∀ j, j ≠ i → (l.setIfInBounds i true).getD j true = l.getD j true := fun j hj => getD_set_ne true (Ne.symm hj)
      have hseti : (l.setIfInBounds i true).getD i true = true := by simp
      refine ih _ (upd u i v) w' hle2 (by simpa using hls) ?_ ?_ ?_ ?_
      · intro j hj hjd
        by_cases hji : j = i
        · subst hji; exact hphi
        · rw [hset j hji] at hjd
          refine hcong j hj u i v w' (Ne.symm hji) ?_ (hstab j hj _ _ _ hle' (hΦ j hj hjd))
          intro hia
          have := hanc (j + 1) j (by omega) hj (fun p hp hpt => hcl j hj hjd p hp hpt) i hia
          rw [this] at hif; cases hif
      · intro j hj
        have hji : i ≠ j := fun e => hj (e ▸ hit)
        rw [Array.getElem?_setIfInBounds_ne hji]
        exact hrest j hj
      · intro j hj hjd p hp hpt
        by_cases hpi : p = i
        · subst hpi; exact hseti
        · rw [hset p hpi]
          by_cases hji : j = i
          · subst hji; exact hneeds p hp hpt
          · rw [hset j hji] at hjd
            exact hcl j hj hjd p hp hpt
      · have := cnt_set (p := fun j => !l.getD j true) (q := fun j => !(l.setIfInBounds i true).getD j true) (i := i) todo hnd hit (by simp only [hif]; rfl) (by rw [hseti]; rfl) (fun j hj => by rw [hset j hj])
        omega
  have hdst0 := acts_self (ops := ops) a todo
  have h0 := key todo.length l0 (fun i => match dstOf ops i with | some t => a.tmps.getD t undef | none => undef) w0 (hrefl w0) hl0 (fun j hj h => by rw [(h4 j hj).2.1] at h; cases h) (fun j _ => rfl) (fun j hj h => by rw [(h4 j hj).2.1] at h; cases h)
    (by rw [List.filter_eq_self.2]; intro j hj; rw [(h4 j hj).2.1]; rfl)
  rw [hdst0] at h0
  exact h0
/-- one operation's step, in such a region -/
theorem wpOp_stepI {le : World → World → Prop} {φ : Value → World → Prop} {i : Nat} {o : Oper} {a : Act} {w : World} {d : Option Tmp} (ho : ops[i]? = some o) (hd : o.dst = d)
    (h : ∀ K' : Act → World → Prop, Shut (∀ v w', le w w' → φ v w' → K' (a.put o.dst v) w') → if Region.wanted o (yielded ops a.tmps) = true then Oper.wp P o a w K' Q else K' (a.put o.dst undef) w) :
    wpOp P ops Q i (fun a' w' => ∃ v, a' = a.put d v ∧ le w w' ∧ φ v w') a w :=
  wpOp_step ho (fun K' hK => h K' (fun v w' h1 h2 => hK _ _ ⟨v, by rw [hd], h1, h2⟩))
end
end Go.Proofs.YtjbnfppnmljbmaaGreat
end
section
/- Contracts of rtree's Any and has. -/
namespace Go.Proofs.YtjbnfppnmljbmaaGreat
open Go.RowKit
open Go.Lib (hid)
set_option linter.unusedVariables false
attribute [local go_sem] Oper.semAt_some

theorem own_blkR {W W' : World} {row : Option Nat} {B b : Nat} {cs : Array Value} (hg : W.grownBy W' row) (hr : ∀ r, row = some r → B ≤ r ∧ ∃ o : Obj, W.heap[r]? = some o ∧ o.isCells = false) (hb : Blk W b cs) : Blk W' b cs :=
  hb.upd (Upd.of_grown hg) (fun q => by
    obtain ⟨e, hb⟩ := hb
    obtain ⟨-, o, ho, hc⟩ := hr b q
    rw [hb] at ho; cases ho; cases hc)
theorem keepsFrom_belowR {B : Nat} {W W' : World} (h : Below W.heap.size W W') : KeepsFrom B W W' := ⟨h.size, fun k o _ hk _ => (h.block k (Array.getElem?_eq_some_iff.1 hk).1).trans hk⟩
set_option maxRecDepth 100000 in
set_option maxHeartbeats 8000000 in
theorem rt_Any4 (w : World) (s d : Nat) (n : Nd) (cnt : Int) (x y a b : Int) (ht : TreeAt w s d n cnt) (hd : d ≤ 1000) :
    Calls Tryz.prog 38 #[.pointer (some ⟨s, 0, none⟩), .agg #[.int .i64 x, .int .i64 y, .int .i64 a, .int .i64 b]] w fun e w' => e = .returned (.bool (decide (flR (tMeets (x, y, a, b)) (thgN (d + 1) n) ≠ []))) ∧ Below w.heap.size w w' := by
  obtain ⟨Y, hY⟩ : ∃ Y, flR (tMeets (x, y, a, b)) (thgN (d + 1) n) = Y := ⟨_, rfl⟩
  have HY := hid hY
  rw [hY]
  have HT := hid ht
  have HD := hid hd
  clear ht hd hY
  refine (callsIn_wide (n := 5)).1 ?_
  refine callsIn_of_wp_marks Tryz.func38 rfl trivial ?_ rfl
  simp only [Tryz.ntmps38, List.size_toArray, List.length_cons, List.length_nil, Nat.reduceAdd, Nat.reduceSub, Array.replicate_succ, Array.replicate_zero, List.push_toArray, List.append_toArray, List.nil_append, List.cons_append]
  gi_wp2_with (refine ⟨trivial, ?_⟩; refine (callsIn_wide.2 (rt_Meets4 _ s x y a b)).mono ?_; rintro e w1 ⟨bT, bI, rfl, hT, hI, hb⟩)
  obtain ⟨w2, hw2⟩ : ∃ w2, w2 = (w.alloc (.cells #[.int .i64 x, .int .i64 y, .int .i64 a, .int .i64 b] 25)).alloc (.cells #[.bool false] 4) := ⟨_, rfl⟩
  rw [← hw2] at hb
  obtain ⟨b4, hb4⟩ : ∃ z, z = w.heap.size + 1 := ⟨_, rfl⟩
  obtain ⟨b3, hb3⟩ : ∃ z, z = w.heap.size := ⟨_, rfl⟩
  have hz1 : (World.alloc w (.cells #[.int .i64 x, .int .i64 y, .int .i64 a, .int .i64 b] 25)).heap.size = w.heap.size + 1 := by simp
  rw [← hb4]
  try rw [← hb3]
  have hb2 : Below w.heap.size w w2 := by rw [hw2]; exact Below.next (Below.new _ _) (Below.new _ _)
  have HK4 : Hid (Blk w1 b4 #[.bool false]) := hid ((show Blk w2 b4 #[.bool false] by rw [hw2, hb4, ← hz1]; exact Blk.new _ _ _).below hb)
  have HB1 := hid (Below.next hb2 hb)
  have HZ : Hid (b3 = w.heap.size ∧ b4 = w.heap.size + 1) := hid ⟨hb3, hb4⟩
  have HT1 := hid (HT.out.below HB1.out)
  have HTI := hid (And.intro hT hI)
  clear hw2 hb hb4 hb3 hz1 hb2 hT hI
  have hl1 : w.heap.size ≤ w1.heap.size := HB1.out.size
  refine wpIn_rangeFunc_ownH (F := Fence.wide) (n := 5) (α := Tg) rfl (by omega) (gf := 74) (lb := #[.pointer (some ⟨bT, 0, none⟩), .pointer (some ⟨bI, 0, none⟩)]) rfl trivial (enters_of Tryz.func74 (by kernel_rfl) rfl)
    (stops_where bT bI s d 53 n cnt w.heap.size #[.agg #[.int .i64 x, .int .i64 y, .int .i64 a, .int .i64 b]] #[] (tMeets (x, y, a, b)) w1 hl1 HTI.out.1 HTI.out.2 HT1.out (fun k hk => HT.out.lt k (List.mem_cons_of_mem _ hk)) HD.out (test_Meets _ _ _ x y a b))
    (fun h k => h.trans k) (fun W l o o' hlo ho hc _ => KeepR.put hl1 W l o o' hlo ho hc) (Below.refl _ _) (fun _ => rfl)
    (fun pre W => (Blk W b4 #[.bool false] ∧ pre = []) ∧ Below w.heap.size w W ∧ w1.heap.size ≤ W.heap.size)
    (fun c pre W => (c = .ret ∧ Blk W b4 #[.bool true] ∧ pre ≠ []) ∧ Below w.heap.size w W ∧ w1.heap.size ≤ W.heap.size)
    ?hI ?hIx ?h0
    (fun z a' W => a' = { tmps := #[.pointer (some ⟨s, 0, none⟩), .agg #[.int .i64 x, .int .i64 y, .int .i64 a, .int .i64 b], undef, .pointer (some ⟨b3, 0, none⟩), .pointer (some ⟨b4, 0, none⟩), .pointer (some ⟨s, 0, none⟩), .agg #[.int .i64 x, .int .i64 y, .int .i64 a, .int .i64 b], itV bT bI, rV z.1, .int .i64 z.2], defers := [] })
    ?hAx ?assign ?body ?done ?stop
  case hI =>
    rintro pre W W' row ⟨⟨h1, h2⟩, hb, hz⟩ hg hr
    exact ⟨⟨own_blkR hg hr h1, h2⟩, hb.grown hg hb.size (fun j hj => by have := (hr j hj).1; omega), Nat.le_trans hz hg.size⟩
  case hIx =>
    rintro c pre W W' row ⟨⟨h1, h2, h3⟩, hb, hz⟩ hg hr
    exact ⟨⟨h1, own_blkR hg hr h2, h3⟩, hb.grown hg hb.size (fun j hj => by have := (hr j hj).1; omega), Nat.le_trans hz hg.size⟩
  case h0 => exact ⟨⟨HK4.out, rfl⟩, HB1.out, Nat.le_refl _⟩
  case hAx =>
    rintro z a' u W W' row h1 hg hr
    exact h1
  case assign =>
    rintro l pre ⟨⟨zx, zy, za, zb⟩, zv⟩ W K hI hK
    gi_wp2
    exact hK _ _ ((KeepsOthers.refl _).from _) (KeepR.refl _ _ _) hI rfl
  case body =>
    rintro l pre ⟨⟨zx, zy, za, zb⟩, zv⟩ a' W hl hrec hI rfl hlen
    have HI2 := hid hI
    have k4 : W.cell? ⟨b4, 0, none⟩ = some (.bool false) := by rw [hI.1.1.cell]; rfl
    have f4 : W.frozen? ⟨b4, 0, none⟩ = false := hI.1.1.unfrozen 0
    clear hI hlen
    gi_wp2
    have hz := HZ.out
    exact ⟨(KeepsOthers.setCell _ _ _).from _, ⟨rfl, by simpa using HI2.out.1.1.set 0 (.bool true), by simp⟩, HI2.out.2.1.setCell (by show _ ≤ b4; omega) _, by have := HI2.out.2.2; simpa using this⟩
  case done =>
    rintro D ys W hD rfl ⟨⟨h1, h2⟩, hb, hz⟩ hK
    rw [HY.out] at h2
    subst h2
    have k4 : W.cell? ⟨b4, 0, none⟩ = some (.bool false) := by rw [h1.cell]; rfl
    have f4 : W.frozen? ⟨b4, 0, none⟩ = false := h1.unfrozen 0
    gi_wp2
    have hK' := (KeepsOthers.setCell W ⟨b4, 0, none⟩ (.bool false)).same D _ hK rfl
    refine ⟨by simp, .inl ⟨_, _, rfl, run_takeDeferred hK', ?_⟩⟩
    have hc4 := cell_kept (World.cell?_setCell_same' W ⟨b4, 0, none⟩ (.bool false) (by rw [k4]; rfl)) (grownBy_putObj' _ D (.deferred none)) (fun r e => by cases e; exact ⟨_, hK', rfl⟩)
    refine ⟨.bool false, ?_, by simp, (hb.setCell (p := ⟨b4, 0, none⟩) (by have := HZ.out; show _ ≤ b4; omega) _).trans (belowK_b (w := w) (Nat.le_refl _) _ D _ _ (by have := hb.size; have := HB1.out.size; omega) hK' rfl rfl)⟩
    simp [results, Tryz.f38, go_sem, hc4]
  case stop =>
    rintro D c pre W hD hpre ⟨⟨rfl, h2, h3⟩, hb, hz⟩ hK
    rw [HY.out] at hpre
    have hne : Y ≠ [] := fun e => by rw [e] at hpre; exact h3 (List.prefix_nil.1 hpre)
    have k4 : W.cell? ⟨b4, 0, none⟩ = some (.bool true) := by rw [h2.cell]; rfl
    gi_wp2
    refine ⟨by simp, .inl ⟨_, _, rfl, run_takeDeferred hK, ?_⟩⟩
    have hc4 := cell_kept k4 (grownBy_putObj' _ D (.deferred none)) (fun r e => by cases e; exact ⟨_, hK, rfl⟩)
    refine ⟨.bool true, ?_, by rw [decide_eq_true hne], hb.trans (belowK_b (w := w) (Nat.le_refl _) _ D _ _ (by have := hb.size; have := HB1.out.size; omega) hK rfl rfl)⟩
    simp [results, Tryz.f38, go_sem, hc4]
end Go.Proofs.YtjbnfppnmljbmaaGreat
end
