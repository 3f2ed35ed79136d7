/- Joined texts, in this order: ThingMem, Region. Each one's first remark says what it proves; no condition beyond those that its theorems name. -/
import Derived.Test.YtdoflhiogoefjaaDoorJLawThingFinds09
import Derived.Test.YtdoflhiogoefjaaDoorJLawThingFinds12
import Derived.WalkKit
import Derived.Lib.Hide
import Derived.Deep.RegionHeld
section
/- How things stand in memory. -/
namespace Go.Proofs.YtdoflhiogoefjaaDoor
open Go.RowKit
open Go.Lib (hid)
set_option linter.unusedVariables false

structure PRow where
  p : P3
  v : Value
  l : List Int
def PRow.core (r : PRow) : P3 × List Int := (r.p, r.l)
def PRow.key (r : PRow) : P3 × Value := (r.p, r.v)
def thKV (x : Th) : Int × Value := (x.id, thV x)
abbrev ownI0 (w : World) (v : Value) (l : List Int) : Prop := w.ownsRow 0 3 1 v l.length (iv l)
structure ThParts (w : World) (s : Nat) (F : Nat → Prop) (b1 b2 : Nat) (nx : Int) (M : List Th) (R : List PRow) : Prop where
  blk : Blk w s #[.map (some b1), .map (some b2), .int .i64 nx]
  m1 : MapE w b1 (M.map thKV)
  m2 : MP.MapP w b2 (R.map PRow.key)
  fs : F s
  f1 : F b1
  f2 : F b2
  n1 : s ≠ b1
  n2 : s ≠ b2
  n3 : b1 ≠ b2
  row : ∀ r ∈ R, ownI0 w r.v r.l
  feet : ∀ r ∈ R, ∀ k, r.v.ownBlock = some k → F k ∧ k ≠ s ∧ k ≠ b1 ∧ k ≠ b2
  far : ∀ r ∈ R, ∀ q ∈ R, r.p ≠ q.p → ∀ k, r.v.ownBlock = some k → q.v.ownBlock ≠ some k
structure ThRel (M : List Th) (R : List PRow) (L : List Th) : Prop where
  r1 : M.Perm L
  r2 : ∀ p, (R.map PRow.core).lookup p = if inT L p = [] then none else some (inT L p)
def ThCore (w : World) (s : Nat) (F : Nat → Prop) (L : List Th) (nx : Int) : Prop := ∃ b1 b2 M R, ThParts w s F b1 b2 nx M R ∧ ThRel M R L ∧ SortK kI L
def ThingIs (w : World) (s : Nat) (F : Nat → Prop) (X : ThX) : Prop := ThCore w s F X.L X.nx ∧ TInv X
theorem ThParts.upd {S : Nat → Prop} {w w' : World} {s : Nat} {F : Nat → Prop} {b1 b2 : Nat} {nx : Int} {M : List Th} {R : List PRow} (h : ThParts w s F b1 b2 nx M R) (hu : Upd S w w') (hS : ∀ k, S k → ¬ F k) : ThParts w' s F b1 b2 nx M R :=
  ⟨h.blk.upd hu (fun q => hS _ q h.fs), h.m1.upd hu (fun q => hS _ q h.f1), h.m2.upd hu (fun q => hS _ q h.f2), h.fs, h.f1, h.f2, h.n1, h.n2, h.n3, fun r hr => hu.owns (h.row r hr) (fun k hk q => hS k q (h.feet r hr k hk).1), h.feet, h.far⟩
theorem ThParts.weaken {w : World} {s : Nat} {F G : Nat → Prop} {b1 b2 : Nat} {nx : Int} {M : List Th} {R : List PRow} (h : ThParts w s F b1 b2 nx M R) (hG : ∀ k, F k → k < w.heap.size → G k) : ThParts w s G b1 b2 nx M R :=
  ⟨h.blk, h.m1, h.m2, hG _ h.fs h.blk.lt, hG _ h.f1 h.m1.lt, hG _ h.f2 h.m2.lt, h.n1, h.n2, h.n3, h.row, fun r hr k hk => ⟨hG k (h.feet r hr k hk).1 ((h.row r hr).lt k hk).2, (h.feet r hr k hk).2⟩, h.far⟩
theorem ThCore.upd {S : Nat → Prop} {w w' : World} {s : Nat} {F : Nat → Prop} {L : List Th} {nx : Int} (h : ThCore w s F L nx) (hu : Upd S w w') (hS : ∀ k, S k → ¬ F k) : ThCore w' s F L nx := by
  obtain ⟨b1, b2, M, R, hp, hr⟩ := h; exact ⟨b1, b2, M, R, hp.upd hu hS, hr⟩
theorem ThCore.below {w w' : World} {s : Nat} {F : Nat → Prop} {L : List Th} {nx : Int} (h : ThCore w s F L nx) (hb : Below w.heap.size w w') : ThCore w' s F L nx :=
  h.upd (S := fun _ => False) (Upd.of_below hb) (fun _ q => q.elim)
theorem ThCore.weaken {w : World} {s : Nat} {F G : Nat → Prop} {L : List Th} {nx : Int} (h : ThCore w s F L nx) (hG : ∀ k, F k → k < w.heap.size → G k) : ThCore w s G L nx := by
  obtain ⟨b1, b2, M, R, hp, hr⟩ := h; exact ⟨b1, b2, M, R, hp.weaken hG, hr⟩
theorem ThingIs.upd {S : Nat → Prop} {w w' : World} {s : Nat} {F : Nat → Prop} {X : ThX} (h : ThingIs w s F X) (hu : Upd S w w') (hS : ∀ k, S k → ¬ F k) : ThingIs w' s F X := ⟨h.1.upd hu hS, h.2⟩
theorem ThingIs.below {w w' : World} {s : Nat} {F : Nat → Prop} {X : ThX} (h : ThingIs w s F X) (hb : Below w.heap.size w w') : ThingIs w' s F X := ⟨h.1.below hb, h.2⟩
theorem ThingIs.weaken {w : World} {s : Nat} {F G : Nat → Prop} {X : ThX} (h : ThingIs w s F X) (hG : ∀ k, F k → k < w.heap.size → G k) : ThingIs w s G X := ⟨h.1.weaken hG, h.2⟩
theorem ThParts.cells {w : World} {s : Nat} {F : Nat → Prop} {b1 b2 : Nat} {nx : Int} {M : List Th} {R : List PRow} (h : ThParts w s F b1 b2 nx M R) : w.cell? ⟨s, 0, none⟩ = some (.map (some b1)) ∧ w.cell? ⟨s, 1, none⟩ = some (.map (some b2)) ∧ w.cell? ⟨s, 2, none⟩ = some (.int .i64 nx) :=
  ⟨by rw [h.blk.cell]; rfl, by rw [h.blk.cell]; rfl, by rw [h.blk.cell]; rfl⟩
/-- the map of things, asked -/
theorem lookM {M L : List Th} (hp : M.Perm L) (hs : SortK kI L) (n : Int) : (M.map thKV).lookup n = (fdT L n).map thV := by
  have hn : ((M.map thKV).map (·.1)).Nodup := by
    rw [List.map_map]
    exact (hp.map (fun x => x.id)).nodup_iff.2 (SortK.nodup kI hs)
  cases e : fdT L n with
  | none =>
    rw [Option.map_none, lookup_none_iff]
    intro p hpm
    obtain ⟨x, hx, rfl⟩ := List.mem_map.1 hpm
    exact (fdT_none.1 e) x (hp.mem_iff.1 hx)
  | some x =>
    obtain ⟨h1, h2⟩ := (fdT_some hs).1 e
    rw [Option.map_some, lookup_mem_iff hn, ← h2]
    exact List.mem_map.2 ⟨x, hp.mem_iff.2 h1, rfl⟩
theorem putM {M : List Th} {x : Th} (h : ∀ y ∈ M, y.id ≠ x.id) : aput (M.map thKV) x.id (thV x) = (M ++ [x]).map thKV := by
  have : (M.map thKV).lookup x.id = none := by
    rw [lookup_none_iff]
    intro p hp
    obtain ⟨y, hy, rfl⟩ := List.mem_map.1 hp
    exact h y hy
  unfold aput
  rw [this, List.map_append]; rfl
theorem delM (M : List Th) (n : Int) : adel (M.map thKV) n = (delT M n).map thKV := by
  unfold adel delT
  rw [List.filter_map]
  have e : ((fun p : Int × Value => p.1 != n) ∘ thKV) = (fun x : Th => !decide (x.id = n)) := by
    funext x
    show (x.id != n) = !decide (x.id = n)
    simp [bne, Bool.beq_eq_decide_eq]
  rw [e]
theorem permDel {M L : List Th} (h : M.Perm L) (n : Int) : (delT M n).Perm (delT L n) := h.filter _
/-- a row laid -/
def putRow (R : List PRow) (r : PRow) : List PRow := if ((R.map PRow.key).lookup r.p).isSome then R.map (fun q => if q.p = r.p then r else q) else R ++ [r]
theorem isSome_rows (R : List PRow) (p : P3) : ((R.map PRow.key).lookup p).isSome = ((R.map PRow.core).lookup p).isSome := by
  induction R with
  | nil => rfl
  | cons r R ih =>
    simp only [List.map_cons, PRow.key, PRow.core, List.lookup_cons]
    cases p == r.p
    · exact ih
    · rfl
theorem putRow_key (R : List PRow) (r : PRow) : (putRow R r).map PRow.key = MP.aput (R.map PRow.key) r.p r.v := by
  unfold putRow MP.aput
  split
  · rw [List.map_map, List.map_map]
    apply List.map_congr_left
    intro q _
    show PRow.key (if q.p = r.p then r else q) = (if (PRow.key q).1 = r.p then (r.p, r.v) else PRow.key q)
    by_cases h : q.p = r.p
    · rw [if_pos h, if_pos (show (PRow.key q).1 = r.p from h)]; rfl
    · rw [if_neg h, if_neg (show ¬ (PRow.key q).1 = r.p from h)]
  · rw [List.map_append]; rfl
theorem putRow_core (R : List PRow) (r : PRow) : (putRow R r).map PRow.core = MP.aput (R.map PRow.core) r.p r.l := by
  unfold putRow MP.aput
  rw [isSome_rows]
  split
  · rw [List.map_map, List.map_map]
    apply List.map_congr_left
    intro q _
    show PRow.core (if q.p = r.p then r else q) = (if (PRow.core q).1 = r.p then (r.p, r.l) else PRow.core q)
    by_cases h : q.p = r.p
    · rw [if_pos h, if_pos (show (PRow.core q).1 = r.p from h)]; rfl
    · rw [if_neg h, if_neg (show ¬ (PRow.core q).1 = r.p from h)]
  · rw [List.map_append]; rfl
theorem putRow_mem {R : List PRow} {r q : PRow} (h : q ∈ putRow R r) : q = r ∨ (q ∈ R ∧ q.p ≠ r.p) := by
  unfold putRow at h
  split at h
  · obtain ⟨x, hx, rfl⟩ := List.mem_map.1 h
    by_cases e : x.p = r.p
    · left; rw [if_pos e]
    · right; rw [if_neg e]; exact ⟨hx, e⟩
  · rename_i hn
    rcases List.mem_append.1 h with h | h
    · right
      refine ⟨h, fun e => hn ?_⟩
      cases q2 : (R.map PRow.key).lookup r.p with
      | some _ => rfl
      | none => exact absurd e (MP.lookup_none_iff.1 q2 (PRow.key q) (List.mem_map_of_mem h))
    · left; simpa using h
def delRow (R : List PRow) (p : P3) : List PRow := R.filter (fun q => !decide (q.p = p))
theorem delRow_key (R : List PRow) (p : P3) : (delRow R p).map PRow.key = MP.adel (R.map PRow.key) p := by
  unfold delRow MP.adel
  rw [List.filter_map]
  congr 1
  apply List.filter_congr
  intro x _
  show (!decide (x.p = p)) = (x.p != p)
  simp [bne, Bool.beq_eq_decide_eq]
theorem delRow_core (R : List PRow) (p : P3) : (delRow R p).map PRow.core = MP.adel (R.map PRow.core) p := by
  unfold delRow MP.adel
  rw [List.filter_map]
  congr 1
  apply List.filter_congr
  intro x _
  show (!decide (x.p = p)) = (x.p != p)
  simp [bne, Bool.beq_eq_decide_eq]
theorem delRow_mem {R : List PRow} {p : P3} {q : PRow} (h : q ∈ delRow R p) : q ∈ R ∧ q.p ≠ p := by
  unfold delRow at h; simpa using h
/-- those at a place: a slice of their own -/
structure PlAt (w : World) (s : Nat) (F : Nat → Prop) (b1 b2 : Nat) (R : List PRow) (p : P3) (v : Value) (l : List Int) : Prop where
  look : ((R.map PRow.key).lookup p).getD (.slice none 0 0) = v
  own : ownI0 w v l
  feet : ∀ k, v.ownBlock = some k → F k ∧ k ≠ s ∧ k ≠ b1 ∧ k ≠ b2
  far : ∀ q ∈ R, q.p ≠ p → ∀ k, q.v.ownBlock = some k → v.ownBlock ≠ some k
theorem ThParts.place {w : World} {s : Nat} {F : Nat → Prop} {b1 b2 : Nat} {nx : Int} {M : List Th} {R : List PRow} {L : List Th} (h : ThParts w s F b1 b2 nx M R) (hr : ThRel M R L) (p : P3) : ∃ v, PlAt w s F b1 b2 R p v (inT L p) := by
  have h2 := hr.r2 p
  have hi := isSome_rows R p
  cases hk : (R.map PRow.key).lookup p with
  | none =>
    rw [hk] at hi
    have hl : inT L p = [] := by
      rw [h2] at hi
      by_cases e : inT L p = []
      · exact e
      · rw [if_neg e] at hi; cases hi
    refine ⟨.slice none 0 0, by rw [hk]; rfl, by rw [hl]; exact World.ownsRow_nil _ _ _ _, by simp [Value.ownBlock], by simp [Value.ownBlock]⟩
  | some v =>
    have hm := MP.lookup_mem hk
    obtain ⟨r, hrm, e⟩ := List.mem_map.1 hm
    have e1 : r.p = p := (Prod.mk.inj e).1
    have e2 : r.v = v := (Prod.mk.inj e).2
    have hn : ((R.map PRow.core).map (·.1)).Nodup := by
      have := h.m2.nodup
      rw [List.map_map] at this ⊢
      exact this
    have hl : (R.map PRow.core).lookup p = some r.l := (MP.lookup_mem_iff hn).2 (by rw [← e1]; exact List.mem_map_of_mem (f := PRow.core) hrm)
    rw [h2] at hl
    have hll : inT L p = r.l := by
      by_cases e : inT L p = []
      · rw [if_pos e] at hl; cases hl
      · rw [if_neg e] at hl; exact Option.some.inj hl
    subst e2
    refine ⟨r.v, by rw [hk]; rfl, by rw [hll]; exact h.row r hrm, h.feet r hrm, fun q hq hne k hk2 => h.far q hq r hrm (by rw [e1]; exact hne) k hk2⟩
/-- memory has turned, at one place alone -/
theorem ThParts.remake {S : Nat → Prop} {w w' : World} {s : Nat} {F : Nat → Prop} {b1 b2 : Nat} {nx nx' : Int} {M M' : List Th} {R R' : List PRow} (h : ThParts w s F b1 b2 nx M R) (hu : Upd S w w') (p : P3) (v v' : Value) (l' : List Int)
    (hb : Blk w' s #[.map (some b1), .map (some b2), .int .i64 nx']) (h1 : MapE w' b1 (M'.map thKV)) (h2 : MP.MapP w' b2 (R'.map PRow.key))
    (hf : ∀ k, v.ownBlock = some k → F k ∧ k ≠ s ∧ k ≠ b1 ∧ k ≠ b2) (hfar : ∀ q ∈ R, q.p ≠ p → ∀ k, q.v.ownBlock = some k → v.ownBlock ≠ some k)
    (hS : ∀ q ∈ R, q.p ≠ p → ∀ k, q.v.ownBlock = some k → ¬ S k) (ho : ownI0 w' v' l') (hg : ∀ k, v'.ownBlock = some k → v.ownBlock = some k ∨ w.heap.size ≤ k)
    (hR : ∀ q ∈ R', q = ⟨p, v', l'⟩ ∨ (q ∈ R ∧ q.p ≠ p)) : ThParts w' s (fun k => F k ∨ w.heap.size ≤ k) b1 b2 nx' M' R' := by
  have a := h.blk.lt
  have b := h.m1.lt
  have c := h.m2.lt
  refine ⟨hb, h1, h2, .inl h.fs, .inl h.f1, .inl h.f2, h.n1, h.n2, h.n3, ?_, ?_, ?_⟩
  · intro q hq
    rcases hR q hq with rfl | ⟨hq, hn⟩
    · exact ho
    · exact hu.owns (h.row q hq) (fun k hk q2 => hS q hq hn k hk q2)
  · intro q hq k hk
    rcases hR q hq with rfl | ⟨hq, hn⟩
    · rcases hg k hk with e | e
      · exact ⟨.inl (hf k e).1, (hf k e).2⟩
      · exact ⟨.inr e, by omega, by omega, by omega⟩
    · exact ⟨.inl (h.feet q hq k hk).1, (h.feet q hq k hk).2⟩
  · intro q hq q2 hq2 hne k hk hk2
    rcases hR q hq with rfl | ⟨m1, n1⟩
    · rcases hR q2 hq2 with rfl | ⟨m2, n2⟩
      · exact hne rfl
      · rcases hg k hk with e | e
        · exact hfar q2 m2 n2 k hk2 e
        · have := (h.row q2 m2).lt k hk2; omega
    · rcases hR q2 hq2 with rfl | ⟨m2, n2⟩
      · rcases hg k hk2 with e | e
        · exact hfar q m1 n1 k hk e
        · have := (h.row q m1).lt k hk; omega
      · exact h.far q m1 q2 m2 hne k hk hk2
/-- the rows, once a thing has come -/
theorem ThRel.ins {M : List Th} {R : List PRow} {L : List Th} (h : ThRel M R L) (hs : SortK kI L) {x : Th} (hx : ∀ y ∈ L, y.id ≠ x.id) (v' : Value) : ThRel (M ++ [x]) (putRow R ⟨x.pl, v', insK kN (inT L x.pl) x.id⟩) (insK kI L x) := by
  refine ⟨?_, fun p => ?_⟩
  · exact (List.perm_append_comm.trans (List.Perm.cons x h.r1)).trans (insK_perm kI L x).symm
  · rw [putRow_core, MP.lookup_aput, inT_ins hs]
    by_cases e : p = x.pl
    · rw [if_pos e, if_pos e, e]
      rw [if_neg (fun q => by have := congrArg List.length q; rw [insK_len] at this; simp at this)]
    · rw [if_neg e, if_neg e]; exact h.r2 p
theorem ThRel.del {M : List Th} {R : List PRow} {L : List Th} (h : ThRel M R L) (hs : SortK kI L) {x : Th} (hx : x ∈ L) (v' : Value) :
    ThRel (delT M x.id) (if inT (delT L x.id) x.pl = [] then delRow R x.pl else putRow R ⟨x.pl, v', inT (delT L x.id) x.pl⟩) (delT L x.id) := by
  refine ⟨permDel h.r1 _, fun p => ?_⟩
  split
  · rename_i e0
    rw [delRow_core, MP.lookup_adel]
    by_cases e : p = x.pl
    · rw [if_pos e, e, if_pos e0]
    · rw [if_neg e, inT_del_other hs hx e]; exact h.r2 p
  · rename_i e0
    rw [putRow_core, MP.lookup_aput]
    by_cases e : p = x.pl
    · rw [if_pos e, e, if_neg e0]
    · rw [if_neg e, inT_del_other hs hx e]; exact h.r2 p
end Go.Proofs.YtdoflhiogoefjaaDoor
end
section
/- A region that draws its order: reads are taken first while S holds; the operations of 'ex' wait for all others, and behind them S need not hold. No program in sight. -/
namespace Go.Proofs.YtdoflhiogoefjaaDoor
set_option linter.unusedVariables false
section
variable {P : Program} {ops : Array Oper} {Q : Exit → Act → World → Prop} {md : Region.Mode} {S : World → Prop} {ex : List Nat}

/-- the operations of ex wait for all that are not of ex -/
def lateOk (md : Region.Mode) (ops : Array Oper) (ex : List Nat) : Bool :=
  ex.all fun j => (List.range ops.size).all fun k => ex.contains k || ((ops[j]?.map fun o => o.after.any fun e => Region.binds md e && e.on == k).getD false)
theorem lateOk_spec (h : lateOk md ops ex = true) {j i : Nat} (hj : j ∈ ex) (hi : i < ops.size) (hn : i ∉ ex) : ∃ o, ops[j]? = some o ∧ ∃ e ∈ o.after, Region.binds md e = true ∧ e.on = i := by
  have h1 := List.all_eq_true.1 (List.all_eq_true.1 h j hj) i (List.mem_range.2 hi)
  rw [Bool.or_eq_true] at h1
  rcases h1 with h2 | h2
  · exact absurd (by simpa using h2) hn
  · cases ho : ops[j]? with
    | none => rw [ho] at h2; simp at h2
    | some o =>
      rw [ho] at h2
      simp only [Option.map_some, Option.getD_some, Array.any_eq_true] at h2
      obtain ⟨m, hm, hb⟩ := h2
      simp only [Bool.and_eq_true, beq_iff_eq] at hb
      exact ⟨o, rfl, o.after[m], Array.getElem_mem hm, hb.1, hb.2⟩

def wpK (P : Program) (md : Region.Mode) (ops : Array Oper) (Q : Exit → Act → World → Prop) (ex : List Nat) (S : World → Prop) : Nat → Array Bool → Act → World → Prop
  | 0, l, a, w => Region.ready md ops l = [] ∧ Q .normal a w
  | n + 1, l, a, w => (Region.ready md ops l = [] → Q .normal a w) ∧ ∀ i ∈ Region.ready md ops l, wpOp P ops Q i (fun a' w' => (i ∈ ex ∨ S w') ∧ wpK P md ops Q ex S n (l.setIfInBounds i true) a' w') a w
theorem wpK.any : ∀ (n : Nat) (l : Array Bool) (a : Act) (w : World), wpK P md ops Q ex S n l a w → wpAny P md ops Q n l a w
  | 0, _, _, _, h => h
  | n + 1, _, _, _, h => ⟨h.1, fun i hi => wpOp_mono (fun a' w' k => wpK.any n _ a' w' k.2) (h.2 i hi)⟩

theorem wpK.first (hex : lateOk md ops ex = true) {i : Nat} {oi : Oper} {v : Value} (hi : ops[i]? = some oi) (hin : i ∉ ex) (hsel : ∀ (j : Nat) (o : Oper) cs b, ops[j]? = some o → o.op ≠ .select cs b)
    (hQ : ∀ c a w, Q (.panic c) (a.put oi.dst v) w → Q (.panic c) a w) : ∀ (n : Nat) (l : Array Bool) (a : Act) (w : World),
      (∀ j oj, ops[j]? = some oj → j ≠ i → l.getD j true = false → (∀ e ∈ oj.after, Region.binds md e = true → e.on ≠ i) → oi.apart ops oj = true) →
      i ∈ Region.ready md ops l → YieldsIf P ops S oi v a → S w → wpK P md ops Q ex S n (l.setIfInBounds i true) (a.put oi.dst v) w → wpK P md ops Q ex S (n + 1) l a w := by
  -- an operation of ex does not come up while i has not
  have hno : ∀ (l : Array Bool) (j : Nat), i ∈ Region.ready md ops l → j ∈ Region.ready md ops l → j ∉ ex := by
    intro l j hir hjr hje
    obtain ⟨o, ho, e, he, hb, hon⟩ := lateOk_spec hex hje (Array.getElem?_eq_some_iff.1 hi).1 hin
    obtain ⟨-, o', ho', hall⟩ := mem_ready.1 hjr
    obtain rfl : o = o' := by rw [ho] at ho'; exact Option.some.inj ho'
    have h1 := hall e he hb
    have h0 := (mem_ready.1 hir).1
    rw [hon] at h1
    rcases Nat.lt_or_ge i l.size with h' | h'
    · simp [h'] at h0 h1; rw [h0] at h1; cases h1
    · simp [Array.getElem?_eq_none h'] at h1
  intro n
  induction n with
  | zero =>
    intro l a w hfree hr hy hS H
    refine ⟨fun h => (by rw [h] at hr; cases hr), fun j hj => ?_⟩
    by_cases hji : j = i
    · subst hji; exact hy.wpOp hi hS ⟨.inr hS, H⟩
    · have := ready_mono hj hji
      rw [H.1] at this
      cases this
  | succ n ih =>
    intro l a w hfree hr hy hS H
    refine ⟨fun h => (by rw [h] at hr; cases hr), fun j hj => ?_⟩
    by_cases hji : j = i
    · subst hji; exact hy.wpOp hi hS ⟨.inr hS, H⟩
    · have hjx := hno l j hr hj
      obtain ⟨hjun, oj, hoj, hall⟩ := mem_ready.1 hj
      have hnot : ∀ e ∈ oj.after, Region.binds md e = true → e.on ≠ i := fun e he hb heq => by
        have h1 := hall e he hb
        have h0 := (mem_ready.1 hr).1
        rw [heq] at h1
        rcases Nat.lt_or_ge i l.size with h' | h'
        · simp [h'] at h0 h1; rw [h0] at h1; cases h1
        · simp [Array.getElem?_eq_none h'] at h1
      have h2 := wpOp_putIf hoj (hfree j oj hoj hji hjun hnot) (fun cs b => hsel i oi cs b hi) (fun cs b => hsel j oj cs b hoj) hQ hy (H.2 j (ready_mono hj hji))
      refine wpOp_mono (fun a' w' k => ?_) h2
      have hS' : S w' := k.2.1.resolve_left hjx
      refine ⟨.inr hS', ih _ a' w' (fun m om hm hmi hun hno' => ?_) (ready_mono hr (Ne.symm hji)) k.1 hS' (by rw [Array.setIfInBounds_comm _ _ hji]; exact k.2.2)⟩
      refine hfree m om hm hmi ?_ hno'
      by_cases hjm : j = m
      · subst hjm; exact hjun
      · rw [getD_set_ne true hjm] at hun; exact hun

/-- operation i is taken first -/
theorem wpK.take {i : Nat} {oi : Oper} {v : Value} {n : Nat} {l : Array Bool} {a : Act} {w : World} (hi : ops[i]? = some oi) (hex : lateOk md ops ex = true) (hin : ex.contains i = false)
    (hs : Region.noSelect ops = true) (hf : Region.free md ops l i = true) (hr : (Region.ready md ops l).contains i = true)
    (hQ : ∀ c a w, Q (.panic c) (a.put oi.dst v) w → Q (.panic c) a w) (hy : YieldsIf P ops S oi v a) (hS : S w)
    (h : wpK P md ops Q ex S n (l.setIfInBounds i true) (a.put oi.dst v) w) : wpK P md ops Q ex S (n + 1) l a w :=
  wpK.first hex hi (by simpa using hin) (Region.noSelect_spec hs) hQ n l a w (Region.free_spec hi hf) (by simpa using hr) hy hS h
/-- operation i alone may come up now -/
theorem wpK.step {i : Nat} {oi : Oper} {n : Nat} {l : Array Bool} {a : Act} {w : World} (hr : Region.ready md ops l = [i]) (ho : ops[i]? = some oi)
    (h : ∀ K' : Act → World → Prop, Shut (∀ a w, S w → (S w → wpK P md ops Q ex S n (l.setIfInBounds i true) a w) → K' a w) → if Region.wanted oi (yielded ops a.tmps) = true then Oper.wp P oi a w K' Q else K' (a.put oi.dst undef) w) :
    wpK P md ops Q ex S (n + 1) l a w := by
  refine ⟨fun h0 => (by rw [hr] at h0; cases h0), fun j hj => ?_⟩
  rw [hr] at hj
  obtain rfl := List.mem_singleton.1 hj
  exact wpOp_step ho (fun K' hK => h K' (fun a w hS hW => hK a w ⟨.inr hS, hW hS⟩))
/-- one of two comes up now -/
theorem wpK.two {i j : Nat} {oi oj : Oper} {n : Nat} {l : Array Bool} {a : Act} {w : World} (hr : Region.ready md ops l = [i, j]) (ho : ops[i]? = some oi) (ho' : ops[j]? = some oj)
    (h : ∀ K' : Act → World → Prop, Shut (∀ a w, S w → (S w → wpK P md ops Q ex S n (l.setIfInBounds i true) a w) → K' a w) → if Region.wanted oi (yielded ops a.tmps) = true then Oper.wp P oi a w K' Q else K' (a.put oi.dst undef) w)
    (h' : ∀ K' : Act → World → Prop, Shut (∀ a w, S w → (S w → wpK P md ops Q ex S n (l.setIfInBounds j true) a w) → K' a w) → if Region.wanted oj (yielded ops a.tmps) = true then Oper.wp P oj a w K' Q else K' (a.put oj.dst undef) w) :
    wpK P md ops Q ex S (n + 1) l a w := by
  refine ⟨fun h0 => (by rw [hr] at h0; cases h0), fun k hk => ?_⟩
  rw [hr] at hk
  rcases List.mem_cons.1 hk with rfl | hk
  · exact wpOp_step ho (fun K' hK => h K' (fun a w hS hW => hK a w ⟨.inr hS, hW hS⟩))
  · obtain rfl := List.mem_singleton.1 hk
    exact wpOp_step ho' (fun K' hK => h' K' (fun a w hS hW => hK a w ⟨.inr hS, hW hS⟩))
/-- the same, of an operation behind which S need not hold -/
theorem wpK.late {i : Nat} {oi : Oper} {n : Nat} {l : Array Bool} {a : Act} {w : World} (hr : Region.ready md ops l = [i]) (ho : ops[i]? = some oi) (hin : ex.contains i = true)
    (h : ∀ K' : Act → World → Prop, Shut (∀ a w, wpK P md ops Q ex S n (l.setIfInBounds i true) a w → K' a w) → if Region.wanted oi (yielded ops a.tmps) = true then Oper.wp P oi a w K' Q else K' (a.put oi.dst undef) w) :
    wpK P md ops Q ex S (n + 1) l a w := by
  refine ⟨fun h0 => (by rw [hr] at h0; cases h0), fun j hj => ?_⟩
  rw [hr] at hj
  obtain rfl := List.mem_singleton.1 hj
  exact wpOp_step ho (fun K' hK => h K' (fun a w hW => hK a w ⟨.inl (by simpa using hin), hW⟩))
theorem wpK.done {l : Array Bool} {a : Act} {w : World} (hr : Region.ready md ops l = []) (h : Q .normal a w) : ∀ n, wpK P md ops Q ex S n l a w
  | 0 => ⟨hr, h⟩
  | _ + 1 => ⟨fun _ => h, by rw [hr]; simp⟩
theorem wp_region_kept (ex : List Nat) (S : World → Prop) {id : Nat} {a : Act} {w : World} (hm : P.follows .mixedOrders = true) (hS : S w.drew)
    (h : S w.drew → wpK P .any ops Q ex S ops.size (Array.replicate ops.size false) a w.drew) : (Code.region id ops true).wp P Q a w :=
  wp_region_any hm (wpK.any _ _ _ _ (h hS))
end
end Go.Proofs.YtdoflhiogoefjaaDoor
end
