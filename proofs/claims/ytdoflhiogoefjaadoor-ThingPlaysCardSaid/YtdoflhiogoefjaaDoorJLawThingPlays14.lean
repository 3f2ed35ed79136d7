/- Joined texts, in this order: ThingMem. Each one's first remark says what it proves; no condition beyond those that its theorems name. -/
import Derived.Test.YtdoflhiogoefjaaDoorJLawThingPlays09
import Derived.Test.YtdoflhiogoefjaaDoorJLawThingPlays12
section
/- How things stand in memory. -/
namespace Go.Proofs.YtdoflhiogoefjaaDoor
open Go.RowKit
open Go.Lib (hid)
set_option linter.unusedVariables false

structure PRow where
  p : P3
  v : Value
  l : List Int
def PRow.core (r : PRow) : P3 × List Int := (r.p, r.l)
def PRow.key (r : PRow) : P3 × Value := (r.p, r.v)
def thKV (x : Th) : Int × Value := (x.id, thV x)
abbrev ownI0 (w : World) (v : Value) (l : List Int) : Prop := w.ownsRow 0 3 1 v l.length (iv l)
structure ThParts (w : World) (s : Nat) (F : Nat → Prop) (b1 b2 : Nat) (nx : Int) (M : List Th) (R : List PRow) : Prop where
  blk : Blk w s #[.map (some b1), .map (some b2), .int .i64 nx]
  m1 : MapE w b1 (M.map thKV)
  m2 : MP.MapP w b2 (R.map PRow.key)
  fs : F s
  f1 : F b1
  f2 : F b2
  n1 : s ≠ b1
  n2 : s ≠ b2
  n3 : b1 ≠ b2
  row : ∀ r ∈ R, ownI0 w r.v r.l
  feet : ∀ r ∈ R, ∀ k, r.v.ownBlock = some k → F k ∧ k ≠ s ∧ k ≠ b1 ∧ k ≠ b2
  far : ∀ r ∈ R, ∀ q ∈ R, r.p ≠ q.p → ∀ k, r.v.ownBlock = some k → q.v.ownBlock ≠ some k
structure ThRel (M : List Th) (R : List PRow) (L : List Th) : Prop where
  r1 : M.Perm L
  r2 : ∀ p, (R.map PRow.core).lookup p = if inT L p = [] then none else some (inT L p)
def ThCore (w : World) (s : Nat) (F : Nat → Prop) (L : List Th) (nx : Int) : Prop := ∃ b1 b2 M R, ThParts w s F b1 b2 nx M R ∧ ThRel M R L ∧ SortK kI L
def ThingIs (w : World) (s : Nat) (F : Nat → Prop) (X : ThX) : Prop := ThCore w s F X.L X.nx ∧ TInv X
theorem ThParts.upd {S : Nat → Prop} {w w' : World} {s : Nat} {F : Nat → Prop} {b1 b2 : Nat} {nx : Int} {M : List Th} {R : List PRow} (h : ThParts w s F b1 b2 nx M R) (hu : Upd S w w') (hS : ∀ k, S k → ¬ F k) : ThParts w' s F b1 b2 nx M R :=
  ⟨h.blk.upd hu (fun q => hS _ q h.fs), h.m1.upd hu (fun q => hS _ q h.f1), h.m2.upd hu (fun q => hS _ q h.f2), h.fs, h.f1, h.f2, h.n1, h.n2, h.n3, fun r hr => hu.owns (h.row r hr) (fun k hk q => hS k q (h.feet r hr k hk).1), h.feet, h.far⟩
theorem ThParts.weaken {w : World} {s : Nat} {F G : Nat → Prop} {b1 b2 : Nat} {nx : Int} {M : List Th} {R : List PRow} (h : ThParts w s F b1 b2 nx M R) (hG : ∀ k, F k → k < w.heap.size → G k) : ThParts w s G b1 b2 nx M R :=
  ⟨h.blk, h.m1, h.m2, hG _ h.fs h.blk.lt, hG _ h.f1 h.m1.lt, hG _ h.f2 h.m2.lt, h.n1, h.n2, h.n3, h.row, fun r hr k hk => ⟨hG k (h.feet r hr k hk).1 ((h.row r hr).lt k hk).2, (h.feet r hr k hk).2⟩, h.far⟩
theorem ThCore.upd {S : Nat → Prop} {w w' : World} {s : Nat} {F : Nat → Prop} {L : List Th} {nx : Int} (h : ThCore w s F L nx) (hu : Upd S w w') (hS : ∀ k, S k → ¬ F k) : ThCore w' s F L nx := by
  obtain ⟨b1, b2, M, R, hp, hr⟩ := h; exact ⟨b1, b2, M, R, hp.upd hu hS, hr⟩
theorem ThCore.below {w w' : World} {s : Nat} {F : Nat → Prop} {L : List Th} {nx : Int} (h : ThCore w s F L nx) (hb : Below w.heap.size w w') : ThCore w' s F L nx :=
  h.upd (S := fun _ => False) (Upd.of_below hb) (fun _ q => q.elim)
theorem ThCore.weaken {w : World} {s : Nat} {F G : Nat → Prop} {L : List Th} {nx : Int} (h : ThCore w s F L nx) (hG : ∀ k, F k → k < w.heap.size → G k) : ThCore w s G L nx := by
  obtain ⟨b1, b2, M, R, hp, hr⟩ := h; exact ⟨b1, b2, M, R, hp.weaken hG, hr⟩
theorem ThingIs.upd {S : Nat → Prop} {w w' : World} {s : Nat} {F : Nat → Prop} {X : ThX} (h : ThingIs w s F X) (hu : Upd S w w') (hS : ∀ k, S k → ¬ F k) : ThingIs w' s F X := ⟨h.1.upd hu hS, h.2⟩
theorem ThingIs.below {w w' : World} {s : Nat} {F : Nat → Prop} {X : ThX} (h : ThingIs w s F X) (hb : Below w.heap.size w w') : ThingIs w' s F X := ⟨h.1.below hb, h.2⟩
theorem ThingIs.weaken {w : World} {s : Nat} {F G : Nat → Prop} {X : ThX} (h : ThingIs w s F X) (hG : ∀ k, F k → k < w.heap.size → G k) : ThingIs w s G X := ⟨h.1.weaken hG, h.2⟩
theorem ThParts.cells {w : World} {s : Nat} {F : Nat → Prop} {b1 b2 : Nat} {nx : Int} {M : List Th} {R : List PRow} (h : ThParts w s F b1 b2 nx M R) : w.cell? ⟨s, 0, none⟩ = some (.map (some b1)) ∧ w.cell? ⟨s, 1, none⟩ = some (.map (some b2)) ∧ w.cell? ⟨s, 2, none⟩ = some (.int .i64 nx) :=
  ⟨by rw [h.blk.cell]; rfl, by rw [h.blk.cell]; rfl, by rw [h.blk.cell]; rfl⟩
/-- the map of things, asked -/
theorem lookM {M L : List Th} (hp : M.Perm L) (hs : SortK kI L) (n : Int) : (M.map thKV).lookup n = (fdT L n).map thV := by
  have hn : ((M.map thKV).map (·.1)).Nodup := by
    rw [List.map_map]
    exact (hp.map (fun x => x.id)).nodup_iff.2 (SortK.nodup kI hs)
  cases e : fdT L n with
  | none =>
    rw [Option.map_none, lookup_none_iff]
    intro p hpm
    obtain ⟨x, hx, rfl⟩ := List.mem_map.1 hpm
    exact (fdT_none.1 e) x (hp.mem_iff.1 hx)
  | some x =>
    obtain ⟨h1, h2⟩ := (fdT_some hs).1 e
    rw [Option.map_some, lookup_mem_iff hn, ← h2]
    exact List.mem_map.2 ⟨x, hp.mem_iff.2 h1, rfl⟩
theorem putM {M : List Th} {x : Th} (h : ∀ y ∈ M, y.id ≠ x.id) : aput (M.map thKV) x.id (thV x) = (M ++ [x]).map thKV := by
  have : (M.map thKV).lookup x.id = none := by
    rw [lookup_none_iff]
    intro p hp
    obtain ⟨y, hy, rfl⟩ := List.mem_map.1 hp
    exact h y hy
  unfold aput
  rw [this, List.map_append]; rfl
theorem delM (M : List Th) (n : Int) : adel (M.map thKV) n = (delT M n).map thKV := by
  unfold adel delT
  rw [List.filter_map]
  have e : ((fun p : Int × Value => p.1 != n) ∘ thKV) = (fun x : Th => !decide (x.id = n)) := by
    funext x
    show (x.id != n) = !decide (x.id = n)
    simp [bne, Bool.beq_eq_decide_eq]
  rw [e]
theorem permDel {M L : List Th} (h : M.Perm L) (n : Int) : (delT M n).Perm (delT L n) := h.filter _
/-- a row laid -/
def putRow (R : List PRow) (r : PRow) : List PRow := if ((R.map PRow.key).lookup r.p).isSome then R.map (fun q => if q.p = r.p then r else q) else R ++ [r]
theorem isSome_rows (R : List PRow) (p : P3) : ((R.map PRow.key).lookup p).isSome = ((R.map PRow.core).lookup p).isSome := by
  induction R with
  | nil => rfl
  | cons r R ih =>
    simp only [List.map_cons, PRow.key, PRow.core, List.lookup_cons]
    cases p == r.p
    · exact ih
    · rfl
theorem putRow_key (R : List PRow) (r : PRow) : (putRow R r).map PRow.key = MP.aput (R.map PRow.key) r.p r.v := by
  unfold putRow MP.aput
  split
  · rw [List.map_map, List.map_map]
    apply List.map_congr_left
    intro q _
    show PRow.key (if q.p = r.p then r else q) = (if (PRow.key q).1 = r.p then (r.p, r.v) else PRow.key q)
    by_cases h : q.p = r.p
    · rw [if_pos h, if_pos (show (PRow.key q).1 = r.p from h)]; rfl
    · rw [if_neg h, if_neg (show ¬ (PRow.key q).1 = r.p from h)]
  · rw [List.map_append]; rfl
theorem putRow_core (R : List PRow) (r : PRow) : (putRow R r).map PRow.core = MP.aput (R.map PRow.core) r.p r.l := by
  unfold putRow MP.aput
  rw [isSome_rows]
  split
  · rw [List.map_map, List.map_map]
    apply List.map_congr_left
    intro q _
    show PRow.core (if q.p = r.p then r else q) = (if (PRow.core q).1 = r.p then (r.p, r.l) else PRow.core q)
    by_cases h : q.p = r.p
    · rw [if_pos h, if_pos (show (PRow.core q).1 = r.p from h)]; rfl
    · rw [if_neg h, if_neg (show ¬ (PRow.core q).1 = r.p from h)]
  · rw [List.map_append]; rfl
theorem putRow_mem {R : List PRow} {r q : PRow} (h : q ∈ putRow R r) : q = r ∨ (q ∈ R ∧ q.p ≠ r.p) := by
  unfold putRow at h
  split at h
  · obtain ⟨x, hx, rfl⟩ := List.mem_map.1 h
    by_cases e : x.p = r.p
    · left; rw [if_pos e]
    · right; rw [if_neg e]; exact ⟨hx, e⟩
  · rename_i hn
    rcases List.mem_append.1 h with h | h
    · right
      refine ⟨h, fun e => hn ?_⟩
      cases q2 : (R.map PRow.key).lookup r.p with
      | some _ => rfl
      | none => exact absurd e (MP.lookup_none_iff.1 q2 (PRow.key q) (List.mem_map_of_mem h))
    · left; simpa using h
def delRow (R : List PRow) (p : P3) : List PRow := R.filter (fun q => !decide (q.p = p))
theorem delRow_key (R : List PRow) (p : P3) : (delRow R p).map PRow.key = MP.adel (R.map PRow.key) p := by
  unfold delRow MP.adel
  rw [List.filter_map]
  congr 1
  apply List.filter_congr
  intro x _
  show (!decide (x.p = p)) = (x.p != p)
  simp [bne, Bool.beq_eq_decide_eq]
theorem delRow_core (R : List PRow) (p : P3) : (delRow R p).map PRow.core = MP.adel (R.map PRow.core) p := by
  unfold delRow MP.adel
  rw [List.filter_map]
  congr 1
  apply List.filter_congr
  intro x _
  show (!decide (x.p = p)) = (x.p != p)
  simp [bne, Bool.beq_eq_decide_eq]
theorem delRow_mem {R : List PRow} {p : P3} {q : PRow} (h : q ∈ delRow R p) : q ∈ R ∧ q.p ≠ p := by
  unfold delRow at h; simpa using h
/-- those at a place: a slice of their own -/
structure PlAt (w : World) (s : Nat) (F : Nat → Prop) (b1 b2 : Nat) (R : List PRow) (p : P3) (v : Value) (l : List Int) : Prop where
  look : ((R.map PRow.key).lookup p).getD (.slice none 0 0) = v
  own : ownI0 w v l
  feet : ∀ k, v.ownBlock = some k → F k ∧ k ≠ s ∧ k ≠ b1 ∧ k ≠ b2
  far : ∀ q ∈ R, q.p ≠ p → ∀ k, q.v.ownBlock = some k → v.ownBlock ≠ some k
theorem ThParts.place {w : World} {s : Nat} {F : Nat → Prop} {b1 b2 : Nat} {nx : Int} {M : List Th} {R : List PRow} {L : List Th} (h : ThParts w s F b1 b2 nx M R) (hr : ThRel M R L) (p : P3) : ∃ v, PlAt w s F b1 b2 R p v (inT L p) := by
  have h2 := hr.r2 p
  have hi := isSome_rows R p
  cases hk : (R.map PRow.key).lookup p with
  | none =>
    rw [hk] at hi
    have hl : inT L p = [] := by
      rw [h2] at hi
      by_cases e : inT L p = []
      · exact e
      · rw [if_neg e] at hi; cases hi
    refine ⟨.slice none 0 0, by rw [hk]; rfl, by rw [hl]; exact World.ownsRow_nil _ _ _ _, by simp [Value.ownBlock], by simp [Value.ownBlock]⟩
  | some v =>
    have hm := MP.lookup_mem hk
    obtain ⟨r, hrm, e⟩ := List.mem_map.1 hm
    have e1 : r.p = p := (Prod.mk.inj e).1
    have e2 : r.v = v := (Prod.mk.inj e).2
    have hn : ((R.map PRow.core).map (·.1)).Nodup := by
      have := h.m2.nodup
      rw [List.map_map] at this ⊢
      exact this
    have hl : (R.map PRow.core).lookup p = some r.l := (MP.lookup_mem_iff hn).2 (by rw [← e1]; exact List.mem_map_of_mem (f := PRow.core) hrm)
    rw [h2] at hl
    have hll : inT L p = r.l := by
      by_cases e : inT L p = []
      · rw [if_pos e] at hl; cases hl
      · rw [if_neg e] at hl; exact Option.some.inj hl
    subst e2
    refine ⟨r.v, by rw [hk]; rfl, by rw [hll]; exact h.row r hrm, h.feet r hrm, fun q hq hne k hk2 => h.far q hq r hrm (by rw [e1]; exact hne) k hk2⟩
/-- memory has turned, at one place alone -/
theorem ThParts.remake {S : Nat → Prop} {w w' : World} {s : Nat} {F : Nat → Prop} {b1 b2 : Nat} {nx nx' : Int} {M M' : List Th} {R R' : List PRow} (h : ThParts w s F b1 b2 nx M R) (hu : Upd S w w') (p : P3) (v v' : Value) (l' : List Int)
    (hb : Blk w' s #[.map (some b1), .map (some b2), .int .i64 nx']) (h1 : MapE w' b1 (M'.map thKV)) (h2 : MP.MapP w' b2 (R'.map PRow.key))
    (hf : ∀ k, v.ownBlock = some k → F k ∧ k ≠ s ∧ k ≠ b1 ∧ k ≠ b2) (hfar : ∀ q ∈ R, q.p ≠ p → ∀ k, q.v.ownBlock = some k → v.ownBlock ≠ some k)
    (hS : ∀ q ∈ R, q.p ≠ p → ∀ k, q.v.ownBlock = some k → ¬ S k) (ho : ownI0 w' v' l') (hg : ∀ k, v'.ownBlock = some k → v.ownBlock = some k ∨ w.heap.size ≤ k)
    (hR : ∀ q ∈ R', q = ⟨p, v', l'⟩ ∨ (q ∈ R ∧ q.p ≠ p)) : ThParts w' s (fun k => F k ∨ w.heap.size ≤ k) b1 b2 nx' M' R' := by
  have a := h.blk.lt
  have b := h.m1.lt
  have c := h.m2.lt
  refine ⟨hb, h1, h2, .inl h.fs, .inl h.f1, .inl h.f2, h.n1, h.n2, h.n3, ?_, ?_, ?_⟩
  · intro q hq
    rcases hR q hq with rfl | ⟨hq, hn⟩
    · exact ho
    · exact hu.owns (h.row q hq) (fun k hk q2 => hS q hq hn k hk q2)
  · intro q hq k hk
    rcases hR q hq with rfl | ⟨hq, hn⟩
    · rcases hg k hk with e | e
      · exact ⟨.inl (hf k e).1, (hf k e).2⟩
      · exact ⟨.inr e, by omega, by omega, by omega⟩
    · exact ⟨.inl (h.feet q hq k hk).1, (h.feet q hq k hk).2⟩
  · intro q hq q2 hq2 hne k hk hk2
    rcases hR q hq with rfl | ⟨m1, n1⟩
    · rcases hR q2 hq2 with rfl | ⟨m2, n2⟩
      · exact hne rfl
      · rcases hg k hk with e | e
        · exact hfar q2 m2 n2 k hk2 e
        · have := (h.row q2 m2).lt k hk2; omega
    · rcases hR q2 hq2 with rfl | ⟨m2, n2⟩
      · rcases hg k hk2 with e | e
        · exact hfar q m1 n1 k hk e
        · have := (h.row q m1).lt k hk; omega
      · exact h.far q m1 q2 m2 hne k hk hk2
/-- the rows, once a thing has come -/
theorem ThRel.ins {M : List Th} {R : List PRow} {L : List Th} (h : ThRel M R L) (hs : SortK kI L) {x : Th} (hx : ∀ y ∈ L, y.id ≠ x.id) (v' : Value) : ThRel (M ++ [x]) (putRow R ⟨x.pl, v', insK kN (inT L x.pl) x.id⟩) (insK kI L x) := by
  refine ⟨?_, fun p => ?_⟩
  · exact (List.perm_append_comm.trans (List.Perm.cons x h.r1)).trans (insK_perm kI L x).symm
  · rw [putRow_core, MP.lookup_aput, inT_ins hs]
    by_cases e : p = x.pl
    · rw [if_pos e, if_pos e, e]
      rw [if_neg (fun q => by have := congrArg List.length q; rw [insK_len] at this; simp at this)]
    · rw [if_neg e, if_neg e]; exact h.r2 p
theorem ThRel.del {M : List Th} {R : List PRow} {L : List Th} (h : ThRel M R L) (hs : SortK kI L) {x : Th} (hx : x ∈ L) (v' : Value) :
    ThRel (delT M x.id) (if inT (delT L x.id) x.pl = [] then delRow R x.pl else putRow R ⟨x.pl, v', inT (delT L x.id) x.pl⟩) (delT L x.id) := by
  refine ⟨permDel h.r1 _, fun p => ?_⟩
  split
  · rename_i e0
    rw [delRow_core, MP.lookup_adel]
    by_cases e : p = x.pl
    · rw [if_pos e, e, if_pos e0]
    · rw [if_neg e, inT_del_other hs hx e]; exact h.r2 p
  · rename_i e0
    rw [putRow_core, MP.lookup_aput]
    by_cases e : p = x.pl
    · rw [if_pos e, e, if_neg e0]
    · rw [if_neg e, inT_del_other hs hx e]; exact h.r2 p
end Go.Proofs.YtdoflhiogoefjaaDoor
end
