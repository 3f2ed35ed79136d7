/- Joined texts, in this order: StallMem, StallOps. Each one's first remark says what it proves; no condition beyond those that its theorems name. -/
import Derived.Test.YtajfjgekcjkedaaJLawStallRestores07
section
/- How stalls stand in memory; contracts of the package stall: New, Has, Till, find, Price. -/
namespace Go.Proofs.Ytajfjgekcjkedaa
open Go.RowKit
open Go.Lib (hid)
set_option linter.unusedVariables false

structure RowG where
  h : Int
  p : Nat
  v : Value
  till : Int
  gs : List (Int × Int)
def RowG.core (r : RowG) : Int × Int × List (Int × Int) := (r.h, r.till, r.gs)
def RowG.ptr (r : RowG) : Int × Value := (r.h, .pointer (some ⟨r.p, 0, none⟩))
def atV (A : List (Int × Int)) : List (Int × Value) := A.map fun p => (p.1, .int .i64 p.2)
structure RowAt (w : World) (r : RowG) : Prop where
  blk : Blk w r.p #[.int .i64 r.h, .int .i64 r.till, r.v]
  own : OwnG w r.v r.gs
  ne : r.v.ownBlock ≠ some r.p
def Feet (r : RowG) (k : Nat) : Prop := k = r.p ∨ r.v.ownBlock = some k
structure StParts (w : World) (s : Nat) (F : Nat → Prop) (b1 b2 : Nat) (R : List RowG) (A : List (Int × Int)) : Prop where
  blk : Blk w s #[.map (some b1), .map (some b2)]
  m1 : MapE w b1 (R.map RowG.ptr)
  m2 : MapE w b2 (atV A)
  fs : F s
  f1 : F b1
  f2 : F b2
  n1 : s ≠ b1
  n2 : s ≠ b2
  n3 : b1 ≠ b2
  row : ∀ r ∈ R, RowAt w r
  feet : ∀ r ∈ R, ∀ k, Feet r k → F k ∧ k ≠ s ∧ k ≠ b1 ∧ k ≠ b2
  far : ∀ r ∈ R, ∀ q ∈ R, r.h ≠ q.h → ∀ k, Feet r k → ¬ Feet q k
def StallIs (w : World) (s : Nat) (F : Nat → Prop) (X : StX) : Prop := ∃ b1 b2 R A, StParts w s F b1 b2 R A ∧ StRel (R.map RowG.core) A X ∧ XInv X
theorem RowAt.upd {S : Nat → Prop} {w w' : World} {r : RowG} (h : RowAt w r) (hu : Upd S w w') (hn : ∀ k, Feet r k → ¬ S k) : RowAt w' r :=
  ⟨h.blk.upd hu (hn _ (.inl rfl)), hu.owns h.own (fun k hk => hn k (.inr hk)), h.ne⟩
theorem RowAt.lt {w : World} {r : RowG} (h : RowAt w r) : ∀ k, Feet r k → k < w.heap.size := fun k hk => by
  rcases hk with rfl | hk
  · exact h.blk.lt
  · exact (h.own.lt k hk).2
theorem StParts.upd {S : Nat → Prop} {w w' : World} {s : Nat} {F : Nat → Prop} {b1 b2 : Nat} {R : List RowG} {A : List (Int × Int)} (h : StParts w s F b1 b2 R A) (hu : Upd S w w') (hS : ∀ k, S k → ¬ F k) : StParts w' s F b1 b2 R A :=
  ⟨h.blk.upd hu (fun q => hS _ q h.fs), h.m1.upd hu (fun q => hS _ q h.f1), h.m2.upd hu (fun q => hS _ q h.f2), h.fs, h.f1, h.f2, h.n1, h.n2, h.n3, fun r hr => (h.row r hr).upd hu (fun k hk q => hS k q (h.feet r hr k hk).1), h.feet, h.far⟩
theorem StParts.below {w w' : World} {s : Nat} {F : Nat → Prop} {b1 b2 : Nat} {R : List RowG} {A : List (Int × Int)} (h : StParts w s F b1 b2 R A) (hb : Below w.heap.size w w') : StParts w' s F b1 b2 R A :=
  h.upd (S := fun _ => False) (Upd.of_below hb) (fun _ q => q.elim)
theorem StallIs.upd {S : Nat → Prop} {w w' : World} {s : Nat} {F : Nat → Prop} {X : StX} (h : StallIs w s F X) (hu : Upd S w w') (hS : ∀ k, S k → ¬ F k) : StallIs w' s F X := by
  obtain ⟨b1, b2, R, A, hp, hr⟩ := h; exact ⟨b1, b2, R, A, hp.upd hu hS, hr⟩
theorem StallIs.below {w w' : World} {s : Nat} {F : Nat → Prop} {X : StX} (h : StallIs w s F X) (hb : Below w.heap.size w w') : StallIs w' s F X :=
  h.upd (S := fun _ => False) (Upd.of_below hb) (fun _ q => q.elim)
theorem StParts.weaken {w : World} {s : Nat} {F G : Nat → Prop} {b1 b2 : Nat} {R : List RowG} {A : List (Int × Int)} (h : StParts w s F b1 b2 R A) (hG : ∀ k, F k → k < w.heap.size → G k) : StParts w s G b1 b2 R A :=
  ⟨h.blk, h.m1, h.m2, hG _ h.fs h.blk.lt, hG _ h.f1 h.m1.lt, hG _ h.f2 h.m2.lt, h.n1, h.n2, h.n3, h.row, fun r hr k hk => ⟨hG k (h.feet r hr k hk).1 ((h.row r hr).lt k hk), (h.feet r hr k hk).2⟩, h.far⟩
theorem StallIs.weaken {w : World} {s : Nat} {F G : Nat → Prop} {X : StX} (h : StallIs w s F X) (hG : ∀ k, F k → k < w.heap.size → G k) : StallIs w s G X := by
  obtain ⟨b1, b2, R, A, hp, hr⟩ := h; exact ⟨b1, b2, R, A, hp.weaken hG, hr⟩
theorem StallIs.inv {w : World} {s : Nat} {F : Nat → Prop} {X : StX} (h : StallIs w s F X) : XInv X := by
  obtain ⟨b1, b2, R, A, hp, hr, hi⟩ := h; exact hi
theorem core_keys (R : List RowG) : (R.map RowG.core).map (·.1) = R.map (·.h) := by rw [List.map_map]; rfl
theorem ptr_keys (R : List RowG) : (R.map RowG.ptr).map (·.1) = R.map (·.h) := by rw [List.map_map]; rfl
theorem StParts.nodup {w : World} {s : Nat} {F : Nat → Prop} {b1 b2 : Nat} {R : List RowG} {A : List (Int × Int)} (h : StParts w s F b1 b2 R A) : (R.map (·.h)).Nodup := by rw [← ptr_keys]; exact h.m1.nodup
theorem StParts.cells {w : World} {s : Nat} {F : Nat → Prop} {b1 b2 : Nat} {R : List RowG} {A : List (Int × Int)} (h : StParts w s F b1 b2 R A) : w.cell? ⟨s, 0, none⟩ = some (.map (some b1)) ∧ w.cell? ⟨s, 1, none⟩ = some (.map (some b2)) :=
  ⟨by rw [h.blk.cell]; rfl, by rw [h.blk.cell]; rfl⟩
theorem RowAt.cells {w : World} {r : RowG} (h : RowAt w r) : w.cell? ⟨r.p, 0, none⟩ = some (.int .i64 r.h) ∧ w.cell? ⟨r.p, 1, none⟩ = some (.int .i64 r.till) ∧ w.cell? ⟨r.p, 2, none⟩ = some r.v :=
  ⟨by rw [h.blk.cell]; rfl, by rw [h.blk.cell]; rfl, by rw [h.blk.cell]; rfl⟩
/-- a house that has a stall -/
theorem StParts.at {w : World} {s : Nat} {F : Nat → Prop} {b1 b2 : Nat} {R : List RowG} {A : List (Int × Int)} {X : StX} (h : StParts w s F b1 b2 R A) (hr : StRel (R.map RowG.core) A X) {k g : Int} (ht : X.tills.lookup k = some g) :
    ∃ R1 r R2, R = R1 ++ r :: R2 ∧ r.h = k ∧ r.till = g ∧ r.gs = ofX X.goods k := by
  have h1 := hr.r1 k
  rw [ht] at h1
  obtain ⟨r, hm, e⟩ := List.mem_map.1 (lookup_mem h1)
  obtain ⟨R1, R2, e2⟩ := List.append_of_mem hm
  unfold RowG.core at e
  have a := (Prod.mk.inj e).1
  have b := Prod.mk.inj (Prod.mk.inj e).2
  exact ⟨R1, r, R2, e2, a, b.1, b.2⟩
theorem StParts.look {w : World} {s : Nat} {F : Nat → Prop} {b1 b2 : Nat} {R R1 R2 : List RowG} {r : RowG} {A : List (Int × Int)} (h : StParts w s F b1 b2 R A) (e : R = R1 ++ r :: R2) : (R.map RowG.ptr).lookup r.h = some (.pointer (some ⟨r.p, 0, none⟩)) := by
  rw [lookup_mem_iff h.m1.nodup]
  exact List.mem_map.2 ⟨r, by rw [e]; simp, rfl⟩
theorem StParts.no {w : World} {s : Nat} {F : Nat → Prop} {b1 b2 : Nat} {R : List RowG} {A : List (Int × Int)} {X : StX} (h : StParts w s F b1 b2 R A) (hr : StRel (R.map RowG.core) A X) {k : Int} (ht : X.tills.lookup k = none) : (R.map RowG.ptr).lookup k = none := by
  have h1 := hr.r1 k
  rw [ht, Option.map_none, lookup_none_iff] at h1
  rw [lookup_none_iff]
  intro p hp
  obtain ⟨r, hm, rfl⟩ := List.mem_map.1 hp
  exact h1 r.core (List.mem_map_of_mem hm)
theorem lookA (A : List (Int × Int)) (t : Int) : (atV A).lookup t = (A.lookup t).map (.int .i64) := by
  unfold atV
  exact lookup_map (Value.int .i64) A t
/-- one row has turned -/
theorem StParts.turn {w w' : World} {s : Nat} {F : Nat → Prop} {b1 b2 : Nat} {R1 R2 : List RowG} {r r' : RowG} {A : List (Int × Int)} (h : StParts w s F b1 b2 (R1 ++ r :: R2) A) (hu : Upd (Feet r) w w') (hh : r'.h = r.h) (hp : r'.p = r.p) (hr : RowAt w' r')
    (hg : ∀ k, r'.v.ownBlock = some k → r.v.ownBlock = some k ∨ w.heap.size ≤ k) : StParts w' s (fun k => F k ∨ w.heap.size ≤ k) b1 b2 (R1 ++ r' :: R2) A := by
  have hn := h.nodup
  have hmem : r ∈ R1 ++ r :: R2 := by simp
  have hne : ∀ q ∈ R1 ++ R2, q.h ≠ r.h := by
    intro q hq e
    rw [List.map_append, List.map_cons, List.nodup_append] at hn
    have h2 := List.nodup_cons.1 hn.2.1
    rcases List.mem_append.1 hq with hq | hq
    · exact hn.2.2 q.h (List.mem_map_of_mem hq) r.h (by simp) e
    · exact h2.1 (by rw [← e]; exact List.mem_map_of_mem hq)
  have hin : ∀ q ∈ R1 ++ R2, q ∈ R1 ++ r :: R2 := fun q hq => by
    rcases List.mem_append.1 hq with hq | hq
    · simp [hq]
    · simp [hq]
  have hcase : ∀ q ∈ R1 ++ r' :: R2, q = r' ∨ q ∈ R1 ++ R2 := fun q hq => by
    rcases List.mem_append.1 hq with hq | hq
    · exact .inr (by simp [hq])
    · rcases List.mem_cons.1 hq with hq | hq
      · exact .inl hq
      · exact .inr (by simp [hq])
  have hf := fun k hk => h.feet r hmem k hk
  have hfeet : ∀ k, Feet r' k → Feet r k ∨ w.heap.size ≤ k := fun k hk => by
    rcases hk with hk | hk
    · exact .inl (.inl (by rw [hk, hp]))
    · rcases hg k hk with e | e
      · exact .inl (.inr e)
      · exact .inr e
  have hkeep : ∀ q ∈ R1 ++ R2, RowAt w' q := fun q hq => (h.row q (hin q hq)).upd hu (fun k hk hk2 => h.far q (hin q hq) r hmem (hne q hq) k hk hk2)
  refine ⟨h.blk.upd hu (fun q => (hf s q).2.1 rfl), ?_, h.m2.upd hu (fun q => (hf b2 q).2.2.2 rfl), .inl h.fs, .inl h.f1, .inl h.f2, h.n1, h.n2, h.n3, ?_, ?_, ?_⟩
  · have := h.m1.upd hu (fun q => (hf b1 q).2.2.1 rfl)
    rw [List.map_append, List.map_cons] at this ⊢
    have e : r'.ptr = r.ptr := by unfold RowG.ptr; rw [hh, hp]
    rw [e]; exact this
  · intro q hq
    rcases hcase q hq with rfl | hq
    · exact hr
    · exact hkeep q hq
  · intro q hq k hk
    rcases hcase q hq with rfl | hq
    · rcases hfeet k hk with e | e
      · have := hf k e; exact ⟨.inl this.1, this.2⟩
      · have a := h.blk.lt
        have b := h.m1.lt
        have c := h.m2.lt
        exact ⟨.inr e, by omega, by omega, by omega⟩
    · have := h.feet q (hin q hq) k hk; exact ⟨.inl this.1, this.2⟩
  · intro q hq q2 hq2 hne2 k hk hk2
    rcases hcase q hq with e1 | m1
    · rcases hcase q2 hq2 with e2 | m2
      · exact hne2 (by rw [e1, e2])
      · rw [e1] at hk hne2
        rcases hfeet k hk with e | e
        · exact h.far r hmem q2 (hin q2 m2) (fun e2 => hne2 (by rw [hh, e2])) k e hk2
        · have := (h.row q2 (hin q2 m2)).lt k hk2; omega
    · rcases hcase q2 hq2 with e2 | m2
      · rw [e2] at hk2 hne2
        rcases hfeet k hk2 with e | e
        · exact h.far q (hin q m1) r hmem (fun e2 => hne2 (by rw [hh, e2])) k hk e
        · have := (h.row q (hin q m1)).lt k hk; omega
      · exact h.far q (hin q m1) q2 (hin q2 m2) hne2 k hk hk2
/-- the places of things have turned -/
theorem StParts.turnA {w w' : World} {s : Nat} {F : Nat → Prop} {b1 b2 : Nat} {R : List RowG} {A A' : List (Int × Int)} (h : StParts w s F b1 b2 R A) (hu : Upd (fun k => k = b2) w w') (hm : MapE w' b2 (atV A')) : StParts w' s F b1 b2 R A' :=
  ⟨h.blk.upd hu h.n2, h.m1.upd hu h.n3, hm, h.fs, h.f1, h.f2, h.n1, h.n2, h.n3, fun r hr => (h.row r hr).upd hu (fun k hk => (h.feet r hr k hk).2.2.2), h.feet, h.far⟩
/-- a row more -/
theorem StParts.more {w w' : World} {s : Nat} {F : Nat → Prop} {b1 b2 : Nat} {R : List RowG} {r : RowG} {A : List (Int × Int)} (h : StParts w s F b1 b2 R A) (hu : Upd (fun k => k = b1) w w') (hm : MapE w' b1 ((R ++ [r]).map RowG.ptr)) (hr : RowAt w' r) (hn : ∀ k, Feet r k → w.heap.size ≤ k) :
    StParts w' s (fun k => F k ∨ w.heap.size ≤ k) b1 b2 (R ++ [r]) A := by
  have a := h.blk.lt
  have b := h.m1.lt
  have c := h.m2.lt
  refine ⟨h.blk.upd hu h.n1, hm, h.m2.upd hu (fun e => h.n3 e.symm), .inl h.fs, .inl h.f1, .inl h.f2, h.n1, h.n2, h.n3, ?_, ?_, ?_⟩
  · intro q hq
    rcases List.mem_append.1 hq with hq | hq
    · exact (h.row q hq).upd hu (fun k hk => (h.feet q hq k hk).2.2.1)
    · simp at hq; subst hq; exact hr
  · intro q hq k hk
    rcases List.mem_append.1 hq with hq | hq
    · have := h.feet q hq k hk; exact ⟨.inl this.1, this.2⟩
    · simp at hq; subst hq
      have := hn k hk
      exact ⟨.inr this, by omega, by omega, by omega⟩
  · intro q hq q2 hq2 hne k hk hk2
    rcases List.mem_append.1 hq with m1 | m1
    · rcases List.mem_append.1 hq2 with m2 | m2
      · exact h.far q m1 q2 m2 hne k hk hk2
      · rw [List.mem_singleton] at m2
        rw [m2] at hk2
        have := hn k hk2
        have := (h.row q m1).lt k hk
        omega
    · rw [List.mem_singleton] at m1
      rcases List.mem_append.1 hq2 with m2 | m2
      · rw [m1] at hk
        have := hn k hk
        have := (h.row q2 m2).lt k hk2
        omega
      · rw [List.mem_singleton] at m2
        exact hne (by rw [m1, m2])
/-- a row less -/
theorem StParts.less {w w' : World} {s : Nat} {F : Nat → Prop} {b1 b2 : Nat} {R1 R2 : List RowG} {r : RowG} {A : List (Int × Int)} (h : StParts w s F b1 b2 (R1 ++ r :: R2) A) (hu : Upd (fun k => k = b1) w w') (hm : MapE w' b1 ((R1 ++ R2).map RowG.ptr)) : StParts w' s F b1 b2 (R1 ++ R2) A := by
  have hin : ∀ q ∈ R1 ++ R2, q ∈ R1 ++ r :: R2 := fun q hq => by
    rcases List.mem_append.1 hq with hq | hq
    · simp [hq]
    · simp [hq]
  exact ⟨h.blk.upd hu h.n1, hm, h.m2.upd hu (fun e => h.n3 e.symm), h.fs, h.f1, h.f2, h.n1, h.n2, h.n3, fun q hq => (h.row q (hin q hq)).upd hu (fun k hk => (h.feet q (hin q hq) k hk).2.2.1), fun q hq => h.feet q (hin q hq), fun q hq q2 hq2 => h.far q (hin q hq) q2 (hin q2 hq2)⟩
theorem zero_rowp (w : World) : (zeroValue 68).run Try.prog w = .ok (.pointer none) w := by kernel_rfl
theorem zero_int23 (w : World) : (zeroValue 3).run Try.prog w = .ok (.int .i64 0) w := by kernel_rfl
theorem stall_New (w : World) : Calls Try.prog 7 #[] w fun e w' => ∃ s, e = .returned (.pointer (some ⟨s, 0, none⟩)) ∧ StallIs w' s (fun k => w.heap.size ≤ k) ⟨[], []⟩ ∧ Below w.heap.size w w' := by
  have hmm := @run_makeMap Try.prog
  go_enter Try.func7, Try.ntmps7
  go_wp2
  go_ret
  have h1 : MapE (w.alloc (.map #[] 0)) w.heap.size [] := MapE.new w
  have h2 : MapE ((w.alloc (.map #[] 0)).alloc (.map #[] 0)) (w.alloc (.map #[] 0)).heap.size [] := MapE.new _
  have hz : (w.alloc (.map #[] 0)).heap.size = w.heap.size + 1 := by simp
  rw [hz] at h2
  have hz2 : ((w.alloc (.map #[] 0)).alloc (.map #[] 0)).heap.size = w.heap.size + 1 + 1 := by simp
  have hb := Blk.new ((w.alloc (.map #[] 0)).alloc (.map #[] 0)) #[.map (some w.heap.size), .map (some (w.heap.size + 1))] 67
  rw [hz2] at hb
  refine ⟨w.heap.size + 1 + 1, rfl, ⟨w.heap.size, w.heap.size + 1, [], [], ⟨hb, (h1.below (Below.new _ _)).below (Below.new _ _), h2.below (Below.new _ _), by omega, by omega, by omega, by omega, by omega, by omega, by simp, by simp, by simp⟩, ⟨fun _ => rfl, fun _ => rfl⟩, ⟨List.Pairwise.nil, by simp, List.Pairwise.nil, by simp, by simp [ofX]⟩⟩, (((Below.refl _ _).alloc (Nat.le_refl _) _).alloc (by simp) _).alloc (by simp; omega) _⟩
theorem stall_Has {s : Nat} {F : Nat → Prop} {X : StX} (w : World) (h : StallIs w s F X) (k : Int) (b : Bool) (hb : Hid ((X.tills.lookup k).isSome = b)) :
    Calls Try.prog 26 #[.pointer (some ⟨s, 0, none⟩), .int .i64 k] w fun e w' => e = .returned (.bool b) ∧ w = w' := by
  obtain ⟨b1, b2, R, A, hp, hr, hi⟩ := h
  obtain ⟨c0, -⟩ := hp.cells
  have HM := hid hp.m1
  cases ht : X.tills.lookup k with
  | none =>
    have hb2 : b = false := by rw [← hb.out, ht]; rfl
    subst hb2
    have H1 : Hid (((R.map RowG.ptr).lookup k).getD (.pointer none) = .pointer none) := hid (by rw [hp.no hr ht]; rfl)
    clear hp hr hi ht
    go_enter Try.func26, Try.ntmps26
    go_wp2_with (at_lookup; refine wpList_look1 _ rfl _ _ rfl Try.underlying64 Try.underlying3 _ zero_rowp rfl HM.out k rfl _ H1 ?_)
    go_ret
    exact ⟨rfl, rfl⟩
  | some g =>
    have hb2 : b = true := by rw [← hb.out, ht]; rfl
    subst hb2
    obtain ⟨R1, r, R2, e, rfl, -, -⟩ := hp.at hr ht
    have H1 : Hid (((R.map RowG.ptr).lookup r.h).getD (.pointer none) = .pointer (some ⟨r.p, 0, none⟩)) := hid (by rw [hp.look e]; rfl)
    clear hp hr hi ht e
    go_enter Try.func26, Try.ntmps26
    go_wp2_with (at_lookup; refine wpList_look1 _ rfl _ _ rfl Try.underlying64 Try.underlying3 _ zero_rowp rfl HM.out r.h rfl _ H1 ?_)
    go_ret
    exact ⟨rfl, rfl⟩
def tillE (X : StX) (k : Int) : Int := if (X.tills.lookup k).isSome then 0 else 14
theorem stall_Till {s : Nat} {F : Nat → Prop} {X : StX} (w : World) (h : StallIs w s F X) (k : Int) (g E : Int) (hg : Hid (tillX X k = g)) (hE : Hid (tillE X k = E)) :
    Calls Try.prog 29 #[.pointer (some ⟨s, 0, none⟩), .int .i64 k] w fun e w' => e = .returned (.tuple #[.int .i64 g, .int .i64 E]) ∧ w = w' := by
  have HH := hid h
  obtain ⟨b1, b2, R, A, hp, hr, hi⟩ := h
  obtain ⟨c0, -⟩ := hp.cells
  have HM := hid hp.m1
  cases ht : X.tills.lookup k with
  | none =>
    have hg2 : g = 0 := by rw [← hg.out]; unfold tillX; rw [ht]; rfl
    have hE2 : E = 14 := by rw [← hE.out]; unfold tillE; rw [ht]; rfl
    subst hg2
    subst hE2
    have HB := hid (show (X.tills.lookup k).isSome = false by rw [ht]; rfl)
    clear hp hr hi ht
    go_enter Try.func29, Try.ntmps29
    go_wp2_with fail
    refine (stall_Has w HH.out k false HB).mono ?_
    rintro e w1 ⟨rfl, rfl⟩
    go_wp2_with fail
    go_ret2
    exact ⟨rfl, rfl⟩
  | some o =>
    have hg2 : o = g := by rw [← hg.out]; unfold tillX; rw [ht]; rfl
    have hE2 : E = 0 := by rw [← hE.out]; unfold tillE; rw [ht]; rfl
    subst hg2
    subst hE2
    have HB := hid (show (X.tills.lookup k).isSome = true by rw [ht]; rfl)
    obtain ⟨R1, r, R2, e, rfl, rfl, -⟩ := hp.at hr ht
    obtain ⟨-, d1, -⟩ := (hp.row r (by rw [e]; simp)).cells
    have H1 : Hid (((R.map RowG.ptr).lookup r.h).getD (.pointer none) = .pointer (some ⟨r.p, 0, none⟩)) := hid (by rw [hp.look e]; rfl)
    clear hp hr hi ht e
    go_enter Try.func29, Try.ntmps29
    go_wp2_with fail
    refine (stall_Has w HH.out r.h true HB).mono ?_
    rintro e w1 ⟨rfl, rfl⟩
    go_wp2_with (at_lookup; refine wpList_look1 _ rfl _ _ rfl Try.underlying64 Try.underlying3 _ zero_rowp rfl HM.out r.h rfl _ H1 ?_)
    go_ret2
    exact ⟨rfl, rfl⟩
end Go.Proofs.Ytajfjgekcjkedaa
end
section
/- Contracts of the package stall: Open, find, Price, Take, Put, Sell, Collect, Goods. -/
namespace Go.Proofs.Ytajfjgekcjkedaa
open Go.RowKit
open Go.Lib (hid)
set_option linter.unusedVariables false

/-- behind a call that turns the stalls -/
def StPost (w : World) (s : Nat) (F : Nat → Prop) (X' : StX) (r : Value) (e : Ending) (w' : World) : Prop :=
  e = .returned r ∧ StallIs w' s (fun k => F k ∨ w.heap.size ≤ k) X' ∧ Upd F w w'
theorem StPost.below {w w' : World} {s : Nat} {F : Nat → Prop} {X : StX} {r : Value} (h : StallIs w s F X) (hb : Below w.heap.size w w') : StPost w s F X r (.returned r) w' :=
  ⟨rfl, (h.below hb).weaken (fun _ q _ => .inl q), Upd.of_below hb⟩
theorem StPost.same {w : World} {s : Nat} {F : Nat → Prop} {X : StX} {r : Value} (h : StallIs w s F X) : StPost w s F X r (.returned r) w := StPost.below h (Below.refl _ _)
theorem openX_lt {X : StX} {k : Int} (h : k < 1) : openX X k = (X, 10) := by unfold openX; rw [if_pos h]
theorem openX_has {X : StX} {k : Int} (h : ¬ k < 1) (h2 : (X.tills.lookup k).isSome = true) : openX X k = (X, 13) := by unfold openX; rw [if_neg h, if_pos h2]
theorem openX_new {X : StX} {k : Int} (h : ¬ k < 1) (h2 : X.tills.lookup k = none) : openX X k = (⟨insK kT X.tills (k, 0), X.goods⟩, 0) := by unfold openX; rw [if_neg h, h2]; rfl
theorem stall_Open {s : Nat} {F : Nat → Prop} {X : StX} (w : World) (h : StallIs w s F X) (k : Int) (hk : k ≤ 9223372036854775807) :
    Calls Try.prog 9 #[.pointer (some ⟨s, 0, none⟩), .int .i64 k] w (StPost w s F (openX X k).1 (.int .i64 (openX X k).2)) := by
  have H := hid h
  by_cases h1 : k < 1
  · rw [openX_lt h1]
    clear h
    go_enter Try.func9, Try.ntmps9
    go_wp2_with fail
    go_ret
    exact StPost.same H.out
  cases ht : X.tills.lookup k with
  | some g =>
    have hs : (X.tills.lookup k).isSome = true := by rw [ht]; rfl
    rw [openX_has h1 hs]
    have HB := hid hs
    clear h ht hs
    go_enter Try.func9, Try.ntmps9
    go_wp2_with fail
    refine (stall_Has w H.out k true HB).mono ?_
    rintro e w1 ⟨rfl, rfl⟩
    go_wp2_with fail
    go_ret
    exact StPost.same H.out
  | none =>
    rw [openX_new h1 ht]
    have HB := hid (show (X.tills.lookup k).isSome = false by rw [ht]; rfl)
    have HT := hid ht
    have hi := h.inv
    have HI := hid hi
    obtain ⟨b1, b2, R, A, hp, hr, -⟩ := h
    obtain ⟨c0, -⟩ := hp.cells
    have HP := hid hp
    have HR := hid hr
    have HNO := hid (hp.no hr ht)
    obtain ⟨p, hpp⟩ : ∃ p, p = w.heap.size := ⟨_, rfl⟩
    have HPP := hid hpp
    obtain ⟨w2, hw2⟩ : ∃ w2, w2 = w.alloc (.cells #[.int .i64 k, .int .i64 0, .slice none 0 0] 37) := ⟨_, rfl⟩
    have hb2 : Below w.heap.size w w2 := by rw [hw2]; exact Below.new _ _
    have HK2 : Hid (Blk w2 p #[.int .i64 k, .int .i64 0, .slice none 0 0]) := hid (by rw [hw2, hpp]; exact Blk.new _ _ _)
    have HM2 := hid (hp.m1.below hb2)
    have HB2 := hid hb2
    have HW2 := hid hw2
    have HZ := hid (show w2.heap.size = w.heap.size + 1 by rw [hw2]; simp)
    clear hi hp hr ht hpp hw2 hb2
    go_enter Try.func9, Try.ntmps9
    go_wp2_with fail
    refine (stall_Has w H.out k false HB).mono ?_
    rintro e w1 ⟨rfl, rfl⟩
    go_wp2_with (with_reducible refine wpList_putE _ rfl (.tmp 15) (.tmp 16) (.tmp 19) rfl Try.underlying64 Try.underlying3 rfl (by first | exact HM2.out | (rw [← HW2.out]; exact HM2.out)) k rfl (.pointer (some ⟨w.heap.size, 0, none⟩)) rfl ?_; intro w3 hm3 hu3 hz3)
    have HQ : Hid (StPost w s F ⟨insK kT X.tills (k, 0), X.goods⟩ (.int .i64 0) (.returned (.int .i64 0)) w3) := hid (by
      rw [← HW2.out] at hu3 hz3
      rw [← HPP.out] at hm3
      have hput : aput (R.map RowG.ptr) k (.pointer (some ⟨p, 0, none⟩)) = (R ++ [(⟨k, p, .slice none 0 0, 0, []⟩ : RowG)]).map RowG.ptr := by
        unfold aput
        rw [HNO.out, List.map_append]; rfl
      rw [hput] at hm3
      have hP2 := HP.out.below HB2.out
      have hpl : p ≠ b1 := fun e => by have := HP.out.m1.lt; have := HPP.out; omega
      have hrow : RowAt w3 (⟨k, p, .slice none 0 0, 0, []⟩ : RowG) := ⟨HK2.out.upd hu3 hpl, World.ownsRow_nil _ _ _ _, by simp [Value.ownBlock]⟩
      -- the new block lies above the old world: take the row as made there
      have hu : Upd (fun j => j = b1) w w3 := (Upd.of_below (S := fun j => j = b1) HB2.out).trans hu3 (fun _ _ q => q)
      have hM := HP.out.more hu hm3 hrow (fun j hj => by
        rcases hj with e | e
        · have := HPP.out; have e' : j = p := e; omega
        · simp [Value.ownBlock] at e)
      refine ⟨rfl, ⟨b1, b2, _, A, hM, ?_, XInv.open HI.out (by omega) hk HT.out⟩, hu.mono (fun j _ q => by rw [q]; exact HP.out.f1)⟩
      rw [List.map_append]
      exact HR.out.open HI.out HT.out)
    clear hm3 hu3 hz3
    go_wp2
    go_ret
    exact HQ.out
def FindPost (w : World) (r : RowG) (i : Nat) (e : Ending) (w' : World) : Prop := e = .returned (.tuple #[.pointer (some ⟨r.p, 0, none⟩), .int .i64 (i : Int), .int .i64 0]) ∧ Below w.heap.size w w'
theorem OwnG.slp {w : World} {v : Value} {gs : List (Int × Int)} (h : OwnG w v gs) : SlP w v gs := SlP.of_own h
set_option maxRecDepth 100000 in
theorem stall_findYes {s : Nat} {F : Nat → Prop} {b1 b2 : Nat} {R R1 R2 : List RowG} {r : RowG} {A : List (Int × Int)} (w : World) (h : StParts w s F b1 b2 R A) (e : R = R1 ++ r :: R2) (t : Int) (hA : A.lookup t = some r.h) (hs : SortK (fun p : Int × Int => p.1) r.gs) (hl : r.gs.length ≤ 16) (i : Nat) (hi : Hid (posK (fun p : Int × Int => p.1) r.gs t = i)) :
    Calls Try.prog 34 #[.pointer (some ⟨s, 0, none⟩), .int .i64 t] w (FindPost w r i) := by
  obtain ⟨c0, c1⟩ := h.cells
  have HM1 := hid h.m1
  have HM2 := hid h.m2
  have hrow := h.row r (by rw [e]; simp)
  obtain ⟨-, -, d2⟩ := hrow.cells
  have HO := hid hrow.own.slp
  have H1 : Hid (((R.map RowG.ptr).lookup r.h).getD (.pointer none) = .pointer (some ⟨r.p, 0, none⟩)) := hid (by rw [h.look e]; rfl)
  have H2 : Hid (((atV A).lookup t).getD (.int .i64 0) = .int .i64 r.h) := hid (by rw [lookA, hA]; rfl)
  have H3 : Hid (((atV A).lookup t).isSome = true) := hid (by rw [lookA, hA]; rfl)
  have HS := hid hs
  obtain ⟨a, c, hv, -⟩ := ownsRow.rd hrow.own
  obtain ⟨h0, p, v, till, gs⟩ := r
  simp only at hv d2 HO H1 H2 HS hl hi
  subst hv
  clear h hrow hA hs e
  go_enter Try.func34, Try.ntmps34
  go_wp2_with (first | (at_lookup; refine wpList_look2 _ rfl _ _ rfl Try.underlying65 Try.underlying3 (.int .i64 0) zero_int23 rfl HM2.out t rfl _ H2 _ H3 ?_) | (at_lookup; refine wpList_look1 _ rfl _ _ rfl Try.underlying64 Try.underlying3 _ zero_rowp rfl HM1.out h0 rfl _ H1 ?_))
  refine (sl_Bsf gs _ (t, 0) w HO.out HS.out (by omega) i hi).mono ?_
  rintro e w1 ⟨u, rfl, hb⟩
  have HB := hid hb
  clear hb
  go_wp2_with fail
  go_ret3
  exact ⟨rfl, HB.out⟩
theorem stall_findNo {s : Nat} {F : Nat → Prop} {b1 b2 : Nat} {R : List RowG} {A : List (Int × Int)} (w : World) (h : StParts w s F b1 b2 R A) (t : Int) (hA : A.lookup t = none) :
    Calls Try.prog 34 #[.pointer (some ⟨s, 0, none⟩), .int .i64 t] w fun e w' => e = .returned (.tuple #[.pointer none, .int .i64 0, .int .i64 14]) ∧ w = w' := by
  obtain ⟨c0, c1⟩ := h.cells
  have HM2 := hid h.m2
  have H2 : Hid (((atV A).lookup t).getD (.int .i64 0) = .int .i64 0) := hid (by rw [lookA, hA]; rfl)
  have H3 : Hid (((atV A).lookup t).isSome = false) := hid (by rw [lookA, hA]; rfl)
  clear h hA
  go_enter Try.func34, Try.ntmps34
  go_wp2_with (at_lookup; refine wpList_look2 _ rfl _ _ rfl Try.underlying65 Try.underlying3 (.int .i64 0) zero_int23 rfl HM2.out t rfl _ H2 _ H3 ?_)
  go_ret3
  exact ⟨rfl, rfl⟩
/-- a thing that is a good: its row, and where it is there -/
theorem StParts.find {w : World} {s : Nat} {F : Nat → Prop} {b1 b2 : Nat} {R : List RowG} {A : List (Int × Int)} {X : StX} (h : StParts w s F b1 b2 R A) (hr : StRel (R.map RowG.core) A X) (hi : XInv X) {t k p : Int} (hf : fdX X.goods t = some (k, t, p)) :
    ∃ R1 r R2 i, R = R1 ++ r :: R2 ∧ r.h = k ∧ X.tills.lookup k = some r.till ∧ r.gs = ofX X.goods k ∧ A.lookup t = some k ∧ SortK (fun p : Int × Int => p.1) r.gs ∧ r.gs.length ≤ 16 ∧ posK (fun p : Int × Int => p.1) r.gs t = i ∧ r.gs[i]? = some (t, p) := by
  have hm := ((fdX_some hi.g1).1 hf).1
  have hsome := (hi.g2 _ hm).1
  simp only at hsome
  cases ht : X.tills.lookup k with
  | none => rw [ht] at hsome; simp at hsome
  | some g =>
    obtain ⟨R1, r, R2, e, h1, h2, h3⟩ := h.at hr ht
    have hs : SortK (fun p : Int × Int => p.1) r.gs := by rw [h3]; exact ofX_sorted hi.g1 k
    have hin : (t, p) ∈ r.gs := by rw [h3]; exact ofX_fst.2 hm
    refine ⟨R1, r, R2, _, e, h1, by rw [h2], h3, by rw [hr.r2, hf]; rfl, hs, by rw [h3]; exact hi.g3 k, rfl, posK_at (fun p : Int × Int => p.1) hs hin⟩
def priceE (X : StX) (t : Int) : Int × Int × Int := match fdX X.goods t with | none => (0, 0, 14) | some g => (g.1, g.2.2, 0)
def PricePost (w : World) (q : Int × Int × Int) (e : Ending) (w' : World) : Prop := e = .returned (.tuple #[.int .i64 q.1, .int .i64 q.2.1, .int .i64 q.2.2]) ∧ Below w.heap.size w w'
set_option maxRecDepth 100000 in
theorem stall_Price {s : Nat} {F : Nat → Prop} {X : StX} (w : World) (h : StallIs w s F X) (t : Int) :
    Calls Try.prog 24 #[.pointer (some ⟨s, 0, none⟩), .int .i64 t] w (PricePost w (priceE X t)) := by
  obtain ⟨b1, b2, R, A, hp, hr, hi⟩ := h
  have HP := hid hp
  cases hf : fdX X.goods t with
  | none =>
    have e1 : priceE X t = (0, 0, 14) := by unfold priceE; rw [hf]
    rw [e1]
    have HA := hid (show A.lookup t = none by rw [hr.r2, hf]; rfl)
    clear hp hr hi hf e1
    go_enter Try.func24, Try.ntmps24
    go_wp2_with fail
    refine (stall_findNo w HP.out t HA.out).mono ?_
    rintro e w1 ⟨rfl, rfl⟩
    go_wp2_with fail
    go_ret3
    exact ⟨rfl, Below.refl _ _⟩
  | some g =>
    have hgt := ((fdX_some hi.g1).1 hf).2
    obtain ⟨k, t', p⟩ := g
    simp only at hgt
    subst hgt
    have e1 : priceE X t' = (k, p, 0) := by unfold priceE; rw [hf]
    rw [e1]
    obtain ⟨R1, r, R2, i, e, rfl, -, -, hA, hs, hl, hpos, hat⟩ := hp.find hr hi hf
    have HRW := hid (hp.row r (by rw [e]; simp))
    have HF := hid (stall_findYes w hp e t' hA hs hl i (hid hpos))
    have hil : i < r.gs.length := (List.getElem?_eq_some_iff.1 hat).1
    have HAT := hid hat
    have HIL := hid hil
    clear hp hr hi hf e1 hA hs hpos hat e hil
    go_enter Try.func24, Try.ntmps24
    go_wp2_with fail
    refine HF.out.mono ?_
    rintro e w1 ⟨rfl, hb⟩
    have HB := hid hb
    have hrow := HRW.out.upd (S := fun _ => False) (Upd.of_below hb) (fun _ _ q => q)
    have HW1 := hid hrow
    obtain ⟨g0, c, cur, hv, hg, hnc, hc63, hcl, htk⟩ := hrow.own.form (by have := HIL.out; omega)
    have hat2 := pv_at r.gs i _ HAT.out
    have hc : w1.cell? ⟨g0, i * 2 + 1, none⟩ = some (.int .i64 p) := by
      have h1 := hat2.2
      have hlt : i * 2 + 1 < r.gs.length * 2 := by have := HIL.out; omega
      rw [← htk, List.getElem?_take, if_pos hlt] at h1
      simp [World.cell?, hg, h1]
    have e0 : ∀ y, Below w1.heap.size w1 y → y.cell? ⟨r.p, 0, none⟩ = some (.int .i64 r.h) := fun y hy => (HW1.out.upd (S := fun _ => False) (Upd.of_below hy) (fun _ _ q => q)).cells.1
    have e2 : ∀ y, Below w1.heap.size w1 y → y.cell? ⟨r.p, 2, none⟩ = some (.slice (some ⟨g0, 0, none⟩) r.gs.length c) := fun y hy => by rw [(HW1.out.upd (S := fun _ => False) (Upd.of_below hy) (fun _ _ q => q)).cells.2.2, hv]
    have e3 : ∀ y, Below w1.heap.size w1 y → y.cell? ⟨g0, i * 2 + 1, none⟩ = some (.int .i64 p) := fun y hy => by rw [← hc]; exact World.cell?_of_block (hy.block g0 (Array.getElem?_eq_some_iff.1 hg).1)
    have i1 : (i : Int) < (r.gs.length : Int) := by have := HIL.out; omega
    have i2 : ¬ (r.gs.length : Int) ≤ (i : Int) := by omega
    have i0 : (0 : Int) ≤ (i : Int) := by omega
    have i3 : ¬ (i : Int) < 0 := by omega
    have hyd := (Below.refl w1.heap.size w1).drew
    clear hb hrow hv hg hnc hc63 hcl htk hat2 hc
    go_upto_region 4 with fail
    refine wp_region_kept [14] (fun y => Below w1.heap.size w1 y) (by kernel_rfl) (by assumption) (fun hH => ?_)
    refine wpK.take (i := 0) (v := _) (by simp only [List.getElem?_toArray, List.getElem?_cons_succ, List.getElem?_cons_zero]; rfl) (by kernel_rfl) (by kernel_rfl) (by kernel_rfl) (by kernel_rfl) (by kernel_rfl) (by exact fun _ _ _ h => h) (by first | exact Or.inl ⟨by rfl, by intro w hSw; go_simp; try with_reducible rfl⟩ | exact Or.inr ⟨by rfl, rfl⟩) hH ?_
    try simp only [Act.put, List.setIfInBounds_toArray, List.set_cons_zero, List.set_cons_succ]
    refine wpK.take (i := 1) (v := _) (by simp only [List.getElem?_toArray, List.getElem?_cons_succ, List.getElem?_cons_zero]; rfl) (by kernel_rfl) (by kernel_rfl) (by kernel_rfl) (by kernel_rfl) (by kernel_rfl) (by exact fun _ _ _ h => h) (by first | exact Or.inl ⟨by rfl, by intro w hSw; go_simp; try with_reducible rfl⟩ | exact Or.inr ⟨by rfl, rfl⟩) hH ?_
    try simp only [Act.put, List.setIfInBounds_toArray, List.set_cons_zero, List.set_cons_succ]
    refine wpK.take (i := 2) (v := _) (by simp only [List.getElem?_toArray, List.getElem?_cons_succ, List.getElem?_cons_zero]; rfl) (by kernel_rfl) (by kernel_rfl) (by kernel_rfl) (by kernel_rfl) (by kernel_rfl) (by exact fun _ _ _ h => h) (by first | exact Or.inl ⟨by rfl, by intro w hSw; go_simp; try with_reducible rfl⟩ | exact Or.inr ⟨by rfl, rfl⟩) hH ?_
    try simp only [Act.put, List.setIfInBounds_toArray, List.set_cons_zero, List.set_cons_succ]
    refine wpK.take (i := 3) (v := _) (by simp only [List.getElem?_toArray, List.getElem?_cons_succ, List.getElem?_cons_zero]; rfl) (by kernel_rfl) (by kernel_rfl) (by kernel_rfl) (by kernel_rfl) (by kernel_rfl) (by exact fun _ _ _ h => h) (by first | exact Or.inl ⟨by rfl, by intro w hSw; go_simp; try with_reducible rfl⟩ | exact Or.inr ⟨by rfl, rfl⟩) hH ?_
    try simp only [Act.put, List.setIfInBounds_toArray, List.set_cons_zero, List.set_cons_succ]
    refine wpK.take (i := 4) (v := _) (by simp only [List.getElem?_toArray, List.getElem?_cons_succ, List.getElem?_cons_zero]; rfl) (by kernel_rfl) (by kernel_rfl) (by kernel_rfl) (by kernel_rfl) (by kernel_rfl) (by exact fun _ _ _ h => h) (by first | exact Or.inl ⟨by rfl, by intro w hSw; go_simp; try with_reducible rfl⟩ | exact Or.inr ⟨by rfl, rfl⟩) hH ?_
    try simp only [Act.put, List.setIfInBounds_toArray, List.set_cons_zero, List.set_cons_succ]
    refine wpK.take (i := 5) (v := _) (by simp only [List.getElem?_toArray, List.getElem?_cons_succ, List.getElem?_cons_zero]; rfl) (by kernel_rfl) (by kernel_rfl) (by kernel_rfl) (by kernel_rfl) (by kernel_rfl) (by exact fun _ _ _ h => h) (by first | exact Or.inl ⟨by rfl, by intro w hSw; go_simp; try with_reducible rfl⟩ | exact Or.inr ⟨by rfl, rfl⟩) hH ?_
    try simp only [Act.put, List.setIfInBounds_toArray, List.set_cons_zero, List.set_cons_succ]
    refine wpK.take (i := 6) (v := _) (by simp only [List.getElem?_toArray, List.getElem?_cons_succ, List.getElem?_cons_zero]; rfl) (by kernel_rfl) (by kernel_rfl) (by kernel_rfl) (by kernel_rfl) (by kernel_rfl) (by exact fun _ _ _ h => h) (by first | exact Or.inl ⟨by rfl, by intro w hSw; go_simp; try with_reducible rfl⟩ | exact Or.inr ⟨by rfl, rfl⟩) hH ?_
    try simp only [Act.put, List.setIfInBounds_toArray, List.set_cons_zero, List.set_cons_succ]
    refine wpK.take (i := 7) (v := _) (by simp only [List.getElem?_toArray, List.getElem?_cons_succ, List.getElem?_cons_zero]; rfl) (by kernel_rfl) (by kernel_rfl) (by kernel_rfl) (by kernel_rfl) (by kernel_rfl) (by exact fun _ _ _ h => h) (by first | exact Or.inl ⟨by rfl, by intro w hSw; go_simp; try with_reducible rfl⟩ | exact Or.inr ⟨by rfl, rfl⟩) hH ?_
    try simp only [Act.put, List.setIfInBounds_toArray, List.set_cons_zero, List.set_cons_succ]
    refine wpK.take (i := 8) (v := _) (by simp only [List.getElem?_toArray, List.getElem?_cons_succ, List.getElem?_cons_zero]; rfl) (by kernel_rfl) (by kernel_rfl) (by kernel_rfl) (by kernel_rfl) (by kernel_rfl) (by exact fun _ _ _ h => h) (by first | exact Or.inl ⟨by rfl, by intro w hSw; go_simp; try with_reducible rfl⟩ | exact Or.inr ⟨by rfl, rfl⟩) hH ?_
    try simp only [Act.put, List.setIfInBounds_toArray, List.set_cons_zero, List.set_cons_succ]
    refine wpK.take (i := 9) (v := _) (by simp only [List.getElem?_toArray, List.getElem?_cons_succ, List.getElem?_cons_zero]; rfl) (by kernel_rfl) (by kernel_rfl) (by kernel_rfl) (by kernel_rfl) (by kernel_rfl) (by exact fun _ _ _ h => h) (by first | exact Or.inl ⟨by rfl, by intro w hSw; go_simp; try with_reducible rfl⟩ | exact Or.inr ⟨by rfl, rfl⟩) hH ?_
    try simp only [Act.put, List.setIfInBounds_toArray, List.set_cons_zero, List.set_cons_succ]
    refine wpK.take (i := 10) (v := _) (by simp only [List.getElem?_toArray, List.getElem?_cons_succ, List.getElem?_cons_zero]; rfl) (by kernel_rfl) (by kernel_rfl) (by kernel_rfl) (by kernel_rfl) (by kernel_rfl) (by exact fun _ _ _ h => h) (by first | exact Or.inl ⟨by rfl, by intro w hSw; go_simp; try with_reducible rfl⟩ | exact Or.inr ⟨by rfl, rfl⟩) hH ?_
    try simp only [Act.put, List.setIfInBounds_toArray, List.set_cons_zero, List.set_cons_succ]
    refine wpK.take (i := 11) (v := _) (by simp only [List.getElem?_toArray, List.getElem?_cons_succ, List.getElem?_cons_zero]; rfl) (by kernel_rfl) (by kernel_rfl) (by kernel_rfl) (by kernel_rfl) (by kernel_rfl) (by exact fun _ _ _ h => h) (by first | exact Or.inl ⟨by rfl, by intro w hSw; go_simp; try with_reducible rfl⟩ | exact Or.inr ⟨by rfl, rfl⟩) hH ?_
    try simp only [Act.put, List.setIfInBounds_toArray, List.set_cons_zero, List.set_cons_succ]
    refine wpK.take (i := 12) (v := _) (by simp only [List.getElem?_toArray, List.getElem?_cons_succ, List.getElem?_cons_zero]; rfl) (by kernel_rfl) (by kernel_rfl) (by kernel_rfl) (by kernel_rfl) (by kernel_rfl) (by exact fun _ _ _ h => h) (by first | exact Or.inl ⟨by rfl, by intro w hSw; go_simp; try with_reducible rfl⟩ | exact Or.inr ⟨by rfl, rfl⟩) hH ?_
    try simp only [Act.put, List.setIfInBounds_toArray, List.set_cons_zero, List.set_cons_succ]
    refine wpK.take (i := 13) (v := _) (by simp only [List.getElem?_toArray, List.getElem?_cons_succ, List.getElem?_cons_zero]; rfl) (by kernel_rfl) (by kernel_rfl) (by kernel_rfl) (by kernel_rfl) (by kernel_rfl) (by exact fun _ _ _ h => h) (by first | exact Or.inl ⟨by rfl, by intro w hSw; go_simp; try with_reducible rfl⟩ | exact Or.inr ⟨by rfl, rfl⟩) hH ?_
    try simp only [Act.put, List.setIfInBounds_toArray, List.set_cons_zero, List.set_cons_succ]
    refine wpK.late (i := 14) (by kernel_rfl) (by simp only [List.getElem?_toArray, List.getElem?_cons_succ, List.getElem?_cons_zero]; rfl) (by kernel_rfl) (fun K hK => ?_)
    go_simp
    refine hK.out _ _ ?_
    clear hK K
    try simp only [Act.put, List.setIfInBounds_toArray, List.set_cons_zero, List.set_cons_succ]
    refine wpK.done (by kernel_rfl) ?_ _
    clear e0 e2 e3 hyd hH
    go_wp2_with fail
    go_ret3
    exact ⟨rfl, HB.out.drew⟩
end Go.Proofs.Ytajfjgekcjkedaa
end
