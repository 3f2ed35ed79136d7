/- Joined texts, in this order: Gold, StallMem. Each one's first remark says what it proves; no condition beyond those that its theorems name. -/
import Derived.Test.YtajfjgekcjkedaaProg
import Derived.Test.YtajfjgekcjkedaaJLawStallCopies01
import Derived.Test.YtajfjgekcjkedaaJLawStallCopies07
section
/- Contracts of the functions of the package gold, and of its reference: what each computes. -/
namespace Go.Proofs.Ytajfjgekcjkedaa
open Go.RowKit
open Go.Lib (hid)
set_option linter.unusedVariables false

/-- an amount: between 0 and 2^40 -/
def goldR (n : Int) : Bool := decide (0 ≤ n ∧ n ≤ 1099511627776)
theorem goldR_true {n : Int} (h : 0 ≤ n ∧ n ≤ 1099511627776) : goldR n = true := by simpa [goldR] using h
theorem goldR_false {n : Int} (h : ¬ (0 ≤ n ∧ n ≤ 1099511627776)) : goldR n = false := by simpa [goldR] using h

theorem gold_Right (n : Int) (w : World) : Calls Try.prog 30 #[.int .i64 n] w fun e w' => e = .returned (.bool (goldR n)) ∧ w = w' := by
  by_cases h0 : 0 ≤ n
  · by_cases h1 : n ≤ 1099511627776
    · rw [goldR_true ⟨h0, h1⟩]
      go_enter Try.func30, Try.ntmps30
      go_wp2
      go_ret
      exact ⟨rfl, rfl⟩
    · rw [goldR_false (by omega)]
      go_enter Try.func30, Try.ntmps30
      go_wp2
      go_ret
      exact ⟨rfl, rfl⟩
  · rw [goldR_false (by omega)]
    go_enter Try.func30, Try.ntmps30
    go_wp2
    go_ret
    exact ⟨rfl, rfl⟩

theorem gold_both (a b : Int) (w : World) : Calls Try.prog 50 #[.int .i64 a, .int .i64 b] w fun e w' => e = .returned (.bool (goldR a && goldR b)) ∧ w = w' := by
  cases ha : goldR a <;> cases hb : goldR b <;> (
    go_enter Try.func50, Try.ntmps50
    go_wp2_with (go_at_call 30; (with_reducible refine (gold_Right _ _).mono ?_); rintro e w' ⟨rfl, rfl⟩)
    go_ret
    exact ⟨rfl, rfl⟩)

def addE (a b : Int) : Int := if goldR a && goldR b then (if 1099511627776 < a + b then 15 else 0) else 11
def addV (a b : Int) : Int := if addE a b = 0 then a + b else 0
theorem gold_Add (a b : Int) (w : World) : Calls Try.prog 36 #[.int .i64 a, .int .i64 b] w fun e w' => e = .returned (.tuple #[.int .i64 (addV a b), .int .i64 (addE a b)]) ∧ w = w' := by
  cases hr : goldR a && goldR b
  · have hv : addV a b = 0 := by simp [addV, addE, hr]
    have he : addE a b = 11 := by simp [addE, hr]
    rw [hv, he]; clear hv he
    go_enter Try.func36, Try.ntmps36
    go_wp2_with (go_at_call 50; (with_reducible refine (gold_both _ _ _).mono ?_); rintro e w' ⟨rfl, rfl⟩)
    go_ret2
    exact ⟨rfl, rfl⟩
  · have hb : (0 ≤ a ∧ a ≤ 1099511627776) ∧ 0 ≤ b ∧ b ≤ 1099511627776 := by simpa [goldR] using hr
    obtain ⟨⟨a0, a1⟩, b0, b1⟩ := hb
    by_cases hs : 1099511627776 < a + b
    · have he : addE a b = 15 := by simp [addE, hr, hs]
      have hv : addV a b = 0 := by simp [addV, he]
      rw [hv, he]; clear hv he
      have hs' : 1099511627776 - b < a := by omega
      go_enter Try.func36, Try.ntmps36
      go_wp2_with (go_at_call 50; (with_reducible refine (gold_both _ _ _).mono ?_); rintro e w' ⟨rfl, rfl⟩)
      go_ret2
      exact ⟨rfl, rfl⟩
    · have he : addE a b = 0 := by simp [addE, hr, hs]
      have hv : addV a b = a + b := by simp [addV, he]
      rw [hv, he]; clear hv he
      have hs' : ¬ 1099511627776 - b < a := by omega
      go_enter Try.func36, Try.ntmps36
      go_wp2_with (go_at_call 50; (with_reducible refine (gold_both _ _ _).mono ?_); rintro e w' ⟨rfl, rfl⟩)
      go_ret2
      exact ⟨rfl, rfl⟩

def subE (a b : Int) : Int := if goldR a && goldR b then (if a < b then 35 else 0) else 11
def subV (a b : Int) : Int := if subE a b = 0 then a - b else 0
def stepE (a : Int) : Int := if goldR a then 0 else 11
def stepV (a : Int) : Int := if goldR a then max (a / 20) 1 else 0
end Go.Proofs.Ytajfjgekcjkedaa
end
section
/- How stalls stand in memory; contracts of the package stall: New, Has, Till, find, Price. -/
namespace Go.Proofs.Ytajfjgekcjkedaa
open Go.RowKit
open Go.Lib (hid)
set_option linter.unusedVariables false

structure RowG where
  h : Int
  p : Nat
  v : Value
  till : Int
  gs : List (Int × Int)
def RowG.core (r : RowG) : Int × Int × List (Int × Int) := (r.h, r.till, r.gs)
def RowG.ptr (r : RowG) : Int × Value := (r.h, .pointer (some ⟨r.p, 0, none⟩))
def atV (A : List (Int × Int)) : List (Int × Value) := A.map fun p => (p.1, .int .i64 p.2)
structure RowAt (w : World) (r : RowG) : Prop where
  blk : Blk w r.p #[.int .i64 r.h, .int .i64 r.till, r.v]
  own : OwnG w r.v r.gs
  ne : r.v.ownBlock ≠ some r.p
def Feet (r : RowG) (k : Nat) : Prop := k = r.p ∨ r.v.ownBlock = some k
structure StParts (w : World) (s : Nat) (F : Nat → Prop) (b1 b2 : Nat) (R : List RowG) (A : List (Int × Int)) : Prop where
  blk : Blk w s #[.map (some b1), .map (some b2)]
  m1 : MapE w b1 (R.map RowG.ptr)
  m2 : MapE w b2 (atV A)
  fs : F s
  f1 : F b1
  f2 : F b2
  n1 : s ≠ b1
  n2 : s ≠ b2
  n3 : b1 ≠ b2
  row : ∀ r ∈ R, RowAt w r
  feet : ∀ r ∈ R, ∀ k, Feet r k → F k ∧ k ≠ s ∧ k ≠ b1 ∧ k ≠ b2
  far : ∀ r ∈ R, ∀ q ∈ R, r.h ≠ q.h → ∀ k, Feet r k → ¬ Feet q k
def StallIs (w : World) (s : Nat) (F : Nat → Prop) (X : StX) : Prop := ∃ b1 b2 R A, StParts w s F b1 b2 R A ∧ StRel (R.map RowG.core) A X ∧ XInv X
theorem RowAt.upd {S : Nat → Prop} {w w' : World} {r : RowG} (h : RowAt w r) (hu : Upd S w w') (hn : ∀ k, Feet r k → ¬ S k) : RowAt w' r :=
  ⟨h.blk.upd hu (hn _ (.inl rfl)), hu.owns h.own (fun k hk => hn k (.inr hk)), h.ne⟩
theorem RowAt.lt {w : World} {r : RowG} (h : RowAt w r) : ∀ k, Feet r k → k < w.heap.size := fun k hk => by
  rcases hk with rfl | hk
  · exact h.blk.lt
  · exact (h.own.lt k hk).2
theorem StParts.upd {S : Nat → Prop} {w w' : World} {s : Nat} {F : Nat → Prop} {b1 b2 : Nat} {R : List RowG} {A : List (Int × Int)} (h : StParts w s F b1 b2 R A) (hu : Upd S w w') (hS : ∀ k, S k → ¬ F k) : StParts w' s F b1 b2 R A :=
  ⟨h.blk.upd hu (fun q => hS _ q h.fs), h.m1.upd hu (fun q => hS _ q h.f1), h.m2.upd hu (fun q => hS _ q h.f2), h.fs, h.f1, h.f2, h.n1, h.n2, h.n3, fun r hr => (h.row r hr).upd hu (fun k hk q => hS k q (h.feet r hr k hk).1), h.feet, h.far⟩
theorem StParts.below {w w' : World} {s : Nat} {F : Nat → Prop} {b1 b2 : Nat} {R : List RowG} {A : List (Int × Int)} (h : StParts w s F b1 b2 R A) (hb : Below w.heap.size w w') : StParts w' s F b1 b2 R A :=
  h.upd (S := fun _ => False) (Upd.of_below hb) (fun _ q => q.elim)
theorem StallIs.upd {S : Nat → Prop} {w w' : World} {s : Nat} {F : Nat → Prop} {X : StX} (h : StallIs w s F X) (hu : Upd S w w') (hS : ∀ k, S k → ¬ F k) : StallIs w' s F X := by
  obtain ⟨b1, b2, R, A, hp, hr⟩ := h; exact ⟨b1, b2, R, A, hp.upd hu hS, hr⟩
theorem StallIs.below {w w' : World} {s : Nat} {F : Nat → Prop} {X : StX} (h : StallIs w s F X) (hb : Below w.heap.size w w') : StallIs w' s F X :=
  h.upd (S := fun _ => False) (Upd.of_below hb) (fun _ q => q.elim)
theorem StParts.weaken {w : World} {s : Nat} {F G : Nat → Prop} {b1 b2 : Nat} {R : List RowG} {A : List (Int × Int)} (h : StParts w s F b1 b2 R A) (hG : ∀ k, F k → k < w.heap.size → G k) : StParts w s G b1 b2 R A :=
  ⟨h.blk, h.m1, h.m2, hG _ h.fs h.blk.lt, hG _ h.f1 h.m1.lt, hG _ h.f2 h.m2.lt, h.n1, h.n2, h.n3, h.row, fun r hr k hk => ⟨hG k (h.feet r hr k hk).1 ((h.row r hr).lt k hk), (h.feet r hr k hk).2⟩, h.far⟩
theorem StallIs.weaken {w : World} {s : Nat} {F G : Nat → Prop} {X : StX} (h : StallIs w s F X) (hG : ∀ k, F k → k < w.heap.size → G k) : StallIs w s G X := by
  obtain ⟨b1, b2, R, A, hp, hr⟩ := h; exact ⟨b1, b2, R, A, hp.weaken hG, hr⟩
theorem StallIs.inv {w : World} {s : Nat} {F : Nat → Prop} {X : StX} (h : StallIs w s F X) : XInv X := by
  obtain ⟨b1, b2, R, A, hp, hr, hi⟩ := h; exact hi
theorem core_keys (R : List RowG) : (R.map RowG.core).map (·.1) = R.map (·.h) := by rw [List.map_map]; rfl
theorem ptr_keys (R : List RowG) : (R.map RowG.ptr).map (·.1) = R.map (·.h) := by rw [List.map_map]; rfl
theorem StParts.nodup {w : World} {s : Nat} {F : Nat → Prop} {b1 b2 : Nat} {R : List RowG} {A : List (Int × Int)} (h : StParts w s F b1 b2 R A) : (R.map (·.h)).Nodup := by rw [← ptr_keys]; exact h.m1.nodup
theorem StParts.cells {w : World} {s : Nat} {F : Nat → Prop} {b1 b2 : Nat} {R : List RowG} {A : List (Int × Int)} (h : StParts w s F b1 b2 R A) : w.cell? ⟨s, 0, none⟩ = some (.map (some b1)) ∧ w.cell? ⟨s, 1, none⟩ = some (.map (some b2)) :=
  ⟨by rw [h.blk.cell]; rfl, by rw [h.blk.cell]; rfl⟩
theorem RowAt.cells {w : World} {r : RowG} (h : RowAt w r) : w.cell? ⟨r.p, 0, none⟩ = some (.int .i64 r.h) ∧ w.cell? ⟨r.p, 1, none⟩ = some (.int .i64 r.till) ∧ w.cell? ⟨r.p, 2, none⟩ = some r.v :=
  ⟨by rw [h.blk.cell]; rfl, by rw [h.blk.cell]; rfl, by rw [h.blk.cell]; rfl⟩
/-- a house that has a stall -/
theorem StParts.at {w : World} {s : Nat} {F : Nat → Prop} {b1 b2 : Nat} {R : List RowG} {A : List (Int × Int)} {X : StX} (h : StParts w s F b1 b2 R A) (hr : StRel (R.map RowG.core) A X) {k g : Int} (ht : X.tills.lookup k = some g) :
    ∃ R1 r R2, R = R1 ++ r :: R2 ∧ r.h = k ∧ r.till = g ∧ r.gs = ofX X.goods k := by
  have h1 := hr.r1 k
  rw [ht] at h1
  obtain ⟨r, hm, e⟩ := List.mem_map.1 (lookup_mem h1)
  obtain ⟨R1, R2, e2⟩ := List.append_of_mem hm
  unfold RowG.core at e
  have a := (Prod.mk.inj e).1
  have b := Prod.mk.inj (Prod.mk.inj e).2
  exact ⟨R1, r, R2, e2, a, b.1, b.2⟩
theorem StParts.look {w : World} {s : Nat} {F : Nat → Prop} {b1 b2 : Nat} {R R1 R2 : List RowG} {r : RowG} {A : List (Int × Int)} (h : StParts w s F b1 b2 R A) (e : R = R1 ++ r :: R2) : (R.map RowG.ptr).lookup r.h = some (.pointer (some ⟨r.p, 0, none⟩)) := by
  rw [lookup_mem_iff h.m1.nodup]
  exact List.mem_map.2 ⟨r, by rw [e]; simp, rfl⟩
theorem StParts.no {w : World} {s : Nat} {F : Nat → Prop} {b1 b2 : Nat} {R : List RowG} {A : List (Int × Int)} {X : StX} (h : StParts w s F b1 b2 R A) (hr : StRel (R.map RowG.core) A X) {k : Int} (ht : X.tills.lookup k = none) : (R.map RowG.ptr).lookup k = none := by
  have h1 := hr.r1 k
  rw [ht, Option.map_none, lookup_none_iff] at h1
  rw [lookup_none_iff]
  intro p hp
  obtain ⟨r, hm, rfl⟩ := List.mem_map.1 hp
  exact h1 r.core (List.mem_map_of_mem hm)
theorem lookA (A : List (Int × Int)) (t : Int) : (atV A).lookup t = (A.lookup t).map (.int .i64) := by
  unfold atV
  exact lookup_map (Value.int .i64) A t
/-- one row has turned -/
theorem StParts.turn {w w' : World} {s : Nat} {F : Nat → Prop} {b1 b2 : Nat} {R1 R2 : List RowG} {r r' : RowG} {A : List (Int × Int)} (h : StParts w s F b1 b2 (R1 ++ r :: R2) A) (hu : Upd (Feet r) w w') (hh : r'.h = r.h) (hp : r'.p = r.p) (hr : RowAt w' r')
    (hg : ∀ k, r'.v.ownBlock = some k → r.v.ownBlock = some k ∨ w.heap.size ≤ k) : StParts w' s (fun k => F k ∨ w.heap.size ≤ k) b1 b2 (R1 ++ r' :: R2) A := by
  have hn := h.nodup
  have hmem : r ∈ R1 ++ r :: R2 := by simp
  have hne : ∀ q ∈ R1 ++ R2, q.h ≠ r.h := by
    intro q hq e
    rw [List.map_append, List.map_cons, List.nodup_append] at hn
    have h2 := List.nodup_cons.1 hn.2.1
    rcases List.mem_append.1 hq with hq | hq
    · exact hn.2.2 q.h (List.mem_map_of_mem hq) r.h (by simp) e
    · exact h2.1 (by rw [← e]; exact List.mem_map_of_mem hq)
  have hin : ∀ q ∈ R1 ++ R2, q ∈ R1 ++ r :: R2 := fun q hq => by
    rcases List.mem_append.1 hq with hq | hq
    · simp [hq]
    · simp [hq]
  have hcase : ∀ q ∈ R1 ++ r' :: R2, q = r' ∨ q ∈ R1 ++ R2 := fun q hq => by
    rcases List.mem_append.1 hq with hq | hq
    · exact .inr (by simp [hq])
    · rcases List.mem_cons.1 hq with hq | hq
      · exact .inl hq
      · exact .inr (by simp [hq])
  have hf := fun k hk => h.feet r hmem k hk
  have hfeet : ∀ k, Feet r' k → Feet r k ∨ w.heap.size ≤ k := fun k hk => by
    rcases hk with hk | hk
    · exact .inl (.inl (by rw [hk, hp]))
    · rcases hg k hk with e | e
      · exact .inl (.inr e)
      · exact .inr e
  have hkeep : ∀ q ∈ R1 ++ R2, RowAt w' q := fun q hq => (h.row q (hin q hq)).upd hu (fun k hk hk2 => h.far q (hin q hq) r hmem (hne q hq) k hk hk2)
  refine ⟨h.blk.upd hu (fun q => (hf s q).2.1 rfl), ?_, h.m2.upd hu (fun q => (hf b2 q).2.2.2 rfl), .inl h.fs, .inl h.f1, .inl h.f2, h.n1, h.n2, h.n3, ?_, ?_, ?_⟩
  · have := h.m1.upd hu (fun q => (hf b1 q).2.2.1 rfl)
    rw [List.map_append, List.map_cons] at this ⊢
    have e : r'.ptr = r.ptr := by unfold RowG.ptr; rw [hh, hp]
    rw [e]; exact this
  · intro q hq
    rcases hcase q hq with rfl | hq
    · exact hr
    · exact hkeep q hq
  · intro q hq k hk
    rcases hcase q hq with rfl | hq
    · rcases hfeet k hk with e | e
      · have := hf k e; exact ⟨.inl this.1, this.2⟩
      · have a := h.blk.lt
        have b := h.m1.lt
        have c := h.m2.lt
        exact ⟨.inr e, by omega, by omega, by omega⟩
    · have := h.feet q (hin q hq) k hk; exact ⟨.inl this.1, this.2⟩
  · intro q hq q2 hq2 hne2 k hk hk2
    rcases hcase q hq with e1 | m1
    · rcases hcase q2 hq2 with e2 | m2
      · exact hne2 (by rw [e1, e2])
      · rw [e1] at hk hne2
        rcases hfeet k hk with e | e
        · exact h.far r hmem q2 (hin q2 m2) (fun e2 => hne2 (by rw [hh, e2])) k e hk2
        · have := (h.row q2 (hin q2 m2)).lt k hk2; omega
    · rcases hcase q2 hq2 with e2 | m2
      · rw [e2] at hk2 hne2
        rcases hfeet k hk2 with e | e
        · exact h.far q (hin q m1) r hmem (fun e2 => hne2 (by rw [hh, e2])) k hk e
        · have := (h.row q (hin q m1)).lt k hk; omega
      · exact h.far q (hin q m1) q2 (hin q2 m2) hne2 k hk hk2
/-- the places of things have turned -/
theorem StParts.turnA {w w' : World} {s : Nat} {F : Nat → Prop} {b1 b2 : Nat} {R : List RowG} {A A' : List (Int × Int)} (h : StParts w s F b1 b2 R A) (hu : Upd (fun k => k = b2) w w') (hm : MapE w' b2 (atV A')) : StParts w' s F b1 b2 R A' :=
  ⟨h.blk.upd hu h.n2, h.m1.upd hu h.n3, hm, h.fs, h.f1, h.f2, h.n1, h.n2, h.n3, fun r hr => (h.row r hr).upd hu (fun k hk => (h.feet r hr k hk).2.2.2), h.feet, h.far⟩
/-- a row more -/
theorem StParts.more {w w' : World} {s : Nat} {F : Nat → Prop} {b1 b2 : Nat} {R : List RowG} {r : RowG} {A : List (Int × Int)} (h : StParts w s F b1 b2 R A) (hu : Upd (fun k => k = b1) w w') (hm : MapE w' b1 ((R ++ [r]).map RowG.ptr)) (hr : RowAt w' r) (hn : ∀ k, Feet r k → w.heap.size ≤ k) :
    StParts w' s (fun k => F k ∨ w.heap.size ≤ k) b1 b2 (R ++ [r]) A := by
  have a := h.blk.lt
  have b := h.m1.lt
  have c := h.m2.lt
  refine ⟨h.blk.upd hu h.n1, hm, h.m2.upd hu (fun e => h.n3 e.symm), .inl h.fs, .inl h.f1, .inl h.f2, h.n1, h.n2, h.n3, ?_, ?_, ?_⟩
  · intro q hq
    rcases List.mem_append.1 hq with hq | hq
    · exact (h.row q hq).upd hu (fun k hk => (h.feet q hq k hk).2.2.1)
    · simp at hq; subst hq; exact hr
  · intro q hq k hk
    rcases List.mem_append.1 hq with hq | hq
    · have := h.feet q hq k hk; exact ⟨.inl this.1, this.2⟩
    · simp at hq; subst hq
      have := hn k hk
      exact ⟨.inr this, by omega, by omega, by omega⟩
  · intro q hq q2 hq2 hne k hk hk2
    rcases List.mem_append.1 hq with m1 | m1
    · rcases List.mem_append.1 hq2 with m2 | m2
      · exact h.far q m1 q2 m2 hne k hk hk2
      · rw [List.mem_singleton] at m2
        rw [m2] at hk2
        have := hn k hk2
        have := (h.row q m1).lt k hk
        omega
    · rw [List.mem_singleton] at m1
      rcases List.mem_append.1 hq2 with m2 | m2
      · rw [m1] at hk
        have := hn k hk
        have := (h.row q2 m2).lt k hk2
        omega
      · rw [List.mem_singleton] at m2
        exact hne (by rw [m1, m2])
/-- a row less -/
theorem StParts.less {w w' : World} {s : Nat} {F : Nat → Prop} {b1 b2 : Nat} {R1 R2 : List RowG} {r : RowG} {A : List (Int × Int)} (h : StParts w s F b1 b2 (R1 ++ r :: R2) A) (hu : Upd (fun k => k = b1) w w') (hm : MapE w' b1 ((R1 ++ R2).map RowG.ptr)) : StParts w' s F b1 b2 (R1 ++ R2) A := by
  have hin : ∀ q ∈ R1 ++ R2, q ∈ R1 ++ r :: R2 := fun q hq => by
    rcases List.mem_append.1 hq with hq | hq
    · simp [hq]
    · simp [hq]
  exact ⟨h.blk.upd hu h.n1, hm, h.m2.upd hu (fun e => h.n3 e.symm), h.fs, h.f1, h.f2, h.n1, h.n2, h.n3, fun q hq => (h.row q (hin q hq)).upd hu (fun k hk => (h.feet q (hin q hq) k hk).2.2.1), fun q hq => h.feet q (hin q hq), fun q hq q2 hq2 => h.far q (hin q hq) q2 (hin q2 hq2)⟩
theorem zero_rowp (w : World) : (zeroValue 68).run Try.prog w = .ok (.pointer none) w := by kernel_rfl
theorem zero_int23 (w : World) : (zeroValue 3).run Try.prog w = .ok (.int .i64 0) w := by kernel_rfl
theorem stall_New (w : World) : Calls Try.prog 7 #[] w fun e w' => ∃ s, e = .returned (.pointer (some ⟨s, 0, none⟩)) ∧ StallIs w' s (fun k => w.heap.size ≤ k) ⟨[], []⟩ ∧ Below w.heap.size w w' := by
  have hmm := @run_makeMap Try.prog
  go_enter Try.func7, Try.ntmps7
  go_wp2
  go_ret
  have h1 : MapE (w.alloc (.map #[] 0)) w.heap.size [] := MapE.new w
  have h2 : MapE ((w.alloc (.map #[] 0)).alloc (.map #[] 0)) (w.alloc (.map #[] 0)).heap.size [] := MapE.new _
  have hz : (w.alloc (.map #[] 0)).heap.size = w.heap.size + 1 := by simp
  rw [hz] at h2
  have hz2 : ((w.alloc (.map #[] 0)).alloc (.map #[] 0)).heap.size = w.heap.size + 1 + 1 := by simp
  have hb := Blk.new ((w.alloc (.map #[] 0)).alloc (.map #[] 0)) #[.map (some w.heap.size), .map (some (w.heap.size + 1))] 67
  rw [hz2] at hb
  refine ⟨w.heap.size + 1 + 1, rfl, ⟨w.heap.size, w.heap.size + 1, [], [], ⟨hb, (h1.below (Below.new _ _)).below (Below.new _ _), h2.below (Below.new _ _), by omega, by omega, by omega, by omega, by omega, by omega, by simp, by simp, by simp⟩, ⟨fun _ => rfl, fun _ => rfl⟩, ⟨List.Pairwise.nil, by simp, List.Pairwise.nil, by simp, by simp [ofX]⟩⟩, (((Below.refl _ _).alloc (Nat.le_refl _) _).alloc (by simp) _).alloc (by simp; omega) _⟩
theorem stall_Has {s : Nat} {F : Nat → Prop} {X : StX} (w : World) (h : StallIs w s F X) (k : Int) (b : Bool) (hb : Hid ((X.tills.lookup k).isSome = b)) :
    Calls Try.prog 26 #[.pointer (some ⟨s, 0, none⟩), .int .i64 k] w fun e w' => e = .returned (.bool b) ∧ w = w' := by
  obtain ⟨b1, b2, R, A, hp, hr, hi⟩ := h
  obtain ⟨c0, -⟩ := hp.cells
  have HM := hid hp.m1
  cases ht : X.tills.lookup k with
  | none =>
    have hb2 : b = false := by rw [← hb.out, ht]; rfl
    subst hb2
    have H1 : Hid (((R.map RowG.ptr).lookup k).getD (.pointer none) = .pointer none) := hid (by rw [hp.no hr ht]; rfl)
    clear hp hr hi ht
    go_enter Try.func26, Try.ntmps26
    go_wp2_with (at_lookup; refine wpList_look1 _ rfl _ _ rfl Try.underlying64 Try.underlying3 _ zero_rowp rfl HM.out k rfl _ H1 ?_)
    go_ret
    exact ⟨rfl, rfl⟩
  | some g =>
    have hb2 : b = true := by rw [← hb.out, ht]; rfl
    subst hb2
    obtain ⟨R1, r, R2, e, rfl, -, -⟩ := hp.at hr ht
    have H1 : Hid (((R.map RowG.ptr).lookup r.h).getD (.pointer none) = .pointer (some ⟨r.p, 0, none⟩)) := hid (by rw [hp.look e]; rfl)
    clear hp hr hi ht e
    go_enter Try.func26, Try.ntmps26
    go_wp2_with (at_lookup; refine wpList_look1 _ rfl _ _ rfl Try.underlying64 Try.underlying3 _ zero_rowp rfl HM.out r.h rfl _ H1 ?_)
    go_ret
    exact ⟨rfl, rfl⟩
def tillE (X : StX) (k : Int) : Int := if (X.tills.lookup k).isSome then 0 else 14
theorem stall_Till {s : Nat} {F : Nat → Prop} {X : StX} (w : World) (h : StallIs w s F X) (k : Int) (g E : Int) (hg : Hid (tillX X k = g)) (hE : Hid (tillE X k = E)) :
    Calls Try.prog 29 #[.pointer (some ⟨s, 0, none⟩), .int .i64 k] w fun e w' => e = .returned (.tuple #[.int .i64 g, .int .i64 E]) ∧ w = w' := by
  have HH := hid h
  obtain ⟨b1, b2, R, A, hp, hr, hi⟩ := h
  obtain ⟨c0, -⟩ := hp.cells
  have HM := hid hp.m1
  cases ht : X.tills.lookup k with
  | none =>
    have hg2 : g = 0 := by rw [← hg.out]; unfold tillX; rw [ht]; rfl
    have hE2 : E = 14 := by rw [← hE.out]; unfold tillE; rw [ht]; rfl
    subst hg2
    subst hE2
    have HB := hid (show (X.tills.lookup k).isSome = false by rw [ht]; rfl)
    clear hp hr hi ht
    go_enter Try.func29, Try.ntmps29
    go_wp2_with fail
    refine (stall_Has w HH.out k false HB).mono ?_
    rintro e w1 ⟨rfl, rfl⟩
    go_wp2_with fail
    go_ret2
    exact ⟨rfl, rfl⟩
  | some o =>
    have hg2 : o = g := by rw [← hg.out]; unfold tillX; rw [ht]; rfl
    have hE2 : E = 0 := by rw [← hE.out]; unfold tillE; rw [ht]; rfl
    subst hg2
    subst hE2
    have HB := hid (show (X.tills.lookup k).isSome = true by rw [ht]; rfl)
    obtain ⟨R1, r, R2, e, rfl, rfl, -⟩ := hp.at hr ht
    obtain ⟨-, d1, -⟩ := (hp.row r (by rw [e]; simp)).cells
    have H1 : Hid (((R.map RowG.ptr).lookup r.h).getD (.pointer none) = .pointer (some ⟨r.p, 0, none⟩)) := hid (by rw [hp.look e]; rfl)
    clear hp hr hi ht e
    go_enter Try.func29, Try.ntmps29
    go_wp2_with fail
    refine (stall_Has w HH.out r.h true HB).mono ?_
    rintro e w1 ⟨rfl, rfl⟩
    go_wp2_with (at_lookup; refine wpList_look1 _ rfl _ _ rfl Try.underlying64 Try.underlying3 _ zero_rowp rfl HM.out r.h rfl _ H1 ?_)
    go_ret2
    exact ⟨rfl, rfl⟩
end Go.Proofs.Ytajfjgekcjkedaa
end
