/- Joined texts, in this order: Ends, Ref21, Ref21b. Each one's first remark says what it proves; no condition beyond those that its theorems name. -/
import Derived.Test.YtdoflhiogoefjaaDoorJLawThingCopies05
import Derived.Test.YtdoflhiogoefjaaDoorJLawThingCopies08
import Derived.Test.YtdoflhiogoefjaaDoorJLawThingCopies09
section
/- The ends of functions whose result is a struct in memory. No program in sight. -/
namespace Go.Proofs.YtdoflhiogoefjaaDoor
open Go.RowKit
open Go.Lib (hid)
set_option linter.unusedVariables false

theorem results_cell1 {fn : Func} {a : Tmp} {t : TypeId} (h : fn.results = #[.cell a t]) (tmps : Array Value) (P : Program) (w : World) {x : Addr} {v : Value} (ha : tmps.getD a undef = .pointer (some x)) (hl : (loadVar t x).run P w = .ok v w) : (results fn tmps).run P w = .ok v w := by
  have ha' : tmps[a]?.getD undef = .pointer (some x) := by rw [← ha]; simp
  simp [results, h, ha', asAddr, hl, Result.andThen]
theorem results_cell_tmp {fn : Func} {a u : Tmp} {t : TypeId} (h : fn.results = #[.cell a t, .tmp u]) (tmps : Array Value) (P : Program) (w : World) {x : Addr} {v : Value} (ha : tmps.getD a undef = .pointer (some x)) (hl : (loadVar t x).run P w = .ok v w) : (results fn tmps).run P w = .ok (.tuple #[v, tmps.getD u undef]) w := by
  have ha' : tmps[a]?.getD undef = .pointer (some x) := by rw [← ha]; simp
  simp [results, h, ha', asAddr, hl, Result.andThen]
theorem K_alloc {K : Act → World → Prop} {a : Act} {x : World} {cs : Array Value} {e : TypeId} (h : ∀ (g : Nat) (wn : World), g = x.heap.size → wn.heap.size = g + 1 → Below x.heap.size x wn → Blk wn g cs → K a wn) : K a (x.alloc (.cells cs e)) :=
  h x.heap.size _ rfl (by simp) (Below.new _ _) (Blk.new _ _ _)
theorem K_allocD {K : Act → World → Prop} {a : Act} {x : World} {cs : Array Value} {e : TypeId} (h : ∀ (g : Nat) (wn : World), g = x.heap.size → wn.heap.size = g + 1 → Below x.heap.size x wn → Blk wn g cs → K a wn) : K a (x.alloc (.cells cs e)).drew :=
  h x.heap.size _ rfl (by simp) (Below.new _ _).drew (Blk.new _ _ _)
theorem Blk.c2 {w : World} {g : Nat} {a b : Value} (h : Blk w g #[a, b]) : w.cell? ⟨g, 0, none⟩ = some a ∧ w.cell? ⟨g, 1, none⟩ = some b ∧ w.frozen? ⟨g, 0, none⟩ = false ∧ w.frozen? ⟨g, 1, none⟩ = false :=
  ⟨by rw [h.cell]; rfl, by rw [h.cell]; rfl, h.unfrozen _, h.unfrozen _⟩
theorem set2_of {x : World} {g : Nat} {c0 c1 : Value} (h : Blk x g #[c0, c1]) (u0 u1 : Value) : ∃ wz, wz = (x.setCell ⟨g, 0, none⟩ u0).setCell ⟨g, 1, none⟩ u1 ∧ Blk wz g #[u0, u1] ∧ Upd (fun k => k = g) x wz :=
  ⟨_, rfl, by simpa using (h.set 0 u0).set 1 u1, (Upd.setCell x g 0 u0).trans (Upd.setCell _ g 1 u1) (fun _ _ q => q)⟩
end Go.Proofs.YtdoflhiogoefjaaDoor
end
section
/- Slices of things; contracts of the document's things: Find, In. -/
namespace Go.Proofs.YtdoflhiogoefjaaDoor
open Go.RowKit
open Go.Lib (hid)
set_option linter.unusedVariables false

def svT (X : List Th) : List Value := X.flatMap fun x => [Value.int .i64 x.id, .string ⟨x.nm.toArray⟩, .int .i64 x.ow, .int .i64 x.pl.1, .int .i64 x.pl.2.1, .int .i64 x.pl.2.2]
theorem svT_length (X : List Th) : (svT X).length = X.length * 6 := by
  unfold svT
  induction X with
  | nil => rfl
  | cons p X ih => rw [List.flatMap_cons, List.length_append, ih]; simp; omega
theorem svT_append (X Y : List Th) : svT (X ++ Y) = svT X ++ svT Y := by unfold svT; rw [List.flatMap_append]
theorem svT_oneCell (X : List Th) : ∀ u ∈ svT X, u.oneCell' = true := by
  intro u hu
  unfold svT at hu
  obtain ⟨p, -, hp⟩ := List.mem_flatMap.1 hu
  simp only [List.mem_cons, List.not_mem_nil, or_false] at hp
  rcases hp with rfl | rfl | rfl | rfl | rfl | rfl <;> rfl
theorem svT_at : ∀ (X : List Th) (i : Nat) (x : Th), X[i]? = some x → (svT X)[i * 6]? = some (.int .i64 x.id) ∧ (svT X)[i * 6 + 1]? = some (.string ⟨x.nm.toArray⟩) ∧ (svT X)[i * 6 + 2]? = some (.int .i64 x.ow) ∧ (svT X)[i * 6 + 3]? = some (.int .i64 x.pl.1) ∧ (svT X)[i * 6 + 4]? = some (.int .i64 x.pl.2.1) ∧ (svT X)[i * 6 + 5]? = some (.int .i64 x.pl.2.2)
  | [], i, x, h => by simp at h
  | q :: X, 0, x, h => by simp at h; subst h; exact ⟨rfl, rfl, rfl, rfl, rfl, rfl⟩
  | q :: X, i + 1, x, h => by
    simp at h
    have := svT_at X i x h
    have e : svT (q :: X) = .int .i64 q.id :: .string ⟨q.nm.toArray⟩ :: .int .i64 q.ow :: .int .i64 q.pl.1 :: .int .i64 q.pl.2.1 :: .int .i64 q.pl.2.2 :: svT X := rfl
    rw [e, show (i + 1) * 6 = i * 6 + 1 + 1 + 1 + 1 + 1 + 1 by omega]
    simpa using this
def SlTh (w : World) (v : Value) (X : List Th) : Prop := ∃ a cap, v = .slice a X.length cap ∧ Rd w a (svT X) ∧ X.length ≤ cap ∧ cap ≤ 9223372036854775807 ∧ (a = none → cap = 0)
theorem SlTh.nil (w : World) : SlTh w (.slice none 0 0) [] := ⟨none, 0, rfl, Rd.nil _ _, by simp, by omega, fun _ => rfl⟩
theorem SlTh.below {w w' : World} {v : Value} {X : List Th} (h : SlTh w v X) (hb : Below w.heap.size w w') : SlTh w' v X := by
  obtain ⟨a, c, e, h1, h2⟩ := h
  exact ⟨a, c, e, h1.below' hb, h2⟩
theorem SlTh.upd {S : Nat → Prop} {w w' : World} {v : Value} {X : List Th} (h : SlTh w v X) (hu : Upd S w w') (hn : ∀ k, v.ownBlock = some k → ¬ S k) : SlTh w' v X := by
  obtain ⟨a, c, rfl, h1, h2⟩ := h
  exact ⟨a, c, rfl, hu.rd h1 (fun b off e => hn b (by rw [e]; rfl)), h2⟩
theorem SlTh.of_own {w : World} {base : Nat} {e : TypeId} {v : Value} {X : List Th} (h : w.ownsRow base e 6 v X.length (svT X)) : SlTh w v X := by
  obtain ⟨a, c, rfl, h1, h2, h3, h4⟩ := ownsRow.rd h
  exact ⟨a, c, rfl, h3, h1, by unfold maxLen at h2; omega, h4⟩
theorem Rd.six {w : World} {a : Option Addr} {X : List Th} (h : Rd w a (svT X)) (i : Nat) (hi : i < X.length) :
    ∃ b off x, a = some ⟨b, off, none⟩ ∧ w.cell? ⟨b, off + i * 6, none⟩ = some (.int .i64 x.id) ∧ w.cell? ⟨b, off + i * 6 + 1, none⟩ = some (.string ⟨x.nm.toArray⟩) ∧ w.cell? ⟨b, off + i * 6 + 2, none⟩ = some (.int .i64 x.ow) ∧ w.cell? ⟨b, off + i * 6 + 3, none⟩ = some (.int .i64 x.pl.1) ∧ w.cell? ⟨b, off + i * 6 + 4, none⟩ = some (.int .i64 x.pl.2.1) ∧ w.cell? ⟨b, off + i * 6 + 5, none⟩ = some (.int .i64 x.pl.2.2) ∧
      X[i]? = some x ∧ X.drop i = x :: X.drop (i + 1) ∧ X.take (i + 1) = X.take i ++ [x] := by
  have hx : X[i]? = some X[i] := List.getElem?_eq_getElem hi
  obtain ⟨h0, h1, h2, h3, h4, h5⟩ := svT_at X i _ hx
  obtain ⟨b, off, ha, hc⟩ := h (i * 6) (by rw [svT_length]; omega)
  have key : ∀ j, j < 6 → w.cell? ⟨b, off + i * 6 + j, none⟩ = (svT X)[i * 6 + j]? := fun j hj => by
    obtain ⟨b', off', ha', hc'⟩ := h (i * 6 + j) (by rw [svT_length]; omega)
    rw [ha] at ha'
    simp at ha'
    obtain ⟨rfl, rfl⟩ := ha'
    rw [Nat.add_assoc]; exact hc'
  exact ⟨b, off, X[i], ha, by rw [hc, h0], by rw [key 1 (by omega), h1], by rw [key 2 (by omega), h2], by rw [key 3 (by omega), h3], by rw [key 4 (by omega), h4], by rw [key 5 (by omega), h5], hx, List.drop_eq_getElem_cons hi, by rw [List.take_succ_eq_append_getElem hi]⟩
theorem T_th21 : SlT Tryd.prog 32 45 (.agg #[.int .i64 0, .string ⟨#[]⟩, .int .i64 0, .int .i64 0, .int .i64 0, .int .i64 0]) 6 56 := SlT.mk' Tryd.underlying32 (by kernel_rfl) rfl (by decide) (by decide)
def aB (a : Option Addr) (k : Nat) : Prop := (Value.slice a 0 0).ownBlock = some k
theorem aB_own {a : Option Addr} {n c k : Nat} (h : (Value.slice a n c).ownBlock = some k) : aB a k := by
  cases a with
  | none => simp [Value.ownBlock] at h
  | some x => exact h
theorem own_aB {a : Option Addr} {n c k : Nat} (h : aB a k) : (Value.slice a n c).ownBlock = some k := by
  cases a with
  | none => simp [aB, Value.ownBlock] at h
  | some x => exact h
/-- the document's things, as a value -/
structure RefT (w : World) (a : Option Addr) (c : Nat) (L : List Th) : Prop where
  t : SlTh w (.slice a L.length c) L
  lt : L.length ≤ 1000
theorem RefT.below {w w' : World} {a : Option Addr} {c : Nat} {L : List Th} (h : RefT w a c L) (hb : Below w.heap.size w w') : RefT w' a c L := ⟨h.t.below hb, h.lt⟩
theorem RefT.upd {S : Nat → Prop} {w w' : World} {a : Option Addr} {c : Nat} {L : List Th} (h : RefT w a c L) (hu : Upd S w w') (hS : ∀ k, aB a k → ¬ S k) : RefT w' a c L := ⟨h.t.upd hu (fun k hk => hS k (aB_own hk)), h.lt⟩
def FindT (L : List Th) (n r : Int) : Prop := (∃ (i : Nat) (x : Th), r = (i : Int) ∧ L[i]? = some x ∧ x.id = n ∧ fdT L n = some x) ∨ (r = -1 ∧ fdT L n = none)
def FindTPost (w : World) (L : List Th) (n : Int) (e : Ending) (w' : World) : Prop := ∃ r : Int, e = .returned (.int .i64 r) ∧ FindT L n r ∧ Below w.heap.size w w'
set_option maxRecDepth 100000 in
set_option maxHeartbeats 1000000 in
theorem ref21_Find {a : Option Addr} {c : Nat} {L : List Th} (nx : Int) (w : World) (h : RefT w a c L) (n : Int) :
    Calls Tryd.prog 19 #[.agg #[.slice a L.length c, .int .i64 nx], .int .i64 n] w (FindTPost w L n) := by
  have H := hid h
  have hl := h.lt
  clear h
  go_enter Tryd.func19, Tryd.ntmps19
  go_upto_region 1 with fail
  generalize hw2 : World.alloc w _ = w2
  obtain ⟨bs, hbs⟩ : ∃ b, b = w.heap.size := ⟨_, rfl⟩
  rw [← hbs]
  have hb2 : Below w.heap.size w w2 := by rw [← hw2]; exact Below.new _ _
  have HK : Hid (Blk w2 bs #[.slice a L.length c, .int .i64 nx]) := hid (by rw [← hw2, hbs]; exact Blk.new w _ _)
  have H2 := hid (H.out.below hb2)
  have HB2 := hid hb2
  have c0 : w2.cell? ⟨bs, 0, none⟩ = some (.slice a L.length c) := by rw [HK.out.cell]; rfl
  clear hw2 hbs hb2
  go_wp2_with fail
  go_loop [5] (fun v5 => ∃ j : Nat, v5 = .int .i64 (j : Int) ∧ j ≤ L.length ∧ Hid (fdT L n = fdT (L.drop j) n)) (fun v5 => L.length - (intOf v5).toNat)
  case atStart => exact ⟨0, rfl, by omega, hid (by simp)⟩
  case round =>
    obtain ⟨j, rfl, hj, HJ⟩ := hrel
    by_cases hlt : j < L.length
    · have j1 : (j : Int) < (L.length : Int) := by omega
      have j0 : (0 : Int) ≤ (j : Int) := by omega
      obtain ⟨a', c', e', hrd, -⟩ := H2.out.t
      simp only [Value.slice.injEq, true_and] at e'
      obtain ⟨rfl, rfl⟩ := e'
      obtain ⟨b0, off, x, rfl, d0, -, -, -, -, -, hat, hd, -⟩ := hrd.six j hlt
      have HAT := hid hat
      have hj2 := HJ.out
      rw [hd] at hj2
      obtain ⟨xi, xn, xo, xp⟩ := x
      simp only at d0
      clear hrd hat hd
      by_cases hx : xi = n
      · subst hx
        have HJ2 : Hid (fdT L xi = some ⟨xi, xn, xo, xp⟩) := hid (by rw [hj2]; unfold fdT; rw [List.find?_cons]; simp)
        have hxx : (xi == xi) = true := by simp
        clear hj2 HJ
        go_wp2_with fail
        go_ret
        exact ⟨_, rfl, .inl ⟨j, _, rfl, HAT.out, rfl, HJ2.out⟩, HB2.out⟩
      · have hxk : (xi == n) = false := by simpa using hx
        have HJ2 : Hid (fdT L n = fdT (L.drop (j + 1)) n) := hid (by rw [hj2]; unfold fdT; rw [List.find?_cons]; simp only [hxk])
        clear hj2 HJ hx
        go_wp2_with fail
        go_round
        case rel => exact ⟨j + 1, by go_num, by omega, HJ2⟩
        case measure => simp [intOf]; omega
    · have j1 : ¬ (j : Int) < (L.length : Int) := by omega
      have hn : fdT L n = none := by rw [HJ.out, List.drop_of_length_le (by omega)]; rfl
      have HN := hid hn
      clear hn HJ
      go_wp2_with fail
      go_ret
      exact ⟨_, rfl, .inr ⟨rfl, HN.out⟩, HB2.out⟩
end Go.Proofs.YtdoflhiogoefjaaDoor
end
section
/- Contracts of the document's things: In, Destroy, Move, Make. -/
namespace Go.Proofs.YtdoflhiogoefjaaDoor
open Go.RowKit
open Go.Lib (hid)
set_option linter.unusedVariables false

theorem sortK_idx {α : Type} (key : α → Int) {l : List α} (hs : SortK key l) {i j : Nat} {x y : α} (hi : l[i]? = some x) (hj : l[j]? = some y) (e : key x = key y) : i = j := by
  have li := (List.getElem?_eq_some_iff.1 hi).1
  have lj := (List.getElem?_eq_some_iff.1 hj).1
  have ei := (List.getElem?_eq_some_iff.1 hi).2
  have ej := (List.getElem?_eq_some_iff.1 hj).2
  have hp := List.pairwise_iff_getElem.1 hs
  rcases Nat.lt_trichotomy i j with h | h | h
  · have := hp i j li lj h; rw [ei, ej] at this; omega
  · exact h
  · have := hp j i lj li h; rw [ei, ej] at this; omega
/-- what the document's calls leave -/
def R21Post (w : World) (a : Option Addr) (X' : ThX) (rest : List Value) (e : Ending) (w' : World) : Prop :=
  ∃ a' c', e = .returned (.tuple (Value.agg #[.slice a' X'.L.length c', .int .i64 X'.nx] :: rest).toArray) ∧ RefT w' a' c' X'.L ∧ Below w.heap.size w w' ∧ ∀ k, aB a' k → k < w'.heap.size ∧ (aB a k ∨ w.heap.size ≤ k)
set_option maxRecDepth 100000 in
set_option maxHeartbeats 4000000 in
theorem ref21_In {a : Option Addr} {c : Nat} {X : ThX} (w : World) (h : RefT w a c X.L) (pk ph ps : Int) :
    Calls Tryd.prog 17 #[.agg #[.slice a X.L.length c, .int .i64 X.nx], .agg #[.int .i64 pk, .int .i64 ph, .int .i64 ps]] w (fun e w' => ∃ v, e = .returned v ∧ w'.ownsRow w.heap.size 3 1 v (inT X.L (pk, ph, ps)).length (iv (inT X.L (pk, ph, ps))) ∧ Below w.heap.size w w') := by
  have H := hid h
  have hl := h.lt
  clear h
  obtain ⟨L, hL⟩ : ∃ L, L = X.L := ⟨_, rfl⟩
  rw [← hL] at H hl ⊢
  clear hL
  go_enter Tryd.func17, Tryd.ntmps17
  go_upto_region 1 with fail
  generalize hw2 : World.alloc (World.alloc w _) _ = w2
  obtain ⟨bs, hbs⟩ : ∃ b, b = w.heap.size := ⟨_, rfl⟩
  obtain ⟨bp, hbp⟩ : ∃ b, b = w.heap.size + 1 := ⟨_, rfl⟩
  have hz1 : (World.alloc w (.cells #[.slice a L.length c, .int .i64 X.nx] 34)).heap.size = w.heap.size + 1 := by simp
  try rw [hz1]
  try rw [← hbp]
  try rw [← hbs]
  have hb2 : Below w.heap.size w w2 := by rw [← hw2]; exact Below.next (Below.new _ _) (Below.new _ _)
  have HK : Hid (Blk w2 bs #[.slice a L.length c, .int .i64 X.nx]) := hid (by rw [← hw2, hbs]; exact (Blk.new w _ _).below (Below.new _ _))
  have HKP : Hid (Blk w2 bp #[.int .i64 pk, .int .i64 ph, .int .i64 ps]) := hid (by rw [← hw2, hbp, ← hz1]; exact Blk.new _ _ _)
  have H2 := hid (H.out.below hb2)
  have HB2 := hid hb2
  clear hw2 hbs hbp hz1 hb2
  go_wp2_with fail
  go_loopw [5, 6] (fun vo vi wr => ∃ (j : Nat) (vo' : Value), vo' = vo ∧ vi = .int .i64 (j : Int) ∧ j ≤ L.length ∧ Hid (wr.ownsRow w2.heap.size 3 1 vo (inT (L.take j) (pk, ph, ps)).length (iv (inT (L.take j) (pk, ph, ps)))) ∧ Hid (Below w2.heap.size w2 wr)) (fun _ vi _ => L.length - (intOf vi).toNat)
  case atStart => exact ⟨0, _, rfl, rfl, by omega, hid (by simpa [inT, iv] using World.ownsRow_nil _ _ _ _), hid (Below.refl _ _)⟩
  case round =>
    obtain ⟨j, vo, hvo, rfl, hj, hown, hb⟩ := hrel
    subst hvo
    have HKR := hid (HK.out.below hb.out)
    have HKPR := hid (HKP.out.below hb.out)
    have c0 : wr.cell? ⟨bs, 0, none⟩ = some (.slice a L.length c) := by rw [HKR.out.cell]; rfl
    have k0 : wr.cell? ⟨bp, 0, none⟩ = some (.int .i64 pk) := by rw [HKPR.out.cell]; rfl
    have k1 : wr.cell? ⟨bp, 1, none⟩ = some (.int .i64 ph) := by rw [HKPR.out.cell]; rfl
    have k2 : wr.cell? ⟨bp, 2, none⟩ = some (.int .i64 ps) := by rw [HKPR.out.cell]; rfl
    by_cases hlt : j < L.length
    · have j1 : (j : Int) < (L.length : Int) := by omega
      have j0 : (0 : Int) ≤ (j : Int) := by omega
      obtain ⟨a', c', e', hrd, -⟩ := H2.out.t.below hb.out
      simp only [Value.slice.injEq, true_and] at e'
      obtain ⟨rfl, rfl⟩ := e'
      obtain ⟨b0, off, x, rfl, d0, -, -, d3, d4, d5, -, -, htk⟩ := hrd.six j hlt
      have hsz := hb.out.size
      have hfl : (inT (L.take j) (pk, ph, ps)).length ≤ 1000 := Nat.le_trans (inT_len _ _) (by rw [List.length_take]; omega)
      obtain ⟨xi, xn, xo, xk, xh, xs⟩ := x
      simp only at d0 d3 d4 d5
      clear hrd
      by_cases hx : xk = pk ∧ xh = ph ∧ xs = ps
      · obtain ⟨rfl, rfl, rfl⟩ := hx
        have HW : Hid (inT (L.take (j + 1)) (xk, xh, xs) = inT (L.take j) (xk, xh, xs) ++ [xi]) := hid (by rw [htk]; unfold inT; rw [List.filter_append, List.map_append]; simp)
        have q1 : (xk == xk) = true := by simp
        have q2 : (xh == xh) = true := by simp
        have q3 : (xs == xs) = true := by simp
        clear htk
        go_upto_region 5 with fail
        go_quiet (fail)
        have hb3 := Below.drawn wr nq
        obtain ⟨w3, hw3⟩ : ∃ w3, w3 = wr.drewN nq := ⟨_, rfl⟩
        rw [← hw3] at hb3 ⊢
        have HB3 := hid (Below.next hb.out hb3)
        have HO3 := hid (owns_below hown.out hb3)
        have HKR3 := hid (HKR.out.below hb3)
        have HD3 : Hid (w3.cell? ⟨b0, off + j * 6, none⟩ = some (.int .i64 xi)) := hid (by rw [← d0]; exact World.cell?_of_block (hb3.block b0 (World.block_lt_of_cell? _ _ d0)))
        have hsz3 := HB3.out.size
        clear hb3 hw3 c0 k0 k1 k2 d0 d3 d4 d5
        have c0 : w3.cell? ⟨bs, 0, none⟩ = some (.slice (some ⟨b0, off, none⟩) L.length c) := by rw [HKR3.out.cell]; rfl
        have d0 := HD3.out
        go_wp2_with (at_builtin; refine wpList_append1w T_ints18 _ rfl _ _ #[.int .i64 xi] rfl w2.heap.size _ _ _ rfl HO3.out rfl rfl ?c1 ?c2 ?c3 ?_)
        case c1 => rfl
        case c2 => omega
        case c3 => omega
        intro v' w4 hown' hgrow hne hwh
        have HO : Hid (w4.ownsRow w2.heap.size 3 1 v' (inT (L.take (j + 1)) (xk, xh, xs)).length (iv (inT (L.take (j + 1)) (xk, xh, xs)))) := hid (by
          rw [HW.out]
          simpa [iv] using hown')
        have HB : Hid (Below w2.heap.size w2 w4) := hid (HB3.out.grown hgrow hsz3 (fun k hk => (HO3.out.lt k hk).1))
        clear hown' hgrow hwh hne c0 d0
        go_wp2
        go_roundw
        case rel => exact ⟨j + 1, _, rfl, by go_num, by omega, HO, HB⟩
        case measure => simp [intOf]; omega
      · have HW : Hid (inT (L.take (j + 1)) (pk, ph, ps) = inT (L.take j) (pk, ph, ps)) := hid (by
          rw [htk]; unfold inT; rw [List.filter_append, List.map_append]
          have : decide ((xk, xh, xs) = (pk, ph, ps)) = false := by simp; omega
          simp [List.filter_cons, this]
          exact fun q1 q2 q3 => hx ⟨q1, q2, q3⟩)
        clear htk
        go_upto_region 5 with fail
        by_cases q1 : xk = pk
        · by_cases q2 : xh = ph
          · have q3 : (xs == ps) = false := by simp; omega
            have q1b : (xk == pk) = true := by simpa using q1
            have q2b : (xh == ph) = true := by simpa using q2
            clear q1 q2 hx
            go_quiet (fail)
            have hb3 := Below.drawn wr nq
            obtain ⟨w3, hw3⟩ : ∃ w3, w3 = wr.drewN nq := ⟨_, rfl⟩
            rw [← hw3] at hb3 ⊢
            have HB3 := hid (Below.next hb.out hb3)
            have HO3 : Hid (w3.ownsRow w2.heap.size 3 1 vo (inT (L.take (j + 1)) (pk, ph, ps)).length (iv (inT (L.take (j + 1)) (pk, ph, ps)))) := hid (by rw [HW.out]; exact owns_below hown.out hb3)
            clear hb3 hw3 c0 k0 k1 k2 d0 d3 d4 d5
            go_wp2
            go_roundw
            case rel => exact ⟨j + 1, _, rfl, by go_num, by omega, HO3, HB3⟩
            case measure => simp [intOf]; omega
          · have q2b : (xh == ph) = false := by simpa using q2
            have q1b : (xk == pk) = true := by simpa using q1
            clear q1 q2 hx
            go_quiet (fail)
            have hb3 := Below.drawn wr nq
            obtain ⟨w3, hw3⟩ : ∃ w3, w3 = wr.drewN nq := ⟨_, rfl⟩
            rw [← hw3] at hb3 ⊢
            have HB3 := hid (Below.next hb.out hb3)
            have HO3 : Hid (w3.ownsRow w2.heap.size 3 1 vo (inT (L.take (j + 1)) (pk, ph, ps)).length (iv (inT (L.take (j + 1)) (pk, ph, ps)))) := hid (by rw [HW.out]; exact owns_below hown.out hb3)
            clear hb3 hw3 c0 k0 k1 k2 d0 d3 d4 d5
            go_wp2
            go_roundw
            case rel => exact ⟨j + 1, _, rfl, by go_num, by omega, HO3, HB3⟩
            case measure => simp [intOf]; omega
        · have q1b : (xk == pk) = false := by simpa using q1
          clear q1 hx
          go_quiet (fail)
          have hb3 := Below.drawn wr nq
          obtain ⟨w3, hw3⟩ : ∃ w3, w3 = wr.drewN nq := ⟨_, rfl⟩
          rw [← hw3] at hb3 ⊢
          have HB3 := hid (Below.next hb.out hb3)
          have HO3 : Hid (w3.ownsRow w2.heap.size 3 1 vo (inT (L.take (j + 1)) (pk, ph, ps)).length (iv (inT (L.take (j + 1)) (pk, ph, ps)))) := hid (by rw [HW.out]; exact owns_below hown.out hb3)
          clear hb3 hw3 c0 k0 k1 k2 d0 d3 d4 d5
          go_wp2
          go_roundw
          case rel => exact ⟨j + 1, _, rfl, by go_num, by omega, HO3, HB3⟩
          case measure => simp [intOf]; omega
    · have e1 : L.take j = L := List.take_of_length_le (by omega)
      rw [e1] at hown
      have j1 : ¬ (j : Int) < (L.length : Int) := by omega
      go_wp2
      go_ret
      exact ⟨_, rfl, ownsRow_base hown.out HB2.out.size, Below.next HB2.out hb.out⟩
end Go.Proofs.YtdoflhiogoefjaaDoor
end
