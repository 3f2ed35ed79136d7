/- Joined texts, in this order: Pairs, Ref02, Ref02M, Ints. Each one's first remark says what it proves; no condition beyond those that its theorems name. -/
import Derived.Test.YtjbnfppnmljbmaaGreatJLawLandFinds02
import Derived.Test.YtjbnfppnmljbmaaGreatJLawLandFinds14
import Derived.Test.YtjbnfppnmljbmaaGreatJLawLandFinds01
import Derived.Test.YtjbnfppnmljbmaaGreatProg
section
/- Slices of structs of two numbers. No program in sight. -/
namespace Go.Proofs.YtjbnfppnmljbmaaGreat
open Go.RowKit
open Go.Lib (hid)
set_option linter.unusedVariables false

/-- the cells of a list of pairs -/
def pv (X : List (Int × Int)) : List Value := X.flatMap fun p => [Value.int .i64 p.1, .int .i64 p.2]
theorem pv_length (X : List (Int × Int)) : (pv X).length = X.length * 2 := by
  unfold pv
  induction X with
  | nil => rfl
  | cons p X ih => rw [List.flatMap_cons, List.length_append, ih]; simp; omega
theorem pv_append (X Y : List (Int × Int)) : pv (X ++ Y) = pv X ++ pv Y := by unfold pv; rw [List.flatMap_append]
theorem pv_one (p : Int × Int) : pv [p] = [.int .i64 p.1, .int .i64 p.2] := rfl
theorem pv_oneCell (X : List (Int × Int)) : ∀ u ∈ pv X, u.oneCell' = true := by
  intro u hu
  unfold pv at hu
  obtain ⟨p, -, hp⟩ := List.mem_flatMap.1 hu
  simp at hp
  rcases hp with rfl | rfl <;> rfl
theorem pv_at : ∀ (X : List (Int × Int)) (i : Nat) (p : Int × Int), X[i]? = some p → (pv X)[i * 2]? = some (.int .i64 p.1) ∧ (pv X)[i * 2 + 1]? = some (.int .i64 p.2)
  | [], i, p, h => by simp at h
  | q :: X, 0, p, h => by simp at h; subst h; exact ⟨rfl, rfl⟩
  | q :: X, i + 1, p, h => by
    simp at h
    have := pv_at X i p h
    have e : pv (q :: X) = .int .i64 q.1 :: .int .i64 q.2 :: pv X := rfl
    rw [e, show (i + 1) * 2 = i * 2 + 1 + 1 by omega]
    simpa using this
theorem pv_set2 : ∀ (X : List (Int × Int)) (j : Nat) (h x y : Int), X[j]? = some (h, x) → pv (X.set j (h, y)) = (pv X).set (j * 2 + 1) (.int .i64 y)
  | [], j, h, x, y, e => by simp at e
  | q :: X, 0, h, x, y, e => by simp at e; subst e; rfl
  | q :: X, j + 1, h, x, y, e => by
    simp at e
    have ih := pv_set2 X j h x y e
    have e1 : ∀ X : List (Int × Int), pv (q :: X) = .int .i64 q.1 :: .int .i64 q.2 :: pv X := fun _ => rfl
    rw [List.set_cons_succ, e1, e1, ih, show (j + 1) * 2 + 1 = (j * 2 + 1) + 1 + 1 by omega, List.set_cons_succ, List.set_cons_succ]
theorem Rd.pair {w : World} {a : Option Addr} {X : List (Int × Int)} (h : Rd w a (pv X)) (i : Nat) (hi : i < X.length) :
    ∃ b off x y, a = some ⟨b, off, none⟩ ∧ w.cell? ⟨b, off + i * 2, none⟩ = some (.int .i64 x) ∧ w.cell? ⟨b, off + i * 2 + 1, none⟩ = some (.int .i64 y) ∧ X[i]? = some (x, y) ∧ X.drop i = (x, y) :: X.drop (i + 1) ∧ X.take (i + 1) = X.take i ++ [(x, y)] := by
  have hx : X[i]? = some X[i] := List.getElem?_eq_getElem hi
  obtain ⟨h1, h2⟩ := pv_at X i _ hx
  obtain ⟨b, off, ha, hc⟩ := h (i * 2) (by rw [pv_length]; omega)
  obtain ⟨b', off', ha', hc'⟩ := h (i * 2 + 1) (by rw [pv_length]; omega)
  rw [ha] at ha'
  simp at ha'
  obtain ⟨rfl, rfl⟩ := ha'
  exact ⟨b, off, X[i].1, X[i].2, ha, by rw [hc, h1], by rw [Nat.add_assoc, hc', h2], hx, List.drop_eq_getElem_cons hi, by rw [List.take_succ_eq_append_getElem hi]⟩
/-- the slice reads as the list of pairs -/
def SlP (w : World) (v : Value) (X : List (Int × Int)) : Prop := ∃ a cap, v = .slice a X.length cap ∧ Rd w a (pv X) ∧ X.length ≤ cap ∧ cap ≤ 9223372036854775807 ∧ (a = none → cap = 0)
theorem SlP.nil (w : World) : SlP w (.slice none 0 0) [] := ⟨none, 0, rfl, Rd.nil _ _, by simp, by omega, fun _ => rfl⟩
theorem SlP.below {w w' : World} {v : Value} {X : List (Int × Int)} (h : SlP w v X) (hb : Below w.heap.size w w') : SlP w' v X := by
  obtain ⟨a, c, rfl, h2, h3⟩ := h
  exact ⟨a, c, rfl, h2.below' hb, h3⟩
theorem SlP.upd {S : Nat → Prop} {w w' : World} {v : Value} {X : List (Int × Int)} (h : SlP w v X) (hu : Upd S w w') (hn : ∀ k, v.ownBlock = some k → ¬ S k) : SlP w' v X := by
  obtain ⟨a, c, rfl, h2, h3⟩ := h
  exact ⟨a, c, rfl, hu.rd h2 (fun b off e => hn _ (by rw [e]; rfl)), h3⟩
theorem SlP.of_own {w : World} {base : Nat} {e : TypeId} {v : Value} {X : List (Int × Int)} (h : w.ownsRow base e 2 v X.length (pv X)) : SlP w v X := by
  obtain ⟨a, cap, rfl, h1, h2, hr, h3⟩ := ownsRow.rd h
  exact ⟨a, cap, rfl, hr, h1, by unfold maxLen at h2; omega, h3⟩
end Go.Proofs.YtjbnfppnmljbmaaGreat
end
section
/- Contracts of the document's rectangles. -/
namespace Go.Proofs.YtjbnfppnmljbmaaGreat
open Go.RowKit
open Go.Lib (hid)
set_option linter.unusedVariables false
attribute [local go_sem] Oper.semAt_some

set_option maxRecDepth 100000 in
set_option maxHeartbeats 4000000 in
theorem ref02_Right4 (x y a b : Int) (q : Bool) (hq : Hid (rightR (x, y, a, b) = q)) (w : World) : Calls Tryz.prog 34 #[.agg #[.int .i64 x, .int .i64 y, .int .i64 a, .int .i64 b]] w fun e w' => e = .returned (.bool q) ∧ Below w.heap.size w w' := by
  go_enter Tryz.func34, Tryz.ntmps34
  go_upto_region 1 with fail
  obtain ⟨w1, hw⟩ : ∃ w1, w1 = w.alloc (.cells #[.int .i64 x, .int .i64 y, .int .i64 a, .int .i64 b] 38) := ⟨_, rfl⟩
  rw [← hw]
  obtain ⟨g, hg⟩ : ∃ g, g = w.heap.size := ⟨_, rfl⟩
  rw [← hg]
  have hb : Below w.heap.size w w1 := by rw [hw]; exact Below.new _ _
  have HX : Hid (Blk w1 g #[.int .i64 x, .int .i64 y, .int .i64 a, .int .i64 b]) := hid (by rw [hw, hg]; exact Blk.new _ _ _)
  have HB := hid hb
  clear hw hg hb
  obtain ⟨c0, c1, c2, c3⟩ := HX.out.c4r
  by_cases h1 : x < 0
  · skip
    have hqq : q = false := by
      rw [← hq.out, Bool.eq_false_iff]
      intro hz
      obtain ⟨z1, z2, z3, z4, z5, z6, z7, z8⟩ := (rightR_iff _).1 hz
      simp only at z1 z2 z3 z4 z5 z6 z7 z8
      omega
    clear hq
    subst hqq
    go_wp2_with fail
    go_ret
    exact ⟨by first | rfl | simp [*] | (simp; omega), HB.out⟩
  · skip
    by_cases h2 : 255 < x
    · skip
      have hqq : q = false := by
        rw [← hq.out, Bool.eq_false_iff]
        intro hz
        obtain ⟨z1, z2, z3, z4, z5, z6, z7, z8⟩ := (rightR_iff _).1 hz
        simp only at z1 z2 z3 z4 z5 z6 z7 z8
        omega
      clear hq
      subst hqq
      go_wp2_with fail
      go_ret
      exact ⟨by first | rfl | simp [*] | (simp; omega), HB.out⟩
    · skip
      by_cases h3 : y < 0
      · skip
        have hqq : q = false := by
          rw [← hq.out, Bool.eq_false_iff]
          intro hz
          obtain ⟨z1, z2, z3, z4, z5, z6, z7, z8⟩ := (rightR_iff _).1 hz
          simp only at z1 z2 z3 z4 z5 z6 z7 z8
          omega
        clear hq
        subst hqq
        go_wp2_with fail
        go_ret
        exact ⟨by first | rfl | simp [*] | (simp; omega), HB.out⟩
      · skip
        by_cases h4 : 255 < y
        · skip
          have hqq : q = false := by
            rw [← hq.out, Bool.eq_false_iff]
            intro hz
            obtain ⟨z1, z2, z3, z4, z5, z6, z7, z8⟩ := (rightR_iff _).1 hz
            simp only at z1 z2 z3 z4 z5 z6 z7 z8
            omega
          clear hq
          subst hqq
          go_wp2_with fail
          go_ret
          exact ⟨by first | rfl | simp [*] | (simp; omega), HB.out⟩
        · skip
          have u1 : IntKind.i64.wrap (256 - x) = 256 - x := by rw [IntKind.wrap_i64]; omega
          have u2 : IntKind.i64.wrap (256 - y) = 256 - y := by rw [IntKind.wrap_i64]; omega
          by_cases h5 : 1 ≤ a
          · skip
            by_cases h6 : a ≤ 256 - x
            · skip
              by_cases h7 : 1 ≤ b
              · skip
                by_cases h8 : b ≤ 256 - y
                · skip
                  have hqq : q = true := by rw [← hq.out, rightR_iff]; exact ⟨by show 0 ≤ x; omega, by show x < 256; omega, by show 1 ≤ a; omega, by show a ≤ 256 - x; omega, by show 0 ≤ y; omega, by show y < 256; omega, by show 1 ≤ b; omega, by show b ≤ 256 - y; omega⟩
                  clear hq
                  subst hqq
                  go_wp2_with fail
                  go_ret
                  exact ⟨by simp [*], HB.out⟩
                · skip
                  have hqq : q = false := by
                    rw [← hq.out, Bool.eq_false_iff]
                    intro hz
                    obtain ⟨z1, z2, z3, z4, z5, z6, z7, z8⟩ := (rightR_iff _).1 hz
                    simp only at z1 z2 z3 z4 z5 z6 z7 z8
                    omega
                  clear hq
                  subst hqq
                  go_wp2_with fail
                  go_ret
                  exact ⟨by first | rfl | simp [*] | (simp; omega), HB.out⟩
              · skip
                have hqq : q = false := by
                  rw [← hq.out, Bool.eq_false_iff]
                  intro hz
                  obtain ⟨z1, z2, z3, z4, z5, z6, z7, z8⟩ := (rightR_iff _).1 hz
                  simp only at z1 z2 z3 z4 z5 z6 z7 z8
                  omega
                clear hq
                subst hqq
                go_wp2_with fail
                go_ret
                exact ⟨by first | rfl | simp [*] | (simp; omega), HB.out⟩
            · skip
              have hqq : q = false := by
                rw [← hq.out, Bool.eq_false_iff]
                intro hz
                obtain ⟨z1, z2, z3, z4, z5, z6, z7, z8⟩ := (rightR_iff _).1 hz
                simp only at z1 z2 z3 z4 z5 z6 z7 z8
                omega
              clear hq
              subst hqq
              go_wp2_with fail
              go_ret
              exact ⟨by first | rfl | simp [*] | (simp; omega), HB.out⟩
          · skip
            have hqq : q = false := by
              rw [← hq.out, Bool.eq_false_iff]
              intro hz
              obtain ⟨z1, z2, z3, z4, z5, z6, z7, z8⟩ := (rightR_iff _).1 hz
              simp only at z1 z2 z3 z4 z5 z6 z7 z8
              omega
            clear hq
            subst hqq
            go_wp2_with fail
            go_ret
            exact ⟨by first | rfl | simp [*] | (simp; omega), HB.out⟩
set_option maxRecDepth 100000 in
set_option maxHeartbeats 4000000 in
theorem ref02_Holds4 (x y a b px py : Int) (hpx : px ≤ 9223372036854775807) (hpy : py ≤ 9223372036854775807) (w : World) : Calls Tryz.prog 16 #[.agg #[.int .i64 x, .int .i64 y, .int .i64 a, .int .i64 b], .int .i64 px, .int .i64 py] w fun e w' => e = .returned (.bool (tHolds px py (x, y, a, b))) ∧ Below w.heap.size w w' := by
  obtain ⟨q, hq⟩ : ∃ q, tHolds px py (x, y, a, b) = q := ⟨_, rfl⟩
  rw [hq]
  have HQ := hid hq
  obtain ⟨r, hr⟩ : ∃ r, rightR (x, y, a, b) = r := ⟨_, rfl⟩
  have HR := hid hr
  clear hq hr
  go_enter Tryz.func16, Tryz.ntmps16
  go_upto_region 1 with fail
  obtain ⟨w1, hw⟩ : ∃ w1, w1 = w.alloc (.cells #[.int .i64 x, .int .i64 y, .int .i64 a, .int .i64 b] 38) := ⟨_, rfl⟩
  rw [← hw]
  obtain ⟨g, hg⟩ : ∃ g, g = w.heap.size := ⟨_, rfl⟩
  rw [← hg]
  have hb : Below w.heap.size w w1 := by rw [hw]; exact Below.new _ _
  have HX : Hid (Blk w1 g #[.int .i64 x, .int .i64 y, .int .i64 a, .int .i64 b]) := hid (by rw [hw, hg]; exact Blk.new _ _ _)
  have HB := hid hb
  clear hw hg hb
  obtain ⟨c0, c1, c2, c3⟩ := HX.out.c4r
  go_wp2_with fail
  refine (ref02_Right4 x y a b r HR w1).mono ?_
  rintro e w2 ⟨rfl, hb⟩
  have HB2 := hid (Below.next HB.out hb)
  have HX2 := hid (HX.out.below hb)
  clear hb c0 c1 c2 c3
  obtain ⟨c0, c1, c2, c3⟩ := HX2.out.c4r
  cases r with
  | false =>
    have hqq : q = false := by
      rw [← HQ.out]; unfold tHolds
      rw [decide_eq_false_iff_not]
      intro hz
      have := (rightR_iff _).2 hz.1
      rw [HR.out] at this; cases this
    subst hqq
    go_wp2_with fail
    go_ret
    exact ⟨rfl, HB2.out⟩
  | true =>
    obtain ⟨z1, z2, z3, z4, z5, z6, z7, z8⟩ := (rightR_iff _).1 HR.out
    simp only at z1 z2 z3 z4 z5 z6 z7 z8
    by_cases h1 : x ≤ px
    · skip
      have u1 : IntKind.i64.wrap (px - x) = px - x := by rw [IntKind.wrap_i64]; omega
      by_cases h2 : px - x < a
      · skip
        by_cases h3 : px < 256
        · skip
          by_cases h4 : y ≤ py
          · skip
            have u2 : IntKind.i64.wrap (py - y) = py - y := by rw [IntKind.wrap_i64]; omega
            by_cases h5 : py - y < b
            · skip
              by_cases h6 : py < 256
              · skip
                have hqq : q = true := by
                  rw [← HQ.out]; unfold tHolds
                  rw [decide_eq_true_eq]
                  exact ⟨(rightR_iff _).1 HR.out, by show x ≤ px; omega, by show px < x + a; omega, by show y ≤ py; omega, by show py < y + b; omega⟩
                subst hqq
                go_wp2_with fail
                go_ret
                exact ⟨by simp [*], HB2.out⟩
              · skip
                exfalso
                omega
            · skip
              have hqq : q = false := by
                rw [← HQ.out]; unfold tHolds
                rw [decide_eq_false_iff_not]
                rintro ⟨-, y1, y2, y3, y4⟩
                simp only at y1 y2 y3 y4
                omega
              subst hqq
              go_wp2_with fail
              go_ret
              exact ⟨by first | rfl | simp [*] | (simp; omega), HB2.out⟩
          · skip
            have hqq : q = false := by
              rw [← HQ.out]; unfold tHolds
              rw [decide_eq_false_iff_not]
              rintro ⟨-, y1, y2, y3, y4⟩
              simp only at y1 y2 y3 y4
              omega
            subst hqq
            go_wp2_with fail
            go_ret
            exact ⟨by first | rfl | simp [*] | (simp; omega), HB2.out⟩
        · skip
          exfalso
          omega
      · skip
        have hqq : q = false := by
          rw [← HQ.out]; unfold tHolds
          rw [decide_eq_false_iff_not]
          rintro ⟨-, y1, y2, y3, y4⟩
          simp only at y1 y2 y3 y4
          omega
        subst hqq
        go_wp2_with fail
        go_ret
        exact ⟨by first | rfl | simp [*] | (simp; omega), HB2.out⟩
    · skip
      have hqq : q = false := by
        rw [← HQ.out]; unfold tHolds
        rw [decide_eq_false_iff_not]
        rintro ⟨-, y1, y2, y3, y4⟩
        simp only at y1 y2 y3 y4
        omega
      subst hqq
      go_wp2_with fail
      go_ret
      exact ⟨by first | rfl | simp [*] | (simp; omega), HB2.out⟩
end Go.Proofs.YtjbnfppnmljbmaaGreat
end
section
/- Contract of the document's Meets. -/
namespace Go.Proofs.YtjbnfppnmljbmaaGreat
open Go.RowKit
open Go.Lib (hid)
set_option linter.unusedVariables false
attribute [local go_sem] Oper.semAt_some

set_option maxRecDepth 100000 in
set_option maxHeartbeats 4000000 in
theorem ref02_Meets4 (x y a b ox oy oa ob : Int) (w : World) : Calls Tryz.prog 25 #[.agg #[.int .i64 x, .int .i64 y, .int .i64 a, .int .i64 b], .agg #[.int .i64 ox, .int .i64 oy, .int .i64 oa, .int .i64 ob]] w fun e w' => e = .returned (.bool (tMeets (ox, oy, oa, ob) (x, y, a, b))) ∧ Below w.heap.size w w' := by
  obtain ⟨q, hq⟩ : ∃ q, tMeets (ox, oy, oa, ob) (x, y, a, b) = q := ⟨_, rfl⟩
  rw [hq]
  have HQ := hid hq
  obtain ⟨r, hr⟩ : ∃ r, rightR (x, y, a, b) = r := ⟨_, rfl⟩
  obtain ⟨r2, hr2⟩ : ∃ r, rightR (ox, oy, oa, ob) = r := ⟨_, rfl⟩
  have HR := hid hr
  have HR2 := hid hr2
  clear hq hr hr2
  go_enter Tryz.func25, Tryz.ntmps25
  go_upto_region 1 with fail
  obtain ⟨w2, hw2⟩ : ∃ w2, w2 = (w.alloc (.cells #[.int .i64 x, .int .i64 y, .int .i64 a, .int .i64 b] 38)).alloc (.cells #[.int .i64 ox, .int .i64 oy, .int .i64 oa, .int .i64 ob] 38) := ⟨_, rfl⟩
  obtain ⟨g, hg⟩ : ∃ g, g = w.heap.size := ⟨_, rfl⟩
  obtain ⟨g2, hg2⟩ : ∃ g, g = w.heap.size + 1 := ⟨_, rfl⟩
  have hz1 : (World.alloc w (.cells #[.int .i64 x, .int .i64 y, .int .i64 a, .int .i64 b] 38)).heap.size = w.heap.size + 1 := by simp
  try rw [hz1]
  try rw [← hg2]
  try rw [← hg]
  rw [← hw2]
  have hb : Below w.heap.size w w2 := by rw [hw2]; exact Below.next (Below.new _ _) (Below.new _ _)
  have HX : Hid (Blk w2 g #[.int .i64 x, .int .i64 y, .int .i64 a, .int .i64 b]) := hid (by rw [hw2, hg]; exact (Blk.new w _ _).below (Below.new _ _))
  have HO : Hid (Blk w2 g2 #[.int .i64 ox, .int .i64 oy, .int .i64 oa, .int .i64 ob]) := hid (by rw [hw2, hg2, ← hz1]; exact Blk.new _ _ _)
  have HB := hid hb
  clear hw2 hg hg2 hz1 hb
  obtain ⟨c0, c1, c2, c3⟩ := HX.out.c4r
  go_wp2_with fail
  refine (ref02_Right4 x y a b r HR w2).mono ?_
  rintro e w3 ⟨rfl, hb⟩
  have HB3 := hid (Below.next HB.out hb)
  have HX3 := hid (HX.out.below hb)
  have HO3 := hid (HO.out.below hb)
  clear hb c0 c1 c2 c3
  cases r with
  | false =>
    have hqq : q = false := by
      rw [← HQ.out]; unfold tMeets
      rw [decide_eq_false_iff_not]
      intro hz
      have := (rightR_iff _).2 hz.2.1
      rw [HR.out] at this; cases this
    subst hqq
    go_wp2_with fail
    go_ret
    exact ⟨rfl, HB3.out⟩
  | true =>
    obtain ⟨c0, c1, c2, c3⟩ := HO3.out.c4r
    go_wp2_with fail
    refine (ref02_Right4 ox oy oa ob r2 HR2 w3).mono ?_
    rintro e w4 ⟨rfl, hb⟩
    have HB4 := hid (Below.next HB3.out hb)
    have HX4 := hid (HX3.out.below hb)
    have HO4 := hid (HO3.out.below hb)
    clear hb c0 c1 c2 c3
    cases r2 with
    | false =>
      have hqq : q = false := by
        rw [← HQ.out]; unfold tMeets
        rw [decide_eq_false_iff_not]
        intro hz
        have := (rightR_iff _).2 hz.1
        rw [HR2.out] at this; cases this
      subst hqq
      go_wp2_with fail
      go_ret
      exact ⟨rfl, HB4.out⟩
    | true =>
      obtain ⟨c0, c1, c2, c3⟩ := HX4.out.c4r
      obtain ⟨o0, o1, o2, o3⟩ := HO4.out.c4r
      obtain ⟨z1, z2, z3, z4, z5, z6, z7, z8⟩ := (rightR_iff _).1 HR.out
      obtain ⟨y1, y2, y3, y4, y5, y6, y7, y8⟩ := (rightR_iff _).1 HR2.out
      simp only at z1 z2 z3 z4 z5 z6 z7 z8 y1 y2 y3 y4 y5 y6 y7 y8
      have v2 : IntKind.i64.wrap (x + a) = x + a := by rw [IntKind.wrap_i64]; omega
      have v3 : IntKind.i64.wrap (ox + oa) = ox + oa := by rw [IntKind.wrap_i64]; omega
      have v4 : IntKind.i64.wrap (y + b) = y + b := by rw [IntKind.wrap_i64]; omega
      have v5 : IntKind.i64.wrap (oy + ob) = oy + ob := by rw [IntKind.wrap_i64]; omega
      go_wp2_with fail
      go_loopw [5, 6] (fun vs vi wr => ∃ (i : Int) (q6 : Bool), vs = .bool q6 ∧ vi = .int .i64 i ∧ x ≤ i ∧ i ≤ x + a ∧ (q6 = true ↔ (x < i ∧ x < ox + oa ∧ ox < i)) ∧ wr = w4) (fun _ vi _ => (x + a - intOf vi).toNat)
      case atStart => exact ⟨x, false, rfl, rfl, by omega, by omega, by simp, rfl⟩
      case round =>
        obtain ⟨i, q6, rfl, rfl, hi1, hi2, hq, rfl⟩ := hrel
        by_cases hlt : i < x + a
        · have v1 : IntKind.i64.wrap (i + 1) = i + 1 := by rw [IntKind.wrap_i64]; omega
          by_cases t1 : ox ≤ i
          · by_cases t2 : i < ox + oa
            · go_wp2_with fail
              go_roundw
              case rel => exact ⟨i + 1, true, rfl, by simp [v1], by omega, by omega, by simp; omega, by trivial⟩
              case measure => simp [intOf, v1]; omega
            · go_wp2_with fail
              go_roundw
              case rel => exact ⟨i + 1, q6, rfl, by simp [v1], by omega, by omega, by rw [hq]; omega, by trivial⟩
              case measure => simp [intOf, v1]; omega
          · go_wp2_with fail
            go_roundw
            case rel => exact ⟨i + 1, q6, rfl, by simp [v1], by omega, by omega, by rw [hq]; omega, by trivial⟩
            case measure => simp [intOf, v1]; omega
        · obtain rfl : i = x + a := by omega
          have hx : q6 = decide (x < ox + oa ∧ ox < x + a) := by rw [Bool.eq_iff_iff, hq, decide_eq_true_eq]; omega
          clear hq
          obtain ⟨qx, hqx⟩ : ∃ z, z = q6 := ⟨_, rfl⟩
          subst hqx
          have HXX := hid hx
          clear hx
          obtain ⟨w5, hw5⟩ : ∃ z, z = wr := ⟨_, rfl⟩
          subst hw5
          go_wp2_with fail
          go_loopw [7, 8] (fun vs vi wr => ∃ (i : Int) (q7 : Bool), vs = .bool q7 ∧ vi = .int .i64 i ∧ y ≤ i ∧ i ≤ y + b ∧ (q7 = true ↔ (y < i ∧ y < oy + ob ∧ oy < i)) ∧ wr = w5) (fun _ vi _ => (y + b - intOf vi).toNat)
          case atStart => exact ⟨y, false, rfl, rfl, by omega, by omega, by simp, rfl⟩
          case round =>
            obtain ⟨i, q7, rfl, rfl, hi1, hi2, hq, rfl⟩ := hrel
            by_cases hlt : i < y + b
            · have v1 : IntKind.i64.wrap (i + 1) = i + 1 := by rw [IntKind.wrap_i64]; omega
              by_cases t1 : oy ≤ i
              · by_cases t2 : i < oy + ob
                · go_wp2_with fail
                  go_roundw
                  case rel => exact ⟨i + 1, true, rfl, by simp [v1], by omega, by omega, by simp; omega, by trivial⟩
                  case measure => simp [intOf, v1]; omega
                · go_wp2_with fail
                  go_roundw
                  case rel => exact ⟨i + 1, q7, rfl, by simp [v1], by omega, by omega, by rw [hq]; omega, by trivial⟩
                  case measure => simp [intOf, v1]; omega
              · go_wp2_with fail
                go_roundw
                case rel => exact ⟨i + 1, q7, rfl, by simp [v1], by omega, by omega, by rw [hq]; omega, by trivial⟩
                case measure => simp [intOf, v1]; omega
            · obtain rfl : i = y + b := by omega
              have hy : q7 = decide (y < oy + ob ∧ oy < y + b) := by rw [Bool.eq_iff_iff, hq, decide_eq_true_eq]; omega
              clear hq
              have hqq : q = (qx && q7) := by
                rw [← HQ.out, HXX.out, hy]; unfold tMeets
                rw [Bool.eq_iff_iff, Bool.and_eq_true, decide_eq_true_eq, decide_eq_true_eq, decide_eq_true_eq]
                constructor
                · rintro ⟨-, -, k1, k2, k3, k4⟩
                  exact ⟨⟨k2, k1⟩, ⟨k4, k3⟩⟩
                · rintro ⟨⟨k1, k2⟩, ⟨k3, k4⟩⟩
                  exact ⟨(rightR_iff _).1 HR2.out, (rightR_iff _).1 HR.out, k2, k1, k4, k3⟩
              subst hqq
              clear HXX hy
              cases qx
              · go_wp2_with fail
                go_ret
                exact ⟨rfl, HB4.out⟩
              · cases q7
                · go_wp2_with fail
                  go_ret
                  exact ⟨rfl, HB4.out⟩
                · go_wp2_with fail
                  go_ret
                  exact ⟨rfl, HB4.out⟩
end Go.Proofs.YtjbnfppnmljbmaaGreat
end
section
/- Contracts: slices of numbers: Index, Contains. -/
namespace Go.Proofs.YtjbnfppnmljbmaaGreat
open Go.RowKit
open Go.Lib (hid)
set_option linter.unusedVariables false

/-- the slice reads as the list of numbers -/
def SlI (w : World) (v : Value) (l : List Int) : Prop := ∃ a c, v = .slice a l.length c ∧ Rd w a (l.map (.int .i64)) ∧ l.length ≤ c ∧ c ≤ 9223372036854775807 ∧ (a = none → c = 0)
theorem SlI.nil (w : World) : SlI w (.slice none 0 0) [] := ⟨none, 0, rfl, Rd.nil _ _, by simp, by omega, fun _ => rfl⟩
theorem SlI.below {w w' : World} {v : Value} {l : List Int} (h : SlI w v l) (hb : Below w.heap.size w w') : SlI w' v l := by
  obtain ⟨a, c, rfl, h2, h3⟩ := h
  exact ⟨a, c, rfl, h2.below' hb, h3⟩
theorem SlI.upd {S : Nat → Prop} {w w' : World} {v : Value} {l : List Int} (h : SlI w v l) (hu : Upd S w w') (hn : ∀ k, v.ownBlock = some k → ¬ S k) : SlI w' v l := by
  obtain ⟨a, c, rfl, h2, h3⟩ := h
  exact ⟨a, c, rfl, hu.rd h2 (fun b off e => hn _ (by rw [e]; rfl)), h3⟩
theorem SlI.of_own {w : World} {base : Nat} {e : TypeId} {v : Value} {l : List Int} (h : w.ownsRow base e 1 v l.length (l.map (.int .i64))) : SlI w v l := by
  obtain ⟨a, cap, rfl, h1, h2, hr, h3⟩ := ownsRow.rd h
  exact ⟨a, cap, rfl, hr, h1, by unfold maxLen at h2; omega, h3⟩
/-- an incoming slice of numbers -/
theorem sli_of_row {w : World} {a : Option Addr} {len cap : Nat} {zs : List Int}
    (h : (a = none ∧ len = 0 ∧ cap = 0 ∧ zs = []) ∨
      ∃ x, a = some x ∧ len ≤ cap ∧ cap ≤ maxLen ∧ zs.length = cap ∧ (∀ i, i < zs.length → w.cell? (x.add i) = some (.int .i64 (zs.getD i 0))) ∧ ∀ n ∈ zs, (Lit.int .i64 n).wf = true) :
    ∃ l : List Int, len = l.length ∧ SlI w (.slice a len cap) l ∧ ∀ n ∈ l, (Lit.int .i64 n).wf = true := by
  obtain ⟨ys, rfl, h1, h2, h3, h4, h5, h6⟩ := Rd.of_row h
  exact ⟨ys, rfl, ⟨a, cap, rfl, h2, h4, h5, h6⟩, h3⟩

end Go.Proofs.YtjbnfppnmljbmaaGreat
end
