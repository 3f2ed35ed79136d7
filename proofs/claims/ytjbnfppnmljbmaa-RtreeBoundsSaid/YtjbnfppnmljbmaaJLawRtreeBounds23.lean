/- Joined texts, in this order: G14. Each one's first remark says what it proves; no condition beyond those that its theorems name. -/
import Derived.Test.YtjbnfppnmljbmaaJLawRtreeBounds22
import Derived.Test.YtjbnfppnmljbmaaJLawRtreeBounds20
section
/- The document's lists of things of a tree: slices of five cells; Find, Without. -/
namespace Go.Proofs.Ytjbnfppnmljbmaa
open Go.RowKit
open Go.Lib (hid)
set_option linter.unusedVariables false
attribute [local go_sem] Oper.semAt_some

def svG (X : List Tg) : List Value := X.flatMap fun t => [Value.int .i64 t.1.1, .int .i64 t.1.2.1, .int .i64 t.1.2.2.1, .int .i64 t.1.2.2.2, .int .i64 t.2]
theorem svG_length (X : List Tg) : (svG X).length = X.length * 5 := by
  unfold svG
  induction X with
  | nil => rfl
  | cons p X ih => rw [List.flatMap_cons, List.length_append, ih]; simp; omega
theorem svG_append (X Y : List Tg) : svG (X ++ Y) = svG X ++ svG Y := by unfold svG; rw [List.flatMap_append]
theorem svG_oneCell (X : List Tg) : ∀ u ∈ svG X, u.oneCell' = true := by
  intro u hu
  unfold svG at hu
  obtain ⟨p, -, hp⟩ := List.mem_flatMap.1 hu
  simp only [List.mem_cons, List.not_mem_nil, or_false] at hp
  rcases hp with rfl | rfl | rfl | rfl | rfl <;> rfl
theorem svG_at : ∀ (X : List Tg) (i : Nat) (t : Tg), X[i]? = some t → (svG X)[i * 5]? = some (.int .i64 t.1.1) ∧ (svG X)[i * 5 + 1]? = some (.int .i64 t.1.2.1) ∧ (svG X)[i * 5 + 2]? = some (.int .i64 t.1.2.2.1) ∧ (svG X)[i * 5 + 3]? = some (.int .i64 t.1.2.2.2) ∧ (svG X)[i * 5 + 4]? = some (.int .i64 t.2)
  | [], i, x, h => by simp at h
  | q :: X, 0, x, h => by simp at h; subst h; exact ⟨rfl, rfl, rfl, rfl, rfl⟩
  | q :: X, i + 1, x, h => by
    simp at h
    have := svG_at X i x h
    have e : svG (q :: X) = .int .i64 q.1.1 :: .int .i64 q.1.2.1 :: .int .i64 q.1.2.2.1 :: .int .i64 q.1.2.2.2 :: .int .i64 q.2 :: svG X := rfl
    rw [e, show (i + 1) * 5 = i * 5 + 1 + 1 + 1 + 1 + 1 by omega]
    simpa using this
def SlG (w : World) (v : Value) (X : List Tg) : Prop := ∃ a cap, v = .slice a X.length cap ∧ Rd w a (svG X) ∧ X.length ≤ cap ∧ cap ≤ 9223372036854775807 ∧ (a = none → cap = 0)
theorem SlG.nil (w : World) : SlG w (.slice none 0 0) [] := ⟨none, 0, rfl, Rd.nil _ _, by simp, by omega, fun _ => rfl⟩
theorem SlG.below {w w' : World} {v : Value} {X : List Tg} (h : SlG w v X) (hb : Below w.heap.size w w') : SlG w' v X := by
  obtain ⟨a, c, e, h1, h2⟩ := h
  exact ⟨a, c, e, h1.below' hb, h2⟩
theorem SlG.upd {S : Nat → Prop} {w w' : World} {v : Value} {X : List Tg} (h : SlG w v X) (hu : Upd S w w') (hn : ∀ k, v.ownBlock = some k → ¬ S k) : SlG w' v X := by
  obtain ⟨a, c, rfl, h1, h2⟩ := h
  exact ⟨a, c, rfl, hu.rd h1 (fun b off e => hn b (by rw [e]; rfl)), h2⟩
theorem SlG.of_own {w : World} {base : Nat} {e : TypeId} {v : Value} {X : List Tg} (h : w.ownsRow base e 5 v X.length (svG X)) : SlG w v X := by
  obtain ⟨a, c, rfl, h1, h2, h3, h4⟩ := ownsRow.rd h
  exact ⟨a, c, rfl, h3, h1, by unfold maxLen at h2; omega, h4⟩
theorem Rd.five {w : World} {a : Option Addr} {X : List Tg} (h : Rd w a (svG X)) (i : Nat) (hi : i < X.length) :
    ∃ b off t, a = some ⟨b, off, none⟩ ∧ w.cell? ⟨b, off + i * 5, none⟩ = some (.int .i64 t.1.1) ∧ w.cell? ⟨b, off + i * 5 + 1, none⟩ = some (.int .i64 t.1.2.1) ∧ w.cell? ⟨b, off + i * 5 + 2, none⟩ = some (.int .i64 t.1.2.2.1) ∧ w.cell? ⟨b, off + i * 5 + 3, none⟩ = some (.int .i64 t.1.2.2.2) ∧ w.cell? ⟨b, off + i * 5 + 4, none⟩ = some (.int .i64 t.2) ∧
      X[i]? = some t ∧ X.drop i = t :: X.drop (i + 1) ∧ X.take (i + 1) = X.take i ++ [t] := by
  have hx : X[i]? = some X[i] := List.getElem?_eq_getElem hi
  obtain ⟨h0, h1, h2, h3, h4⟩ := svG_at X i _ hx
  obtain ⟨b, off, ha, hc⟩ := h (i * 5) (by rw [svG_length]; omega)
  have key : ∀ j, j < 5 → w.cell? ⟨b, off + i * 5 + j, none⟩ = (svG X)[i * 5 + j]? := fun j hj => by
    obtain ⟨b', off', ha', hc'⟩ := h (i * 5 + j) (by rw [svG_length]; omega)
    rw [ha] at ha'
    simp at ha'
    obtain ⟨rfl, rfl⟩ := ha'
    rw [Nat.add_assoc]; exact hc'
  exact ⟨b, off, X[i], ha, by rw [hc, h0], by rw [key 1 (by omega), h1], by rw [key 2 (by omega), h2], by rw [key 3 (by omega), h3], by rw [key 4 (by omega), h4], hx, List.drop_eq_getElem_cons hi, by rw [List.take_add_one, hx]; rfl⟩
theorem T_g14 : SlT Try.prog 39 58 (.agg #[.int .i64 0, .int .i64 0, .int .i64 0, .int .i64 0, .int .i64 0]) 5 40 := SlT.mk' Try.underlying39 (by kernel_rfl) rfl (by decide) (by decide)
theorem Blk.c5g {w : World} {g : Nat} {c0 c1 c2 c3 c4 : Value} (h : Blk w g #[c0, c1, c2, c3, c4]) : w.cell? ⟨g, 0, none⟩ = some c0 ∧ w.cell? ⟨g, 1, none⟩ = some c1 ∧ w.cell? ⟨g, 2, none⟩ = some c2 ∧ w.cell? ⟨g, 3, none⟩ = some c3 ∧ w.cell? ⟨g, 4, none⟩ = some c4 :=
  ⟨by rw [h.cell]; rfl, by rw [h.cell]; rfl, by rw [h.cell]; rfl, by rw [h.cell]; rfl, by rw [h.cell]; rfl⟩
def FindG (L : List Tg) (t : Tg) (r : Int) : Prop := (∃ i : Nat, r = (i : Int) ∧ i < L.length ∧ L[i]? = some t) ∨ (r = -1 ∧ t ∉ L)
def FindGPost (w : World) (L : List Tg) (t : Tg) (e : Ending) (w' : World) : Prop := ∃ r : Int, e = .returned (.int .i64 r) ∧ FindG L t r ∧ Below w.heap.size w w'
set_option maxRecDepth 100000 in
set_option maxHeartbeats 4000000 in
theorem ref14_Find {v : Value} {L : List Tg} (w : World) (h : SlG w v L) (hl : L.length ≤ 1000) (y1 y2 y3 y4 y5 : Int) :
    Calls Try.prog 27 #[v, .agg #[.int .i64 y1, .int .i64 y2, .int .i64 y3, .int .i64 y4, .int .i64 y5]] w (FindGPost w L ((y1, y2, y3, y4), y5)) := by
  have H := hid h
  obtain ⟨a, c, rfl, -⟩ := h
  go_enter Try.func27, Try.ntmps27
  go_upto_region 1 with fail
  generalize hw2 : World.alloc w _ = w2
  obtain ⟨bs, hbs⟩ : ∃ b, b = w.heap.size := ⟨_, rfl⟩
  rw [← hbs]
  have hb2 : Below w.heap.size w w2 := by rw [← hw2]; exact Below.new _ _
  have HK : Hid (Blk w2 bs #[.int .i64 y1, .int .i64 y2, .int .i64 y3, .int .i64 y4, .int .i64 y5]) := hid (by rw [← hw2, hbs]; exact Blk.new w _ _)
  have HB2 := hid hb2
  clear hw2 hbs hb2
  go_wp2_with fail
  go_loopw [5] (fun v5 wr => ∃ j : Nat, v5 = .int .i64 (j : Int) ∧ j ≤ L.length ∧ Hid (((y1, y2, y3, y4), y5) ∉ L.take j) ∧ Hid (Below w2.heap.size w2 wr)) (fun v5 _ => L.length - (intOf v5).toNat)
  case atStart => exact ⟨0, rfl, by omega, hid (by simp), hid (Below.refl _ _)⟩
  case round =>
    obtain ⟨j, rfl, hj, HJ, HB⟩ := hrel
    by_cases hlt : j < L.length
    · have j1 : (j : Int) < (L.length : Int) := by omega
      have j0 : (0 : Int) ≤ (j : Int) := by omega
      have j3 : (j : Int).toNat = j := by omega
      have hb3 := Below.next HB2.out HB.out
      obtain ⟨a', c', e', hrd, -⟩ := H.out.below hb3
      simp only [Value.slice.injEq, true_and] at e'
      obtain ⟨rfl, rfl⟩ := e'
      obtain ⟨b0, off, x, rfl, d0, d1, d2, d3, d4, hatj, -, htk⟩ := hrd.five j hlt
      have HAT := hid hatj
      have HTK := hid htk
      obtain ⟨⟨x1, x2, x3, x4⟩, x5⟩ := x
      simp only at d0 d1 d2 d3 d4
      obtain ⟨k0, k1, k2, k3, k4⟩ := (HK.out.below HB.out).c5g
      replace d0 := fun (y : World) (hy : Below wr.heap.size wr y) => cellOf_belowR hy d0
      replace d1 := fun (y : World) (hy : Below wr.heap.size wr y) => cellOf_belowR hy d1
      replace d2 := fun (y : World) (hy : Below wr.heap.size wr y) => cellOf_belowR hy d2
      replace d3 := fun (y : World) (hy : Below wr.heap.size wr y) => cellOf_belowR hy d3
      replace d4 := fun (y : World) (hy : Below wr.heap.size wr y) => cellOf_belowR hy d4
      replace k0 := fun (y : World) (hy : Below wr.heap.size wr y) => cellOf_belowR hy k0
      replace k1 := fun (y : World) (hy : Below wr.heap.size wr y) => cellOf_belowR hy k1
      replace k2 := fun (y : World) (hy : Below wr.heap.size wr y) => cellOf_belowR hy k2
      replace k3 := fun (y : World) (hy : Below wr.heap.size wr y) => cellOf_belowR hy k3
      replace k4 := fun (y : World) (hy : Below wr.heap.size wr y) => cellOf_belowR hy k4
      have hyd := (Below.refl wr.heap.size wr).drew
      have HBD := hid (Below.next HB.out hyd)
      clear hrd htk hatj hb3
      by_cases e1 : y1 = x1
      · subst e1
        by_cases e2 : y2 = x2
        · subst e2
          by_cases e3 : y3 = x3
          · subst e3
            by_cases e4 : y4 = x4
            · subst e4
              by_cases e5 : y5 = x5
              · subst e5
                skip
                go_upto_region 4 with fail
                refine wp_region_kept [] (fun z => Below wr.heap.size wr z) (by kernel_rfl) (by assumption) (fun hH => ?_)
                refine wpK.take (i := 0) (v := _) (by simp only [List.getElem?_toArray, List.getElem?_cons_succ, List.getElem?_cons_zero]; rfl) (by kernel_rfl) (by kernel_rfl) (by kernel_rfl) (by kernel_rfl) (by kernel_rfl) (by exact fun _ _ _ h => h) (by first | exact Or.inl ⟨by rfl, by intro w hSw; go_simp; try with_reducible rfl⟩ | exact Or.inr ⟨by rfl, rfl⟩) hH ?_
                try simp only [Act.put, List.setIfInBounds_toArray, List.set_cons_zero, List.set_cons_succ]
                refine wpK.take (i := 1) (v := _) (by simp only [List.getElem?_toArray, List.getElem?_cons_succ, List.getElem?_cons_zero]; rfl) (by kernel_rfl) (by kernel_rfl) (by kernel_rfl) (by kernel_rfl) (by kernel_rfl) (by exact fun _ _ _ h => h) (by first | exact Or.inl ⟨by rfl, by intro w hSw; go_simp; try with_reducible rfl⟩ | exact Or.inr ⟨by rfl, rfl⟩) hH ?_
                try simp only [Act.put, List.setIfInBounds_toArray, List.set_cons_zero, List.set_cons_succ]
                refine wpK.take (i := 2) (v := _) (by simp only [List.getElem?_toArray, List.getElem?_cons_succ, List.getElem?_cons_zero]; rfl) (by kernel_rfl) (by kernel_rfl) (by kernel_rfl) (by kernel_rfl) (by kernel_rfl) (by exact fun _ _ _ h => h) (by first | exact Or.inl ⟨by rfl, by intro w hSw; go_simp; try with_reducible rfl⟩ | exact Or.inr ⟨by rfl, rfl⟩) hH ?_
                try simp only [Act.put, List.setIfInBounds_toArray, List.set_cons_zero, List.set_cons_succ]
                refine wpK.take (i := 3) (v := _) (by simp only [List.getElem?_toArray, List.getElem?_cons_succ, List.getElem?_cons_zero]; rfl) (by kernel_rfl) (by kernel_rfl) (by kernel_rfl) (by kernel_rfl) (by kernel_rfl) (by exact fun _ _ _ h => h) (by first | exact Or.inl ⟨by rfl, by intro w hSw; go_simp; try with_reducible rfl⟩ | exact Or.inr ⟨by rfl, rfl⟩) hH ?_
                try simp only [Act.put, List.setIfInBounds_toArray, List.set_cons_zero, List.set_cons_succ]
                refine wpK.take (i := 4) (v := _) (by simp only [List.getElem?_toArray, List.getElem?_cons_succ, List.getElem?_cons_zero]; rfl) (by kernel_rfl) (by kernel_rfl) (by kernel_rfl) (by kernel_rfl) (by kernel_rfl) (by exact fun _ _ _ h => h) (by first | exact Or.inl ⟨by rfl, by intro w hSw; go_simp; try with_reducible rfl⟩ | exact Or.inr ⟨by rfl, rfl⟩) hH ?_
                try simp only [Act.put, List.setIfInBounds_toArray, List.set_cons_zero, List.set_cons_succ]
                refine wpK.take (i := 5) (v := _) (by simp only [List.getElem?_toArray, List.getElem?_cons_succ, List.getElem?_cons_zero]; rfl) (by kernel_rfl) (by kernel_rfl) (by kernel_rfl) (by kernel_rfl) (by kernel_rfl) (by exact fun _ _ _ h => h) (by first | exact Or.inl ⟨by rfl, by intro w hSw; go_simp; try with_reducible rfl⟩ | exact Or.inr ⟨by rfl, rfl⟩) hH ?_
                try simp only [Act.put, List.setIfInBounds_toArray, List.set_cons_zero, List.set_cons_succ]
                refine wpK.done (by kernel_rfl) ?_ _
                clear d0 d1 d2 d3 d4 k0 k1 k2 k3 k4 hyd hH
                go_wp2_with fail
                go_ret
                exact ⟨(j : Int), rfl, .inl ⟨j, rfl, hlt, HAT.out⟩, Below.next HB2.out HBD.out⟩
              · skip
                have HN : Hid (((y1, y2, y3, y4), y5) ∉ L.take (j + 1)) := hid (by
                  rw [HTK.out, List.mem_append]
                  rintro (q | q)
                  · exact HJ.out q
                  · simp only [List.mem_singleton, Prod.mk.injEq] at q
                    obtain ⟨⟨q1, q2, q3, q4⟩, q5⟩ := q
                    exact e5 q5)
                have n5 : ¬ x5 = y5 := fun q => e5 q.symm
                clear HTK HAT
                go_upto_region 4 with fail
                refine wp_region_kept [] (fun z => Below wr.heap.size wr z) (by kernel_rfl) (by assumption) (fun hH => ?_)
                refine wpK.take (i := 0) (v := _) (by simp only [List.getElem?_toArray, List.getElem?_cons_succ, List.getElem?_cons_zero]; rfl) (by kernel_rfl) (by kernel_rfl) (by kernel_rfl) (by kernel_rfl) (by kernel_rfl) (by exact fun _ _ _ h => h) (by first | exact Or.inl ⟨by rfl, by intro w hSw; go_simp; try with_reducible rfl⟩ | exact Or.inr ⟨by rfl, rfl⟩) hH ?_
                try simp only [Act.put, List.setIfInBounds_toArray, List.set_cons_zero, List.set_cons_succ]
                refine wpK.take (i := 1) (v := _) (by simp only [List.getElem?_toArray, List.getElem?_cons_succ, List.getElem?_cons_zero]; rfl) (by kernel_rfl) (by kernel_rfl) (by kernel_rfl) (by kernel_rfl) (by kernel_rfl) (by exact fun _ _ _ h => h) (by first | exact Or.inl ⟨by rfl, by intro w hSw; go_simp; try with_reducible rfl⟩ | exact Or.inr ⟨by rfl, rfl⟩) hH ?_
                try simp only [Act.put, List.setIfInBounds_toArray, List.set_cons_zero, List.set_cons_succ]
                refine wpK.take (i := 2) (v := _) (by simp only [List.getElem?_toArray, List.getElem?_cons_succ, List.getElem?_cons_zero]; rfl) (by kernel_rfl) (by kernel_rfl) (by kernel_rfl) (by kernel_rfl) (by kernel_rfl) (by exact fun _ _ _ h => h) (by first | exact Or.inl ⟨by rfl, by intro w hSw; go_simp; try with_reducible rfl⟩ | exact Or.inr ⟨by rfl, rfl⟩) hH ?_
                try simp only [Act.put, List.setIfInBounds_toArray, List.set_cons_zero, List.set_cons_succ]
                refine wpK.take (i := 3) (v := _) (by simp only [List.getElem?_toArray, List.getElem?_cons_succ, List.getElem?_cons_zero]; rfl) (by kernel_rfl) (by kernel_rfl) (by kernel_rfl) (by kernel_rfl) (by kernel_rfl) (by exact fun _ _ _ h => h) (by first | exact Or.inl ⟨by rfl, by intro w hSw; go_simp; try with_reducible rfl⟩ | exact Or.inr ⟨by rfl, rfl⟩) hH ?_
                try simp only [Act.put, List.setIfInBounds_toArray, List.set_cons_zero, List.set_cons_succ]
                refine wpK.take (i := 4) (v := _) (by simp only [List.getElem?_toArray, List.getElem?_cons_succ, List.getElem?_cons_zero]; rfl) (by kernel_rfl) (by kernel_rfl) (by kernel_rfl) (by kernel_rfl) (by kernel_rfl) (by exact fun _ _ _ h => h) (by first | exact Or.inl ⟨by rfl, by intro w hSw; go_simp; try with_reducible rfl⟩ | exact Or.inr ⟨by rfl, rfl⟩) hH ?_
                try simp only [Act.put, List.setIfInBounds_toArray, List.set_cons_zero, List.set_cons_succ]
                refine wpK.take (i := 5) (v := _) (by simp only [List.getElem?_toArray, List.getElem?_cons_succ, List.getElem?_cons_zero]; rfl) (by kernel_rfl) (by kernel_rfl) (by kernel_rfl) (by kernel_rfl) (by kernel_rfl) (by exact fun _ _ _ h => h) (by first | exact Or.inl ⟨by rfl, by intro w hSw; go_simp; try with_reducible rfl⟩ | exact Or.inr ⟨by rfl, rfl⟩) hH ?_
                try simp only [Act.put, List.setIfInBounds_toArray, List.set_cons_zero, List.set_cons_succ]
                refine wpK.done (by kernel_rfl) ?_ _
                clear d0 d1 d2 d3 d4 k0 k1 k2 k3 k4 hyd hH
                go_wp2_with fail
                go_roundw
                case rel => exact ⟨j + 1, by go_num, by omega, HN, HBD⟩
                case measure => simp [intOf]; omega
            · skip
              have HN : Hid (((y1, y2, y3, y4), y5) ∉ L.take (j + 1)) := hid (by
                rw [HTK.out, List.mem_append]
                rintro (q | q)
                · exact HJ.out q
                · simp only [List.mem_singleton, Prod.mk.injEq] at q
                  obtain ⟨⟨q1, q2, q3, q4⟩, q5⟩ := q
                  exact e4 q4)
              have n4 : ¬ x4 = y4 := fun q => e4 q.symm
              clear HTK HAT
              go_upto_region 4 with fail
              refine wp_region_kept [] (fun z => Below wr.heap.size wr z) (by kernel_rfl) (by assumption) (fun hH => ?_)
              refine wpK.take (i := 0) (v := _) (by simp only [List.getElem?_toArray, List.getElem?_cons_succ, List.getElem?_cons_zero]; rfl) (by kernel_rfl) (by kernel_rfl) (by kernel_rfl) (by kernel_rfl) (by kernel_rfl) (by exact fun _ _ _ h => h) (by first | exact Or.inl ⟨by rfl, by intro w hSw; go_simp; try with_reducible rfl⟩ | exact Or.inr ⟨by rfl, rfl⟩) hH ?_
              try simp only [Act.put, List.setIfInBounds_toArray, List.set_cons_zero, List.set_cons_succ]
              refine wpK.take (i := 1) (v := _) (by simp only [List.getElem?_toArray, List.getElem?_cons_succ, List.getElem?_cons_zero]; rfl) (by kernel_rfl) (by kernel_rfl) (by kernel_rfl) (by kernel_rfl) (by kernel_rfl) (by exact fun _ _ _ h => h) (by first | exact Or.inl ⟨by rfl, by intro w hSw; go_simp; try with_reducible rfl⟩ | exact Or.inr ⟨by rfl, rfl⟩) hH ?_
              try simp only [Act.put, List.setIfInBounds_toArray, List.set_cons_zero, List.set_cons_succ]
              refine wpK.take (i := 2) (v := _) (by simp only [List.getElem?_toArray, List.getElem?_cons_succ, List.getElem?_cons_zero]; rfl) (by kernel_rfl) (by kernel_rfl) (by kernel_rfl) (by kernel_rfl) (by kernel_rfl) (by exact fun _ _ _ h => h) (by first | exact Or.inl ⟨by rfl, by intro w hSw; go_simp; try with_reducible rfl⟩ | exact Or.inr ⟨by rfl, rfl⟩) hH ?_
              try simp only [Act.put, List.setIfInBounds_toArray, List.set_cons_zero, List.set_cons_succ]
              refine wpK.take (i := 3) (v := _) (by simp only [List.getElem?_toArray, List.getElem?_cons_succ, List.getElem?_cons_zero]; rfl) (by kernel_rfl) (by kernel_rfl) (by kernel_rfl) (by kernel_rfl) (by kernel_rfl) (by exact fun _ _ _ h => h) (by first | exact Or.inl ⟨by rfl, by intro w hSw; go_simp; try with_reducible rfl⟩ | exact Or.inr ⟨by rfl, rfl⟩) hH ?_
              try simp only [Act.put, List.setIfInBounds_toArray, List.set_cons_zero, List.set_cons_succ]
              refine wpK.take (i := 4) (v := _) (by simp only [List.getElem?_toArray, List.getElem?_cons_succ, List.getElem?_cons_zero]; rfl) (by kernel_rfl) (by kernel_rfl) (by kernel_rfl) (by kernel_rfl) (by kernel_rfl) (by exact fun _ _ _ h => h) (by first | exact Or.inl ⟨by rfl, by intro w hSw; go_simp; try with_reducible rfl⟩ | exact Or.inr ⟨by rfl, rfl⟩) hH ?_
              try simp only [Act.put, List.setIfInBounds_toArray, List.set_cons_zero, List.set_cons_succ]
              refine wpK.take (i := 5) (v := _) (by simp only [List.getElem?_toArray, List.getElem?_cons_succ, List.getElem?_cons_zero]; rfl) (by kernel_rfl) (by kernel_rfl) (by kernel_rfl) (by kernel_rfl) (by kernel_rfl) (by exact fun _ _ _ h => h) (by first | exact Or.inl ⟨by rfl, by intro w hSw; go_simp; try with_reducible rfl⟩ | exact Or.inr ⟨by rfl, rfl⟩) hH ?_
              try simp only [Act.put, List.setIfInBounds_toArray, List.set_cons_zero, List.set_cons_succ]
              refine wpK.done (by kernel_rfl) ?_ _
              clear d0 d1 d2 d3 d4 k0 k1 k2 k3 k4 hyd hH
              go_wp2_with fail
              go_roundw
              case rel => exact ⟨j + 1, by go_num, by omega, HN, HBD⟩
              case measure => simp [intOf]; omega
          · skip
            have HN : Hid (((y1, y2, y3, y4), y5) ∉ L.take (j + 1)) := hid (by
              rw [HTK.out, List.mem_append]
              rintro (q | q)
              · exact HJ.out q
              · simp only [List.mem_singleton, Prod.mk.injEq] at q
                obtain ⟨⟨q1, q2, q3, q4⟩, q5⟩ := q
                exact e3 q3)
            have n3 : ¬ x3 = y3 := fun q => e3 q.symm
            clear HTK HAT
            go_upto_region 4 with fail
            refine wp_region_kept [] (fun z => Below wr.heap.size wr z) (by kernel_rfl) (by assumption) (fun hH => ?_)
            refine wpK.take (i := 0) (v := _) (by simp only [List.getElem?_toArray, List.getElem?_cons_succ, List.getElem?_cons_zero]; rfl) (by kernel_rfl) (by kernel_rfl) (by kernel_rfl) (by kernel_rfl) (by kernel_rfl) (by exact fun _ _ _ h => h) (by first | exact Or.inl ⟨by rfl, by intro w hSw; go_simp; try with_reducible rfl⟩ | exact Or.inr ⟨by rfl, rfl⟩) hH ?_
            try simp only [Act.put, List.setIfInBounds_toArray, List.set_cons_zero, List.set_cons_succ]
            refine wpK.take (i := 1) (v := _) (by simp only [List.getElem?_toArray, List.getElem?_cons_succ, List.getElem?_cons_zero]; rfl) (by kernel_rfl) (by kernel_rfl) (by kernel_rfl) (by kernel_rfl) (by kernel_rfl) (by exact fun _ _ _ h => h) (by first | exact Or.inl ⟨by rfl, by intro w hSw; go_simp; try with_reducible rfl⟩ | exact Or.inr ⟨by rfl, rfl⟩) hH ?_
            try simp only [Act.put, List.setIfInBounds_toArray, List.set_cons_zero, List.set_cons_succ]
            refine wpK.take (i := 2) (v := _) (by simp only [List.getElem?_toArray, List.getElem?_cons_succ, List.getElem?_cons_zero]; rfl) (by kernel_rfl) (by kernel_rfl) (by kernel_rfl) (by kernel_rfl) (by kernel_rfl) (by exact fun _ _ _ h => h) (by first | exact Or.inl ⟨by rfl, by intro w hSw; go_simp; try with_reducible rfl⟩ | exact Or.inr ⟨by rfl, rfl⟩) hH ?_
            try simp only [Act.put, List.setIfInBounds_toArray, List.set_cons_zero, List.set_cons_succ]
            refine wpK.take (i := 3) (v := _) (by simp only [List.getElem?_toArray, List.getElem?_cons_succ, List.getElem?_cons_zero]; rfl) (by kernel_rfl) (by kernel_rfl) (by kernel_rfl) (by kernel_rfl) (by kernel_rfl) (by exact fun _ _ _ h => h) (by first | exact Or.inl ⟨by rfl, by intro w hSw; go_simp; try with_reducible rfl⟩ | exact Or.inr ⟨by rfl, rfl⟩) hH ?_
            try simp only [Act.put, List.setIfInBounds_toArray, List.set_cons_zero, List.set_cons_succ]
            refine wpK.take (i := 4) (v := _) (by simp only [List.getElem?_toArray, List.getElem?_cons_succ, List.getElem?_cons_zero]; rfl) (by kernel_rfl) (by kernel_rfl) (by kernel_rfl) (by kernel_rfl) (by kernel_rfl) (by exact fun _ _ _ h => h) (by first | exact Or.inl ⟨by rfl, by intro w hSw; go_simp; try with_reducible rfl⟩ | exact Or.inr ⟨by rfl, rfl⟩) hH ?_
            try simp only [Act.put, List.setIfInBounds_toArray, List.set_cons_zero, List.set_cons_succ]
            refine wpK.take (i := 5) (v := _) (by simp only [List.getElem?_toArray, List.getElem?_cons_succ, List.getElem?_cons_zero]; rfl) (by kernel_rfl) (by kernel_rfl) (by kernel_rfl) (by kernel_rfl) (by kernel_rfl) (by exact fun _ _ _ h => h) (by first | exact Or.inl ⟨by rfl, by intro w hSw; go_simp; try with_reducible rfl⟩ | exact Or.inr ⟨by rfl, rfl⟩) hH ?_
            try simp only [Act.put, List.setIfInBounds_toArray, List.set_cons_zero, List.set_cons_succ]
            refine wpK.done (by kernel_rfl) ?_ _
            clear d0 d1 d2 d3 d4 k0 k1 k2 k3 k4 hyd hH
            go_wp2_with fail
            go_roundw
            case rel => exact ⟨j + 1, by go_num, by omega, HN, HBD⟩
            case measure => simp [intOf]; omega
        · skip
          have HN : Hid (((y1, y2, y3, y4), y5) ∉ L.take (j + 1)) := hid (by
            rw [HTK.out, List.mem_append]
            rintro (q | q)
            · exact HJ.out q
            · simp only [List.mem_singleton, Prod.mk.injEq] at q
              obtain ⟨⟨q1, q2, q3, q4⟩, q5⟩ := q
              exact e2 q2)
          have n2 : ¬ x2 = y2 := fun q => e2 q.symm
          clear HTK HAT
          go_upto_region 4 with fail
          refine wp_region_kept [] (fun z => Below wr.heap.size wr z) (by kernel_rfl) (by assumption) (fun hH => ?_)
          refine wpK.take (i := 0) (v := _) (by simp only [List.getElem?_toArray, List.getElem?_cons_succ, List.getElem?_cons_zero]; rfl) (by kernel_rfl) (by kernel_rfl) (by kernel_rfl) (by kernel_rfl) (by kernel_rfl) (by exact fun _ _ _ h => h) (by first | exact Or.inl ⟨by rfl, by intro w hSw; go_simp; try with_reducible rfl⟩ | exact Or.inr ⟨by rfl, rfl⟩) hH ?_
          try simp only [Act.put, List.setIfInBounds_toArray, List.set_cons_zero, List.set_cons_succ]
          refine wpK.take (i := 1) (v := _) (by simp only [List.getElem?_toArray, List.getElem?_cons_succ, List.getElem?_cons_zero]; rfl) (by kernel_rfl) (by kernel_rfl) (by kernel_rfl) (by kernel_rfl) (by kernel_rfl) (by exact fun _ _ _ h => h) (by first | exact Or.inl ⟨by rfl, by intro w hSw; go_simp; try with_reducible rfl⟩ | exact Or.inr ⟨by rfl, rfl⟩) hH ?_
          try simp only [Act.put, List.setIfInBounds_toArray, List.set_cons_zero, List.set_cons_succ]
          refine wpK.take (i := 2) (v := _) (by simp only [List.getElem?_toArray, List.getElem?_cons_succ, List.getElem?_cons_zero]; rfl) (by kernel_rfl) (by kernel_rfl) (by kernel_rfl) (by kernel_rfl) (by kernel_rfl) (by exact fun _ _ _ h => h) (by first | exact Or.inl ⟨by rfl, by intro w hSw; go_simp; try with_reducible rfl⟩ | exact Or.inr ⟨by rfl, rfl⟩) hH ?_
          try simp only [Act.put, List.setIfInBounds_toArray, List.set_cons_zero, List.set_cons_succ]
          refine wpK.take (i := 3) (v := _) (by simp only [List.getElem?_toArray, List.getElem?_cons_succ, List.getElem?_cons_zero]; rfl) (by kernel_rfl) (by kernel_rfl) (by kernel_rfl) (by kernel_rfl) (by kernel_rfl) (by exact fun _ _ _ h => h) (by first | exact Or.inl ⟨by rfl, by intro w hSw; go_simp; try with_reducible rfl⟩ | exact Or.inr ⟨by rfl, rfl⟩) hH ?_
          try simp only [Act.put, List.setIfInBounds_toArray, List.set_cons_zero, List.set_cons_succ]
          refine wpK.take (i := 4) (v := _) (by simp only [List.getElem?_toArray, List.getElem?_cons_succ, List.getElem?_cons_zero]; rfl) (by kernel_rfl) (by kernel_rfl) (by kernel_rfl) (by kernel_rfl) (by kernel_rfl) (by exact fun _ _ _ h => h) (by first | exact Or.inl ⟨by rfl, by intro w hSw; go_simp; try with_reducible rfl⟩ | exact Or.inr ⟨by rfl, rfl⟩) hH ?_
          try simp only [Act.put, List.setIfInBounds_toArray, List.set_cons_zero, List.set_cons_succ]
          refine wpK.take (i := 5) (v := _) (by simp only [List.getElem?_toArray, List.getElem?_cons_succ, List.getElem?_cons_zero]; rfl) (by kernel_rfl) (by kernel_rfl) (by kernel_rfl) (by kernel_rfl) (by kernel_rfl) (by exact fun _ _ _ h => h) (by first | exact Or.inl ⟨by rfl, by intro w hSw; go_simp; try with_reducible rfl⟩ | exact Or.inr ⟨by rfl, rfl⟩) hH ?_
          try simp only [Act.put, List.setIfInBounds_toArray, List.set_cons_zero, List.set_cons_succ]
          refine wpK.done (by kernel_rfl) ?_ _
          clear d0 d1 d2 d3 d4 k0 k1 k2 k3 k4 hyd hH
          go_wp2_with fail
          go_roundw
          case rel => exact ⟨j + 1, by go_num, by omega, HN, HBD⟩
          case measure => simp [intOf]; omega
      · skip
        have HN : Hid (((y1, y2, y3, y4), y5) ∉ L.take (j + 1)) := hid (by
          rw [HTK.out, List.mem_append]
          rintro (q | q)
          · exact HJ.out q
          · simp only [List.mem_singleton, Prod.mk.injEq] at q
            obtain ⟨⟨q1, q2, q3, q4⟩, q5⟩ := q
            exact e1 q1)
        have n1 : ¬ x1 = y1 := fun q => e1 q.symm
        clear HTK HAT
        go_upto_region 4 with fail
        refine wp_region_kept [] (fun z => Below wr.heap.size wr z) (by kernel_rfl) (by assumption) (fun hH => ?_)
        refine wpK.take (i := 0) (v := _) (by simp only [List.getElem?_toArray, List.getElem?_cons_succ, List.getElem?_cons_zero]; rfl) (by kernel_rfl) (by kernel_rfl) (by kernel_rfl) (by kernel_rfl) (by kernel_rfl) (by exact fun _ _ _ h => h) (by first | exact Or.inl ⟨by rfl, by intro w hSw; go_simp; try with_reducible rfl⟩ | exact Or.inr ⟨by rfl, rfl⟩) hH ?_
        try simp only [Act.put, List.setIfInBounds_toArray, List.set_cons_zero, List.set_cons_succ]
        refine wpK.take (i := 1) (v := _) (by simp only [List.getElem?_toArray, List.getElem?_cons_succ, List.getElem?_cons_zero]; rfl) (by kernel_rfl) (by kernel_rfl) (by kernel_rfl) (by kernel_rfl) (by kernel_rfl) (by exact fun _ _ _ h => h) (by first | exact Or.inl ⟨by rfl, by intro w hSw; go_simp; try with_reducible rfl⟩ | exact Or.inr ⟨by rfl, rfl⟩) hH ?_
        try simp only [Act.put, List.setIfInBounds_toArray, List.set_cons_zero, List.set_cons_succ]
        refine wpK.take (i := 2) (v := _) (by simp only [List.getElem?_toArray, List.getElem?_cons_succ, List.getElem?_cons_zero]; rfl) (by kernel_rfl) (by kernel_rfl) (by kernel_rfl) (by kernel_rfl) (by kernel_rfl) (by exact fun _ _ _ h => h) (by first | exact Or.inl ⟨by rfl, by intro w hSw; go_simp; try with_reducible rfl⟩ | exact Or.inr ⟨by rfl, rfl⟩) hH ?_
        try simp only [Act.put, List.setIfInBounds_toArray, List.set_cons_zero, List.set_cons_succ]
        refine wpK.take (i := 3) (v := _) (by simp only [List.getElem?_toArray, List.getElem?_cons_succ, List.getElem?_cons_zero]; rfl) (by kernel_rfl) (by kernel_rfl) (by kernel_rfl) (by kernel_rfl) (by kernel_rfl) (by exact fun _ _ _ h => h) (by first | exact Or.inl ⟨by rfl, by intro w hSw; go_simp; try with_reducible rfl⟩ | exact Or.inr ⟨by rfl, rfl⟩) hH ?_
        try simp only [Act.put, List.setIfInBounds_toArray, List.set_cons_zero, List.set_cons_succ]
        refine wpK.take (i := 4) (v := _) (by simp only [List.getElem?_toArray, List.getElem?_cons_succ, List.getElem?_cons_zero]; rfl) (by kernel_rfl) (by kernel_rfl) (by kernel_rfl) (by kernel_rfl) (by kernel_rfl) (by exact fun _ _ _ h => h) (by first | exact Or.inl ⟨by rfl, by intro w hSw; go_simp; try with_reducible rfl⟩ | exact Or.inr ⟨by rfl, rfl⟩) hH ?_
        try simp only [Act.put, List.setIfInBounds_toArray, List.set_cons_zero, List.set_cons_succ]
        refine wpK.take (i := 5) (v := _) (by simp only [List.getElem?_toArray, List.getElem?_cons_succ, List.getElem?_cons_zero]; rfl) (by kernel_rfl) (by kernel_rfl) (by kernel_rfl) (by kernel_rfl) (by kernel_rfl) (by exact fun _ _ _ h => h) (by first | exact Or.inl ⟨by rfl, by intro w hSw; go_simp; try with_reducible rfl⟩ | exact Or.inr ⟨by rfl, rfl⟩) hH ?_
        try simp only [Act.put, List.setIfInBounds_toArray, List.set_cons_zero, List.set_cons_succ]
        refine wpK.done (by kernel_rfl) ?_ _
        clear d0 d1 d2 d3 d4 k0 k1 k2 k3 k4 hyd hH
        go_wp2_with fail
        go_roundw
        case rel => exact ⟨j + 1, by go_num, by omega, HN, HBD⟩
        case measure => simp [intOf]; omega
    · have j1 : ¬ (j : Int) < (L.length : Int) := by omega
      have e1 : L.take j = L := List.take_of_length_le (by omega)
      have HN := HJ.out
      rw [e1] at HN
      have HN2 := hid HN
      clear HN e1
      go_wp2_with fail
      go_ret
      exact ⟨-1, rfl, .inr ⟨rfl, HN2.out⟩, Below.next HB2.out HB.out⟩
def delG (L : List Tg) (at' : Int) : List Tg := if 0 ≤ at' then L.eraseIdx at'.toNat else L
theorem delG_take {L : List Tg} {j : Nat} {x : Tg} (k : Nat) (h : L.take (j + 1) = L.take j ++ [x]) (hj : j < L.length) : (L.take (j + 1)).eraseIdx k = (L.take j).eraseIdx k ++ (if j = k then [] else [x]) := by
  have hl : (L.take j).length = j := by simp; omega
  rw [h]
  by_cases e : j = k
  · subst e
    rw [if_pos rfl, List.append_nil, List.eraseIdx_append_of_length_le (by omega), hl, Nat.sub_self, List.eraseIdx_of_length_le (l := L.take j) (by omega)]
    simp
  · rw [if_neg e]
    by_cases q : k < j
    · rw [List.eraseIdx_append_of_lt_length (by omega)]
    · rw [List.eraseIdx_of_length_le (by simp; omega), List.eraseIdx_of_length_le (by omega)]
def WithoutPost (w : World) (L : List Tg) (k : Nat) (e : Ending) (w' : World) : Prop := ∃ v, e = .returned v ∧ w'.ownsRow w.heap.size 58 5 v (L.eraseIdx k).length (svG (L.eraseIdx k)) ∧ Below w.heap.size w w'
set_option maxRecDepth 100000 in
set_option maxHeartbeats 1000000 in
theorem ref14_Without {v : Value} {L : List Tg} (w : World) (h : SlG w v L) (hl : L.length ≤ 1000) (k : Nat) :
    Calls Try.prog 49 #[v, .int .i64 (k : Int)] w (WithoutPost w L k) := by
  have H := hid h
  obtain ⟨a, c, rfl, -⟩ := h
  go_enter Try.func49, Try.ntmps49
  go_wp2_with fail
  go_loopw [5, 6] (fun vo vi wr => ∃ (j : Nat) (vo' : Value), vo' = vo ∧ vi = .int .i64 (j : Int) ∧ j ≤ L.length ∧ Hid (wr.ownsRow w.heap.size 58 5 vo ((L.take j).eraseIdx k).length (svG ((L.take j).eraseIdx k))) ∧ Hid (Below w.heap.size w wr)) (fun _ vi _ => L.length - (intOf vi).toNat)
  case atStart => exact ⟨0, _, rfl, rfl, by omega, hid (by simpa [svG] using World.ownsRow_nil _ _ _ _), hid (Below.refl _ _)⟩
  case round =>
    obtain ⟨j, vo, hvo, rfl, hj, hown, hb⟩ := hrel
    subst hvo
    by_cases hlt : j < L.length
    · have j1 : (j : Int) < (L.length : Int) := by omega
      have j0 : (0 : Int) ≤ (j : Int) := by omega
      obtain ⟨a', c', e', hrd, -⟩ := H.out.below hb.out
      simp only [Value.slice.injEq, true_and] at e'
      obtain ⟨rfl, rfl⟩ := e'
      obtain ⟨b0, off, x, rfl, d0, d1, d2, d3, d4, hatj, -, htk⟩ := hrd.five j hlt
      have hsz := hb.out.size
      have hfl : ((L.take j).eraseIdx k).length ≤ 1000 := Nat.le_trans (List.length_eraseIdx_le _ _) (by rw [List.length_take]; omega)
      have HDT := hid (delG_take k htk hlt)
      obtain ⟨⟨x1, x2, x3, x4⟩, x5⟩ := x
      simp only at d0 d1 d2 d3 d4
      clear hrd htk hatj
      by_cases hx : j = k
      · have HW : Hid ((L.take (j + 1)).eraseIdx k = (L.take j).eraseIdx k) := hid (by rw [HDT.out, if_pos hx, List.append_nil])
        have hxx : ((j : Int) != (k : Int)) = false := by simp; omega
        clear hx d0 d1 d2 d3 d4
        go_wp2
        go_roundw
        case rel => exact ⟨j + 1, _, rfl, by go_num, by omega, by rw [HW.out]; exact hown, hb⟩
        case measure => simp [intOf]; omega
      · have HW : Hid ((L.take (j + 1)).eraseIdx k = (L.take j).eraseIdx k ++ [((x1, x2, x3, x4), x5)]) := hid (by rw [HDT.out, if_neg hx])
        have hxx : ((j : Int) != (k : Int)) = true := by simp; omega
        clear hx
        go_wp2_with (at_builtin; refine wpList_append1w T_g14 _ rfl _ _ #[.int .i64 x1, .int .i64 x2, .int .i64 x3, .int .i64 x4, .int .i64 x5] rfl w.heap.size _ _ _ rfl hown.out rfl rfl ?c1 ?c2 ?c3 ?_)
        case c1 => exact ⟨rfl, rfl, rfl, rfl, rfl⟩
        case c2 => omega
        try (case c3 => omega)
        intro v' w4 hown' hgrow hne hwh
        have HO : Hid (w4.ownsRow w.heap.size 58 5 v' ((L.take (j + 1)).eraseIdx k).length (svG ((L.take (j + 1)).eraseIdx k))) := hid (by
          rw [HW.out, svG_append, List.length_append]; exact hown')
        have HB : Hid (Below w.heap.size w w4) := hid (hb.out.grown hgrow hsz (fun k hk => (hown.out.lt k hk).1))
        clear hown' hgrow hwh hne d0 d1 d2 d3 d4
        go_wp2
        go_roundw
        case rel => exact ⟨j + 1, _, rfl, by go_num, by omega, HO, HB⟩
        case measure => simp [intOf]; omega
    · have e1 : L.take j = L := List.take_of_length_le (by omega)
      rw [e1] at hown
      have j1 : ¬ (j : Int) < (L.length : Int) := by omega
      go_wp2_with fail
      go_ret
      exact ⟨_, rfl, hown.out, hb.out⟩
end Go.Proofs.Ytjbnfppnmljbmaa
end
