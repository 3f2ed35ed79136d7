/- Joined texts, in this order: StallTills. Each one's first remark says what it proves; no condition beyond those that its theorems name. -/
import Derived.Test.YtajfjgekcjkedaaJLawStallRestores11
import Derived.Test.YtajfjgekcjkedaaJLawStallRestores17
section
/- The law StallTills, walked; the fixed answer of layer 23. -/
namespace Go.Proofs.Ytajfjgekcjkedaa
open Go.RowKit Go.ChangeShapes Go.WideShapes Go.Deep Go.Joins
open Go.Lib (hid)
set_option linter.unusedVariables false

theorem StallIs.to {w : World} {s : Nat} {F : Nat → Prop} {X Y : StX} (h : StallIs w s F X) (e : X = Y) : StallIs w s F Y := e ▸ h
theorem aw23_1 : openX ⟨[], []⟩ 7 = (⟨[(7, 0)], []⟩, 0) := by rfl
theorem aw23_2 : openX ⟨[(7, 0)], []⟩ 7 = (⟨[(7, 0)], []⟩, 13) := by rfl
theorem aw23_3 : putX ⟨[(7, 0)], []⟩ 7 1 50 = ⟨[(7, 0)], [(7, 1, 50)]⟩ ∧ putE ⟨[(7, 0)], []⟩ 7 1 50 = 0 := by exact ⟨by rfl, by rfl⟩
theorem aw23_4 : putX ⟨[(7, 0)], [(7, 1, 50)]⟩ 8 2 50 = ⟨[(7, 0)], [(7, 1, 50)]⟩ ∧ putE ⟨[(7, 0)], [(7, 1, 50)]⟩ 8 2 50 = 14 := by exact ⟨by rfl, by rfl⟩
theorem aw23_5 : sellX ⟨[(7, 0)], [(7, 1, 50)]⟩ 1 = (⟨[(7, 50)], []⟩, 7, 50, 0) := by rfl
theorem StPost.far {w0 w w' : World} {s : Nat} {F : Nat → Prop} {X : StX} {r : Value} {e : Ending} (h : StPost w s F X r e w') (hb : Below w0.heap.size w0 w) (hF : ∀ k, F k → w0.heap.size ≤ k) : Below w0.heap.size w0 w' ∧ ∀ k, (F k ∨ w.heap.size ≤ k) → w0.heap.size ≤ k :=
  ⟨hb.trans (h.2.2.below hb.size (fun k _ q => hF k q)), fun k hk => by
    rcases hk with hk | hk
    · exact hF k hk
    · have := hb.size; omega⟩
set_option maxRecDepth 100000 in
set_option maxHeartbeats 1000000 in
theorem law23_awake (w : World) : Calls Try.prog 8 #[] w fun e w' => e = .returned (.bool true) ∧ Below w.heap.size w w' := by
  go_enter Try.func8, Try.ntmps8
  go_wp2_with fail
  refine (stall_New w).mono ?_
  rintro e w1 ⟨s, rfl, h1, hb1⟩
  have H1 := hid h1
  have HB1 : Hid (Below w.heap.size w w1 ∧ ∀ k, w.heap.size ≤ k → w.heap.size ≤ k) := hid ⟨hb1, fun _ q => q⟩
  clear h1 hb1
  go_wp2_with fail
  refine (stall_Open w1 H1.out 7 (by omega)).mono ?_
  intro e w2 hq
  rw [aw23_1] at hq
  have HB2 := hid (hq.far HB1.out.1 HB1.out.2)
  obtain ⟨rfl, h2, -⟩ := hq
  have H2 := hid h2
  clear h2 H1
  go_wp2_with fail
  refine (stall_Open w2 H2.out 7 (by omega)).mono ?_
  intro e w3 hq
  rw [aw23_2] at hq
  have HB3 := hid (hq.far HB2.out.1 HB2.out.2)
  obtain ⟨rfl, h3, -⟩ := hq
  have H3 := hid h3
  clear h3 H2
  go_wp2_with fail
  refine (stall_Put w3 H3.out 7 1 50 (by omega)).mono ?_
  intro e w4 hq
  rw [aw23_3.1, aw23_3.2] at hq
  have HB4 := hid (hq.far HB3.out.1 HB3.out.2)
  obtain ⟨rfl, h4, -⟩ := hq
  have H4 := hid h4
  clear h4 H3
  go_wp2_with fail
  refine (stall_Put w4 H4.out 8 2 50 (by omega)).mono ?_
  intro e w5 hq
  rw [aw23_4.1, aw23_4.2] at hq
  have HB5 := hid (hq.far HB4.out.1 HB4.out.2)
  obtain ⟨rfl, h5, -⟩ := hq
  have H5 := hid h5
  clear h5 H4
  go_wp2_with fail
  refine (stall_Sell w5 H5.out 1).mono ?_
  intro e w6 hq
  rw [aw23_5] at hq
  unfold sellV at hq
  dsimp only at hq
  have HB6 := hid (hq.far HB5.out.1 HB5.out.2)
  obtain ⟨rfl, h6, -⟩ := hq
  have H6 := hid h6
  clear h6 H5
  go_wp2_with fail
  refine (stall_Till w6 H6.out 7 50 0 (hid rfl) (hid rfl)).mono ?_
  rintro e w7 ⟨rfl, rfl⟩
  go_wp2_with fail
  refine (stall_Total w6 H6.out 50 (hid rfl) (by omega)).mono ?_
  rintro e w7 ⟨rfl, hb7⟩
  have HB7 := hid (Below.next HB6.out.1 hb7)
  clear hb7
  go_wp2_with fail
  go_ret
  exact ⟨rfl, HB7.out⟩
/-- a call that comes in -/
structure OpS where
  k : Int
  h : Int
  t : Int
  p : Int
deriving Inhabited
def OpSE (w : World) (f : Nat → Option Value) (o : OpS) : Prop := f 0 = some (.int .i64 o.k) ∧ f 1 = some (.int .i64 o.h) ∧ f 2 = some (.int .i64 o.t) ∧ f 3 = some (.int .i64 o.p) ∧ o.h ≤ 9223372036854775807 ∧ o.t ≤ 9223372036854775807 ∧ -9223372036854775808 ≤ o.h
theorem opSKept : Kept OpSE 4 := ⟨fun hb hf h => ⟨hf 0 _ (by omega) h.1, hf 1 _ (by omega) h.2.1, hf 2 _ (by omega) h.2.2.1, hf 3 _ (by omega) h.2.2.2.1, h.2.2.2.2⟩, fun h => ⟨_, h.1⟩⟩
set_option maxRecDepth 100000 in
theorem elem_op23 {H : Type} {enc : TypeId × Value → H} {w : World} (n : Nat) (cs : List Value) (x : DataW H × List MemPlace) (h : DataW.trod enc Try.prog w 0 (fun _ => true) true n 27 cs = some x) : ∃ t, OpSE w (fun j => cs[j]?) t := by
  obtain ⟨hlen, ys, n', hyl, one⟩ := structE_fields Try.underlying27 (by kernel_rfl) h
  have h5 : Try.prog.cellsOf 27 = 4 := by kernel_rfl
  rw [h5] at hlen
  obtain ⟨c0, c1, c2, c3, rfl⟩ := listOf4 hlen
  have hyl2 : ys.length = 4 := hyl
  obtain ⟨z0, z1, z2, z3, rfl⟩ := listOf4 hyl2
  have g0 : DataW.trod enc Try.prog w 0 (fun _ => true) true n' 3 [c0] = some z0 := one 0 _ rfl
  have g1 : DataW.trod enc Try.prog w 0 (fun _ => true) true n' 3 [c1] = some z1 := one 1 _ rfl
  have g2 : DataW.trod enc Try.prog w 0 (fun _ => true) true n' 3 [c2] = some z2 := one 2 _ rfl
  have g3 : DataW.trod enc Try.prog w 0 (fun _ => true) true n' 3 [c3] = some z3 := one 3 _ rfl
  obtain ⟨x0, e0, -, -⟩ := DataW.trod_int Try.underlying3 g0
  obtain ⟨x1, e1, -, w1⟩ := DataW.trod_int Try.underlying3 g1
  obtain ⟨x2, e2, -, w2⟩ := DataW.trod_int Try.underlying3 g2
  obtain ⟨x3, e3, -, -⟩ := DataW.trod_int Try.underlying3 g3
  simp only [List.cons.injEq, and_true] at e0 e1 e2 e3
  subst e0 e1 e2 e3
  exact ⟨⟨x0, x1, x2, x3⟩, rfl, rfl, rfl, rfl, (wf64 w1).2, (wf64 w2).2, (wf64 w1).1⟩
set_option maxRecDepth 100000 in
theorem open_ops23 {H : Type} {enc : TypeId × Value → H} {w : World} {b0 : Nat} {d0 : DataW H} {p0 : List MemPlace} {v0 : Value} (ok0 : Value.okWide Try.prog w .any b0 22 v0) (k0 : DataW.Trod enc Try.prog w 0 (fun _ => true) true 22 v0 d0 p0) : ∃ L, SlE OpSE 4 w v0 L :=
  open_slE opSKept Try.underlying22 (by kernel_rfl) elem_op23 ok0 k0
theorem SlE.opS {w wr : World} {a : Option Addr} {n c : Nat} {L : List OpS} (h : SlE OpSE 4 w (.slice a n c) L) (hb : Below w.heap.size w wr) {k : Nat} {o : OpS} (hp : L[k]? = some o) :
    ∃ b off, a = some ⟨b, off, none⟩ ∧ wr.cell? ⟨b, off + k * 4, none⟩ = some (.int .i64 o.k) ∧ wr.cell? ⟨b, off + k * 4 + 1, none⟩ = some (.int .i64 o.h) ∧ wr.cell? ⟨b, off + k * 4 + 2, none⟩ = some (.int .i64 o.t) ∧ wr.cell? ⟨b, off + k * 4 + 3, none⟩ = some (.int .i64 o.p) ∧ o.h ≤ 9223372036854775807 ∧ o.t ≤ 9223372036854775807 ∧ -9223372036854775808 ≤ o.h := by
  obtain ⟨a', c', e', -, -, -, hrows⟩ := h
  simp only [Value.slice.injEq] at e'
  obtain ⟨rfl, -, rfl⟩ := e'
  obtain ⟨b, off, rfl, hbs, h0, h1, h2, h3, h4⟩ := hrows k o hp
  have hc : ∀ j, wr.cell? ⟨b, j, none⟩ = w.cell? ⟨b, j, none⟩ := fun j => World.cell?_of_block (hb.block b hbs)
  exact ⟨b, off, rfl, by rw [hc]; exact h0, by rw [hc]; exact h1, by rw [hc]; exact h2, by rw [hc]; exact h3, h4⟩
/-! what the calls do to the sum of the tills -/
theorem sum_open {X : StX} (hi : XInv X) (k : Int) : sumT (openX X k).1.tills = sumT X.tills := by
  unfold openX
  split
  · rfl
  · split
    · rfl
    · show sumT (insK kT X.tills (k, 0)) = _
      rw [sumT_ins]; simp
theorem sum_put (X : StX) (k t p : Int) : sumT (putX X k t p).tills = sumT X.tills := by unfold putX; split <;> rfl
theorem sum_take (X : StX) (t : Int) : sumT (if takeE X t = 0 then takeX X t else X).tills = sumT X.tills := by split <;> rfl
theorem sum_sell {X : StX} (hi : XInv X) (t : Int) : ((sellX X t).2.2.2 ≠ 0 ∧ (sellX X t).1 = X) ∨ ((sellX X t).2.2.2 = 0 ∧ 1 ≤ (sellX X t).2.2.1 ∧ (sellX X t).2.2.1 ≤ 1099511627776 ∧ sumT (sellX X t).1.tills = sumT X.tills + (sellX X t).2.2.1) := by
  cases hf : fdX X.goods t with
  | none =>
    have e : sellX X t = (X, 0, 0, 14) := by unfold sellX; rw [hf]
    rw [e]; exact .inl ⟨by simp, rfl⟩
  | some g =>
    have hm := ((fdX_some hi.g1).1 hf).1
    have hg := hi.g2 _ hm
    by_cases hb : 1099511627776 < tillX X g.1 + g.2.2
    · have e : sellX X t = (X, 0, 0, 15) := by unfold sellX; rw [hf]; simp only; rw [if_pos hb]
      rw [e]; exact .inl ⟨by simp, rfl⟩
    · have e : sellX X t = (setX (takeX X t) g.1 (tillX X g.1 + g.2.2), g.1, g.2.2, 0) := by unfold sellX; rw [hf]; simp only; rw [if_neg hb]
      rw [e]
      refine .inr ⟨rfl, hg.2.2.2.1, hg.2.2.2.2, ?_⟩
      show sumT (setT X.tills g.1 (tillX X g.1 + g.2.2)) = sumT X.tills + g.2.2
      cases hl : X.tills.lookup g.1 with
      | none => rw [hl] at hg; simp at hg
      | some o =>
        rw [sumT_set hi.nodup hl]
        have : tillX X g.1 = o := by unfold tillX; rw [hl]; rfl
        rw [this]; omega
theorem sum_collect {X : StX} (hi : XInv X) (k : Int) : (tillE X k = 14 ∧ sumT (setX X k 0).tills = sumT X.tills) ∨ (tillE X k = 0 ∧ 0 ≤ tillX X k ∧ sumT (setX X k 0).tills = sumT X.tills - tillX X k) := by
  cases hl : X.tills.lookup k with
  | none =>
    refine .inl ⟨by unfold tillE; rw [hl]; rfl, ?_⟩
    show sumT (setT X.tills k 0) = _
    have : setT X.tills k 0 = X.tills := by
      unfold setT
      conv => rhs; rw [← List.map_id X.tills]
      apply List.map_congr_left
      intro p hp
      rw [if_neg (lookup_none_iff.1 hl p hp)]; rfl
    rw [this]
  | some g =>
    have e : tillX X k = g := by unfold tillX; rw [hl]; rfl
    refine .inr ⟨by unfold tillE; rw [hl]; rfl, tillX_nonneg hi k, ?_⟩
    show sumT (setT X.tills k 0) = _
    rw [sumT_set hi.nodup hl, e]; omega
theorem sumT_nonneg {X : StX} (hi : XInv X) : 0 ≤ sumT X.tills := by
  have : ∀ T : List (Int × Int), (∀ p ∈ T, 0 ≤ p.2) → 0 ≤ sumT T := by
    intro T
    induction T with
    | nil => intro _; simp [sumT]
    | cons p T ih =>
      intro h
      have h1 := h p (by simp)
      have h2 := ih (fun q hq => h q (by simp [hq]))
      have e : sumT (p :: T) = p.2 + sumT T := by simp [sumT]
      rw [e]; omega
  exact this _ (fun p hp => (hi.t2 p hp).2.2.1)
def TillsR (w : World) (s : Nat) (n : Nat) (v4 v5 v30 : Value) (wr : World) : Prop :=
  ∃ (j : Nat) (X : StX) (F : Nat → Prop) (inn out : Int), v4 = .int .i64 inn ∧ v5 = .int .i64 out ∧ v30 = .int .i64 (j : Int) ∧ j ≤ n ∧ 0 ≤ out ∧ out ≤ inn ∧ inn ≤ (j : Int) * 1099511627776 ∧ Hid (StallIs wr s F X) ∧ Hid (sumT X.tills = inn - out) ∧ Hid (Below w.heap.size w wr ∧ ∀ k, F k → w.heap.size ≤ k)
set_option maxRecDepth 100000 in
set_option maxHeartbeats 8000000 in
theorem law23_Tills (L : List OpS) (a : Option Addr) (c : Nat) (w : World) (hl : SlE OpSE 4 w (.slice a L.length c) L) (h80 : L.length ≤ 80) :
    Calls Try.prog 3 #[.slice a L.length c] w fun e w' => e = .returned (.bool true) ∧ Below w.heap.size w w' := by
  have HL := hid hl
  have i2 : ¬ (80 : Int) < (L.length : Int) := by omega
  clear hl
  go_enter Try.func3, Try.ntmps3
  go_wp2_with fail
  refine (stall_New w).mono ?_
  rintro e w1 ⟨s, rfl, h1, hb1⟩
  have H1 := hid h1
  have HB1 : Hid (Below w.heap.size w w1 ∧ ∀ k, w.heap.size ≤ k → w.heap.size ≤ k) := hid ⟨hb1, fun _ q => q⟩
  clear h1 hb1
  go_wp2_with fail
  go_loopw [4, 5, 30] (fun v4 v5 v30 wr => TillsR w s L.length v4 v5 v30 wr) (fun _ _ v30 _ => L.length - (intOf v30).toNat)
  case atStart => exact ⟨0, _, _, 0, 0, rfl, rfl, rfl, by omega, by omega, by omega, by omega, H1, hid rfl, HB1⟩
  case round =>
    clear H1 HB1
    obtain ⟨j, X, F, inn, out, rfl, rfl, rfl, hj, ho0, hoi, hin, HS, HSUM, HB⟩ := hrel
    have hinb : inn ≤ 87960930222080 := by omega
    by_cases hlt : j < L.length
    · have j1 : (j : Int) < (L.length : Int) := by omega
      have j0 : (0 : Int) ≤ (j : Int) := by omega
      obtain ⟨o, hp⟩ : ∃ o, L[j]? = some o := ⟨_, List.getElem?_eq_getElem hlt⟩
      obtain ⟨bo, off, rfl, q0, q1, q2, q3, hh63, ht63, -⟩ := HL.out.opS HB.out.1 hp
      obtain ⟨ok, oh, ot, op⟩ := o
      simp only at q0 q1 q2 q3 hh63 ht63
      clear hp
      go_upto_region 8 with fail
      obtain ⟨w5, hw5⟩ : ∃ w5, w5 = wr.alloc (.cells #[.int .i64 ok, .int .i64 oh, .int .i64 ot, .int .i64 op] 27) := ⟨_, rfl⟩
      rw [← hw5]
      have hb5 : Below wr.heap.size wr w5 := by rw [hw5]; exact Below.new _ _
      obtain ⟨bb, hbb⟩ : ∃ bb, bb = wr.heap.size := ⟨_, rfl⟩
      have HX5 : Hid (Blk w5 bb #[.int .i64 ok, .int .i64 oh, .int .i64 ot, .int .i64 op]) := hid (by rw [hw5, hbb]; exact Blk.new _ _ _)
      have cx0 : w5.cell? ⟨bb, 0, none⟩ = some (.int .i64 ok) := by rw [HX5.out.cell]; rfl
      have cx1 : w5.cell? ⟨bb, 1, none⟩ = some (.int .i64 oh) := by rw [HX5.out.cell]; rfl
      have cx2 : w5.cell? ⟨bb, 2, none⟩ = some (.int .i64 ot) := by rw [HX5.out.cell]; rfl
      have cx3 : w5.cell? ⟨bb, 3, none⟩ = some (.int .i64 op) := by rw [HX5.out.cell]; rfl
      have HS5 := hid (HS.out.below hb5)
      have HB5 : Hid (Below w.heap.size w w5 ∧ ∀ k, F k → w.heap.size ≤ k) := hid ⟨Below.next HB.out.1 hb5, HB.out.2⟩
      have HH := hid (And.intro hh63 ht63)
      rw [← hbb]
      clear hw5 hb5 hbb q0 q1 q2 q3 HS HB
      by_cases e1 : ok = 1
      · subst e1
        go_wp2_with fail
        refine (stall_Open w5 HS5.out oh HH.out.1).mono ?_
        intro e w6 hq
        have HB6 := hid (hq.far HB5.out.1 HB5.out.2)
        obtain ⟨rfl, h6, -⟩ := hq
        have HSUM6 := hid (show sumT _ = inn - out from (sum_open HS5.out.inv oh).trans HSUM.out)
        have HS6 := hid h6
        clear h6 cx0 cx1 cx2 cx3
        go_wp2_with fail
        refine (stall_Total w6 HS6.out (inn - out) (hid HSUM6.out) (by omega)).mono ?_
        rintro e w7 ⟨rfl, hb7⟩
        have HS7 := hid (HS6.out.below hb7)
        have HB7 := hid (And.intro (Below.next HB6.out.1 hb7) HB6.out.2)
        clear hb7
        go_wp2_with fail
        go_roundw
        case rel => exact ⟨j + 1, _, _, inn, out, rfl, rfl, by go_num, by omega, by omega, by omega, by omega, HS7, hid HSUM6.out, HB7⟩
        case measure => simp [intOf]; omega
      by_cases e2 : ok = 2
      · subst e2
        go_wp2_with fail
        refine (stall_Put w5 HS5.out oh ot op HH.out.2).mono ?_
        intro e w6 hq
        have HB6 := hid (hq.far HB5.out.1 HB5.out.2)
        obtain ⟨rfl, h6, -⟩ := hq
        have HSUM6 := hid (show sumT _ = inn - out from (sum_put X oh ot op).trans HSUM.out)
        have HS6 := hid h6
        clear h6 cx0 cx1 cx2 cx3
        go_wp2_with fail
        refine (stall_Total w6 HS6.out (inn - out) (hid HSUM6.out) (by omega)).mono ?_
        rintro e w7 ⟨rfl, hb7⟩
        have HS7 := hid (HS6.out.below hb7)
        have HB7 := hid (And.intro (Below.next HB6.out.1 hb7) HB6.out.2)
        clear hb7
        go_wp2_with fail
        go_roundw
        case rel => exact ⟨j + 1, _, _, inn, out, rfl, rfl, by go_num, by omega, by omega, by omega, by omega, HS7, hid HSUM6.out, HB7⟩
        case measure => simp [intOf]; omega
      by_cases e3 : ok = 3
      · subst e3
        go_wp2_with fail
        refine (stall_Take w5 HS5.out ot).mono ?_
        intro e w6 hq
        have HB6 := hid (hq.far HB5.out.1 HB5.out.2)
        obtain ⟨rfl, h6, -⟩ := hq
        have HSUM6 := hid (show sumT _ = inn - out from (sum_take X ot).trans HSUM.out)
        have HS6 := hid h6
        clear h6 cx0 cx1 cx2 cx3
        go_wp2_with fail
        refine (stall_Total w6 HS6.out (inn - out) (hid HSUM6.out) (by omega)).mono ?_
        rintro e w7 ⟨rfl, hb7⟩
        have HS7 := hid (HS6.out.below hb7)
        have HB7 := hid (And.intro (Below.next HB6.out.1 hb7) HB6.out.2)
        clear hb7
        go_wp2_with fail
        go_roundw
        case rel => exact ⟨j + 1, _, _, inn, out, rfl, rfl, by go_num, by omega, by omega, by omega, by omega, HS7, hid HSUM6.out, HB7⟩
        case measure => simp [intOf]; omega
      by_cases e4 : ok = 4
      · subst e4
        obtain ⟨q, hq⟩ : ∃ q, sellX X ot = q := ⟨_, rfl⟩
        have hss := sum_sell HS5.out.inv ot
        rw [hq] at hss
        have HQ := hid hq
        obtain ⟨X6, hs6, pr, E⟩ := q
        simp only at hss
        clear hq
        go_wp2_with fail
        refine (stall_Sell w5 HS5.out ot).mono ?_
        intro e w6 hq
        rw [HQ.out] at hq
        unfold sellV at hq
        dsimp only at hq
        have HB6 := hid (hq.far HB5.out.1 HB5.out.2)
        obtain ⟨rfl, h6, -⟩ := hq
        have HS6 := hid h6
        clear h6 cx0 cx1 cx2 cx3
        rcases hss with ⟨z1, rfl⟩ | ⟨rfl, z2, z3, z4⟩
        · have z5 : (E == 0) = false := by simpa using z1
          clear z1
          go_wp2_with fail
          refine (stall_Total w6 HS6.out (inn - out) (hid HSUM.out) (by omega)).mono ?_
          rintro e w7 ⟨rfl, hb7⟩
          have HS7 := hid (HS6.out.below hb7)
          have HB7 := hid (And.intro (Below.next HB6.out.1 hb7) HB6.out.2)
          clear hb7
          go_wp2_with fail
          go_roundw
          case rel => exact ⟨j + 1, _, _, inn, out, rfl, rfl, by go_num, by omega, by omega, by omega, by omega, HS7, hid HSUM.out, HB7⟩
          case measure => simp [intOf]; omega
        · have HSUM6 := hid (show sumT _ = inn + pr - out by rw [z4, HSUM.out]; omega)
          clear z4
          go_wp2_with fail
          refine (stall_Total w6 HS6.out ((inn + pr) - out) (hid HSUM6.out) (by omega)).mono ?_
          rintro e w7 ⟨rfl, hb7⟩
          have HS7 := hid (HS6.out.below hb7)
          have HB7 := hid (And.intro (Below.next HB6.out.1 hb7) HB6.out.2)
          clear hb7
          go_wp2_with fail
          go_roundw
          case rel => exact ⟨j + 1, _, _, (inn + pr), out, rfl, rfl, by go_num, by omega, by omega, by omega, by omega, HS7, hid HSUM6.out, HB7⟩
          case measure => simp [intOf]; omega
      by_cases e5 : ok = 5
      · subst e5
        have hss := sum_collect HS5.out.inv oh
        obtain ⟨E, hE⟩ : ∃ E, tillE X oh = E := ⟨_, rfl⟩
        obtain ⟨n, hn⟩ : ∃ n, tillX X oh = n := ⟨_, rfl⟩
        rw [hE, hn] at hss
        have HE := hid hE
        have HN := hid hn
        clear hE hn
        go_wp2_with fail
        refine (stall_Collect w5 HS5.out oh).mono ?_
        intro e w6 hq
        rw [HE.out, HN.out] at hq
        have HB6 := hid (hq.far HB5.out.1 HB5.out.2)
        obtain ⟨rfl, h6, -⟩ := hq
        have HS6 := hid h6
        clear h6 cx0 cx1 cx2 cx3
        rcases hss with ⟨rfl, z1⟩ | ⟨rfl, z0, z1⟩
        · have HSUM6 := hid (show sumT _ = inn - out from z1.trans HSUM.out)
          clear z1
          go_wp2_with fail
          refine (stall_Total w6 HS6.out (inn - out) (hid HSUM6.out) (by omega)).mono ?_
          rintro e w7 ⟨rfl, hb7⟩
          have HS7 := hid (HS6.out.below hb7)
          have HB7 := hid (And.intro (Below.next HB6.out.1 hb7) HB6.out.2)
          clear hb7
          go_wp2_with fail
          go_roundw
          case rel => exact ⟨j + 1, _, _, inn, out, rfl, rfl, by go_num, by omega, by omega, by omega, by omega, HS7, hid HSUM6.out, HB7⟩
          case measure => simp [intOf]; omega
        · have HSUM6 := hid (show sumT _ = inn - (out + n) by rw [z1, HSUM.out]; omega)
          have z2 : out + n ≤ inn := by have h1 := sumT_nonneg HS6.out.inv; have h2 := HSUM6.out; omega
          clear z1
          go_wp2_with fail
          refine (stall_Total w6 HS6.out (inn - (out + n)) (hid HSUM6.out) (by omega)).mono ?_
          rintro e w7 ⟨rfl, hb7⟩
          have HS7 := hid (HS6.out.below hb7)
          have HB7 := hid (And.intro (Below.next HB6.out.1 hb7) HB6.out.2)
          clear hb7
          go_wp2_with fail
          go_roundw
          case rel => exact ⟨j + 1, _, _, inn, (out + n), rfl, rfl, by go_num, by omega, by omega, by omega, by omega, HS7, hid HSUM6.out, HB7⟩
          case measure => simp [intOf]; omega
      by_cases e6 : ok = 6
      · subst e6
        cases ht : X.tills.lookup oh with
        | none =>
          have HT := hid ht
          clear ht
          go_wp2_with fail
          refine (stall_Close w5 HS5.out oh).mono ?_
          intro e w6 hc
          unfold ClosePost at hc
          rw [HT.out] at hc
          have hq : StPost w5 s F X (.tuple #[.agg #[.int .i64 0, .int .i64 0, .slice none 0 0], .int .i64 14]) e w6 := hc
          clear hc
          have HB6' := hid (hq.far HB5.out.1 HB5.out.2)
          obtain ⟨rfl, h6, -⟩ := hq
          have HS6' := hid h6
          clear h6 cx0 cx1 cx2 cx3
          go_upto_region 25 with fail
          generalize hw8 : World.alloc w6 _ = w8
          have hb8 : Below w6.heap.size w6 w8 := by rw [← hw8]; exact Below.new _ _
          have HS6 := hid (HS6'.out.below hb8)
          have HB6 := hid (And.intro (Below.next HB6'.out.1 hb8) HB6'.out.2)
          clear hw8 hb8
          go_wp2_with fail
          refine (stall_Total w8 HS6.out (inn - out) (hid HSUM.out) (by omega)).mono ?_
          rintro e w7 ⟨rfl, hb7⟩
          have HS7 := hid (HS6.out.below hb7)
          have HB7 := hid (And.intro (Below.next HB6.out.1 hb7) HB6.out.2)
          clear hb7
          go_wp2_with fail
          go_roundw
          case rel => exact ⟨j + 1, _, _, inn, out, rfl, rfl, by go_num, by omega, by omega, by omega, by omega, HS7, hid HSUM.out, HB7⟩
          case measure => simp [intOf]; omega
        | some g =>
          have HT := hid ht
          have hsd : sumT (closeX X oh).tills = sumT X.tills - g := sumT_del HS5.out.inv.nodup ht
          have HSD := hid hsd
          have hg0 : 0 ≤ g := (HS5.out.inv.t2 _ (lookup_mem ht)).2.2.1
          clear ht hsd
          go_wp2_with fail
          refine (stall_Close w5 HS5.out oh).mono ?_
          intro e w6 hc
          unfold ClosePost at hc
          rw [HT.out] at hc
          obtain ⟨v, hq, hsl⟩ := hc
          obtain ⟨av, cv, rfl, -⟩ := hsl
          have HB6' := hid (hq.far HB5.out.1 HB5.out.2)
          obtain ⟨rfl, h6, -⟩ := hq
          have HS6' := hid h6
          clear h6 cx0 cx1 cx2 cx3
          go_upto_region 25 with fail
          generalize hw8 : World.alloc w6 _ = w8
          obtain ⟨b8, hb8e⟩ : ∃ b, b = w6.heap.size := ⟨_, rfl⟩
          rw [← hb8e]
          have hb8 : Below w6.heap.size w6 w8 := by rw [← hw8]; exact Below.new _ _
          have HK8 : Hid (Blk w8 b8 #[.int .i64 oh, .int .i64 g, .slice av (ofX X.goods oh).length cv]) := hid (by rw [← hw8, hb8e]; exact Blk.new w6 _ _)
          have k1 : w8.cell? ⟨b8, 1, none⟩ = some (.int .i64 g) := by rw [HK8.out.cell]; rfl
          have HS6 := hid (HS6'.out.below hb8)
          have HB6 := hid (And.intro (Below.next HB6'.out.1 hb8) HB6'.out.2)
          have HSUM6 := hid (show sumT (closeX X oh).tills = inn - (out + g) by rw [HSD.out, HSUM.out]; omega)
          have z2 : out + g ≤ inn := by have h1 := sumT_nonneg HS6.out.inv; have h2 := HSUM6.out; omega
          clear hw8 hb8 hb8e
          go_wp2_with fail
          refine (stall_Total w8 HS6.out (inn - (out + g)) (hid HSUM6.out) (by omega)).mono ?_
          rintro e w7 ⟨rfl, hb7⟩
          have HS7 := hid (HS6.out.below hb7)
          have HB7 := hid (And.intro (Below.next HB6.out.1 hb7) HB6.out.2)
          clear hb7
          go_wp2_with fail
          go_roundw
          case rel => exact ⟨j + 1, _, _, inn, (out + g), rfl, rfl, by go_num, by omega, by omega, by omega, by omega, HS7, hid HSUM6.out, HB7⟩
          case measure => simp [intOf]; omega
      have f1 : (ok == 1) = false := by simpa using e1
      have f2 : (ok == 2) = false := by simpa using e2
      have f3 : (ok == 3) = false := by simpa using e3
      have f4 : (ok == 4) = false := by simpa using e4
      have f5 : (ok == 5) = false := by simpa using e5
      have f6 : (ok == 6) = false := by simpa using e6
      have HS6 := HS5
      have HB6 := HB5
      clear e1 e2 e3 e4 e5 e6
      go_wp2_with fail
      refine (stall_Total w5 HS6.out (inn - out) (hid HSUM.out) (by omega)).mono ?_
      rintro e w7 ⟨rfl, hb7⟩
      have HS7 := hid (HS6.out.below hb7)
      have HB7 := hid (And.intro (Below.next HB6.out.1 hb7) HB6.out.2)
      clear hb7
      go_wp2_with fail
      go_roundw
      case rel => exact ⟨j + 1, _, _, inn, out, rfl, rfl, by go_num, by omega, by omega, by omega, by omega, HS7, hid HSUM.out, HB7⟩
      case measure => simp [intOf]; omega
    · have j1 : ¬ (j : Int) < (L.length : Int) := by omega
      go_wp2_with fail
      refine (law23_awake wr).mono ?_
      rintro e w7 ⟨rfl, hb7⟩
      have HB7 := hid (Below.next HB.out.1 hb7)
      clear hb7
      go_wp2_with fail
      go_ret
      exact ⟨rfl, HB7.out⟩
set_option maxRecDepth 100000 in
set_option maxHeartbeats 1000000 in
theorem StallTills_walk {H : Type} {enc : TypeId × Value → H} {b0 : Nat} {d0 : DataW H} {p0 : List MemPlace} (v0 : Value) (w : World) (ok0 : Value.okWide Try.prog w .any b0 22 v0) (k0 : DataW.Trod enc Try.prog w 0 (fun _ => true) true 22 v0 d0 p0) :
    Calls Try.prog 3 #[v0] w fun e w' => e = .returned (.bool true) ∧ Below w.heap.size w w' := by
  obtain ⟨L, hl⟩ := open_ops23 ok0 k0
  have HL := hid hl
  obtain ⟨a, c, rfl, h1, h2, -⟩ := hl
  clear ok0 k0
  have h63 : L.length ≤ 9223372036854775807 := by omega
  clear h1 h2
  by_cases h80 : L.length ≤ 80
  · exact law23_Tills L a c w HL.out h80
  · have i2 : (80 : Int) < (L.length : Int) := by omega
    clear h80
    go_enter Try.func3, Try.ntmps3
    go_wp2_with fail
    refine (stall_New w).mono ?_
    rintro e w1 ⟨s, rfl, h1, hb1⟩
    have HB1 := hid hb1
    clear h1 hb1
    go_wp2_with fail
    refine (law23_awake w1).mono ?_
    rintro e w7 ⟨rfl, hb7⟩
    have HB7 := hid (Below.next HB1.out hb7)
    clear hb7
    go_wp2_with fail
    go_ret
    exact ⟨rfl, HB7.out⟩
end Go.Proofs.Ytajfjgekcjkedaa
end
