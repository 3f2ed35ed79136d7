/- Joined texts, in this order: StallOps. Each one's first remark says what it proves; no condition beyond those that its theorems name. -/
import Derived.Test.YtajfjgekcjkedaaJLawStallCopies08
section
/- Contracts of the package stall: Open, find, Price, Take, Put, Sell, Collect, Goods. -/
namespace Go.Proofs.Ytajfjgekcjkedaa
open Go.RowKit
open Go.Lib (hid)
set_option linter.unusedVariables false

/-- behind a call that turns the stalls -/
def StPost (w : World) (s : Nat) (F : Nat → Prop) (X' : StX) (r : Value) (e : Ending) (w' : World) : Prop :=
  e = .returned r ∧ StallIs w' s (fun k => F k ∨ w.heap.size ≤ k) X' ∧ Upd F w w'
theorem StPost.below {w w' : World} {s : Nat} {F : Nat → Prop} {X : StX} {r : Value} (h : StallIs w s F X) (hb : Below w.heap.size w w') : StPost w s F X r (.returned r) w' :=
  ⟨rfl, (h.below hb).weaken (fun _ q _ => .inl q), Upd.of_below hb⟩
theorem StPost.same {w : World} {s : Nat} {F : Nat → Prop} {X : StX} {r : Value} (h : StallIs w s F X) : StPost w s F X r (.returned r) w := StPost.below h (Below.refl _ _)
theorem openX_lt {X : StX} {k : Int} (h : k < 1) : openX X k = (X, 10) := by unfold openX; rw [if_pos h]
theorem openX_has {X : StX} {k : Int} (h : ¬ k < 1) (h2 : (X.tills.lookup k).isSome = true) : openX X k = (X, 13) := by unfold openX; rw [if_neg h, if_pos h2]
theorem openX_new {X : StX} {k : Int} (h : ¬ k < 1) (h2 : X.tills.lookup k = none) : openX X k = (⟨insK kT X.tills (k, 0), X.goods⟩, 0) := by unfold openX; rw [if_neg h, h2]; rfl
theorem stall_Open {s : Nat} {F : Nat → Prop} {X : StX} (w : World) (h : StallIs w s F X) (k : Int) (hk : k ≤ 9223372036854775807) :
    Calls Try.prog 9 #[.pointer (some ⟨s, 0, none⟩), .int .i64 k] w (StPost w s F (openX X k).1 (.int .i64 (openX X k).2)) := by
  have H := hid h
  by_cases h1 : k < 1
  · rw [openX_lt h1]
    clear h
    go_enter Try.func9, Try.ntmps9
    go_wp2_with fail
    go_ret
    exact StPost.same H.out
  cases ht : X.tills.lookup k with
  | some g =>
    have hs : (X.tills.lookup k).isSome = true := by rw [ht]; rfl
    rw [openX_has h1 hs]
    have HB := hid hs
    clear h ht hs
    go_enter Try.func9, Try.ntmps9
    go_wp2_with fail
    refine (stall_Has w H.out k true HB).mono ?_
    rintro e w1 ⟨rfl, rfl⟩
    go_wp2_with fail
    go_ret
    exact StPost.same H.out
  | none =>
    rw [openX_new h1 ht]
    have HB := hid (show (X.tills.lookup k).isSome = false by rw [ht]; rfl)
    have HT := hid ht
    have hi := h.inv
    have HI := hid hi
    obtain ⟨b1, b2, R, A, hp, hr, -⟩ := h
    obtain ⟨c0, -⟩ := hp.cells
    have HP := hid hp
    have HR := hid hr
    have HNO := hid (hp.no hr ht)
    obtain ⟨p, hpp⟩ : ∃ p, p = w.heap.size := ⟨_, rfl⟩
    have HPP := hid hpp
    obtain ⟨w2, hw2⟩ : ∃ w2, w2 = w.alloc (.cells #[.int .i64 k, .int .i64 0, .slice none 0 0] 37) := ⟨_, rfl⟩
    have hb2 : Below w.heap.size w w2 := by rw [hw2]; exact Below.new _ _
    have HK2 : Hid (Blk w2 p #[.int .i64 k, .int .i64 0, .slice none 0 0]) := hid (by rw [hw2, hpp]; exact Blk.new _ _ _)
    have HM2 := hid (hp.m1.below hb2)
    have HB2 := hid hb2
    have HW2 := hid hw2
    have HZ := hid (show w2.heap.size = w.heap.size + 1 by rw [hw2]; simp)
    clear hi hp hr ht hpp hw2 hb2
    go_enter Try.func9, Try.ntmps9
    go_wp2_with fail
    refine (stall_Has w H.out k false HB).mono ?_
    rintro e w1 ⟨rfl, rfl⟩
    go_wp2_with (with_reducible refine wpList_putE _ rfl (.tmp 15) (.tmp 16) (.tmp 19) rfl Try.underlying64 Try.underlying3 rfl (by first | exact HM2.out | (rw [← HW2.out]; exact HM2.out)) k rfl (.pointer (some ⟨w.heap.size, 0, none⟩)) rfl ?_; intro w3 hm3 hu3 hz3)
    have HQ : Hid (StPost w s F ⟨insK kT X.tills (k, 0), X.goods⟩ (.int .i64 0) (.returned (.int .i64 0)) w3) := hid (by
      rw [← HW2.out] at hu3 hz3
      rw [← HPP.out] at hm3
      have hput : aput (R.map RowG.ptr) k (.pointer (some ⟨p, 0, none⟩)) = (R ++ [(⟨k, p, .slice none 0 0, 0, []⟩ : RowG)]).map RowG.ptr := by
        unfold aput
        rw [HNO.out, List.map_append]; rfl
      rw [hput] at hm3
      have hP2 := HP.out.below HB2.out
      have hpl : p ≠ b1 := fun e => by have := HP.out.m1.lt; have := HPP.out; omega
      have hrow : RowAt w3 (⟨k, p, .slice none 0 0, 0, []⟩ : RowG) := ⟨HK2.out.upd hu3 hpl, World.ownsRow_nil _ _ _ _, by simp [Value.ownBlock]⟩
      -- the new block lies above the old world: take the row as made there
      have hu : Upd (fun j => j = b1) w w3 := (Upd.of_below (S := fun j => j = b1) HB2.out).trans hu3 (fun _ _ q => q)
      have hM := HP.out.more hu hm3 hrow (fun j hj => by
        rcases hj with e | e
        · have := HPP.out; have e' : j = p := e; omega
        · simp [Value.ownBlock] at e)
      refine ⟨rfl, ⟨b1, b2, _, A, hM, ?_, XInv.open HI.out (by omega) hk HT.out⟩, hu.mono (fun j _ q => by rw [q]; exact HP.out.f1)⟩
      rw [List.map_append]
      exact HR.out.open HI.out HT.out)
    clear hm3 hu3 hz3
    go_wp2
    go_ret
    exact HQ.out
def FindPost (w : World) (r : RowG) (i : Nat) (e : Ending) (w' : World) : Prop := e = .returned (.tuple #[.pointer (some ⟨r.p, 0, none⟩), .int .i64 (i : Int), .int .i64 0]) ∧ Below w.heap.size w w'
theorem OwnG.slp {w : World} {v : Value} {gs : List (Int × Int)} (h : OwnG w v gs) : SlP w v gs := SlP.of_own h
set_option maxRecDepth 100000 in
theorem stall_findYes {s : Nat} {F : Nat → Prop} {b1 b2 : Nat} {R R1 R2 : List RowG} {r : RowG} {A : List (Int × Int)} (w : World) (h : StParts w s F b1 b2 R A) (e : R = R1 ++ r :: R2) (t : Int) (hA : A.lookup t = some r.h) (hs : SortK (fun p : Int × Int => p.1) r.gs) (hl : r.gs.length ≤ 16) (i : Nat) (hi : Hid (posK (fun p : Int × Int => p.1) r.gs t = i)) :
    Calls Try.prog 34 #[.pointer (some ⟨s, 0, none⟩), .int .i64 t] w (FindPost w r i) := by
  obtain ⟨c0, c1⟩ := h.cells
  have HM1 := hid h.m1
  have HM2 := hid h.m2
  have hrow := h.row r (by rw [e]; simp)
  obtain ⟨-, -, d2⟩ := hrow.cells
  have HO := hid hrow.own.slp
  have H1 : Hid (((R.map RowG.ptr).lookup r.h).getD (.pointer none) = .pointer (some ⟨r.p, 0, none⟩)) := hid (by rw [h.look e]; rfl)
  have H2 : Hid (((atV A).lookup t).getD (.int .i64 0) = .int .i64 r.h) := hid (by rw [lookA, hA]; rfl)
  have H3 : Hid (((atV A).lookup t).isSome = true) := hid (by rw [lookA, hA]; rfl)
  have HS := hid hs
  obtain ⟨a, c, hv, -⟩ := ownsRow.rd hrow.own
  obtain ⟨h0, p, v, till, gs⟩ := r
  simp only at hv d2 HO H1 H2 HS hl hi
  subst hv
  clear h hrow hA hs e
  go_enter Try.func34, Try.ntmps34
  go_wp2_with (first | (at_lookup; refine wpList_look2 _ rfl _ _ rfl Try.underlying65 Try.underlying3 (.int .i64 0) zero_int23 rfl HM2.out t rfl _ H2 _ H3 ?_) | (at_lookup; refine wpList_look1 _ rfl _ _ rfl Try.underlying64 Try.underlying3 _ zero_rowp rfl HM1.out h0 rfl _ H1 ?_))
  refine (sl_Bsf gs _ (t, 0) w HO.out HS.out (by omega) i hi).mono ?_
  rintro e w1 ⟨u, rfl, hb⟩
  have HB := hid hb
  clear hb
  go_wp2_with fail
  go_ret3
  exact ⟨rfl, HB.out⟩
theorem stall_findNo {s : Nat} {F : Nat → Prop} {b1 b2 : Nat} {R : List RowG} {A : List (Int × Int)} (w : World) (h : StParts w s F b1 b2 R A) (t : Int) (hA : A.lookup t = none) :
    Calls Try.prog 34 #[.pointer (some ⟨s, 0, none⟩), .int .i64 t] w fun e w' => e = .returned (.tuple #[.pointer none, .int .i64 0, .int .i64 14]) ∧ w = w' := by
  obtain ⟨c0, c1⟩ := h.cells
  have HM2 := hid h.m2
  have H2 : Hid (((atV A).lookup t).getD (.int .i64 0) = .int .i64 0) := hid (by rw [lookA, hA]; rfl)
  have H3 : Hid (((atV A).lookup t).isSome = false) := hid (by rw [lookA, hA]; rfl)
  clear h hA
  go_enter Try.func34, Try.ntmps34
  go_wp2_with (at_lookup; refine wpList_look2 _ rfl _ _ rfl Try.underlying65 Try.underlying3 (.int .i64 0) zero_int23 rfl HM2.out t rfl _ H2 _ H3 ?_)
  go_ret3
  exact ⟨rfl, rfl⟩
/-- a thing that is a good: its row, and where it is there -/
theorem StParts.find {w : World} {s : Nat} {F : Nat → Prop} {b1 b2 : Nat} {R : List RowG} {A : List (Int × Int)} {X : StX} (h : StParts w s F b1 b2 R A) (hr : StRel (R.map RowG.core) A X) (hi : XInv X) {t k p : Int} (hf : fdX X.goods t = some (k, t, p)) :
    ∃ R1 r R2 i, R = R1 ++ r :: R2 ∧ r.h = k ∧ X.tills.lookup k = some r.till ∧ r.gs = ofX X.goods k ∧ A.lookup t = some k ∧ SortK (fun p : Int × Int => p.1) r.gs ∧ r.gs.length ≤ 16 ∧ posK (fun p : Int × Int => p.1) r.gs t = i ∧ r.gs[i]? = some (t, p) := by
  have hm := ((fdX_some hi.g1).1 hf).1
  have hsome := (hi.g2 _ hm).1
  simp only at hsome
  cases ht : X.tills.lookup k with
  | none => rw [ht] at hsome; simp at hsome
  | some g =>
    obtain ⟨R1, r, R2, e, h1, h2, h3⟩ := h.at hr ht
    have hs : SortK (fun p : Int × Int => p.1) r.gs := by rw [h3]; exact ofX_sorted hi.g1 k
    have hin : (t, p) ∈ r.gs := by rw [h3]; exact ofX_fst.2 hm
    refine ⟨R1, r, R2, _, e, h1, by rw [h2], h3, by rw [hr.r2, hf]; rfl, hs, by rw [h3]; exact hi.g3 k, rfl, posK_at (fun p : Int × Int => p.1) hs hin⟩
def priceE (X : StX) (t : Int) : Int × Int × Int := match fdX X.goods t with | none => (0, 0, 14) | some g => (g.1, g.2.2, 0)
def PricePost (w : World) (q : Int × Int × Int) (e : Ending) (w' : World) : Prop := e = .returned (.tuple #[.int .i64 q.1, .int .i64 q.2.1, .int .i64 q.2.2]) ∧ Below w.heap.size w w'
set_option maxRecDepth 100000 in
theorem stall_Price {s : Nat} {F : Nat → Prop} {X : StX} (w : World) (h : StallIs w s F X) (t : Int) :
    Calls Try.prog 24 #[.pointer (some ⟨s, 0, none⟩), .int .i64 t] w (PricePost w (priceE X t)) := by
  obtain ⟨b1, b2, R, A, hp, hr, hi⟩ := h
  have HP := hid hp
  cases hf : fdX X.goods t with
  | none =>
    have e1 : priceE X t = (0, 0, 14) := by unfold priceE; rw [hf]
    rw [e1]
    have HA := hid (show A.lookup t = none by rw [hr.r2, hf]; rfl)
    clear hp hr hi hf e1
    go_enter Try.func24, Try.ntmps24
    go_wp2_with fail
    refine (stall_findNo w HP.out t HA.out).mono ?_
    rintro e w1 ⟨rfl, rfl⟩
    go_wp2_with fail
    go_ret3
    exact ⟨rfl, Below.refl _ _⟩
  | some g =>
    have hgt := ((fdX_some hi.g1).1 hf).2
    obtain ⟨k, t', p⟩ := g
    simp only at hgt
    subst hgt
    have e1 : priceE X t' = (k, p, 0) := by unfold priceE; rw [hf]
    rw [e1]
    obtain ⟨R1, r, R2, i, e, rfl, -, -, hA, hs, hl, hpos, hat⟩ := hp.find hr hi hf
    have HRW := hid (hp.row r (by rw [e]; simp))
    have HF := hid (stall_findYes w hp e t' hA hs hl i (hid hpos))
    have hil : i < r.gs.length := (List.getElem?_eq_some_iff.1 hat).1
    have HAT := hid hat
    have HIL := hid hil
    clear hp hr hi hf e1 hA hs hpos hat e hil
    go_enter Try.func24, Try.ntmps24
    go_wp2_with fail
    refine HF.out.mono ?_
    rintro e w1 ⟨rfl, hb⟩
    have HB := hid hb
    have hrow := HRW.out.upd (S := fun _ => False) (Upd.of_below hb) (fun _ _ q => q)
    have HW1 := hid hrow
    obtain ⟨g0, c, cur, hv, hg, hnc, hc63, hcl, htk⟩ := hrow.own.form (by have := HIL.out; omega)
    have hat2 := pv_at r.gs i _ HAT.out
    have hc : w1.cell? ⟨g0, i * 2 + 1, none⟩ = some (.int .i64 p) := by
      have h1 := hat2.2
      have hlt : i * 2 + 1 < r.gs.length * 2 := by have := HIL.out; omega
      rw [← htk, List.getElem?_take, if_pos hlt] at h1
      simp [World.cell?, hg, h1]
    have e0 : ∀ y, Below w1.heap.size w1 y → y.cell? ⟨r.p, 0, none⟩ = some (.int .i64 r.h) := fun y hy => (HW1.out.upd (S := fun _ => False) (Upd.of_below hy) (fun _ _ q => q)).cells.1
    have e2 : ∀ y, Below w1.heap.size w1 y → y.cell? ⟨r.p, 2, none⟩ = some (.slice (some ⟨g0, 0, none⟩) r.gs.length c) := fun y hy => by rw [(HW1.out.upd (S := fun _ => False) (Upd.of_below hy) (fun _ _ q => q)).cells.2.2, hv]
    have e3 : ∀ y, Below w1.heap.size w1 y → y.cell? ⟨g0, i * 2 + 1, none⟩ = some (.int .i64 p) := fun y hy => by rw [← hc]; exact World.cell?_of_block (hy.block g0 (Array.getElem?_eq_some_iff.1 hg).1)
    have i1 : (i : Int) < (r.gs.length : Int) := by have := HIL.out; omega
    have i2 : ¬ (r.gs.length : Int) ≤ (i : Int) := by omega
    have i0 : (0 : Int) ≤ (i : Int) := by omega
    have i3 : ¬ (i : Int) < 0 := by omega
    have hyd := (Below.refl w1.heap.size w1).drew
    clear hb hrow hv hg hnc hc63 hcl htk hat2 hc
    go_upto_region 4 with fail
    refine wp_region_kept [14] (fun y => Below w1.heap.size w1 y) (by kernel_rfl) (by assumption) (fun hH => ?_)
    refine wpK.take (i := 0) (v := _) (by simp only [List.getElem?_toArray, List.getElem?_cons_succ, List.getElem?_cons_zero]; rfl) (by kernel_rfl) (by kernel_rfl) (by kernel_rfl) (by kernel_rfl) (by kernel_rfl) (by exact fun _ _ _ h => h) (by first | exact Or.inl ⟨by rfl, by intro w hSw; go_simp; try with_reducible rfl⟩ | exact Or.inr ⟨by rfl, rfl⟩) hH ?_
    try simp only [Act.put, List.setIfInBounds_toArray, List.set_cons_zero, List.set_cons_succ]
    refine wpK.take (i := 1) (v := _) (by simp only [List.getElem?_toArray, List.getElem?_cons_succ, List.getElem?_cons_zero]; rfl) (by kernel_rfl) (by kernel_rfl) (by kernel_rfl) (by kernel_rfl) (by kernel_rfl) (by exact fun _ _ _ h => h) (by first | exact Or.inl ⟨by rfl, by intro w hSw; go_simp; try with_reducible rfl⟩ | exact Or.inr ⟨by rfl, rfl⟩) hH ?_
    try simp only [Act.put, List.setIfInBounds_toArray, List.set_cons_zero, List.set_cons_succ]
    refine wpK.take (i := 2) (v := _) (by simp only [List.getElem?_toArray, List.getElem?_cons_succ, List.getElem?_cons_zero]; rfl) (by kernel_rfl) (by kernel_rfl) (by kernel_rfl) (by kernel_rfl) (by kernel_rfl) (by exact fun _ _ _ h => h) (by first | exact Or.inl ⟨by rfl, by intro w hSw; go_simp; try with_reducible rfl⟩ | exact Or.inr ⟨by rfl, rfl⟩) hH ?_
    try simp only [Act.put, List.setIfInBounds_toArray, List.set_cons_zero, List.set_cons_succ]
    refine wpK.take (i := 3) (v := _) (by simp only [List.getElem?_toArray, List.getElem?_cons_succ, List.getElem?_cons_zero]; rfl) (by kernel_rfl) (by kernel_rfl) (by kernel_rfl) (by kernel_rfl) (by kernel_rfl) (by exact fun _ _ _ h => h) (by first | exact Or.inl ⟨by rfl, by intro w hSw; go_simp; try with_reducible rfl⟩ | exact Or.inr ⟨by rfl, rfl⟩) hH ?_
    try simp only [Act.put, List.setIfInBounds_toArray, List.set_cons_zero, List.set_cons_succ]
    refine wpK.take (i := 4) (v := _) (by simp only [List.getElem?_toArray, List.getElem?_cons_succ, List.getElem?_cons_zero]; rfl) (by kernel_rfl) (by kernel_rfl) (by kernel_rfl) (by kernel_rfl) (by kernel_rfl) (by exact fun _ _ _ h => h) (by first | exact Or.inl ⟨by rfl, by intro w hSw; go_simp; try with_reducible rfl⟩ | exact Or.inr ⟨by rfl, rfl⟩) hH ?_
    try simp only [Act.put, List.setIfInBounds_toArray, List.set_cons_zero, List.set_cons_succ]
    refine wpK.take (i := 5) (v := _) (by simp only [List.getElem?_toArray, List.getElem?_cons_succ, List.getElem?_cons_zero]; rfl) (by kernel_rfl) (by kernel_rfl) (by kernel_rfl) (by kernel_rfl) (by kernel_rfl) (by exact fun _ _ _ h => h) (by first | exact Or.inl ⟨by rfl, by intro w hSw; go_simp; try with_reducible rfl⟩ | exact Or.inr ⟨by rfl, rfl⟩) hH ?_
    try simp only [Act.put, List.setIfInBounds_toArray, List.set_cons_zero, List.set_cons_succ]
    refine wpK.take (i := 6) (v := _) (by simp only [List.getElem?_toArray, List.getElem?_cons_succ, List.getElem?_cons_zero]; rfl) (by kernel_rfl) (by kernel_rfl) (by kernel_rfl) (by kernel_rfl) (by kernel_rfl) (by exact fun _ _ _ h => h) (by first | exact Or.inl ⟨by rfl, by intro w hSw; go_simp; try with_reducible rfl⟩ | exact Or.inr ⟨by rfl, rfl⟩) hH ?_
    try simp only [Act.put, List.setIfInBounds_toArray, List.set_cons_zero, List.set_cons_succ]
    refine wpK.take (i := 7) (v := _) (by simp only [List.getElem?_toArray, List.getElem?_cons_succ, List.getElem?_cons_zero]; rfl) (by kernel_rfl) (by kernel_rfl) (by kernel_rfl) (by kernel_rfl) (by kernel_rfl) (by exact fun _ _ _ h => h) (by first | exact Or.inl ⟨by rfl, by intro w hSw; go_simp; try with_reducible rfl⟩ | exact Or.inr ⟨by rfl, rfl⟩) hH ?_
    try simp only [Act.put, List.setIfInBounds_toArray, List.set_cons_zero, List.set_cons_succ]
    refine wpK.take (i := 8) (v := _) (by simp only [List.getElem?_toArray, List.getElem?_cons_succ, List.getElem?_cons_zero]; rfl) (by kernel_rfl) (by kernel_rfl) (by kernel_rfl) (by kernel_rfl) (by kernel_rfl) (by exact fun _ _ _ h => h) (by first | exact Or.inl ⟨by rfl, by intro w hSw; go_simp; try with_reducible rfl⟩ | exact Or.inr ⟨by rfl, rfl⟩) hH ?_
    try simp only [Act.put, List.setIfInBounds_toArray, List.set_cons_zero, List.set_cons_succ]
    refine wpK.take (i := 9) (v := _) (by simp only [List.getElem?_toArray, List.getElem?_cons_succ, List.getElem?_cons_zero]; rfl) (by kernel_rfl) (by kernel_rfl) (by kernel_rfl) (by kernel_rfl) (by kernel_rfl) (by exact fun _ _ _ h => h) (by first | exact Or.inl ⟨by rfl, by intro w hSw; go_simp; try with_reducible rfl⟩ | exact Or.inr ⟨by rfl, rfl⟩) hH ?_
    try simp only [Act.put, List.setIfInBounds_toArray, List.set_cons_zero, List.set_cons_succ]
    refine wpK.take (i := 10) (v := _) (by simp only [List.getElem?_toArray, List.getElem?_cons_succ, List.getElem?_cons_zero]; rfl) (by kernel_rfl) (by kernel_rfl) (by kernel_rfl) (by kernel_rfl) (by kernel_rfl) (by exact fun _ _ _ h => h) (by first | exact Or.inl ⟨by rfl, by intro w hSw; go_simp; try with_reducible rfl⟩ | exact Or.inr ⟨by rfl, rfl⟩) hH ?_
    try simp only [Act.put, List.setIfInBounds_toArray, List.set_cons_zero, List.set_cons_succ]
    refine wpK.take (i := 11) (v := _) (by simp only [List.getElem?_toArray, List.getElem?_cons_succ, List.getElem?_cons_zero]; rfl) (by kernel_rfl) (by kernel_rfl) (by kernel_rfl) (by kernel_rfl) (by kernel_rfl) (by exact fun _ _ _ h => h) (by first | exact Or.inl ⟨by rfl, by intro w hSw; go_simp; try with_reducible rfl⟩ | exact Or.inr ⟨by rfl, rfl⟩) hH ?_
    try simp only [Act.put, List.setIfInBounds_toArray, List.set_cons_zero, List.set_cons_succ]
    refine wpK.take (i := 12) (v := _) (by simp only [List.getElem?_toArray, List.getElem?_cons_succ, List.getElem?_cons_zero]; rfl) (by kernel_rfl) (by kernel_rfl) (by kernel_rfl) (by kernel_rfl) (by kernel_rfl) (by exact fun _ _ _ h => h) (by first | exact Or.inl ⟨by rfl, by intro w hSw; go_simp; try with_reducible rfl⟩ | exact Or.inr ⟨by rfl, rfl⟩) hH ?_
    try simp only [Act.put, List.setIfInBounds_toArray, List.set_cons_zero, List.set_cons_succ]
    refine wpK.take (i := 13) (v := _) (by simp only [List.getElem?_toArray, List.getElem?_cons_succ, List.getElem?_cons_zero]; rfl) (by kernel_rfl) (by kernel_rfl) (by kernel_rfl) (by kernel_rfl) (by kernel_rfl) (by exact fun _ _ _ h => h) (by first | exact Or.inl ⟨by rfl, by intro w hSw; go_simp; try with_reducible rfl⟩ | exact Or.inr ⟨by rfl, rfl⟩) hH ?_
    try simp only [Act.put, List.setIfInBounds_toArray, List.set_cons_zero, List.set_cons_succ]
    refine wpK.late (i := 14) (by kernel_rfl) (by simp only [List.getElem?_toArray, List.getElem?_cons_succ, List.getElem?_cons_zero]; rfl) (by kernel_rfl) (fun K hK => ?_)
    go_simp
    refine hK.out _ _ ?_
    clear hK K
    try simp only [Act.put, List.setIfInBounds_toArray, List.set_cons_zero, List.set_cons_succ]
    refine wpK.done (by kernel_rfl) ?_ _
    clear e0 e2 e3 hyd hH
    go_wp2_with fail
    go_ret3
    exact ⟨rfl, HB.out.drew⟩
end Go.Proofs.Ytajfjgekcjkedaa
end
