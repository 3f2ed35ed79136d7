/- Joined texts, in this order: RtPart2, RtFit. Each one's first remark says what it proves; no condition beyond those that its theorems name. -/
import Derived.Test.YtjbnfppnmljbmaaGreatJLawLandFinds05
section
/- Contract of rtree's part: the walk. -/
namespace Go.Proofs.YtjbnfppnmljbmaaGreat
open Go.RowKit
open Go.Lib (hid)
set_option linter.unusedVariables false

theorem slN_of {w : World} {a : Option Addr} {n c : Nat} {ks : List Nd} (h : ownP w (.slice a n c) ks) (hr : ∀ k ∈ ks, RAt w k.p k.r) : SlN w a n c ks := by
  obtain ⟨a', c', e, h2⟩ := SlN.of_own h hr
  simp only [Value.slice.injEq] at e
  obtain ⟨rfl, rfl, rfl⟩ := e
  exact h2
theorem own_rd {w : World} {a : Option Addr} {n c : Nat} {ks : List Nd} (h : ownP w (.slice a n c) ks) : Rd w a (ptrs ks) ∧ (n = 0 → a = none → c = 0) := by
  obtain ⟨a', cap, e, h1, h2, hrd, h3⟩ := ownsRow.rd h
  simp only [Value.slice.injEq] at e
  obtain ⟨rfl, rfl, rfl⟩ := e
  exact ⟨hrd, fun _ => h3⟩
theorem own_rd2 {w : World} {a : Option Addr} {n c : Nat} {ks : List Nd} (h : w.ownsRow 0 111 1 (.slice a n c) n (ptrs ks)) (hn : n = ks.length) : Rd w a (ptrs ks) ∧ (n = 0 → a = none → c = 0) := by
  subst hn; exact own_rd h
theorem own_form {w : World} {B n : Nat} {v : Value} {xs : List Value} (h : w.ownsRow B 111 1 v n xs) : ∃ a c, v = .slice a n c ∧ True := by
  obtain ⟨a, c, rfl, -⟩ := ownsRow.rd h
  exact ⟨a, c, rfl, trivial⟩
def lenV : Value → Nat
  | .slice _ n _ => n
  | _ => 0
theorem sl_DelM (l : List Nd) (i n : Nat) (sv : Value) (j : Int) (w : World) (h : ownP w sv l) (hn : l.length = n + 1) (hi : i < n + 1) (hj : j = (i : Int) + 1) :
    Calls Tryz.prog 107 #[sv, .int .i64 (i : Int), .int .i64 j] w fun e w' => ∃ a c, e = .returned (.slice a n c) ∧ ownP w' (.slice a n c) (l.eraseIdx i) ∧ Upd (fun k => sv.ownBlock = some k) w w' ∧ (Value.slice a n c).ownBlock = sv.ownBlock ∧ w'.heap.size = w.heap.size := by
  have := sl_DelN l i sv j w h (by omega) hj
  rw [hn, Nat.add_sub_cancel] at this
  exact this
def PartR (w : World) (ks : List Nd) (v2 v3 v6 : Value) (wr : World) : Prop :=
  ∃ (x y z : Nat) (a1 : Option Addr) (c1 : Nat) (a2 : Option Addr) (c2 : Nat) (a3 : Option Addr) (c3 : Nat), v2 = .slice a1 x c1 ∧ v3 = .slice a2 y c2 ∧ v6 = .slice a3 z c3 ∧
    Hid (∃ la lb lr, x = la.length ∧ y = lb.length ∧ z = lr.length ∧ PartI w wr ks la lb lr a1 c1 a2 c2 a3 c3) ∧ Hid (Below w.heap.size w wr)
def NextR (w : World) (z : Nat) (v9 v10 v74 : Value) (wr : World) : Prop :=
  ∃ (p i : Nat) (q : Int), v9 = .int .i64 (p : Int) ∧ v10 = .int .i64 q ∧ v74 = .int .i64 (i : Int) ∧ i ≤ z ∧ Hid (p < z) ∧ Hid (Below w.heap.size w wr)
set_option maxRecDepth 100000 in
set_option maxHeartbeats 8000000 in
theorem rt_part (ks : List Nd) (a : Option Addr) (c : Nat) (w : World) (h : SlN w a 5 c ks) :
    Calls Tryz.prog 111 #[.slice a 5 c] w (PartPost w ks) := by
  have H := hid h
  have H5 : Hid (ks.length = 5) := hid h.len.symm
  clear h
  go_enter Tryz.func111, Tryz.ntmps111
  go_wp2_with fail
  refine (rt_seeds ks a 5 c w H.out (by omega) (by omega)).mono ?_
  rintro e w1 ⟨p, q, rfl, hpq, hq5, hb1⟩
  have HPQ := hid (And.intro hpq hq5)
  have HB1 := hid hb1
  obtain ⟨b, off, x, rfl, hx, hcx, -, -⟩ := (H.out.below hb1).at (show p < 5 by omega)
  obtain ⟨b2, off2, y, e2, hy, hcy, -, -⟩ := (H.out.below hb1).at hq5
  simp only [Option.some.injEq, Addr.mk.injEq, and_true] at e2
  obtain ⟨rfl, rfl⟩ := e2
  have p0 : (0 : Int) ≤ (p : Int) := by omega
  have p1 : (p : Int) < 5 := by omega
  have q0 : (0 : Int) ≤ (q : Int) := by omega
  have q1 : (q : Int) < 5 := by omega
  obtain ⟨px, hpx⟩ : ∃ z, x.p = z := ⟨_, rfl⟩
  obtain ⟨py, hpy⟩ : ∃ z, y.p = z := ⟨_, rfl⟩
  rw [hpx] at hcx
  rw [hpy] at hcy
  have HX := hid (And.intro hx hpx)
  have HY := hid (And.intro hy hpy)
  replace hcx := fun (z : World) (hz : Below w1.heap.size w1 z) => cellOf_belowR hz hcx
  replace hcy := fun (z : World) (hz : Below w1.heap.size w1 z) => cellOf_belowR hz hcy
  clear hpq hq5 hb1 hx hy hpx hpy
  go_upto_region 2 with fail
  go_cut [2, 3] (fun v2 v3 wx => ∃ g1 g2, v2 = .slice (some ⟨g1, 0, none⟩) 1 1 ∧ v3 = .slice (some ⟨g2, 0, none⟩) 1 1 ∧ Hid (wx.ownsRow w.heap.size 111 1 (.slice (some ⟨g1, 0, none⟩) 1 1) 1 [.pointer (some ⟨px, 0, none⟩)]) ∧ Hid (wx.ownsRow w.heap.size 111 1 (.slice (some ⟨g2, 0, none⟩) 1 1) 1 [.pointer (some ⟨py, 0, none⟩)]) ∧ Hid (g1 ≠ g2) ∧ Hid (Below w.heap.size w wx))
  case first =>
    have hyd := (Below.refl w1.heap.size w1).drew
    refine wp_region_kept [11] (fun z => Below w1.heap.size w1 z) (by kernel_rfl) (by assumption) (fun hH => ?_)
    refine wpK.take (i := 0) (v := _) (by simp only [List.getElem?_toArray, List.getElem?_cons_succ, List.getElem?_cons_zero]; rfl) (by kernel_rfl) (by kernel_rfl) (by kernel_rfl) (by kernel_rfl) (by kernel_rfl) (by exact fun _ _ _ h => h) (by first | exact Or.inl ⟨by rfl, by intro w hSw; go_simp; try with_reducible rfl⟩ | exact Or.inr ⟨by rfl, rfl⟩) hH ?_
    try simp only [Act.put, List.setIfInBounds_toArray, List.set_cons_zero, List.set_cons_succ]
    refine wpK.take (i := 1) (v := _) (by simp only [List.getElem?_toArray, List.getElem?_cons_succ, List.getElem?_cons_zero]; rfl) (by kernel_rfl) (by kernel_rfl) (by kernel_rfl) (by kernel_rfl) (by kernel_rfl) (by exact fun _ _ _ h => h) (by first | exact Or.inl ⟨by rfl, by intro w hSw; go_simp; try with_reducible rfl⟩ | exact Or.inr ⟨by rfl, rfl⟩) hH ?_
    try simp only [Act.put, List.setIfInBounds_toArray, List.set_cons_zero, List.set_cons_succ]
    refine wpK.take (i := 2) (v := _) (by simp only [List.getElem?_toArray, List.getElem?_cons_succ, List.getElem?_cons_zero]; rfl) (by kernel_rfl) (by kernel_rfl) (by kernel_rfl) (by kernel_rfl) (by kernel_rfl) (by exact fun _ _ _ h => h) (by first | exact Or.inl ⟨by rfl, by intro w hSw; go_simp; try with_reducible rfl⟩ | exact Or.inr ⟨by rfl, rfl⟩) hH ?_
    try simp only [Act.put, List.setIfInBounds_toArray, List.set_cons_zero, List.set_cons_succ]
    refine wpK.take (i := 3) (v := _) (by simp only [List.getElem?_toArray, List.getElem?_cons_succ, List.getElem?_cons_zero]; rfl) (by kernel_rfl) (by kernel_rfl) (by kernel_rfl) (by kernel_rfl) (by kernel_rfl) (by exact fun _ _ _ h => h) (by first | exact Or.inl ⟨by rfl, by intro w hSw; go_simp; try with_reducible rfl⟩ | exact Or.inr ⟨by rfl, rfl⟩) hH ?_
    try simp only [Act.put, List.setIfInBounds_toArray, List.set_cons_zero, List.set_cons_succ]
    refine wpK.take (i := 5) (v := _) (by simp only [List.getElem?_toArray, List.getElem?_cons_succ, List.getElem?_cons_zero]; rfl) (by kernel_rfl) (by kernel_rfl) (by kernel_rfl) (by kernel_rfl) (by kernel_rfl) (by exact fun _ _ _ h => h) (by first | exact Or.inl ⟨by rfl, by intro w hSw; go_simp; try with_reducible rfl⟩ | exact Or.inr ⟨by rfl, rfl⟩) hH ?_
    try simp only [Act.put, List.setIfInBounds_toArray, List.set_cons_zero, List.set_cons_succ]
    refine wpK.take (i := 6) (v := _) (by simp only [List.getElem?_toArray, List.getElem?_cons_succ, List.getElem?_cons_zero]; rfl) (by kernel_rfl) (by kernel_rfl) (by kernel_rfl) (by kernel_rfl) (by kernel_rfl) (by exact fun _ _ _ h => h) (by first | exact Or.inl ⟨by rfl, by intro w hSw; go_simp; try with_reducible rfl⟩ | exact Or.inr ⟨by rfl, rfl⟩) hH ?_
    try simp only [Act.put, List.setIfInBounds_toArray, List.set_cons_zero, List.set_cons_succ]
    refine wpK.take (i := 7) (v := _) (by simp only [List.getElem?_toArray, List.getElem?_cons_succ, List.getElem?_cons_zero]; rfl) (by kernel_rfl) (by kernel_rfl) (by kernel_rfl) (by kernel_rfl) (by kernel_rfl) (by exact fun _ _ _ h => h) (by first | exact Or.inl ⟨by rfl, by intro w hSw; go_simp; try with_reducible rfl⟩ | exact Or.inr ⟨by rfl, rfl⟩) hH ?_
    try simp only [Act.put, List.setIfInBounds_toArray, List.set_cons_zero, List.set_cons_succ]
    refine wpK.take (i := 8) (v := _) (by simp only [List.getElem?_toArray, List.getElem?_cons_succ, List.getElem?_cons_zero]; rfl) (by kernel_rfl) (by kernel_rfl) (by kernel_rfl) (by kernel_rfl) (by kernel_rfl) (by exact fun _ _ _ h => h) (by first | exact Or.inl ⟨by rfl, by intro w hSw; go_simp; try with_reducible rfl⟩ | exact Or.inr ⟨by rfl, rfl⟩) hH ?_
    try simp only [Act.put, List.setIfInBounds_toArray, List.set_cons_zero, List.set_cons_succ]
    refine wpK.two (i := 4) (j := 9) (by kernel_rfl) (by simp only [List.getElem?_toArray, List.getElem?_cons_succ, List.getElem?_cons_zero]; rfl) (by simp only [List.getElem?_toArray, List.getElem?_cons_succ, List.getElem?_cons_zero]; rfl) (fun K hK => ?_) (fun K hK => ?_)
    · refine step_lit (us := #[.pointer (some ⟨px, 0, none⟩)]) (e := 111) (size := 1) (ps := #[(0, .pointer (some ⟨px, 0, none⟩))]) rfl rfl (by simp only [List.map_toArray, List.map_cons, List.map_nil]; rfl) (lit_ptr px _) rfl (by omega) ?_; intro g1 w4 hg1 hb4 hz4 ho4; (have hk4 : Below w1.heap.size w1 w4 := Below.next hH hb4); (try (have ho9 := owns_below ho9 hb4))
      refine hK.out _ _ (by assumption) (fun hH => ?_)
      clear hK K
      try simp only [Act.put, List.setIfInBounds_toArray, List.set_cons_zero, List.set_cons_succ]
      refine wpK.take (i := 10) (v := _) (by simp only [List.getElem?_toArray, List.getElem?_cons_succ, List.getElem?_cons_zero]; rfl) (by kernel_rfl) (by kernel_rfl) (by kernel_rfl) (by kernel_rfl) (by kernel_rfl) (by exact fun _ _ _ h => h) (by first | exact Or.inl ⟨by rfl, by intro w hSw; go_simp; try with_reducible rfl⟩ | exact Or.inr ⟨by rfl, rfl⟩) hH ?_
      try simp only [Act.put, List.setIfInBounds_toArray, List.set_cons_zero, List.set_cons_succ]
      refine wpK.step (i := 9) (by kernel_rfl) (by simp only [List.getElem?_toArray, List.getElem?_cons_succ, List.getElem?_cons_zero]; rfl) (fun K hK => ?_)
      refine step_lit (us := #[.pointer (some ⟨py, 0, none⟩)]) (e := 111) (size := 1) (ps := #[(0, .pointer (some ⟨py, 0, none⟩))]) rfl rfl (by simp only [List.map_toArray, List.map_cons, List.map_nil]; rfl) (lit_ptr py _) rfl (by omega) ?_; intro g2 w9 hg2 hb9 hz9 ho9; (have hk9 : Below w1.heap.size w1 w9 := Below.next hH hb9); (try (have ho4 := owns_below ho4 hb9))
      refine hK.out _ _ (by assumption) (fun hH => ?_)
      clear hK K
      try simp only [Act.put, List.setIfInBounds_toArray, List.set_cons_zero, List.set_cons_succ]
      refine wpK.late (i := 11) (by kernel_rfl) (by simp only [List.getElem?_toArray, List.getElem?_cons_succ, List.getElem?_cons_zero]; rfl) (by kernel_rfl) (fun K hK => ?_)
      go_simp
      refine hK.out _ _ ?_
      clear hK K
      try simp only [Act.put, List.setIfInBounds_toArray, List.set_cons_zero, List.set_cons_succ]
      refine wpK.done (by kernel_rfl) ?_ _
      have HS : Hid (w.heap.size ≤ g1 ∧ w.heap.size ≤ g2 ∧ g1 ≠ g2) := hid (by have h1 := hb4.size; have h2 := hb9.size; have h3 := HB1.out.size; (try have h4 : w1.drew.heap.size = w1.heap.size := rfl); have h5 := ho4.lt g1 rfl; have h6 := ho9.lt g2 rfl; omega)
      go_wp2_with fail
      go_meet
      exact ⟨g1, g2, rfl, rfl, hid (owns_base0 ho4 HS.out.1), hid (owns_base0 ho9 HS.out.2.1), hid HS.out.2.2, hid (Below.next HB1.out hH)⟩
    · refine step_lit (us := #[.pointer (some ⟨py, 0, none⟩)]) (e := 111) (size := 1) (ps := #[(0, .pointer (some ⟨py, 0, none⟩))]) rfl rfl (by simp only [List.map_toArray, List.map_cons, List.map_nil]; rfl) (lit_ptr py _) rfl (by omega) ?_; intro g2 w9 hg2 hb9 hz9 ho9; (have hk9 : Below w1.heap.size w1 w9 := Below.next hH hb9); (try (have ho4 := owns_below ho4 hb9))
      refine hK.out _ _ (by assumption) (fun hH => ?_)
      clear hK K
      try simp only [Act.put, List.setIfInBounds_toArray, List.set_cons_zero, List.set_cons_succ]
      refine wpK.step (i := 4) (by kernel_rfl) (by simp only [List.getElem?_toArray, List.getElem?_cons_succ, List.getElem?_cons_zero]; rfl) (fun K hK => ?_)
      refine step_lit (us := #[.pointer (some ⟨px, 0, none⟩)]) (e := 111) (size := 1) (ps := #[(0, .pointer (some ⟨px, 0, none⟩))]) rfl rfl (by simp only [List.map_toArray, List.map_cons, List.map_nil]; rfl) (lit_ptr px _) rfl (by omega) ?_; intro g1 w4 hg1 hb4 hz4 ho4; (have hk4 : Below w1.heap.size w1 w4 := Below.next hH hb4); (try (have ho9 := owns_below ho9 hb4))
      refine hK.out _ _ (by assumption) (fun hH => ?_)
      clear hK K
      try simp only [Act.put, List.setIfInBounds_toArray, List.set_cons_zero, List.set_cons_succ]
      refine wpK.take (i := 10) (v := _) (by simp only [List.getElem?_toArray, List.getElem?_cons_succ, List.getElem?_cons_zero]; rfl) (by kernel_rfl) (by kernel_rfl) (by kernel_rfl) (by kernel_rfl) (by kernel_rfl) (by exact fun _ _ _ h => h) (by first | exact Or.inl ⟨by rfl, by intro w hSw; go_simp; try with_reducible rfl⟩ | exact Or.inr ⟨by rfl, rfl⟩) hH ?_
      try simp only [Act.put, List.setIfInBounds_toArray, List.set_cons_zero, List.set_cons_succ]
      refine wpK.late (i := 11) (by kernel_rfl) (by simp only [List.getElem?_toArray, List.getElem?_cons_succ, List.getElem?_cons_zero]; rfl) (by kernel_rfl) (fun K hK => ?_)
      go_simp
      refine hK.out _ _ ?_
      clear hK K
      try simp only [Act.put, List.setIfInBounds_toArray, List.set_cons_zero, List.set_cons_succ]
      refine wpK.done (by kernel_rfl) ?_ _
      have HS : Hid (w.heap.size ≤ g1 ∧ w.heap.size ≤ g2 ∧ g1 ≠ g2) := hid (by have h1 := hb4.size; have h2 := hb9.size; have h3 := HB1.out.size; (try have h4 : w1.drew.heap.size = w1.heap.size := rfl); have h5 := ho4.lt g1 rfl; have h6 := ho9.lt g2 rfl; omega)
      go_wp2_with fail
      go_meet
      exact ⟨g1, g2, rfl, rfl, hid (owns_base0 ho4 HS.out.1), hid (owns_base0 ho9 HS.out.2.1), hid HS.out.2.2, hid (Below.next HB1.out hH)⟩
  case rest =>
  obtain ⟨g1, g2, rfl, rfl, HO1, HO2, HNE, HBC⟩ := hcut
  clear hcx hcy p0 p1 q0 q1
  go_wp2_with fail
  refine (sl_CloneN ks (some ⟨b, off, none⟩) 5 c wc (H.out.below HBC.out) (by omega) (by omega)).mono ?_
  rintro e w3 ⟨a3, c3, rfl, ho3, hb3⟩
  have HO3 : Hid (ownP w3 (.slice a3 5 c3) ks) := hid (owns_base0 ho3 (Nat.zero_le _))
  have HL3 : Hid (∀ k, obk a3 = some k → wc.heap.size ≤ k) := hid (fun k hk => (ho3.lt k (by rw [obk_of]; exact hk)).1)
  have HB3 := hid hb3
  have hwq : IntKind.i64.wrap ((q : Int) + 1) = (q : Int) + 1 := by rw [IntKind.wrap_i64]; have := HPQ.out; omega
  have hwp : IntKind.i64.wrap ((p : Int) + 1) = (p : Int) + 1 := by rw [IntKind.wrap_i64]; have := HPQ.out; omega
  clear ho3 hb3
  go_wp2_with fail
  refine (sl_DelM ks q 4 (.slice a3 5 c3) ((q : Int) + 1) w3 HO3.out H5.out (by have := HPQ.out; omega) rfl).mono ?_
  rintro e w4 ⟨a4, c4, rfl, ho4, hu4, he4, hz4⟩
  have HO4 := hid ho4
  have HE4 := hid (And.intro hu4 (And.intro he4 hz4))
  have HL4 : Hid ((ks.eraseIdx q).length = 4) := hid (by have h1 := H5.out; have h2 := HPQ.out; rw [List.length_eraseIdx, if_pos (by omega)]; omega)
  clear ho4 hu4 he4 hz4
  go_wp2_with fail
  refine (sl_DelM (ks.eraseIdx q) p 3 (.slice a4 4 c4) ((p : Int) + 1) w4 HO4.out HL4.out (by have := HPQ.out; omega) rfl).mono ?_
  rintro e w5 ⟨a5, c5, rfl, ho5, hu5, he5, hz5⟩
  have HB5 : Hid (Below w.heap.size w w5) := hid (by
    have h1 := HBC.out.size
    have h2 := HB3.out.size
    have h3 := Below.next HBC.out HB3.out
    have h4 := h3.trans (HE4.out.1.below h3.size (fun k _ q2 => by rw [obk_of] at q2; have := HL3.out k q2; omega))
    exact h4.trans (hu5.below h4.size (fun k _ q2 => by rw [HE4.out.2.1, obk_of] at q2; have := HL3.out k q2; omega)))
  have HI5 : Hid (PartI w w5 ks [x] [y] ((ks.eraseIdx q).eraseIdx p) (some ⟨g1, 0, none⟩) 1 (some ⟨g2, 0, none⟩) 1 a5 c5) := hid (by
    have h1 := HO1.out
    have h2 := HO2.out
    have l1 := (h1.lt g1 rfl).2
    have l2 := (h2.lt g2 rfl).2
    have l3 := HB3.out.size
    rw [← HX.out.2] at h1
    rw [← HY.out.2] at h2
    have e5 : obk a5 = obk a3 := by rw [← obk_of a5 3 c5, he5, HE4.out.2.1, obk_of]
    have hlen3 : ((ks.eraseIdx q).eraseIdx p).length = 3 := by have h1 := HL4.out; have h2 := HPQ.out; rw [List.length_eraseIdx, if_pos (by omega)]; omega
    have up : ∀ (v : Value) (l : List Nd), wc.ownsRow w.heap.size 111 1 v l.length (ptrs l) → w5.ownsRow w.heap.size 111 1 v l.length (ptrs l) := fun v l h => by
      have k1 := owns_below h HB3.out
      have k2 := HE4.out.1.owns k1 (fun k hk q2 => by rw [obk_of] at q2; have a1 := HL3.out k q2; have a2 := (h.lt k hk).2; omega)
      exact hu5.owns k2 (fun k hk q2 => by rw [HE4.out.2.1, obk_of] at q2; have a1 := HL3.out k q2; have a2 := (h.lt k hk).2; omega)
    refine ⟨up _ [x] h1, up _ [y] h2, by rw [hlen3]; exact ho5, fun k hk => ?_, fun k hk q2 => ?_, fun k hk q2 => ?_, fun k hk q2 => ?_, part_start HX.out.1 HY.out.1 HPQ.out.1, by rw [hlen3]; simp, by rw [hlen3]; simp⟩
    · rw [e5] at hk; have a1 := HL3.out k hk; have a2 := HBC.out.size; omega
    · have b1 : g1 = k := Option.some.inj hk
      have b2 : g2 = k := Option.some.inj q2
      exact HNE.out (b1.trans b2.symm)
    · have b1 : g1 = k := Option.some.inj hk
      rw [e5] at q2; have a1 := HL3.out k q2; omega
    · have b1 : g2 = k := Option.some.inj hk
      rw [e5] at q2; have a1 := HL3.out k q2; omega)
  have HN5 : Hid (3 = ((ks.eraseIdx q).eraseIdx p).length) := hid (by have h1 := HL4.out; have h2 := HPQ.out; rw [List.length_eraseIdx, if_pos (by omega)]; omega)
  clear ho5 hu5 he5 hz5 hwp hwq HO1 HO2 HNE HBC HO3 HL3 HB3 HO4 HE4 HL4
  go_wp2_with fail
  go_loopw [2, 3, 6] (fun v2 v3 v6 wr => PartR w ks v2 v3 v6 wr) (fun _ _ v6 _ => lenV v6)
  case atStart => exact ⟨1, 1, 3, _, _, _, _, _, _, rfl, rfl, rfl, hid ⟨[x], [y], _, rfl, rfl, HN5.out, HI5.out⟩, HB5⟩
  case round =>
    clear HI5 HB5 HN5 HX HY HPQ
    obtain ⟨X, Y, Z, a1, c1, a2, c2, a3, c3, rfl, rfl, rfl, HPI, HB⟩ := hrel
    obtain ⟨la, lb, lr, hX, hY, hZ, hpi⟩ := HPI.out
    have HLN := hid (And.intro hX (And.intro hY hZ))
    have HI := hid hpi
    have HSUM : Hid (X + (Y + Z) = 5 ∧ 2 ≤ X + Z ∧ 2 ≤ Y + Z) := hid ⟨by rw [hX, hY, hZ, hpi.len]; exact H5.out, by rw [hX, hZ]; exact hpi.n1, by rw [hY, hZ]; exact hpi.n2⟩
    have hX5 : X ≤ 5 := by have := HSUM.out; omega
    have hY5 : Y ≤ 5 := by have := HSUM.out; omega
    have hZ5 : Z ≤ 5 := by have := HSUM.out; omega
    clear HPI hX hY hZ hpi
    by_cases z0 : Z = 0
    · have z1 : ¬ (0 : Int) < (Z : Int) := by omega
      have HQ : Hid (PartPost w ks (.returned (.tuple #[.slice a1 X c1, .slice a2 Y c2])) wr) := hid (by
        have hr0 : lr = [] := List.eq_nil_of_length_eq_zero (by rw [← HLN.out.2.2]; exact z0)
        have h1 := HI.out.p
        rw [hr0, List.append_nil] at h1
        exact ⟨la, lb, a1, c1, a2, c2, by rw [HLN.out.1, HLN.out.2.1], HI.out.o1, HI.out.o2, HI.out.d12, h1, by have := HSUM.out; have := HLN.out.1; omega, by have := HSUM.out; have := HLN.out.2.1; omega, HB.out⟩)
      clear z0
      go_wp2_with fail
      go_ret2
      exact HQ.out
    have z1 : (0 : Int) < (Z : Int) := by omega
    have hw1 : IntKind.i64.wrap ((X : Int) + (Z : Int)) = (X : Int) + (Z : Int) := by rw [IntKind.wrap_i64]; omega
    have hw2 : IntKind.i64.wrap ((Y : Int) + (Z : Int)) = (Y : Int) + (Z : Int) := by rw [IntKind.wrap_i64]; omega
    have HOA : Hid (wr.ownsRow w.heap.size 111 1 (.slice a1 X c1) X (ptrs la)) := hid (by rw [HLN.out.1]; exact HI.out.o1)
    have HOB : Hid (wr.ownsRow w.heap.size 111 1 (.slice a2 Y c2) Y (ptrs lb)) := hid (by rw [HLN.out.2.1]; exact HI.out.o2)
    have HOR : Hid (wr.ownsRow 0 111 1 (.slice a3 Z c3) Z (ptrs lr)) := hid (by rw [HLN.out.2.2]; exact HI.out.o3)
    have HZL : Hid ((ptrs lr).length = Z * 1) := hid (by rw [HLN.out.2.2]; simp)
    have HON := hid (ptrs_one lr)
    have hrdR := own_rd2 HOR.out HLN.out.2.2
    have HRD := hid hrdR
    have hbz := HB.out.size
    clear hrdR
    by_cases t1 : X + Z ≤ 2
    · have t1i : (X : Int) + (Z : Int) ≤ 2 := by omega
      go_wp2_with (at_builtin; refine wpList_appendNw T_nodes _ rfl _ _ rfl w.heap.size _ _ _ rfl HOA.out _ _ _ (ptrs lr) rfl HZL.out HRD.out.2 HRD.out.1 HON.out ?c1 ?c2 ?_)
      case c1 => omega
      try (case c2 => omega)
      intro v' w' hown' hg hnil hwh
      obtain ⟨aN, cN, rfl, -⟩ := own_form hown'
      have HQ : Hid (PartPost w ks (.returned (.tuple #[.slice aN (X + Z) cN, .slice a2 Y c2])) w') := hid (by
        refine ⟨la ++ lr, lb, aN, cN, a2, c2, by rw [HLN.out.1, HLN.out.2.1, HLN.out.2.2, List.length_append], by show w'.ownsRow _ _ 1 _ (la ++ lr).length ((la ++ lr).map ptrN); rw [List.length_append, ← HLN.out.1, ← HLN.out.2.2, List.map_append]; exact hown', (Upd.of_grown hg).owns HI.out.o2 (fun k hk q2 => HI.out.d12 k (by rw [obk_of] at q2; exact q2) (by rw [obk_of] at hk; exact hk)), fun k hk q2 => ?_, ?_, by rw [List.length_append]; have := HSUM.out; have := HLN.out.1; have := HLN.out.2.2; omega, by have := HSUM.out; have := HLN.out.2.1; omega, HB.out.grown hg hbz (fun k hk => (HI.out.o1.lt k (by rw [obk_of] at hk ⊢; exact hk)).1)⟩
        · rcases hwh k (by rw [obk_of]; exact hk) with e | e
          · exact HI.out.d12 k (by rw [obk_of] at e; exact e) q2
          · have := (HI.out.o2.lt k (by rw [obk_of]; exact q2)).2; omega
        · rw [List.append_assoc]; exact (List.Perm.append_left _ List.perm_append_comm).trans HI.out.p)
      clear hown' hg hnil hwh
      obtain ⟨N, hN⟩ : ∃ N, N = X + Z := ⟨_, rfl⟩
      rw [← hN] at HQ ⊢
      clear hN
      go_wp2_with fail
      go_ret2
      exact HQ.out
    have t1i : ¬ (X : Int) + (Z : Int) ≤ 2 := by omega
    by_cases t2 : Y + Z ≤ 2
    · have t2i : (Y : Int) + (Z : Int) ≤ 2 := by omega
      go_wp2_with (at_builtin; refine wpList_appendNw T_nodes _ rfl _ _ rfl w.heap.size _ _ _ rfl HOB.out _ _ _ (ptrs lr) rfl HZL.out HRD.out.2 HRD.out.1 HON.out ?c3 ?c4 ?_)
      case c3 => omega
      try (case c4 => omega)
      intro v' w' hown' hg hnil hwh
      obtain ⟨aN, cN, rfl, -⟩ := own_form hown'
      have HQ : Hid (PartPost w ks (.returned (.tuple #[.slice a1 X c1, .slice aN (Y + Z) cN])) w') := hid (by
        refine ⟨la, lb ++ lr, a1, c1, aN, cN, by rw [HLN.out.1, HLN.out.2.1, HLN.out.2.2, List.length_append], (Upd.of_grown hg).owns HI.out.o1 (fun k hk q2 => HI.out.d12 k (by rw [obk_of] at hk; exact hk) (by rw [obk_of] at q2; exact q2)), by show w'.ownsRow _ _ 1 _ (lb ++ lr).length ((lb ++ lr).map ptrN); rw [List.length_append, ← HLN.out.2.1, ← HLN.out.2.2, List.map_append]; exact hown', fun k hk q2 => ?_, ?_, by have := HSUM.out; have := HLN.out.1; omega, by rw [List.length_append]; have := HSUM.out; have := HLN.out.2.1; have := HLN.out.2.2; omega, HB.out.grown hg hbz (fun k hk => (HI.out.o2.lt k (by rw [obk_of] at hk ⊢; exact hk)).1)⟩
        · rcases hwh k (by rw [obk_of]; exact q2) with e | e
          · exact HI.out.d12 k hk (by rw [obk_of] at e; exact e)
          · have := (HI.out.o1.lt k (by rw [obk_of]; exact hk)).2; omega
        · exact HI.out.p)
      clear hown' hg hnil hwh
      obtain ⟨N, hN⟩ : ∃ N, N = Y + Z := ⟨_, rfl⟩
      rw [← hN] at HQ ⊢
      clear hN
      go_wp2_with fail
      go_ret2
      exact HQ.out
    have t2i : ¬ (Y : Int) + (Z : Int) ≤ 2 := by omega
    have HPK : Hid (∀ k ∈ ks, RAt w k.p k.r) := hid H.out.rat
    have HRT : Hid (∀ wz, Below w.heap.size w wz → ∀ k ∈ ks, RAt wz k.p k.r) := hid (fun wz hz k hk => (HPK.out k hk).below hz)
    have HSA : Hid (SlN wr a1 X c1 la) := hid (slN_of (by have := HI.out.o1; rw [← HLN.out.1] at this; exact owns_base0 (by rw [HLN.out.1]; exact HI.out.o1) (Nat.zero_le _)) (fun k hk => HRT.out wr HB.out k (HI.out.mem1.1 hk)))
    have HSB : Hid (SlN wr a2 Y c2 lb) := hid (slN_of (owns_base0 (by rw [HLN.out.2.1]; exact HI.out.o2) (Nat.zero_le _)) (fun k hk => HRT.out wr HB.out k (HI.out.mem1.2.1 hk)))
    have hba := rt_bound la a1 X c1 wr HSA.out (by omega)
    obtain ⟨ra, hra⟩ : ∃ z, boundR (la.map (·.r)) = z := ⟨_, rfl⟩
    rw [hra] at hba
    obtain ⟨ax, ay, aa, ab⟩ := ra
    simp only [rV] at hba
    have HBA := hid hba
    obtain ⟨rb, hrb⟩ : ∃ z, boundR (lb.map (·.r)) = z := ⟨_, rfl⟩
    have HBBX : Hid (∀ wz, Below wr.heap.size wr wz → Calls Tryz.prog 112 #[.slice a2 Y c2] wz fun e w' => e = .returned (rV rb) ∧ Below wz.heap.size wz w') := hid (fun wz hz => by
      have := rt_bound lb a2 Y c2 wz (HSB.out.below hz) (by omega)
      rw [hrb] at this; exact this)
    obtain ⟨bx, bY, ba, bb⟩ := rb
    simp only [rV] at HBBX
    clear hba hra hrb
    go_wp2_with fail
    refine HBA.out.mono ?_
    rintro e w2 ⟨rfl, hb2⟩
    have HB2 := hid hb2
    clear hb2
    go_wp2_with fail
    refine (HBBX.out w2 HB2.out).mono ?_
    rintro e w3 ⟨rfl, hb3⟩
    have HB3 := hid (Below.next HB2.out hb3)
    clear hb3
    go_upto_region 12 with fail
    generalize hW : World.alloc (World.alloc w3 _) _ = w4
    obtain ⟨gA, hg⟩ : ∃ g, g = w3.heap.size := ⟨_, rfl⟩
    obtain ⟨gB, hgo⟩ : ∃ go, go = w3.heap.size + 1 := ⟨_, rfl⟩
    have hz : (World.alloc w3 (.cells #[.int .i64 ax, .int .i64 ay, .int .i64 aa, .int .i64 ab] 25)).heap.size = w3.heap.size + 1 := by simp
    try rw [hz]
    try rw [← hgo]
    try rw [← hg]
    have hb : Below w3.heap.size w3 w4 := by rw [← hW]; exact Below.next (Below.new _ _) (Below.new _ _)
    have HXA := hid (show Blk w4 gA #[.int .i64 ax, .int .i64 ay, .int .i64 aa, .int .i64 ab] by rw [← hW, hg]; exact (Blk.new w3 _ _).below (Below.new _ _))
    have HXB := hid (show Blk w4 gB #[.int .i64 bx, .int .i64 bY, .int .i64 ba, .int .i64 bb] by rw [← hW, hgo, ← hz]; exact Blk.new _ _ _)
    have HB4 := hid (Below.next HB3.out hb)
    have HGL : Hid (wr.heap.size ≤ gA ∧ wr.heap.size ≤ gB) := hid (by have := HB3.out.size; omega)
    have HSR : Hid (SlN w4 a3 Z c3 lr) := hid (slN_of (owns_below (owns_base0 (by rw [HLN.out.2.2]; exact HI.out.o3) (Nat.zero_le _)) HB4.out) (fun k hk => HRT.out w4 (Below.next HB.out HB4.out) k (HI.out.mem1.2.2 hk)))
    clear hW hg hgo hz hb
    go_wp2_with fail
    go_loopw [9, 10, 74] (fun v9 v10 v74 wq => NextR w4 Z v9 v10 v74 wq) (fun _ _ v74 _ => Z - (intOf v74).toNat)
    case atStart => exact ⟨0, 0, -1, rfl, rfl, rfl, by omega, hid (by omega), hid (Below.refl _ _)⟩
    case round =>
      obtain ⟨wq, hwq⟩ : ∃ wq, wq = wr := ⟨_, rfl⟩
      subst hwq
      obtain ⟨m, i, best, rfl, rfl, rfl, hiz, HMZ, HBQ⟩ := hrel
      by_cases hlt : i < Z
      · have i1 : (i : Int) < (Z : Int) := by omega
        have i0 : (0 : Int) ≤ (i : Int) := by omega
        obtain ⟨b3, off3, nk, rfl, hk, hc, hr, -⟩ := (HSR.out.below HBQ.out).at hlt
        have HXAq := hid (HXA.out.below HBQ.out)
        have HXBq := hid (HXB.out.below HBQ.out)
        clear hk
        obtain ⟨pk, hpk⟩ : ∃ x, nk.p = x := ⟨_, rfl⟩
        obtain ⟨rk, hrk⟩ : ∃ x, nk.r = x := ⟨_, rfl⟩
        rw [hpk] at hc hr
        rw [hrk] at hr
        have HPKK := hid hpk
        obtain ⟨nx, ny, na, nb⟩ := rk
        have hga := rect_Growth (ax, ay, aa, ab) (nx, ny, na, nb)
        have hgb := rect_Growth (bx, bY, ba, bb) (nx, ny, na, nb)
        simp only [rV] at hga hgb
        have HGA := hid hga
        have HGB := hid hgb
        have HRK := hid hr
        clear hga hgb hr hpk hrk
        go_upto_region 16 with fail
        clear hc
        have c0 : ∀ z, Below wq.heap.size wq z → z.cell? ⟨gA, 0, none⟩ = some (.int .i64 ax) := fun z hz => by rw [(HXAq.out.below hz).cell]; rfl
        have c1 : ∀ z, Below wq.heap.size wq z → z.cell? ⟨gA, 1, none⟩ = some (.int .i64 ay) := fun z hz => by rw [(HXAq.out.below hz).cell]; rfl
        have c2 : ∀ z, Below wq.heap.size wq z → z.cell? ⟨gA, 2, none⟩ = some (.int .i64 aa) := fun z hz => by rw [(HXAq.out.below hz).cell]; rfl
        have c3 : ∀ z, Below wq.heap.size wq z → z.cell? ⟨gA, 3, none⟩ = some (.int .i64 ab) := fun z hz => by rw [(HXAq.out.below hz).cell]; rfl
        have d0 : ∀ z, Below wq.heap.size wq z → z.cell? ⟨gB, 0, none⟩ = some (.int .i64 bx) := fun z hz => by rw [(HXBq.out.below hz).cell]; rfl
        have d1 : ∀ z, Below wq.heap.size wq z → z.cell? ⟨gB, 1, none⟩ = some (.int .i64 bY) := fun z hz => by rw [(HXBq.out.below hz).cell]; rfl
        have d2 : ∀ z, Below wq.heap.size wq z → z.cell? ⟨gB, 2, none⟩ = some (.int .i64 ba) := fun z hz => by rw [(HXBq.out.below hz).cell]; rfl
        have d3 : ∀ z, Below wq.heap.size wq z → z.cell? ⟨gB, 3, none⟩ = some (.int .i64 bb) := fun z hz => by rw [(HXBq.out.below hz).cell]; rfl
        have x0 : ∀ z, Below wq.heap.size wq z → z.cell? ⟨pk, 0, none⟩ = some (.int .i64 nx) := fun z hz => cellOf_belowR hz (HRK.out).1
        have x1 : ∀ z, Below wq.heap.size wq z → z.cell? ⟨pk, 1, none⟩ = some (.int .i64 ny) := fun z hz => cellOf_belowR hz (HRK.out).2.1
        have x2 : ∀ z, Below wq.heap.size wq z → z.cell? ⟨pk, 2, none⟩ = some (.int .i64 na) := fun z hz => cellOf_belowR hz (HRK.out).2.2.1
        have x3 : ∀ z, Below wq.heap.size wq z → z.cell? ⟨pk, 3, none⟩ = some (.int .i64 nb) := fun z hz => cellOf_belowR hz (HRK.out).2.2.2
        have hyd := (Below.refl wq.heap.size wq).drew
        refine wp_region_kept [13] (fun z => Below wq.heap.size wq z) (by kernel_rfl) (by assumption) (fun hH => ?_)
        refine wpK.take (i := 0) (v := _) (by simp only [List.getElem?_toArray, List.getElem?_cons_succ, List.getElem?_cons_zero]; rfl) (by kernel_rfl) (by kernel_rfl) (by kernel_rfl) (by kernel_rfl) (by kernel_rfl) (by exact fun _ _ _ h => h) (by first | exact Or.inl ⟨by rfl, by intro w hSw; go_simp; try with_reducible rfl⟩ | exact Or.inr ⟨by rfl, rfl⟩) hH ?_
        try simp only [Act.put, List.setIfInBounds_toArray, List.set_cons_zero, List.set_cons_succ]
        refine wpK.take (i := 1) (v := _) (by simp only [List.getElem?_toArray, List.getElem?_cons_succ, List.getElem?_cons_zero]; rfl) (by kernel_rfl) (by kernel_rfl) (by kernel_rfl) (by kernel_rfl) (by kernel_rfl) (by exact fun _ _ _ h => h) (by first | exact Or.inl ⟨by rfl, by intro w hSw; go_simp; try with_reducible rfl⟩ | exact Or.inr ⟨by rfl, rfl⟩) hH ?_
        try simp only [Act.put, List.setIfInBounds_toArray, List.set_cons_zero, List.set_cons_succ]
        refine wpK.take (i := 2) (v := _) (by simp only [List.getElem?_toArray, List.getElem?_cons_succ, List.getElem?_cons_zero]; rfl) (by kernel_rfl) (by kernel_rfl) (by kernel_rfl) (by kernel_rfl) (by kernel_rfl) (by exact fun _ _ _ h => h) (by first | exact Or.inl ⟨by rfl, by intro w hSw; go_simp; try with_reducible rfl⟩ | exact Or.inr ⟨by rfl, rfl⟩) hH ?_
        try simp only [Act.put, List.setIfInBounds_toArray, List.set_cons_zero, List.set_cons_succ]
        refine wpK.take (i := 3) (v := _) (by simp only [List.getElem?_toArray, List.getElem?_cons_succ, List.getElem?_cons_zero]; rfl) (by kernel_rfl) (by kernel_rfl) (by kernel_rfl) (by kernel_rfl) (by kernel_rfl) (by exact fun _ _ _ h => h) (by first | exact Or.inl ⟨by rfl, by intro w hSw; go_simp; try with_reducible rfl⟩ | exact Or.inr ⟨by rfl, rfl⟩) hH ?_
        try simp only [Act.put, List.setIfInBounds_toArray, List.set_cons_zero, List.set_cons_succ]
        refine wpK.take (i := 4) (v := _) (by simp only [List.getElem?_toArray, List.getElem?_cons_succ, List.getElem?_cons_zero]; rfl) (by kernel_rfl) (by kernel_rfl) (by kernel_rfl) (by kernel_rfl) (by kernel_rfl) (by exact fun _ _ _ h => h) (by first | exact Or.inl ⟨by rfl, by intro w hSw; go_simp; try with_reducible rfl⟩ | exact Or.inr ⟨by rfl, rfl⟩) hH ?_
        try simp only [Act.put, List.setIfInBounds_toArray, List.set_cons_zero, List.set_cons_succ]
        refine wpK.take (i := 6) (v := _) (by simp only [List.getElem?_toArray, List.getElem?_cons_succ, List.getElem?_cons_zero]; rfl) (by kernel_rfl) (by kernel_rfl) (by kernel_rfl) (by kernel_rfl) (by kernel_rfl) (by exact fun _ _ _ h => h) (by first | exact Or.inl ⟨by rfl, by intro w hSw; go_simp; try with_reducible rfl⟩ | exact Or.inr ⟨by rfl, rfl⟩) hH ?_
        try simp only [Act.put, List.setIfInBounds_toArray, List.set_cons_zero, List.set_cons_succ]
        refine wpK.take (i := 7) (v := _) (by simp only [List.getElem?_toArray, List.getElem?_cons_succ, List.getElem?_cons_zero]; rfl) (by kernel_rfl) (by kernel_rfl) (by kernel_rfl) (by kernel_rfl) (by kernel_rfl) (by exact fun _ _ _ h => h) (by first | exact Or.inl ⟨by rfl, by intro w hSw; go_simp; try with_reducible rfl⟩ | exact Or.inr ⟨by rfl, rfl⟩) hH ?_
        try simp only [Act.put, List.setIfInBounds_toArray, List.set_cons_zero, List.set_cons_succ]
        refine wpK.take (i := 8) (v := _) (by simp only [List.getElem?_toArray, List.getElem?_cons_succ, List.getElem?_cons_zero]; rfl) (by kernel_rfl) (by kernel_rfl) (by kernel_rfl) (by kernel_rfl) (by kernel_rfl) (by exact fun _ _ _ h => h) (by first | exact Or.inl ⟨by rfl, by intro w hSw; go_simp; try with_reducible rfl⟩ | exact Or.inr ⟨by rfl, rfl⟩) hH ?_
        try simp only [Act.put, List.setIfInBounds_toArray, List.set_cons_zero, List.set_cons_succ]
        refine wpK.take (i := 9) (v := _) (by simp only [List.getElem?_toArray, List.getElem?_cons_succ, List.getElem?_cons_zero]; rfl) (by kernel_rfl) (by kernel_rfl) (by kernel_rfl) (by kernel_rfl) (by kernel_rfl) (by exact fun _ _ _ h => h) (by first | exact Or.inl ⟨by rfl, by intro w hSw; go_simp; try with_reducible rfl⟩ | exact Or.inr ⟨by rfl, rfl⟩) hH ?_
        try simp only [Act.put, List.setIfInBounds_toArray, List.set_cons_zero, List.set_cons_succ]
        refine wpK.take (i := 10) (v := _) (by simp only [List.getElem?_toArray, List.getElem?_cons_succ, List.getElem?_cons_zero]; rfl) (by kernel_rfl) (by kernel_rfl) (by kernel_rfl) (by kernel_rfl) (by kernel_rfl) (by exact fun _ _ _ h => h) (by first | exact Or.inl ⟨by rfl, by intro w hSw; go_simp; try with_reducible rfl⟩ | exact Or.inr ⟨by rfl, rfl⟩) hH ?_
        try simp only [Act.put, List.setIfInBounds_toArray, List.set_cons_zero, List.set_cons_succ]
        refine wpK.step (i := 5) (by kernel_rfl) (by simp only [List.getElem?_toArray, List.getElem?_cons_succ, List.getElem?_cons_zero]; rfl) (fun K hK => ?_)
        go_simp
        (refine (HGA.out _).mono ?_); rintro e wg ⟨n1, rfl, hn1, hm1, hbg⟩; (have hkg := Below.next hyd hbg); go_simp
        refine hK.out _ _ (by assumption) (fun hH => ?_)
        clear hK K
        try simp only [Act.put, List.setIfInBounds_toArray, List.set_cons_zero, List.set_cons_succ]
        refine wpK.step (i := 11) (by kernel_rfl) (by simp only [List.getElem?_toArray, List.getElem?_cons_succ, List.getElem?_cons_zero]; rfl) (fun K hK => ?_)
        go_simp
        (refine (HGB.out _).mono ?_); rintro e w7 ⟨n2, rfl, hn2, hm2, hbh⟩; (have hkh := Below.next hkg hbh); (have hwr : IntKind.i64.wrap (n1 - n2) = n1 - n2 := by rw [IntKind.wrap_i64]; omega); (have HKw7 := hid hkh); go_simp
        refine hK.out _ _ (by assumption) (fun hH => ?_)
        clear hK K
        try simp only [Act.put, List.setIfInBounds_toArray, List.set_cons_zero, List.set_cons_succ]
        refine wpK.take (i := 12) (v := _) (by simp only [List.getElem?_toArray, List.getElem?_cons_succ, List.getElem?_cons_zero]; rfl) (by kernel_rfl) (by kernel_rfl) (by kernel_rfl) (by kernel_rfl) (by kernel_rfl) (by exact fun _ _ _ h => h) (by first | exact Or.inl ⟨by rfl, by intro w hSw; go_simp; try with_reducible rfl⟩ | exact Or.inr ⟨by rfl, rfl⟩) hH ?_
        try simp only [Act.put, List.setIfInBounds_toArray, List.set_cons_zero, List.set_cons_succ]
        refine wpK.late (i := 13) (by kernel_rfl) (by simp only [List.getElem?_toArray, List.getElem?_cons_succ, List.getElem?_cons_zero]; rfl) (by kernel_rfl) (fun K hK => ?_)
        go_simp
        refine hK.out _ _ ?_
        clear hK K
        try simp only [Act.put, List.setIfInBounds_toArray, List.set_cons_zero, List.set_cons_succ]
        refine wpK.done (by kernel_rfl) ?_ _
        obtain ⟨dd, hdd⟩ : ∃ x, x = n1 - n2 := ⟨_, rfl⟩
        have hd1 : -200000 ≤ dd := by omega
        have hd2 : dd ≤ 200000 := by omega
        rw [← hdd]
        clear hdd hwr hn1 hm1 hbg hkg hn2 hm2 hbh hkh hyd hH c0 c1 c2 c3 d0 d1 d2 d3 x0 x1 x2 x3
        have hneg : IntKind.i64.wrap (-dd) = -dd := by rw [IntKind.wrap_i64]; omega
        obtain ⟨mx, hmx⟩ : ∃ x, max dd (-dd) = x := ⟨_, rfl⟩
        go_upto_region 18 with fail
        try rw [hmx]
        clear hmx hneg hd1 hd2
        have HB7 := hid (Below.next HBQ.out HKw7.out)
        by_cases t3 : best < mx
        · go_wp2_with fail
          go_roundw
          case rel => exact ⟨i, i + 1, mx, rfl, rfl, by go_num, by omega, hid hlt, HB7⟩
          case measure => simp [intOf]; omega
        · go_wp2_with fail
          go_roundw
          case rel => exact ⟨m, i + 1, best, rfl, rfl, by go_num, by omega, HMZ, HB7⟩
          case measure => simp [intOf]; omega
      · have i1 : ¬ (i : Int) < (Z : Int) := by omega
        have m1 : (m : Int) < (Z : Int) := by have := HMZ.out; omega
        have m0 : (0 : Int) ≤ (m : Int) := by omega
        obtain ⟨b3, off3, nk, rfl, hk, hc, hr, -⟩ := (HSR.out.below HBQ.out).at HMZ.out
        have HKM := hid hk
        clear hk
        obtain ⟨pk, hpk⟩ : ∃ x, nk.p = x := ⟨_, rfl⟩
        obtain ⟨rk, hrk⟩ : ∃ x, nk.r = x := ⟨_, rfl⟩
        rw [hpk] at hc hr
        rw [hrk] at hr
        have HPKK := hid hpk
        obtain ⟨nx, ny, na, nb⟩ := rk
        have hga := rect_Growth (ax, ay, aa, ab) (nx, ny, na, nb)
        have hgb := rect_Growth (bx, bY, ba, bb) (nx, ny, na, nb)
        simp only [rV] at hga hgb
        have HGA := hid hga
        have HGB := hid hgb
        have HRK := hid hr
        clear hga hgb hr hpk hrk
        obtain ⟨Zd, hzd⟩ : ∃ z, z + 1 = Z := ⟨Z - 1, by omega⟩
        have HZD := hid hzd
        have hwm : IntKind.i64.wrap ((m : Int) + 1) = (m : Int) + 1 := by rw [IntKind.wrap_i64]; omega
        clear hzd
        go_wp2_with fail
        have HORq : Hid (ownP wq (.slice (some ⟨b3, off3, none⟩) Z c3) lr) := hid (by
          show wq.ownsRow 0 _ 1 _ lr.length _
          rw [← HLN.out.2.2]
          exact owns_below (owns_below HOR.out HB4.out) HBQ.out)
        refine (sl_DelM lr m Zd (.slice (some ⟨b3, off3, none⟩) Z c3) ((m : Int) + 1) wq HORq.out (by rw [← HLN.out.2.2]; exact HZD.out.symm) (by have := HMZ.out; have := HZD.out; omega) rfl).mono ?_
        rintro e w5 ⟨a6, c6, rfl, ho6, hu6, he6, hz6⟩
        have HO6 := hid ho6
        have HU6 := hid hu6
        have HE6 : Hid (obk a6 = obk (some ⟨b3, off3, none⟩)) := hid (by have := he6; rw [obk_of, obk_of] at this; exact this)
        have HLB : Hid (w.heap.size ≤ b3 ∧ b3 < wr.heap.size) := hid ⟨HI.out.l3 b3 rfl, (HOR.out.lt b3 rfl).2⟩
        have HBq : Hid (Below w.heap.size w wq) := hid (Below.next (Below.next HB.out HB4.out) HBQ.out)
        have HB5 : Hid (Below w.heap.size w w5) := hid (HBq.out.trans (hu6.below HBq.out.size (fun k _ q2 => by have : b3 = k := Option.some.inj q2; have := HLB.out; omega)))
        have HLD : Hid (Zd = (lr.eraseIdx m).length) := hid (by rw [List.length_eraseIdx, if_pos (by rw [← HLN.out.2.2]; exact HMZ.out), ← HLN.out.2.2]; have := HZD.out; omega)
        have HXA5 := hid ((HXA.out.below HBQ.out).upd hu6 (fun q2 => by have : b3 = gA := Option.some.inj q2; have := HLB.out; have := HGL.out; omega))
        have HXB5 := hid ((HXB.out.below HBQ.out).upd hu6 (fun q2 => by have : b3 = gB := Option.some.inj q2; have := HLB.out; have := HGL.out; omega))
        have HRK5 : Hid (RAt w5 pk (nx, ny, na, nb)) := hid (by
          have h1 := HRT.out w5 HB5.out nk (HI.out.mem1.2.2 (List.mem_of_getElem? HKM.out))
          have h2 := HRT.out wq HBq.out nk (HI.out.mem1.2.2 (List.mem_of_getElem? HKM.out))
          rw [HPKK.out] at h1 h2
          have e1 := h2.1.symm.trans HRK.out.1
          have e2 := h2.2.1.symm.trans HRK.out.2.1
          have e3 := h2.2.2.1.symm.trans HRK.out.2.2.1
          have e4 := h2.2.2.2.symm.trans HRK.out.2.2.2
          obtain ⟨z1, z2, z3, z4⟩ := h1
          exact ⟨z1.trans e1, z2.trans e2, z3.trans e3, z4.trans e4⟩)
        clear ho6 hu6 he6 hz6 hc hwm
        go_upto_region 23 with fail
        have c0 : ∀ z, Below w5.heap.size w5 z → z.cell? ⟨gA, 0, none⟩ = some (.int .i64 ax) := fun z hz => by rw [(HXA5.out.below hz).cell]; rfl
        have c1 : ∀ z, Below w5.heap.size w5 z → z.cell? ⟨gA, 1, none⟩ = some (.int .i64 ay) := fun z hz => by rw [(HXA5.out.below hz).cell]; rfl
        have c2 : ∀ z, Below w5.heap.size w5 z → z.cell? ⟨gA, 2, none⟩ = some (.int .i64 aa) := fun z hz => by rw [(HXA5.out.below hz).cell]; rfl
        have c3 : ∀ z, Below w5.heap.size w5 z → z.cell? ⟨gA, 3, none⟩ = some (.int .i64 ab) := fun z hz => by rw [(HXA5.out.below hz).cell]; rfl
        have d0 : ∀ z, Below w5.heap.size w5 z → z.cell? ⟨gB, 0, none⟩ = some (.int .i64 bx) := fun z hz => by rw [(HXB5.out.below hz).cell]; rfl
        have d1 : ∀ z, Below w5.heap.size w5 z → z.cell? ⟨gB, 1, none⟩ = some (.int .i64 bY) := fun z hz => by rw [(HXB5.out.below hz).cell]; rfl
        have d2 : ∀ z, Below w5.heap.size w5 z → z.cell? ⟨gB, 2, none⟩ = some (.int .i64 ba) := fun z hz => by rw [(HXB5.out.below hz).cell]; rfl
        have d3 : ∀ z, Below w5.heap.size w5 z → z.cell? ⟨gB, 3, none⟩ = some (.int .i64 bb) := fun z hz => by rw [(HXB5.out.below hz).cell]; rfl
        have x0 : ∀ z, Below w5.heap.size w5 z → z.cell? ⟨pk, 0, none⟩ = some (.int .i64 nx) := fun z hz => cellOf_belowR hz (HRK5.out).1
        have x1 : ∀ z, Below w5.heap.size w5 z → z.cell? ⟨pk, 1, none⟩ = some (.int .i64 ny) := fun z hz => cellOf_belowR hz (HRK5.out).2.1
        have x2 : ∀ z, Below w5.heap.size w5 z → z.cell? ⟨pk, 2, none⟩ = some (.int .i64 na) := fun z hz => cellOf_belowR hz (HRK5.out).2.2.1
        have x3 : ∀ z, Below w5.heap.size w5 z → z.cell? ⟨pk, 3, none⟩ = some (.int .i64 nb) := fun z hz => cellOf_belowR hz (HRK5.out).2.2.2
        have hyd := (Below.refl w5.heap.size w5).drew
        refine wp_region_kept [13] (fun z => Below w5.heap.size w5 z) (by kernel_rfl) (by assumption) (fun hH => ?_)
        refine wpK.take (i := 0) (v := _) (by simp only [List.getElem?_toArray, List.getElem?_cons_succ, List.getElem?_cons_zero]; rfl) (by kernel_rfl) (by kernel_rfl) (by kernel_rfl) (by kernel_rfl) (by kernel_rfl) (by exact fun _ _ _ h => h) (by first | exact Or.inl ⟨by rfl, by intro w hSw; go_simp; try with_reducible rfl⟩ | exact Or.inr ⟨by rfl, rfl⟩) hH ?_
        try simp only [Act.put, List.setIfInBounds_toArray, List.set_cons_zero, List.set_cons_succ]
        refine wpK.take (i := 1) (v := _) (by simp only [List.getElem?_toArray, List.getElem?_cons_succ, List.getElem?_cons_zero]; rfl) (by kernel_rfl) (by kernel_rfl) (by kernel_rfl) (by kernel_rfl) (by kernel_rfl) (by exact fun _ _ _ h => h) (by first | exact Or.inl ⟨by rfl, by intro w hSw; go_simp; try with_reducible rfl⟩ | exact Or.inr ⟨by rfl, rfl⟩) hH ?_
        try simp only [Act.put, List.setIfInBounds_toArray, List.set_cons_zero, List.set_cons_succ]
        refine wpK.take (i := 2) (v := _) (by simp only [List.getElem?_toArray, List.getElem?_cons_succ, List.getElem?_cons_zero]; rfl) (by kernel_rfl) (by kernel_rfl) (by kernel_rfl) (by kernel_rfl) (by kernel_rfl) (by exact fun _ _ _ h => h) (by first | exact Or.inl ⟨by rfl, by intro w hSw; go_simp; try with_reducible rfl⟩ | exact Or.inr ⟨by rfl, rfl⟩) hH ?_
        try simp only [Act.put, List.setIfInBounds_toArray, List.set_cons_zero, List.set_cons_succ]
        refine wpK.take (i := 3) (v := _) (by simp only [List.getElem?_toArray, List.getElem?_cons_succ, List.getElem?_cons_zero]; rfl) (by kernel_rfl) (by kernel_rfl) (by kernel_rfl) (by kernel_rfl) (by kernel_rfl) (by exact fun _ _ _ h => h) (by first | exact Or.inl ⟨by rfl, by intro w hSw; go_simp; try with_reducible rfl⟩ | exact Or.inr ⟨by rfl, rfl⟩) hH ?_
        try simp only [Act.put, List.setIfInBounds_toArray, List.set_cons_zero, List.set_cons_succ]
        refine wpK.take (i := 4) (v := _) (by simp only [List.getElem?_toArray, List.getElem?_cons_succ, List.getElem?_cons_zero]; rfl) (by kernel_rfl) (by kernel_rfl) (by kernel_rfl) (by kernel_rfl) (by kernel_rfl) (by exact fun _ _ _ h => h) (by first | exact Or.inl ⟨by rfl, by intro w hSw; go_simp; try with_reducible rfl⟩ | exact Or.inr ⟨by rfl, rfl⟩) hH ?_
        try simp only [Act.put, List.setIfInBounds_toArray, List.set_cons_zero, List.set_cons_succ]
        refine wpK.take (i := 6) (v := _) (by simp only [List.getElem?_toArray, List.getElem?_cons_succ, List.getElem?_cons_zero]; rfl) (by kernel_rfl) (by kernel_rfl) (by kernel_rfl) (by kernel_rfl) (by kernel_rfl) (by exact fun _ _ _ h => h) (by first | exact Or.inl ⟨by rfl, by intro w hSw; go_simp; try with_reducible rfl⟩ | exact Or.inr ⟨by rfl, rfl⟩) hH ?_
        try simp only [Act.put, List.setIfInBounds_toArray, List.set_cons_zero, List.set_cons_succ]
        refine wpK.take (i := 7) (v := _) (by simp only [List.getElem?_toArray, List.getElem?_cons_succ, List.getElem?_cons_zero]; rfl) (by kernel_rfl) (by kernel_rfl) (by kernel_rfl) (by kernel_rfl) (by kernel_rfl) (by exact fun _ _ _ h => h) (by first | exact Or.inl ⟨by rfl, by intro w hSw; go_simp; try with_reducible rfl⟩ | exact Or.inr ⟨by rfl, rfl⟩) hH ?_
        try simp only [Act.put, List.setIfInBounds_toArray, List.set_cons_zero, List.set_cons_succ]
        refine wpK.take (i := 8) (v := _) (by simp only [List.getElem?_toArray, List.getElem?_cons_succ, List.getElem?_cons_zero]; rfl) (by kernel_rfl) (by kernel_rfl) (by kernel_rfl) (by kernel_rfl) (by kernel_rfl) (by exact fun _ _ _ h => h) (by first | exact Or.inl ⟨by rfl, by intro w hSw; go_simp; try with_reducible rfl⟩ | exact Or.inr ⟨by rfl, rfl⟩) hH ?_
        try simp only [Act.put, List.setIfInBounds_toArray, List.set_cons_zero, List.set_cons_succ]
        refine wpK.take (i := 9) (v := _) (by simp only [List.getElem?_toArray, List.getElem?_cons_succ, List.getElem?_cons_zero]; rfl) (by kernel_rfl) (by kernel_rfl) (by kernel_rfl) (by kernel_rfl) (by kernel_rfl) (by exact fun _ _ _ h => h) (by first | exact Or.inl ⟨by rfl, by intro w hSw; go_simp; try with_reducible rfl⟩ | exact Or.inr ⟨by rfl, rfl⟩) hH ?_
        try simp only [Act.put, List.setIfInBounds_toArray, List.set_cons_zero, List.set_cons_succ]
        refine wpK.take (i := 10) (v := _) (by simp only [List.getElem?_toArray, List.getElem?_cons_succ, List.getElem?_cons_zero]; rfl) (by kernel_rfl) (by kernel_rfl) (by kernel_rfl) (by kernel_rfl) (by kernel_rfl) (by exact fun _ _ _ h => h) (by first | exact Or.inl ⟨by rfl, by intro w hSw; go_simp; try with_reducible rfl⟩ | exact Or.inr ⟨by rfl, rfl⟩) hH ?_
        try simp only [Act.put, List.setIfInBounds_toArray, List.set_cons_zero, List.set_cons_succ]
        refine wpK.step (i := 5) (by kernel_rfl) (by simp only [List.getElem?_toArray, List.getElem?_cons_succ, List.getElem?_cons_zero]; rfl) (fun K hK => ?_)
        go_simp
        (refine (HGA.out _).mono ?_); rintro e wg ⟨n1, rfl, hn1, hm1, hbg⟩; (have hkg := Below.next hyd hbg); go_simp
        refine hK.out _ _ (by assumption) (fun hH => ?_)
        clear hK K
        try simp only [Act.put, List.setIfInBounds_toArray, List.set_cons_zero, List.set_cons_succ]
        refine wpK.step (i := 11) (by kernel_rfl) (by simp only [List.getElem?_toArray, List.getElem?_cons_succ, List.getElem?_cons_zero]; rfl) (fun K hK => ?_)
        go_simp
        (refine (HGB.out _).mono ?_); rintro e w8 ⟨n2, rfl, hn2, hm2, hbh⟩; (have hkh := Below.next hkg hbh); (have hwr : IntKind.i64.wrap (n1 - n2) = n1 - n2 := by rw [IntKind.wrap_i64]; omega); (have HKw8 := hid hkh); go_simp
        refine hK.out _ _ (by assumption) (fun hH => ?_)
        clear hK K
        try simp only [Act.put, List.setIfInBounds_toArray, List.set_cons_zero, List.set_cons_succ]
        refine wpK.take (i := 12) (v := _) (by simp only [List.getElem?_toArray, List.getElem?_cons_succ, List.getElem?_cons_zero]; rfl) (by kernel_rfl) (by kernel_rfl) (by kernel_rfl) (by kernel_rfl) (by kernel_rfl) (by exact fun _ _ _ h => h) (by first | exact Or.inl ⟨by rfl, by intro w hSw; go_simp; try with_reducible rfl⟩ | exact Or.inr ⟨by rfl, rfl⟩) hH ?_
        try simp only [Act.put, List.setIfInBounds_toArray, List.set_cons_zero, List.set_cons_succ]
        refine wpK.late (i := 13) (by kernel_rfl) (by simp only [List.getElem?_toArray, List.getElem?_cons_succ, List.getElem?_cons_zero]; rfl) (by kernel_rfl) (fun K hK => ?_)
        go_simp
        refine hK.out _ _ ?_
        clear hK K
        try simp only [Act.put, List.setIfInBounds_toArray, List.set_cons_zero, List.set_cons_succ]
        refine wpK.done (by kernel_rfl) ?_ _
        obtain ⟨dd, hdd⟩ : ∃ x, x = n1 - n2 := ⟨_, rfl⟩
        rw [← hdd]
        clear hdd hwr hn1 hm1 hbg hkg hn2 hm2 hbh hkh hyd hH c0 c1 c2 c3 d0 d1 d2 d3 x0 x1 x2 x3
        go_upto_if 125 with fail
        go_cut [15] (fun v15 wx => ∃ d : Int, v15 = .int .i64 d ∧ Hid (Below w5.heap.size w5 wx))
        case first =>
          by_cases t4 : dd = 0
          · subst t4
            have HXA8 := hid (HXA5.out.below HKw8.out)
            have HXB8 := hid (HXB5.out.below HKw8.out)
            have ha1 := rect_Area (ax, ay, aa, ab)
            have ha2 := rect_Area (bx, bY, ba, bb)
            simp only [rV] at ha1 ha2
            have HA1 := hid ha1
            have HA2 := hid ha2
            clear ha1 ha2
            go_upto_region 25 with fail
            have c0 : ∀ z, Below w8.heap.size w8 z → z.cell? ⟨gA, 0, none⟩ = some (.int .i64 ax) := fun z hz => by rw [(HXA8.out.below hz).cell]; rfl
            have c1 : ∀ z, Below w8.heap.size w8 z → z.cell? ⟨gA, 1, none⟩ = some (.int .i64 ay) := fun z hz => by rw [(HXA8.out.below hz).cell]; rfl
            have c2 : ∀ z, Below w8.heap.size w8 z → z.cell? ⟨gA, 2, none⟩ = some (.int .i64 aa) := fun z hz => by rw [(HXA8.out.below hz).cell]; rfl
            have c3 : ∀ z, Below w8.heap.size w8 z → z.cell? ⟨gA, 3, none⟩ = some (.int .i64 ab) := fun z hz => by rw [(HXA8.out.below hz).cell]; rfl
            have d0 : ∀ z, Below w8.heap.size w8 z → z.cell? ⟨gB, 0, none⟩ = some (.int .i64 bx) := fun z hz => by rw [(HXB8.out.below hz).cell]; rfl
            have d1 : ∀ z, Below w8.heap.size w8 z → z.cell? ⟨gB, 1, none⟩ = some (.int .i64 bY) := fun z hz => by rw [(HXB8.out.below hz).cell]; rfl
            have d2 : ∀ z, Below w8.heap.size w8 z → z.cell? ⟨gB, 2, none⟩ = some (.int .i64 ba) := fun z hz => by rw [(HXB8.out.below hz).cell]; rfl
            have d3 : ∀ z, Below w8.heap.size w8 z → z.cell? ⟨gB, 3, none⟩ = some (.int .i64 bb) := fun z hz => by rw [(HXB8.out.below hz).cell]; rfl
            have hyd := (Below.refl w8.heap.size w8).drew
            refine wp_region_kept [5] (fun z => Below w8.heap.size w8 z) (by kernel_rfl) (by assumption) (fun hH => ?_)
            refine wpK.take (i := 0) (v := _) (by simp only [List.getElem?_toArray, List.getElem?_cons_succ, List.getElem?_cons_zero]; rfl) (by kernel_rfl) (by kernel_rfl) (by kernel_rfl) (by kernel_rfl) (by kernel_rfl) (by exact fun _ _ _ h => h) (by first | exact Or.inl ⟨by rfl, by intro w hSw; go_simp; try with_reducible rfl⟩ | exact Or.inr ⟨by rfl, rfl⟩) hH ?_
            try simp only [Act.put, List.setIfInBounds_toArray, List.set_cons_zero, List.set_cons_succ]
            refine wpK.take (i := 2) (v := _) (by simp only [List.getElem?_toArray, List.getElem?_cons_succ, List.getElem?_cons_zero]; rfl) (by kernel_rfl) (by kernel_rfl) (by kernel_rfl) (by kernel_rfl) (by kernel_rfl) (by exact fun _ _ _ h => h) (by first | exact Or.inl ⟨by rfl, by intro w hSw; go_simp; try with_reducible rfl⟩ | exact Or.inr ⟨by rfl, rfl⟩) hH ?_
            try simp only [Act.put, List.setIfInBounds_toArray, List.set_cons_zero, List.set_cons_succ]
            refine wpK.step (i := 1) (by kernel_rfl) (by simp only [List.getElem?_toArray, List.getElem?_cons_succ, List.getElem?_cons_zero]; rfl) (fun K hK => ?_)
            go_simp
            (refine (HA1.out _).mono ?_); rintro e wg ⟨n1, rfl, hn1, hm1, hbg⟩; (have hkg := Below.next hyd hbg); go_simp
            refine hK.out _ _ (by assumption) (fun hH => ?_)
            clear hK K
            try simp only [Act.put, List.setIfInBounds_toArray, List.set_cons_zero, List.set_cons_succ]
            refine wpK.step (i := 3) (by kernel_rfl) (by simp only [List.getElem?_toArray, List.getElem?_cons_succ, List.getElem?_cons_zero]; rfl) (fun K hK => ?_)
            go_simp
            (refine (HA2.out _).mono ?_); rintro e wh ⟨n2, rfl, hn2, hm2, hbh⟩; (have hkh := Below.next hkg hbh); (have hwr : IntKind.i64.wrap (n1 - n2) = n1 - n2 := by rw [IntKind.wrap_i64]; omega); go_simp
            refine hK.out _ _ (by assumption) (fun hH => ?_)
            clear hK K
            try simp only [Act.put, List.setIfInBounds_toArray, List.set_cons_zero, List.set_cons_succ]
            refine wpK.take (i := 4) (v := _) (by simp only [List.getElem?_toArray, List.getElem?_cons_succ, List.getElem?_cons_zero]; rfl) (by kernel_rfl) (by kernel_rfl) (by kernel_rfl) (by kernel_rfl) (by kernel_rfl) (by exact fun _ _ _ h => h) (by first | exact Or.inl ⟨by rfl, by intro w hSw; go_simp; try with_reducible rfl⟩ | exact Or.inr ⟨by rfl, rfl⟩) hH ?_
            try simp only [Act.put, List.setIfInBounds_toArray, List.set_cons_zero, List.set_cons_succ]
            refine wpK.late (i := 5) (by kernel_rfl) (by simp only [List.getElem?_toArray, List.getElem?_cons_succ, List.getElem?_cons_zero]; rfl) (by kernel_rfl) (fun K hK => ?_)
            go_simp
            refine hK.out _ _ ?_
            clear hK K
            try simp only [Act.put, List.setIfInBounds_toArray, List.set_cons_zero, List.set_cons_succ]
            refine wpK.done (by kernel_rfl) ?_ _
            have HKZ := hid (Below.next HKw8.out hkh)
            clear c0 c1 c2 c3 d0 d1 d2 d3
            go_wp2_with fail
            go_meet
            exact ⟨_, rfl, HKZ⟩
          · go_wp2_with fail
            go_meet
            exact ⟨_, rfl, HKw8⟩
        case rest =>
        obtain ⟨d1, rfl, HC1⟩ := hcut
        go_upto_if 132 with fail
        go_cut [15] (fun v15 wx => ∃ d : Int, v15 = .int .i64 d ∧ Hid (Below w5.heap.size w5 wx))
        case first =>
          by_cases t4 : d1 = 0
          · subst t4
            have hxy : IntKind.i64.wrap ((X : Int) - (Y : Int)) = (X : Int) - (Y : Int) := by rw [IntKind.wrap_i64]; omega
            go_wp2_with fail
            go_meet
            exact ⟨_, rfl, HC1⟩
          · go_wp2_with fail
            go_meet
            exact ⟨_, rfl, HC1⟩
        case rest =>
        rename World => w9
        obtain ⟨d2, rfl, HC2⟩ := hcut
        have HB9 := hid (Below.next HB5.out HC2.out)
        have HU9 : Hid (Upd (fun k => obk (some ⟨b3, off3, none⟩) = some k) wr w9) := hid ((((Upd.of_below HB4.out).trans (Upd.of_below HBQ.out) (fun _ _ q2 => q2)).trans HU6.out (fun _ _ q2 => q2)).trans (Upd.of_below HC2.out) (fun _ _ q2 => q2))
        have HO9 : Hid (ownP w9 (.slice a6 Zd c6) (lr.eraseIdx m)) := hid (owns_below HO6.out HC2.out)
        have HOA9 : Hid (w9.ownsRow w.heap.size 111 1 (.slice a1 X c1) X (ptrs la)) := hid (HU9.out.owns HOA.out (fun k hk q2 => HI.out.d13 k (by rw [obk_of] at hk; exact hk) q2))
        have HOB9 : Hid (w9.ownsRow w.heap.size 111 1 (.slice a2 Y c2) Y (ptrs lb)) := hid (HU9.out.owns HOB.out (fun k hk q2 => HI.out.d23 k (by rw [obk_of] at hk; exact hk) q2))
        by_cases t5 : d2 ≤ 0
        · skip
          go_wp2_with (at_builtin; refine wpList_append1w T_nodes _ rfl _ _ #[.pointer (some ⟨pk, 0, none⟩)] rfl w.heap.size _ _ _ rfl HOA9.out rfl rfl (by intro u hu; simp at hu; subst hu; rfl) ?c7 ?c8 ?_)
          case c7 => omega
          try (case c8 => have := HB9.out.size; omega)
          intro v' w' hown' hg hne hwh
          obtain ⟨aN, cN, rfl, -⟩ := own_form hown'
          have HIN : Hid (PartI w w' ks (la ++ [nk]) lb (lr.eraseIdx m) aN cN a2 c2 a6 c6) := hid (by
            refine HI.out.to1 HKM.out (by rw [← HLD.out]; exact HO9.out) HU9.out HE6.out (by
              show w'.ownsRow _ _ 1 _ (la ++ [nk]).length ((la ++ [nk]).map ptrN)
              rw [List.length_append, ← HLN.out.1, List.map_append, List.map_cons, List.map_nil]
              have e : ptrN nk = .pointer (some ⟨pk, 0, none⟩) := by unfold ptrN; rw [HPKK.out]
              rw [e]; exact hown') (by have := hg; rw [obk_of] at this; exact this) (fun k hk => by have := hwh k (by rw [obk_of]; exact hk); rw [obk_of] at this; exact this) (by rw [← HLN.out.1, ← HLN.out.2.2]; omega) (by rw [← HLN.out.2.1, ← HLN.out.2.2]; omega))
          have HBN : Hid (Below w.heap.size w w') := hid (HB9.out.grown hg HB9.out.size (fun k hk => (HOA9.out.lt k hk).1))
          have HLX : Hid (X + 1 = (la ++ [nk]).length) := hid (by rw [List.length_append, HLN.out.1]; rfl)
          clear hown' hg hne hwh
          go_wp2_with fail
          go_roundw
          case rel => exact ⟨X + 1, Y, Zd, _, _, _, _, _, _, rfl, rfl, rfl, hid ⟨_, _, _, HLX.out, HLN.out.2.1, HLD.out, HIN.out⟩, HBN⟩
          case measure => have := HZD.out; simp [lenV]; omega
        · skip
          go_wp2_with (at_builtin; refine wpList_append1w T_nodes _ rfl _ _ #[.pointer (some ⟨pk, 0, none⟩)] rfl w.heap.size _ _ _ rfl HOB9.out rfl rfl (by intro u hu; simp at hu; subst hu; rfl) ?c9 ?c10 ?_)
          case c9 => omega
          try (case c10 => have := HB9.out.size; omega)
          intro v' w' hown' hg hne hwh
          obtain ⟨aN, cN, rfl, -⟩ := own_form hown'
          have HIN : Hid (PartI w w' ks la (lb ++ [nk]) (lr.eraseIdx m) a1 c1 aN cN a6 c6) := hid (by
            refine HI.out.to2 HKM.out (by rw [← HLD.out]; exact HO9.out) HU9.out HE6.out (by
              show w'.ownsRow _ _ 1 _ (lb ++ [nk]).length ((lb ++ [nk]).map ptrN)
              rw [List.length_append, ← HLN.out.2.1, List.map_append, List.map_cons, List.map_nil]
              have e : ptrN nk = .pointer (some ⟨pk, 0, none⟩) := by unfold ptrN; rw [HPKK.out]
              rw [e]; exact hown') (by have := hg; rw [obk_of] at this; exact this) (fun k hk => by have := hwh k (by rw [obk_of]; exact hk); rw [obk_of] at this; exact this) (by rw [← HLN.out.1, ← HLN.out.2.2]; omega) (by rw [← HLN.out.2.1, ← HLN.out.2.2]; omega))
          have HBN : Hid (Below w.heap.size w w') := hid (HB9.out.grown hg HB9.out.size (fun k hk => (HOB9.out.lt k hk).1))
          have HLX : Hid (Y + 1 = (lb ++ [nk]).length) := hid (by rw [List.length_append, HLN.out.2.1]; rfl)
          clear hown' hg hne hwh
          go_wp2_with fail
          go_roundw
          case rel => exact ⟨X, Y + 1, Zd, _, _, _, _, _, _, rfl, rfl, rfl, hid ⟨_, _, _, HLN.out.1, HLX.out, HLD.out, HIN.out⟩, HBN⟩
          case measure => have := HZD.out; simp [lenV]; omega
end Go.Proofs.YtjbnfppnmljbmaaGreat
end
section
/- Contract of rtree's fit. -/
namespace Go.Proofs.YtjbnfppnmljbmaaGreat
open Go.RowKit
open Go.Lib (hid)
set_option linter.unusedVariables false

theorem set7r {x : World} {g : Nat} {c0 c1 c2 c3 c4 c5 c6 : Value} (h : Blk x g #[c0, c1, c2, c3, c4, c5, c6]) (u0 u1 u2 u3 : Value) : ∃ wz, wz = (((x.setCell ⟨g, 0, none⟩ u0).setCell ⟨g, 1, none⟩ u1).setCell ⟨g, 2, none⟩ u2).setCell ⟨g, 3, none⟩ u3 ∧ Blk wz g #[u0, u1, u2, u3, c4, c5, c6] ∧ Upd (fun k => k = g) x wz :=
  ⟨_, rfl, by simpa using (((h.set 0 u0).set 1 u1).set 2 u2).set 3 u3, (((Upd.setCell x g 0 u0).trans (Upd.setCell _ g 1 u1) (fun _ _ q => q)).trans (Upd.setCell _ g 2 u2) (fun _ _ q => q)).trans (Upd.setCell _ g 3 u3) (fun _ _ q => q)⟩
def FitPost (w : World) (p : Nat) (q : R4) (kv : Value) (v d : Int) (e : Ending) (w' : World) : Prop :=
  e = .returned (.tuple #[]) ∧ Blk w' p (cells7 q kv v d) ∧ Upd (fun k => k = p) w w'
set_option maxRecDepth 100000 in
set_option maxHeartbeats 2000000 in
theorem rt_fit (ks : List Nd) (a : Option Addr) (m c p : Nat) (r0 : R4) (v d : Int) (w : World) (hp : Blk w p (cells7 r0 (.slice a m c) v d)) (hs : SlN w a m c ks) (hm : m ≤ 1000) :
    Calls Tryz.prog 100 #[.pointer (some ⟨p, 0, none⟩)] w (FitPost w p (boundR (ks.map (·.r))) (.slice a m c) v d) := by
  obtain ⟨q, hq⟩ : ∃ q, boundR (ks.map (·.r)) = q := ⟨_, rfl⟩
  rw [hq]
  have hb := rt_bound ks a m c w hs hm
  rw [hq] at hb
  obtain ⟨qx, qy, qa, qb⟩ := q
  obtain ⟨rx, ry, ra, rb⟩ := r0
  simp only [rV] at hb
  have HBD := hid hb
  have HP := hid hp
  obtain ⟨-, c4, -⟩ := hp.c7
  clear hq hb hs hp
  go_enter Tryz.func100, Tryz.ntmps100
  go_wp2_with fail
  refine HBD.out.mono ?_
  rintro e w1 ⟨rfl, hb1⟩
  have hp1 := HP.out.below hb1
  have HB1 := hid hb1
  unfold cells7 at hp1
  have HP1 := hid hp1
  obtain ⟨w9, hw9, hk9, hu9⟩ := set7r hp1 (.int .i64 qx) (.int .i64 qy) (.int .i64 qa) (.int .i64 qb)
  have HW9 := hid hw9
  have HQ : Hid (FitPost w p (qx, qy, qa, qb) (.slice a m c) v d (.returned (.tuple #[])) w9) := hid ⟨rfl, hk9, (Upd.of_below hb1).trans hu9 (fun _ _ q => q)⟩
  have x0 : w1.cell? ⟨p, 0, none⟩ = some (.int .i64 rx) := by rw [hp1.cell]; rfl
  have x1 : w1.cell? ⟨p, 1, none⟩ = some (.int .i64 ry) := by rw [hp1.cell]; rfl
  have x2 : w1.cell? ⟨p, 2, none⟩ = some (.int .i64 ra) := by rw [hp1.cell]; rfl
  have x3 : w1.cell? ⟨p, 3, none⟩ = some (.int .i64 rb) := by rw [hp1.cell]; rfl
  obtain ⟨f0, f1, f2, f3⟩ := hp1.f4r
  clear hw9 hk9 hu9 hp1 hb1 c4
  go_wp2_with fail
  rw [← HW9.out]
  go_end0
  exact HQ.out
end Go.Proofs.YtjbnfppnmljbmaaGreat
end
