/- Joined texts, in this order: Ref23f, StallGoods. Each one's first remark says what it proves; no condition beyond those that its theorems name. -/
import Derived.Test.YtajfjgekcjkedaaJLawStallRestores15
section
/- Contract of the document's stalls: Sell. -/
namespace Go.Proofs.Ytajfjgekcjkedaa
open Go.RowKit
open Go.Lib (hid)
set_option linter.unusedVariables false

theorem HasT.at {T : List (Int × Int)} {h r g : Int} {i : Nat} (hr : HasT T h r) (hs : SortK kT T) (hi : T[i]? = some (h, g)) : r = (i : Int) := by
  rcases hr with ⟨j, g', rfl, q, -⟩ | ⟨-, q⟩
  · rw [sortK_idx kT hs q hi rfl]
  · exact absurd rfl (lookup_none_iff.1 q _ (List.mem_of_getElem? hi))
theorem ref23_TakeOk {at_ ag : Option Addr} {ct cg : Nat} {X : StX} (w : World) (h : RefX w at_ ct ag cg X) (hlow : Low at_ ag w.heap.size) (hi : XInv X) {k : Int} {g : G3} (hf : fdX X.goods k = some g) {X2 : StX} (e : takeX X k = X2) :
    Calls Try.prog 43 #[.agg #[.slice at_ X.tills.length ct, .slice ag X.goods.length cg], .int .i64 k] w (R23Post w at_ ag X2 0) := by
  have := ref23_Take w h hlow hi k
  rw [takeE_some hf, if_pos rfl, e] at this
  exact this
theorem ref23_SetOk {at_ ag : Option Addr} {ct cg : Nat} {X : StX} (w : World) (h : RefX w at_ ct ag cg X) (hlow : Low at_ ag w.heap.size) (k g : Int) {X2 : StX} (e : setX X k g = X2) :
    Calls Try.prog 17 #[.agg #[.slice at_ X.tills.length ct, .slice ag X.goods.length cg], .int .i64 k, .int .i64 g] w (R23Set w at_ ag X2) := by
  have := ref23_Set w h hlow k g
  rw [e] at this
  exact this
theorem sellX_none {X : StX} {t : Int} (e : fdX X.goods t = none) : sellX X t = (X, 0, 0, 14) := by unfold sellX; rw [e]
theorem sellX_full {X : StX} {t h u p now : Int} (e : fdX X.goods t = some (h, u, p)) (el : X.tills.lookup h = some now) (hb : 1099511627776 < now + p) : sellX X t = (X, 0, 0, 15) := by
  have e2 : tillX X h = now := by unfold tillX; rw [el]; rfl
  unfold sellX; rw [e]; simp only [e2]; rw [if_pos hb]
theorem sellX_ok {X : StX} {t h u p now : Int} (e : fdX X.goods t = some (h, u, p)) (el : X.tills.lookup h = some now) (hb : ¬ 1099511627776 < now + p) : sellX X t = (setX (takeX X t) h (now + p), h, p, 0) := by
  have e2 : tillX X h = now := by unfold tillX; rw [el]; rfl
  unfold sellX; rw [e]; simp only [e2]; rw [if_neg hb]
set_option maxRecDepth 100000 in
set_option maxHeartbeats 2000000 in
theorem ref23_Sell {at_ ag : Option Addr} {ct cg : Nat} {X : StX} (w : World) (h : RefX w at_ ct ag cg X) (hlow : Low at_ ag w.heap.size) (hi : XInv X) (t : Int) :
    Calls Try.prog 44 #[.agg #[.slice at_ X.tills.length ct, .slice ag X.goods.length cg], .int .i64 t] w (R23Post w at_ ag (sellX X t).1 (sellX X t).2.2.2) := by
  have H := hid h
  have HLOW := hid hlow
  have hlt_ := h.lt
  have hlg_ := h.lg
  clear h hlow
  cases hf : fdX X.goods t with
  | none =>
    rw [sellX_none hf]
    have HF := hid hf
    clear hi hf
    go_enter Try.func44, Try.ntmps44
    go_upto_region 1 with fail
    generalize hw2 : World.alloc (World.alloc w _) _ = w2
    obtain ⟨bs, hbs⟩ : ∃ b, b = w.heap.size := ⟨_, rfl⟩
    obtain ⟨b4, hb4⟩ : ∃ b, b = w.heap.size + 1 := ⟨_, rfl⟩
    have hz1 : (World.alloc w (.cells #[.slice at_ X.tills.length ct, .slice ag X.goods.length cg] 46)).heap.size = w.heap.size + 1 := by simp
    try rw [hz1]
    try rw [← hb4]
    try rw [← hbs]
    have hb2 : Below w.heap.size w w2 := by rw [← hw2]; exact Below.next (Below.new _ _) (Below.new _ _)
    have HK : Hid (Blk w2 bs #[.slice at_ X.tills.length ct, .slice ag X.goods.length cg]) := hid (by rw [← hw2, hbs]; exact (Blk.new w _ _).below (Below.new _ _))
    have HK4 : Hid (Blk w2 b4 #[.slice none 0 0, .slice none 0 0]) := hid (by rw [← hw2, hb4, ← hz1]; exact Blk.new _ _ _)
    have H2 := hid (H.out.below hb2)
    have HB2 := hid hb2
    have HBSL : Hid (w.heap.size ≤ bs) := hid (by omega)
    have HB4 : Hid (w.heap.size ≤ b4 ∧ b4 < w2.heap.size ∧ b4 ≠ bs) := hid (by have := HK4.out.lt; omega)
    clear hw2 hbs hb4 hz1 hb2
    have c0 : w2.cell? ⟨bs, 0, none⟩ = some (.slice at_ X.tills.length ct) := by rw [HK.out.cell]; rfl
    have c1 : w2.cell? ⟨bs, 1, none⟩ = some (.slice ag X.goods.length cg) := by rw [HK.out.cell]; rfl
    go_wp2_with fail
    refine (ref23_Find w2 H2.out t).mono ?_
    rintro e w3 ⟨r, rfl, hr, hb3⟩
    obtain rfl : r = -1 := by
      rcases hr with ⟨i, g, -, -, q⟩ | ⟨q, -⟩
      · rw [HF.out] at q; simp at q
      · exact q
    have HK3 := hid (HK.out.below hb3)
    have HK43 := hid (HK4.out.below hb3)
    have H3 := hid (H2.out.below hb3)
    have HB3 := hid (Below.next HB2.out hb3)
    clear hr hb3 c0 c1
    have c0 : w3.cell? ⟨bs, 0, none⟩ = some (.slice at_ X.tills.length ct) := by rw [HK3.out.cell]; rfl
    have c1 : w3.cell? ⟨bs, 1, none⟩ = some (.slice ag X.goods.length cg) := by rw [HK3.out.cell]; rfl
    have q0 : w3.cell? ⟨b4, 0, none⟩ = some (.slice none 0 0) := by rw [HK43.out.cell]; rfl
    have q1 : w3.cell? ⟨b4, 1, none⟩ = some (.slice none 0 0) := by rw [HK43.out.cell]; rfl
    have f0 : w3.frozen? ⟨b4, 0, none⟩ = false := HK43.out.unfrozen 0
    have f1 : w3.frozen? ⟨b4, 1, none⟩ = false := HK43.out.unfrozen 1
    go_wp2_with fail
    have HK5 : Hid (Blk ((w3.setCell ⟨b4, 0, none⟩ (.slice at_ X.tills.length ct)).setCell ⟨b4, 1, none⟩ (.slice ag X.goods.length cg)) b4 #[.slice at_ X.tills.length ct, .slice ag X.goods.length cg]) := hid (by simpa using (HK43.out.set 0 (.slice at_ X.tills.length ct)).set 1 (.slice ag X.goods.length cg))
    have HT5 := hid (((H3.out.t).set4 (b4 := b4) (i := 0) (u := .slice at_ X.tills.length ct) (fun k hk => by have := HLOW.out k (.inl hk); have := HB4.out.1; omega)).set4 (b4 := b4) (i := 1) (u := .slice ag X.goods.length cg) (fun k hk => by have := HLOW.out k (.inl hk); have := HB4.out.1; omega))
    have HG5 := hid (((H3.out.g).set4 (b4 := b4) (i := 0) (u := .slice at_ X.tills.length ct) (fun k hk => by have := HLOW.out k (.inr hk); have := HB4.out.1; omega)).set4 (b4 := b4) (i := 1) (u := .slice ag X.goods.length cg) (fun k hk => by have := HLOW.out k (.inr hk); have := HB4.out.1; omega))
    have HB5 : Hid (Below w.heap.size w ((w3.setCell ⟨b4, 0, none⟩ (.slice at_ X.tills.length ct)).setCell ⟨b4, 1, none⟩ (.slice ag X.goods.length cg))) := hid (by
      have hb := HB3.out
      have u := (Upd.setCell w3 b4 0 (.slice at_ X.tills.length ct)).trans (Upd.setCell _ b4 1 (.slice ag X.goods.length cg)) (fun _ _ q => q)
      exact hb.trans (u.below hb.size (fun j _ q => by have := HB4.out.1; omega)))
    have HSZ9 : Hid (w3.heap.size ≤ ((w3.setCell ⟨b4, 0, none⟩ (.slice at_ X.tills.length ct)).setCell ⟨b4, 1, none⟩ (.slice ag X.goods.length cg)).heap.size) := hid (by simp [World.setCell])
    generalize World.setCell (World.setCell w3 _ _) _ _ = w9 at HK5 HT5 HG5 HB5 HSZ9
    have k0 : w9.cell? ⟨b4, 0, none⟩ = some (.slice at_ X.tills.length ct) := by rw [HK5.out.cell]; rfl
    have k1 : w9.cell? ⟨b4, 1, none⟩ = some (.slice ag X.goods.length cg) := by rw [HK5.out.cell]; rfl
    clear q0 q1 f0 f1
    refine bodyPost_ret (res_cell_tmp rfl _ _ _ rfl (by go_simp; rfl)) rfl ?_
    exact ⟨_, _, _, _, rfl, ⟨HT5.out, HG5.out, H.out.lt, H.out.lg⟩, HB5.out, fun k hk => ⟨by have := HLOW.out k hk; have := HB5.out.size; omega, .inl hk⟩⟩
  | some g0 =>
    obtain ⟨h, t', p⟩ := g0
    obtain ⟨hm, ht⟩ := (fdX_some hi.g1).1 hf
    obtain rfl : t = t' := ht.symm
    obtain ⟨hs, -, -, p1, p2⟩ := hi.g2 _ hm
    simp only at hs p1 p2 hf
    have HSORT := hid hi.t1
    have HF := hid hf
    obtain ⟨now, hT⟩ := Option.isSome_iff_exists.1 hs
    obtain ⟨-, -, n1, n2⟩ := hi.t2 _ (lookup_mem hT)
    simp only at n1 n2
    obtain ⟨i1, hI1⟩ := List.mem_iff_getElem?.1 (lookup_mem hT)
    have i11 : (i1 : Int) < (X.tills.length : Int) := by have := (List.getElem?_eq_some_iff.1 hI1).1; omega
    have HI1 := hid hI1
    obtain ⟨a', c', e', hrd, -⟩ := H.out.t
    simp only [Value.slice.injEq, true_and] at e'
    obtain ⟨rfl, rfl⟩ := e'
    obtain ⟨bt, ot, -, -, rfl, -⟩ := hrd.pair 0 (by omega)
    obtain ⟨a', c', e', hrd2, -⟩ := H.out.g
    simp only [Value.slice.injEq, true_and] at e'
    obtain ⟨rfl, rfl⟩ := e'
    obtain ⟨bg, og, -, -, -, rfl, -⟩ := hrd2.triple 0 (List.length_pos_of_mem hm)
    clear hm hs hI1 hrd hrd2
    by_cases hb : 1099511627776 < now + p
    · rw [sellX_full hf hT hb]
      have hb2 : 1099511627776 - p < now := by omega
      clear hi hf hT
      go_enter Try.func44, Try.ntmps44
      go_upto_region 1 with fail
      generalize hw2 : World.alloc (World.alloc w _) _ = w2
      obtain ⟨bs, hbs⟩ : ∃ b, b = w.heap.size := ⟨_, rfl⟩
      obtain ⟨b4, hb4⟩ : ∃ b, b = w.heap.size + 1 := ⟨_, rfl⟩
      have hz1 : (World.alloc w (.cells #[.slice (some ⟨bt, ot, none⟩) X.tills.length ct, .slice (some ⟨bg, og, none⟩) X.goods.length cg] 46)).heap.size = w.heap.size + 1 := by simp
      try rw [hz1]
      try rw [← hb4]
      try rw [← hbs]
      have hb2 : Below w.heap.size w w2 := by rw [← hw2]; exact Below.next (Below.new _ _) (Below.new _ _)
      have HK : Hid (Blk w2 bs #[.slice (some ⟨bt, ot, none⟩) X.tills.length ct, .slice (some ⟨bg, og, none⟩) X.goods.length cg]) := hid (by rw [← hw2, hbs]; exact (Blk.new w _ _).below (Below.new _ _))
      have HK4 : Hid (Blk w2 b4 #[.slice none 0 0, .slice none 0 0]) := hid (by rw [← hw2, hb4, ← hz1]; exact Blk.new _ _ _)
      have H2 := hid (H.out.below hb2)
      have HB2 := hid hb2
      have HBSL : Hid (w.heap.size ≤ bs) := hid (by omega)
      have HB4 : Hid (w.heap.size ≤ b4 ∧ b4 < w2.heap.size ∧ b4 ≠ bs) := hid (by have := HK4.out.lt; omega)
      clear hw2 hbs hb4 hz1 hb2
      have c0 : w2.cell? ⟨bs, 0, none⟩ = some (.slice (some ⟨bt, ot, none⟩) X.tills.length ct) := by rw [HK.out.cell]; rfl
      have c1 : w2.cell? ⟨bs, 1, none⟩ = some (.slice (some ⟨bg, og, none⟩) X.goods.length cg) := by rw [HK.out.cell]; rfl
      go_wp2_with fail
      refine (ref23_Find w2 H2.out t).mono ?_
      rintro e w3 ⟨r, rfl, hr, hb3⟩
      obtain ⟨i0, rfl, hat⟩ : ∃ i0 : Nat, r = (i0 : Int) ∧ X.goods[i0]? = some (h, t, p) := by
        rcases hr with ⟨i, g, q1, q2, q3⟩ | ⟨-, q⟩
        · rw [HF.out] at q3; obtain rfl := Option.some.inj q3; exact ⟨i, q1, q2⟩
        · rw [HF.out] at q; simp at q
      have i00 : ¬ (i0 : Int) < 0 := by omega
      have i01 : (0 : Int) ≤ (i0 : Int) := by omega
      have i02 : (i0 : Int) < (X.goods.length : Int) := by have := (List.getElem?_eq_some_iff.1 hat).1; omega
      have HK3 := hid (HK.out.below hb3)
      have HK43 := hid (HK4.out.below hb3)
      have H3 := hid (H2.out.below hb3)
      have HB3 := hid (Below.next HB2.out hb3)
      obtain ⟨a', c', e', hrd, -⟩ := H3.out.g
      simp only [Value.slice.injEq, true_and] at e'
      obtain ⟨rfl, rfl⟩ := e'
      obtain ⟨d0, d1, d2⟩ := hrd.triple_at hat
      clear hr hb3 hat c0 c1 hrd
      have c0 : w3.cell? ⟨bs, 0, none⟩ = some (.slice (some ⟨bt, ot, none⟩) X.tills.length ct) := by rw [HK3.out.cell]; rfl
      have c1 : w3.cell? ⟨bs, 1, none⟩ = some (.slice (some ⟨bg, og, none⟩) X.goods.length cg) := by rw [HK3.out.cell]; rfl
      go_upto_region 5 with fail
      obtain ⟨w5, hw5⟩ : ∃ w5, w5 = w3.alloc (.cells #[.int .i64 h, .int .i64 t, .int .i64 p] 81) := ⟨_, rfl⟩
      rw [← hw5]
      obtain ⟨bx, hbx⟩ : ∃ b, b = w3.heap.size := ⟨_, rfl⟩
      rw [← hbx]
      have hb5 : Below w3.heap.size w3 w5 := by rw [hw5]; exact Below.new _ _
      have HX5 := hid (show Blk w5 bx #[.int .i64 h, .int .i64 t, .int .i64 p] by rw [hw5, hbx]; exact Blk.new w3 _ _)
      have HK5_ := hid (HK3.out.below hb5)
      have HK45 := hid (HK43.out.below hb5)
      have H5 := hid (H3.out.below hb5)
      have HB5_ := hid (Below.next HB3.out hb5)
      have HBX : Hid (bx ≠ bs ∧ bx ≠ b4) := hid (by have := HK3.out.lt; have := HK43.out.lt; omega)
      clear hw5 hbx hb5 c0 c1 d0 d1 d2 i00 i01 i02
      have e0 : ∀ y, Below w5.heap.size w5 y → y.cell? ⟨bs, 0, none⟩ = some (.slice (some ⟨bt, ot, none⟩) X.tills.length ct) := fun y hy => by rw [(HK5_.out.below hy).cell]; rfl
      have e1 : ∀ y, Below w5.heap.size w5 y → y.cell? ⟨bs, 1, none⟩ = some (.slice (some ⟨bg, og, none⟩) X.goods.length cg) := fun y hy => by rw [(HK5_.out.below hy).cell]; rfl
      have e2 : ∀ y, Below w5.heap.size w5 y → y.cell? ⟨bx, 0, none⟩ = some (.int .i64 h) := fun y hy => by rw [(HX5.out.below hy).cell]; rfl
      have e3 : ∀ y, Below w5.heap.size w5 y → y.cell? ⟨bt, ot + i1 * 2 + 1, none⟩ = some (.int .i64 now) := fun y hy => by
        obtain ⟨a', c', e', hrd, -⟩ := H5.out.t.below hy
        simp only [Value.slice.injEq, true_and] at e'
        obtain ⟨rfl, rfl⟩ := e'
        exact (hrd.pair_at HI1.out).2
      have i10 : (0 : Int) ≤ (i1 : Int) := by omega
      have hyd := (Below.refl w5.heap.size w5).drew
      refine wp_region_kept [9] (fun y => Below w5.heap.size w5 y) (by kernel_rfl) (by assumption) (fun hH => ?_)
      refine wpK.take (i := 0) (v := _) (by simp only [List.getElem?_toArray, List.getElem?_cons_succ, List.getElem?_cons_zero]; rfl) (by kernel_rfl) (by kernel_rfl) (by kernel_rfl) (by kernel_rfl) (by kernel_rfl) (by exact fun _ _ _ h => h) (by first | exact Or.inl ⟨by rfl, by intro w hSw; go_simp; try with_reducible rfl⟩ | exact Or.inr ⟨by rfl, rfl⟩) hH ?_
      try simp only [Act.put, List.setIfInBounds_toArray, List.set_cons_zero, List.set_cons_succ]
      refine wpK.take (i := 1) (v := _) (by simp only [List.getElem?_toArray, List.getElem?_cons_succ, List.getElem?_cons_zero]; rfl) (by kernel_rfl) (by kernel_rfl) (by kernel_rfl) (by kernel_rfl) (by kernel_rfl) (by exact fun _ _ _ h => h) (by first | exact Or.inl ⟨by rfl, by intro w hSw; go_simp; try with_reducible rfl⟩ | exact Or.inr ⟨by rfl, rfl⟩) hH ?_
      try simp only [Act.put, List.setIfInBounds_toArray, List.set_cons_zero, List.set_cons_succ]
      refine wpK.take (i := 2) (v := _) (by simp only [List.getElem?_toArray, List.getElem?_cons_succ, List.getElem?_cons_zero]; rfl) (by kernel_rfl) (by kernel_rfl) (by kernel_rfl) (by kernel_rfl) (by kernel_rfl) (by exact fun _ _ _ h => h) (by first | exact Or.inl ⟨by rfl, by intro w hSw; go_simp; try with_reducible rfl⟩ | exact Or.inr ⟨by rfl, rfl⟩) hH ?_
      try simp only [Act.put, List.setIfInBounds_toArray, List.set_cons_zero, List.set_cons_succ]
      refine wpK.take (i := 3) (v := _) (by simp only [List.getElem?_toArray, List.getElem?_cons_succ, List.getElem?_cons_zero]; rfl) (by kernel_rfl) (by kernel_rfl) (by kernel_rfl) (by kernel_rfl) (by kernel_rfl) (by exact fun _ _ _ h => h) (by first | exact Or.inl ⟨by rfl, by intro w hSw; go_simp; try with_reducible rfl⟩ | exact Or.inr ⟨by rfl, rfl⟩) hH ?_
      try simp only [Act.put, List.setIfInBounds_toArray, List.set_cons_zero, List.set_cons_succ]
      refine wpK.take (i := 4) (v := _) (by simp only [List.getElem?_toArray, List.getElem?_cons_succ, List.getElem?_cons_zero]; rfl) (by kernel_rfl) (by kernel_rfl) (by kernel_rfl) (by kernel_rfl) (by kernel_rfl) (by exact fun _ _ _ h => h) (by first | exact Or.inl ⟨by rfl, by intro w hSw; go_simp; try with_reducible rfl⟩ | exact Or.inr ⟨by rfl, rfl⟩) hH ?_
      try simp only [Act.put, List.setIfInBounds_toArray, List.set_cons_zero, List.set_cons_succ]
      refine wpK.step (i := 5) (by kernel_rfl) (by simp only [List.getElem?_toArray, List.getElem?_cons_succ, List.getElem?_cons_zero]; rfl) (fun K hK => ?_)
      go_simp
      (refine (ref23_Has _ (H5.out.below hyd) h).mono ?_); rintro e wA ⟨r, rfl, hr, hbA⟩; (obtain rfl : r = (i1 : Int) := hr.at HSORT.out HI1.out); (have hbB := Below.next hyd hbA); go_simp
      refine hK.out _ _ (by assumption) (fun hH => ?_)
      clear hK K
      try simp only [Act.put, List.setIfInBounds_toArray, List.set_cons_zero, List.set_cons_succ]
      refine wpK.take (i := 6) (v := _) (by simp only [List.getElem?_toArray, List.getElem?_cons_succ, List.getElem?_cons_zero]; rfl) (by kernel_rfl) (by kernel_rfl) (by kernel_rfl) (by kernel_rfl) (by kernel_rfl) (by exact fun _ _ _ h => h) (by first | exact Or.inl ⟨by rfl, by intro w hSw; go_simp; try with_reducible rfl⟩ | exact Or.inr ⟨by rfl, rfl⟩) hH ?_
      try simp only [Act.put, List.setIfInBounds_toArray, List.set_cons_zero, List.set_cons_succ]
      refine wpK.take (i := 7) (v := _) (by simp only [List.getElem?_toArray, List.getElem?_cons_succ, List.getElem?_cons_zero]; rfl) (by kernel_rfl) (by kernel_rfl) (by kernel_rfl) (by kernel_rfl) (by kernel_rfl) (by exact fun _ _ _ h => h) (by first | exact Or.inl ⟨by rfl, by intro w hSw; go_simp; try with_reducible rfl⟩ | exact Or.inr ⟨by rfl, rfl⟩) hH ?_
      try simp only [Act.put, List.setIfInBounds_toArray, List.set_cons_zero, List.set_cons_succ]
      refine wpK.take (i := 8) (v := _) (by simp only [List.getElem?_toArray, List.getElem?_cons_succ, List.getElem?_cons_zero]; rfl) (by kernel_rfl) (by kernel_rfl) (by kernel_rfl) (by kernel_rfl) (by kernel_rfl) (by exact fun _ _ _ h => h) (by first | exact Or.inl ⟨by rfl, by intro w hSw; go_simp; try with_reducible rfl⟩ | exact Or.inr ⟨by rfl, rfl⟩) hH ?_
      try simp only [Act.put, List.setIfInBounds_toArray, List.set_cons_zero, List.set_cons_succ]
      refine wpK.late (i := 9) (by kernel_rfl) (by simp only [List.getElem?_toArray, List.getElem?_cons_succ, List.getElem?_cons_zero]; rfl) (by kernel_rfl) (fun K hK => ?_)
      go_simp
      refine hK.out _ _ ?_
      clear hK K
      try simp only [Act.put, List.setIfInBounds_toArray, List.set_cons_zero, List.set_cons_succ]
      refine wpK.done (by kernel_rfl) ?_ _
      have HXA := hid (HX5.out.below hbB)
      have HKA := hid (HK5_.out.below hbB)
      have HK4A := hid (HK45.out.below hbB)
      have HA := hid (H5.out.below hbB)
      have HBA := hid (Below.next HB5_.out hbB)
      have HBN : Hid (b4 < wA.heap.size) := hid HK4A.out.lt
      clear e0 e1 e2 e3 hyd hbA hbB hr
      have c0 : wA.cell? ⟨bs, 0, none⟩ = some (.slice (some ⟨bt, ot, none⟩) X.tills.length ct) := by rw [HKA.out.cell]; rfl
      have c1 : wA.cell? ⟨bs, 1, none⟩ = some (.slice (some ⟨bg, og, none⟩) X.goods.length cg) := by rw [HKA.out.cell]; rfl
      have k2 : wA.cell? ⟨bx, 2, none⟩ = some (.int .i64 p) := by rw [HXA.out.cell]; rfl
      have hwr : IntKind.i64.wrap (1099511627776 - p) = 1099511627776 - p := by rw [IntKind.wrap_i64]; omega
      have q0 : wA.cell? ⟨b4, 0, none⟩ = some (.slice none 0 0) := by rw [HK4A.out.cell]; rfl
      have q1 : wA.cell? ⟨b4, 1, none⟩ = some (.slice none 0 0) := by rw [HK4A.out.cell]; rfl
      have f0 : wA.frozen? ⟨b4, 0, none⟩ = false := HK4A.out.unfrozen 0
      have f1 : wA.frozen? ⟨b4, 1, none⟩ = false := HK4A.out.unfrozen 1
      go_wp2_with fail
      have HK5 : Hid (Blk ((wA.setCell ⟨b4, 0, none⟩ (.slice (some ⟨bt, ot, none⟩) X.tills.length ct)).setCell ⟨b4, 1, none⟩ (.slice (some ⟨bg, og, none⟩) X.goods.length cg)) b4 #[.slice (some ⟨bt, ot, none⟩) X.tills.length ct, .slice (some ⟨bg, og, none⟩) X.goods.length cg]) := hid (by simpa using (HK4A.out.set 0 (.slice (some ⟨bt, ot, none⟩) X.tills.length ct)).set 1 (.slice (some ⟨bg, og, none⟩) X.goods.length cg))
      have HT5 := hid (((HA.out.t).set4 (b4 := b4) (i := 0) (u := .slice (some ⟨bt, ot, none⟩) X.tills.length ct) (fun k hk => by have := HLOW.out k (.inl hk); have := HB4.out.1; omega)).set4 (b4 := b4) (i := 1) (u := .slice (some ⟨bg, og, none⟩) X.goods.length cg) (fun k hk => by have := HLOW.out k (.inl hk); have := HB4.out.1; omega))
      have HG5 := hid (((HA.out.g).set4 (b4 := b4) (i := 0) (u := .slice (some ⟨bt, ot, none⟩) X.tills.length ct) (fun k hk => by have := HLOW.out k (.inr hk); have := HB4.out.1; omega)).set4 (b4 := b4) (i := 1) (u := .slice (some ⟨bg, og, none⟩) X.goods.length cg) (fun k hk => by have := HLOW.out k (.inr hk); have := HB4.out.1; omega))
      have HB5 : Hid (Below w.heap.size w ((wA.setCell ⟨b4, 0, none⟩ (.slice (some ⟨bt, ot, none⟩) X.tills.length ct)).setCell ⟨b4, 1, none⟩ (.slice (some ⟨bg, og, none⟩) X.goods.length cg))) := hid (by
        have hb := HBA.out
        have u := (Upd.setCell wA b4 0 (.slice (some ⟨bt, ot, none⟩) X.tills.length ct)).trans (Upd.setCell _ b4 1 (.slice (some ⟨bg, og, none⟩) X.goods.length cg)) (fun _ _ q => q)
        exact hb.trans (u.below hb.size (fun j _ q => by have := HB4.out.1; omega)))
      have HSZ9 : Hid (wA.heap.size ≤ ((wA.setCell ⟨b4, 0, none⟩ (.slice (some ⟨bt, ot, none⟩) X.tills.length ct)).setCell ⟨b4, 1, none⟩ (.slice (some ⟨bg, og, none⟩) X.goods.length cg)).heap.size) := hid (by simp [World.setCell])
      generalize World.setCell (World.setCell wA _ _) _ _ = w9 at HK5 HT5 HG5 HB5 HSZ9
      have k0 : w9.cell? ⟨b4, 0, none⟩ = some (.slice (some ⟨bt, ot, none⟩) X.tills.length ct) := by rw [HK5.out.cell]; rfl
      have k1 : w9.cell? ⟨b4, 1, none⟩ = some (.slice (some ⟨bg, og, none⟩) X.goods.length cg) := by rw [HK5.out.cell]; rfl
      clear q0 q1 f0 f1
      refine bodyPost_ret (res_cell_tmp rfl _ _ _ rfl (by go_simp; rfl)) rfl ?_
      exact ⟨_, _, _, _, rfl, ⟨HT5.out, HG5.out, H.out.lt, H.out.lg⟩, HB5.out, fun k hk => ⟨by have := HLOW.out k hk; have := HB5.out.size; omega, .inl hk⟩⟩
    · obtain ⟨X2, hX2⟩ : ∃ X2, takeX X t = X2 := ⟨_, rfl⟩
      obtain ⟨X3, hX3⟩ : ∃ X3, setX X2 h (now + p) = X3 := ⟨_, rfl⟩
      rw [sellX_ok hf hT hb, hX2, hX3]
      have hb2 : ¬ 1099511627776 - p < now := by omega
      have HX2 := hid hX2
      have HX3 := hid hX3
      have HI := hid hi
      clear hi hf hT hX2 hX3
      go_enter Try.func44, Try.ntmps44
      go_upto_region 1 with fail
      generalize hw2 : World.alloc (World.alloc w _) _ = w2
      obtain ⟨bs, hbs⟩ : ∃ b, b = w.heap.size := ⟨_, rfl⟩
      obtain ⟨b4, hb4⟩ : ∃ b, b = w.heap.size + 1 := ⟨_, rfl⟩
      have hz1 : (World.alloc w (.cells #[.slice (some ⟨bt, ot, none⟩) X.tills.length ct, .slice (some ⟨bg, og, none⟩) X.goods.length cg] 46)).heap.size = w.heap.size + 1 := by simp
      try rw [hz1]
      try rw [← hb4]
      try rw [← hbs]
      have hb2 : Below w.heap.size w w2 := by rw [← hw2]; exact Below.next (Below.new _ _) (Below.new _ _)
      have HK : Hid (Blk w2 bs #[.slice (some ⟨bt, ot, none⟩) X.tills.length ct, .slice (some ⟨bg, og, none⟩) X.goods.length cg]) := hid (by rw [← hw2, hbs]; exact (Blk.new w _ _).below (Below.new _ _))
      have HK4 : Hid (Blk w2 b4 #[.slice none 0 0, .slice none 0 0]) := hid (by rw [← hw2, hb4, ← hz1]; exact Blk.new _ _ _)
      have H2 := hid (H.out.below hb2)
      have HB2 := hid hb2
      have HBSL : Hid (w.heap.size ≤ bs) := hid (by omega)
      have HB4 : Hid (w.heap.size ≤ b4 ∧ b4 < w2.heap.size ∧ b4 ≠ bs) := hid (by have := HK4.out.lt; omega)
      clear hw2 hbs hb4 hz1 hb2
      have c0 : w2.cell? ⟨bs, 0, none⟩ = some (.slice (some ⟨bt, ot, none⟩) X.tills.length ct) := by rw [HK.out.cell]; rfl
      have c1 : w2.cell? ⟨bs, 1, none⟩ = some (.slice (some ⟨bg, og, none⟩) X.goods.length cg) := by rw [HK.out.cell]; rfl
      go_wp2_with fail
      refine (ref23_Find w2 H2.out t).mono ?_
      rintro e w3 ⟨r, rfl, hr, hb3⟩
      obtain ⟨i0, rfl, hat⟩ : ∃ i0 : Nat, r = (i0 : Int) ∧ X.goods[i0]? = some (h, t, p) := by
        rcases hr with ⟨i, g, q1, q2, q3⟩ | ⟨-, q⟩
        · rw [HF.out] at q3; obtain rfl := Option.some.inj q3; exact ⟨i, q1, q2⟩
        · rw [HF.out] at q; simp at q
      have i00 : ¬ (i0 : Int) < 0 := by omega
      have i01 : (0 : Int) ≤ (i0 : Int) := by omega
      have i02 : (i0 : Int) < (X.goods.length : Int) := by have := (List.getElem?_eq_some_iff.1 hat).1; omega
      have HK3 := hid (HK.out.below hb3)
      have HK43 := hid (HK4.out.below hb3)
      have H3 := hid (H2.out.below hb3)
      have HB3 := hid (Below.next HB2.out hb3)
      obtain ⟨a', c', e', hrd, -⟩ := H3.out.g
      simp only [Value.slice.injEq, true_and] at e'
      obtain ⟨rfl, rfl⟩ := e'
      obtain ⟨d0, d1, d2⟩ := hrd.triple_at hat
      clear hr hb3 hat c0 c1 hrd
      have c0 : w3.cell? ⟨bs, 0, none⟩ = some (.slice (some ⟨bt, ot, none⟩) X.tills.length ct) := by rw [HK3.out.cell]; rfl
      have c1 : w3.cell? ⟨bs, 1, none⟩ = some (.slice (some ⟨bg, og, none⟩) X.goods.length cg) := by rw [HK3.out.cell]; rfl
      go_upto_region 5 with fail
      obtain ⟨w5, hw5⟩ : ∃ w5, w5 = w3.alloc (.cells #[.int .i64 h, .int .i64 t, .int .i64 p] 81) := ⟨_, rfl⟩
      rw [← hw5]
      obtain ⟨bx, hbx⟩ : ∃ b, b = w3.heap.size := ⟨_, rfl⟩
      rw [← hbx]
      have hb5 : Below w3.heap.size w3 w5 := by rw [hw5]; exact Below.new _ _
      have HX5 := hid (show Blk w5 bx #[.int .i64 h, .int .i64 t, .int .i64 p] by rw [hw5, hbx]; exact Blk.new w3 _ _)
      have HK5_ := hid (HK3.out.below hb5)
      have HK45 := hid (HK43.out.below hb5)
      have H5 := hid (H3.out.below hb5)
      have HB5_ := hid (Below.next HB3.out hb5)
      have HBX : Hid (bx ≠ bs ∧ bx ≠ b4) := hid (by have := HK3.out.lt; have := HK43.out.lt; omega)
      clear hw5 hbx hb5 c0 c1 d0 d1 d2 i00 i01 i02
      have e0 : ∀ y, Below w5.heap.size w5 y → y.cell? ⟨bs, 0, none⟩ = some (.slice (some ⟨bt, ot, none⟩) X.tills.length ct) := fun y hy => by rw [(HK5_.out.below hy).cell]; rfl
      have e1 : ∀ y, Below w5.heap.size w5 y → y.cell? ⟨bs, 1, none⟩ = some (.slice (some ⟨bg, og, none⟩) X.goods.length cg) := fun y hy => by rw [(HK5_.out.below hy).cell]; rfl
      have e2 : ∀ y, Below w5.heap.size w5 y → y.cell? ⟨bx, 0, none⟩ = some (.int .i64 h) := fun y hy => by rw [(HX5.out.below hy).cell]; rfl
      have e3 : ∀ y, Below w5.heap.size w5 y → y.cell? ⟨bt, ot + i1 * 2 + 1, none⟩ = some (.int .i64 now) := fun y hy => by
        obtain ⟨a', c', e', hrd, -⟩ := H5.out.t.below hy
        simp only [Value.slice.injEq, true_and] at e'
        obtain ⟨rfl, rfl⟩ := e'
        exact (hrd.pair_at HI1.out).2
      have i10 : (0 : Int) ≤ (i1 : Int) := by omega
      have hyd := (Below.refl w5.heap.size w5).drew
      refine wp_region_kept [9] (fun y => Below w5.heap.size w5 y) (by kernel_rfl) (by assumption) (fun hH => ?_)
      refine wpK.take (i := 0) (v := _) (by simp only [List.getElem?_toArray, List.getElem?_cons_succ, List.getElem?_cons_zero]; rfl) (by kernel_rfl) (by kernel_rfl) (by kernel_rfl) (by kernel_rfl) (by kernel_rfl) (by exact fun _ _ _ h => h) (by first | exact Or.inl ⟨by rfl, by intro w hSw; go_simp; try with_reducible rfl⟩ | exact Or.inr ⟨by rfl, rfl⟩) hH ?_
      try simp only [Act.put, List.setIfInBounds_toArray, List.set_cons_zero, List.set_cons_succ]
      refine wpK.take (i := 1) (v := _) (by simp only [List.getElem?_toArray, List.getElem?_cons_succ, List.getElem?_cons_zero]; rfl) (by kernel_rfl) (by kernel_rfl) (by kernel_rfl) (by kernel_rfl) (by kernel_rfl) (by exact fun _ _ _ h => h) (by first | exact Or.inl ⟨by rfl, by intro w hSw; go_simp; try with_reducible rfl⟩ | exact Or.inr ⟨by rfl, rfl⟩) hH ?_
      try simp only [Act.put, List.setIfInBounds_toArray, List.set_cons_zero, List.set_cons_succ]
      refine wpK.take (i := 2) (v := _) (by simp only [List.getElem?_toArray, List.getElem?_cons_succ, List.getElem?_cons_zero]; rfl) (by kernel_rfl) (by kernel_rfl) (by kernel_rfl) (by kernel_rfl) (by kernel_rfl) (by exact fun _ _ _ h => h) (by first | exact Or.inl ⟨by rfl, by intro w hSw; go_simp; try with_reducible rfl⟩ | exact Or.inr ⟨by rfl, rfl⟩) hH ?_
      try simp only [Act.put, List.setIfInBounds_toArray, List.set_cons_zero, List.set_cons_succ]
      refine wpK.take (i := 3) (v := _) (by simp only [List.getElem?_toArray, List.getElem?_cons_succ, List.getElem?_cons_zero]; rfl) (by kernel_rfl) (by kernel_rfl) (by kernel_rfl) (by kernel_rfl) (by kernel_rfl) (by exact fun _ _ _ h => h) (by first | exact Or.inl ⟨by rfl, by intro w hSw; go_simp; try with_reducible rfl⟩ | exact Or.inr ⟨by rfl, rfl⟩) hH ?_
      try simp only [Act.put, List.setIfInBounds_toArray, List.set_cons_zero, List.set_cons_succ]
      refine wpK.take (i := 4) (v := _) (by simp only [List.getElem?_toArray, List.getElem?_cons_succ, List.getElem?_cons_zero]; rfl) (by kernel_rfl) (by kernel_rfl) (by kernel_rfl) (by kernel_rfl) (by kernel_rfl) (by exact fun _ _ _ h => h) (by first | exact Or.inl ⟨by rfl, by intro w hSw; go_simp; try with_reducible rfl⟩ | exact Or.inr ⟨by rfl, rfl⟩) hH ?_
      try simp only [Act.put, List.setIfInBounds_toArray, List.set_cons_zero, List.set_cons_succ]
      refine wpK.step (i := 5) (by kernel_rfl) (by simp only [List.getElem?_toArray, List.getElem?_cons_succ, List.getElem?_cons_zero]; rfl) (fun K hK => ?_)
      go_simp
      (refine (ref23_Has _ (H5.out.below hyd) h).mono ?_); rintro e wA ⟨r, rfl, hr, hbA⟩; (obtain rfl : r = (i1 : Int) := hr.at HSORT.out HI1.out); (have hbB := Below.next hyd hbA); go_simp
      refine hK.out _ _ (by assumption) (fun hH => ?_)
      clear hK K
      try simp only [Act.put, List.setIfInBounds_toArray, List.set_cons_zero, List.set_cons_succ]
      refine wpK.take (i := 6) (v := _) (by simp only [List.getElem?_toArray, List.getElem?_cons_succ, List.getElem?_cons_zero]; rfl) (by kernel_rfl) (by kernel_rfl) (by kernel_rfl) (by kernel_rfl) (by kernel_rfl) (by exact fun _ _ _ h => h) (by first | exact Or.inl ⟨by rfl, by intro w hSw; go_simp; try with_reducible rfl⟩ | exact Or.inr ⟨by rfl, rfl⟩) hH ?_
      try simp only [Act.put, List.setIfInBounds_toArray, List.set_cons_zero, List.set_cons_succ]
      refine wpK.take (i := 7) (v := _) (by simp only [List.getElem?_toArray, List.getElem?_cons_succ, List.getElem?_cons_zero]; rfl) (by kernel_rfl) (by kernel_rfl) (by kernel_rfl) (by kernel_rfl) (by kernel_rfl) (by exact fun _ _ _ h => h) (by first | exact Or.inl ⟨by rfl, by intro w hSw; go_simp; try with_reducible rfl⟩ | exact Or.inr ⟨by rfl, rfl⟩) hH ?_
      try simp only [Act.put, List.setIfInBounds_toArray, List.set_cons_zero, List.set_cons_succ]
      refine wpK.take (i := 8) (v := _) (by simp only [List.getElem?_toArray, List.getElem?_cons_succ, List.getElem?_cons_zero]; rfl) (by kernel_rfl) (by kernel_rfl) (by kernel_rfl) (by kernel_rfl) (by kernel_rfl) (by exact fun _ _ _ h => h) (by first | exact Or.inl ⟨by rfl, by intro w hSw; go_simp; try with_reducible rfl⟩ | exact Or.inr ⟨by rfl, rfl⟩) hH ?_
      try simp only [Act.put, List.setIfInBounds_toArray, List.set_cons_zero, List.set_cons_succ]
      refine wpK.late (i := 9) (by kernel_rfl) (by simp only [List.getElem?_toArray, List.getElem?_cons_succ, List.getElem?_cons_zero]; rfl) (by kernel_rfl) (fun K hK => ?_)
      go_simp
      refine hK.out _ _ ?_
      clear hK K
      try simp only [Act.put, List.setIfInBounds_toArray, List.set_cons_zero, List.set_cons_succ]
      refine wpK.done (by kernel_rfl) ?_ _
      have HXA := hid (HX5.out.below hbB)
      have HKA := hid (HK5_.out.below hbB)
      have HK4A := hid (HK45.out.below hbB)
      have HA := hid (H5.out.below hbB)
      have HBA := hid (Below.next HB5_.out hbB)
      have HBN : Hid (b4 < wA.heap.size) := hid HK4A.out.lt
      clear e0 e1 e2 e3 hyd hbA hbB hr
      have c0 : wA.cell? ⟨bs, 0, none⟩ = some (.slice (some ⟨bt, ot, none⟩) X.tills.length ct) := by rw [HKA.out.cell]; rfl
      have c1 : wA.cell? ⟨bs, 1, none⟩ = some (.slice (some ⟨bg, og, none⟩) X.goods.length cg) := by rw [HKA.out.cell]; rfl
      have k2 : wA.cell? ⟨bx, 2, none⟩ = some (.int .i64 p) := by rw [HXA.out.cell]; rfl
      have hwr : IntKind.i64.wrap (1099511627776 - p) = 1099511627776 - p := by rw [IntKind.wrap_i64]; omega
      have hwr2 : IntKind.i64.wrap (now + p) = now + p := by rw [IntKind.wrap_i64]; omega
      go_wp2_with fail
      refine (ref23_TakeOk wA HA.out (fun k hk => by have := HLOW.out k hk; have := HBA.out.size; omega) HI.out HF.out HX2.out).mono ?_
      rintro e wT ⟨at', ct', ag', cg', rfl, hT, hbT, hlowT⟩
      have HT_ := hid hT
      have HLT := hid hlowT
      have HKT := hid (HKA.out.below hbT)
      have HK4T := hid (HK4A.out.below hbT)
      have HXT := hid (HXA.out.below hbT)
      have HBT := hid (Below.next HBA.out hbT)
      have HSA := hid hbT.size
      clear c0 c1 k2 hT hbT hlowT
      have c0 : wT.cell? ⟨bs, 0, none⟩ = some (.slice (some ⟨bt, ot, none⟩) X.tills.length ct) := by rw [HKT.out.cell]; rfl
      have c1 : wT.cell? ⟨bs, 1, none⟩ = some (.slice (some ⟨bg, og, none⟩) X.goods.length cg) := by rw [HKT.out.cell]; rfl
      have f0 : wT.frozen? ⟨bs, 0, none⟩ = false := HKT.out.unfrozen 0
      have f1 : wT.frozen? ⟨bs, 1, none⟩ = false := HKT.out.unfrozen 1
      go_upto_region 9 with fail
      have HK8 : Hid (Blk ((wT.setCell ⟨bs, 0, none⟩ (.slice at' X2.tills.length ct')).setCell ⟨bs, 1, none⟩ (.slice ag' X2.goods.length cg')) bs #[.slice at' X2.tills.length ct', .slice ag' X2.goods.length cg']) := hid (by simpa using (HKT.out.set 0 (.slice at' X2.tills.length ct')).set 1 (.slice ag' X2.goods.length cg'))
      have HU8 := hid ((Upd.setCell wT bs 0 (.slice at' X2.tills.length ct')).trans (Upd.setCell _ bs 1 (.slice ag' X2.goods.length cg')) (fun _ _ q => q))
      have HZ8 : Hid (((wT.setCell ⟨bs, 0, none⟩ (.slice at' X2.tills.length ct')).setCell ⟨bs, 1, none⟩ (.slice ag' X2.goods.length cg')).heap.size = wT.heap.size) := hid (by simp [World.setCell])
      have HBS : Hid (w.heap.size ≤ bs ∧ bs < wA.heap.size) := hid ⟨HBSL.out, HKA.out.lt⟩
      generalize World.setCell (World.setCell wT _ _) _ _ = w8 at HK8 HU8 HZ8
      have HNB : Hid (∀ k, (aB at' k ∨ aB ag' k) → k ≠ bs) := hid (fun k hk q => by
        have hs := HBS.out
        rcases (HLT.out k hk).2 with q2 | q2
        · have := HLOW.out k q2; omega
        · omega)
      have H8 : Hid (RefX w8 at' ct' ag' cg' X2) := hid ⟨HT_.out.t.upd HU8.out (fun k hk q => HNB.out k (.inl (aB_own hk)) q), HT_.out.g.upd HU8.out (fun k hk q => HNB.out k (.inr (aB_own hk)) q), HT_.out.lt, HT_.out.lg⟩
      have HX8 := hid (HXT.out.upd HU8.out HBX.out.1)
      have HK48 := hid (HK4T.out.upd HU8.out HB4.out.2.2)
      have HB8 : Hid (Below w.heap.size w w8) := hid (HBT.out.trans (HU8.out.below HBT.out.size (fun j _ q => by have := HBS.out.1; omega)))
      clear c0 c1 f0 f1
      have c0 : w8.cell? ⟨bs, 0, none⟩ = some (.slice at' X2.tills.length ct') := by rw [HK8.out.cell]; rfl
      have c1 : w8.cell? ⟨bs, 1, none⟩ = some (.slice ag' X2.goods.length cg') := by rw [HK8.out.cell]; rfl
      have k0 : w8.cell? ⟨bx, 0, none⟩ = some (.int .i64 h) := by rw [HX8.out.cell]; rfl
      have k2 : w8.cell? ⟨bx, 2, none⟩ = some (.int .i64 p) := by rw [HX8.out.cell]; rfl
      go_wp2_with fail
      refine (ref23_SetOk w8 H8.out (fun k hk => by have := (HLT.out k hk).1; have := HZ8.out; omega) h (now + p) HX3.out).mono ?_
      rintro e wS ⟨a2, ct2, a3, cg3, rfl, hS, hbS, hlowS⟩
      have HS_ := hid hS
      have HK4S := hid (HK48.out.below hbS)
      have HBS2 := hid (Below.next HB8.out hbS)
      have HQ : Hid (∀ q, (aB a2 q ∨ aB a3 q) → q < wS.heap.size ∧ ((aB (some ⟨bt, ot, none⟩) q ∨ aB (some ⟨bg, og, none⟩) q) ∨ wA.heap.size ≤ q)) := hid (fun q hq => by
        obtain ⟨r1, r2⟩ := hlowS q hq
        refine ⟨r1, ?_⟩
        rcases r2 with r2 | r2
        · exact (HLT.out q r2).2
        · right; have := HZ8.out; have := HSA.out; omega)
      have HNQ : Hid (∀ q, (aB a2 q ∨ aB a3 q) → q ≠ b4) := hid (fun q hq => by
        rcases (HQ.out q hq).2 with r | r
        · have := HLOW.out q r; have := HB4.out.1; omega
        · have := HBN.out; omega)
      clear c0 c1 k0 k2 hS hbS hlowS
      have q0 : wS.cell? ⟨b4, 0, none⟩ = some (.slice none 0 0) := by rw [HK4S.out.cell]; rfl
      have q1 : wS.cell? ⟨b4, 1, none⟩ = some (.slice none 0 0) := by rw [HK4S.out.cell]; rfl
      have f0 : wS.frozen? ⟨b4, 0, none⟩ = false := HK4S.out.unfrozen 0
      have f1 : wS.frozen? ⟨b4, 1, none⟩ = false := HK4S.out.unfrozen 1
      go_wp2_with fail
      have HK5 : Hid (Blk ((wS.setCell ⟨b4, 0, none⟩ (.slice a2 X3.tills.length ct2)).setCell ⟨b4, 1, none⟩ (.slice a3 X3.goods.length cg3)) b4 #[.slice a2 X3.tills.length ct2, .slice a3 X3.goods.length cg3]) := hid (by simpa using (HK4S.out.set 0 (.slice a2 X3.tills.length ct2)).set 1 (.slice a3 X3.goods.length cg3))
      have HT5 := hid (((HS_.out.t).set4 (b4 := b4) (i := 0) (u := .slice a2 X3.tills.length ct2) (fun q hq => HNQ.out q (.inl hq))).set4 (b4 := b4) (i := 1) (u := .slice a3 X3.goods.length cg3) (fun q hq => HNQ.out q (.inl hq)))
      have HG5 := hid (((HS_.out.g).set4 (b4 := b4) (i := 0) (u := .slice a2 X3.tills.length ct2) (fun q hq => HNQ.out q (.inr hq))).set4 (b4 := b4) (i := 1) (u := .slice a3 X3.goods.length cg3) (fun q hq => HNQ.out q (.inr hq)))
      have HB5 : Hid (Below w.heap.size w ((wS.setCell ⟨b4, 0, none⟩ (.slice a2 X3.tills.length ct2)).setCell ⟨b4, 1, none⟩ (.slice a3 X3.goods.length cg3))) := hid (by
        have hb := HBS2.out
        have u := (Upd.setCell wS b4 0 (.slice a2 X3.tills.length ct2)).trans (Upd.setCell _ b4 1 (.slice a3 X3.goods.length cg3)) (fun _ _ q => q)
        exact hb.trans (u.below hb.size (fun j _ q => by have := HB4.out.1; omega)))
      have HSZ9 : Hid (wS.heap.size ≤ ((wS.setCell ⟨b4, 0, none⟩ (.slice a2 X3.tills.length ct2)).setCell ⟨b4, 1, none⟩ (.slice a3 X3.goods.length cg3)).heap.size) := hid (by simp [World.setCell])
      generalize World.setCell (World.setCell wS _ _) _ _ = w9 at HK5 HT5 HG5 HB5 HSZ9
      have k0 : w9.cell? ⟨b4, 0, none⟩ = some (.slice a2 X3.tills.length ct2) := by rw [HK5.out.cell]; rfl
      have k1 : w9.cell? ⟨b4, 1, none⟩ = some (.slice a3 X3.goods.length cg3) := by rw [HK5.out.cell]; rfl
      clear q0 q1 f0 f1
      refine bodyPost_ret (res_cell_tmp rfl _ _ _ rfl (by go_simp; rfl)) rfl ?_
      exact ⟨_, _, _, _, rfl, ⟨HT5.out, HG5.out, HS_.out.lt, HS_.out.lg⟩, HB5.out, fun q hq => ⟨by have := (HQ.out q hq).1; have := HSZ9.out; omega, (HQ.out q hq).2.imp id (fun r => by have := HBA.out.size; omega)⟩⟩
end Go.Proofs.Ytajfjgekcjkedaa
end
section
/- The law's own goods: are these just those? -/
namespace Go.Proofs.Ytajfjgekcjkedaa
open Go.RowKit
open Go.Lib (hid)
set_option linter.unusedVariables false

set_option maxRecDepth 100000 in
set_option maxHeartbeats 1000000 in
theorem law23_goods (w : World) {l : List (Int × Int)} {x : List G3} {v1 v2 : Value} (h1 : SlP w v1 l) (h2 : Sl3 w v2 x) (he : x.map (·.2) = l) (hl : l.length ≤ 100000) :
    Calls Try.prog 38 #[v1, v2] w (fun e w' => e = .returned (.bool true) ∧ Below w.heap.size w w') := by
  obtain ⟨a1, c1, rfl, hr1, -⟩ := id h1
  obtain ⟨a2, c2, rfl, hr2, -⟩ := id h2
  have hll : x.length = l.length := by rw [← he, List.length_map]
  have H1 := hid h1
  have H2 := hid h2
  have HE := hid he
  have hli : ((l.length : Nat) : Int) ≤ 100000 := by omega
  obtain ⟨N, hN⟩ : ∃ N, N = l.length := ⟨_, rfl⟩
  have HN := hid hN
  rw [hll] at H2 ⊢
  rw [← hN] at H1 H2 hl hli ⊢
  clear h1 h2 hr1 hr2 he hll hN
  go_enter Try.func38, Try.ntmps38
  go_upto_region 4 with fail
  go_loopw [13] (fun v13 wr => ∃ (j : Nat), v13 = .int .i64 (j : Int) ∧ j ≤ N ∧ Hid (Below w.heap.size w wr)) (fun v13 _ => N - (intOf v13).toNat)
  case atStart => exact ⟨0, rfl, by omega, hid (Below.refl _ _)⟩
  case round =>
    obtain ⟨j, rfl, hj, hb⟩ := hrel
    by_cases hlt : j < N
    · have j1 : (j : Int) < (N : Int) := by omega
      have j0 : (0 : Int) ≤ (j : Int) := by omega
      obtain ⟨a', c', e', hrd, -⟩ := H1.out.below hb.out
      rw [← HN.out] at e'
      simp only [Value.slice.injEq, true_and] at e'
      obtain ⟨rfl, rfl⟩ := e'
      obtain ⟨b0, off, t0, p0, rfl, d0, d1, hat, -, -⟩ := hrd.pair j (by rw [← HN.out]; exact hlt)
      obtain ⟨a', c', e', hrd2, -⟩ := H2.out.below hb.out
      have hxl : x.length = N := by rw [HN.out, ← HE.out, List.length_map]
      rw [hxl] at e'
      simp only [Value.slice.injEq, true_and] at e'
      obtain ⟨rfl, rfl⟩ := e'
      obtain ⟨b3, o3, h3, t3, p3, rfl, f0, f1, f2, hat3, -, -⟩ := hrd2.triple j (by rw [hxl]; exact hlt)
      have hq : l[j]? = some (t3, p3) := by rw [← HE.out, List.getElem?_map, hat3]; rfl
      rw [hat] at hq
      simp only [Option.some.injEq, Prod.mk.injEq] at hq
      obtain ⟨rfl, rfl⟩ := hq
      clear hat hat3 hrd hrd2 hxl
      go_upto_region 6 with fail
      go_quiet (fail)
      have hb3 := Below.drawn wr nq
      obtain ⟨w3, hw3⟩ : ∃ w3, w3 = wr.drewN nq := ⟨_, rfl⟩
      rw [← hw3] at hb3 ⊢
      have HB3 := hid (Below.next hb.out hb3)
      clear hb3 hw3 d0 d1 f0 f1 f2
      go_wp2
      go_roundw
      case rel => exact ⟨j + 1, by go_num, by omega, HB3⟩
      case measure => simp [intOf]; omega
    · have j1 : ¬ (j : Int) < (N : Int) := by omega
      go_wp2
      go_ret
      exact ⟨rfl, hb.out⟩
end Go.Proofs.Ytajfjgekcjkedaa
end
