/- Joined texts, in this order: Ref23d. Each one's first remark says what it proves; no condition beyond those that its theorems name. -/
import Derived.Test.YtajfjgekcjkedaaJLawStallRestores13
section
/- Contracts of the document's stalls: Open, Put. -/
namespace Go.Proofs.Ytajfjgekcjkedaa
open Go.RowKit
open Go.Lib (hid)
set_option linter.unusedVariables false

def InsRT (w2 : World) (T : List (Int × Int)) (k : Int) (vo vd vi : Value) (wr : World) : Prop :=
  ∃ (j : Nat) (dn : Bool) (vo' : Value), vo' = vo ∧ vd = .bool dn ∧ vi = .int .i64 (j : Int) ∧ dn = decide (posK kT T k < j) ∧ j ≤ T.length ∧ Hid (wr.ownsRow w2.heap.size 78 2 vo' (insP kT T (k, 0) j).length (pv (insP kT T (k, 0) j))) ∧ Hid (Below w2.heap.size w2 wr)
def InsRG (w2 : World) (T : List G3) (k t p : Int) (vo vd vi : Value) (wr : World) : Prop :=
  ∃ (j : Nat) (dn : Bool) (vo' : Value), vo' = vo ∧ vd = .bool dn ∧ vi = .int .i64 (j : Int) ∧ dn = decide (posK kG T t < j) ∧ j ≤ T.length ∧ Hid (wr.ownsRow w2.heap.size 81 3 vo' (insP kG T (k, t, p) j).length (tv (insP kG T (k, t, p) j))) ∧ Hid (Below w2.heap.size w2 wr)
theorem openX_low {X : StX} {k : Int} (h : k < 1) : openX X k = (X, 10) := by unfold openX; rw [if_pos h]
set_option maxRecDepth 100000 in
set_option maxHeartbeats 2000000 in
theorem ref23_Open {at_ ag : Option Addr} {ct cg : Nat} {X : StX} (w : World) (h : RefX w at_ ct ag cg X) (hlow : Low at_ ag w.heap.size) (hi : SortK kT X.tills) (hn : X.tills.length < 100000) (k : Int) :
    Calls Try.prog 16 #[.agg #[.slice at_ X.tills.length ct, .slice ag X.goods.length cg], .int .i64 k] w (R23Post w at_ ag (openX X k).1 (openX X k).2) := by
  have H := hid h
  have HLOW := hid hlow
  have hlt_ := h.lt
  have hlg_ := h.lg
  clear h hlow
  by_cases h1 : k < 1
  · rw [openX_low h1]
    clear hi hn
    go_enter Try.func16, Try.ntmps16
    go_upto_region 1 with fail
    generalize hw2 : World.alloc (World.alloc w _) _ = w2
    obtain ⟨bs, hbs⟩ : ∃ b, b = w.heap.size := ⟨_, rfl⟩
    obtain ⟨b4, hb4⟩ : ∃ b, b = w.heap.size + 1 := ⟨_, rfl⟩
    have hz1 : (World.alloc w (.cells #[.slice at_ X.tills.length ct, .slice ag X.goods.length cg] 46)).heap.size = w.heap.size + 1 := by simp
    try rw [hz1]
    try rw [← hb4]
    try rw [← hbs]
    have hb2 : Below w.heap.size w w2 := by rw [← hw2]; exact Below.next (Below.new _ _) (Below.new _ _)
    have HK : Hid (Blk w2 bs #[.slice at_ X.tills.length ct, .slice ag X.goods.length cg]) := hid (by rw [← hw2, hbs]; exact (Blk.new w _ _).below (Below.new _ _))
    have HK4 : Hid (Blk w2 b4 #[.slice none 0 0, .slice none 0 0]) := hid (by rw [← hw2, hb4, ← hz1]; exact Blk.new _ _ _)
    have H2 := hid (H.out.below hb2)
    have HB2 := hid hb2
    have HB4 : Hid (w.heap.size ≤ b4 ∧ b4 < w2.heap.size ∧ b4 ≠ bs) := hid (by have := HK4.out.lt; omega)
    clear hw2 hbs hb4 hz1 hb2
    have c0 : w2.cell? ⟨bs, 0, none⟩ = some (.slice at_ X.tills.length ct) := by rw [HK.out.cell]; rfl
    have c1 : w2.cell? ⟨bs, 1, none⟩ = some (.slice ag X.goods.length cg) := by rw [HK.out.cell]; rfl
    have q0 : w2.cell? ⟨b4, 0, none⟩ = some (.slice none 0 0) := by rw [HK4.out.cell]; rfl
    have q1 : w2.cell? ⟨b4, 1, none⟩ = some (.slice none 0 0) := by rw [HK4.out.cell]; rfl
    have f0 : w2.frozen? ⟨b4, 0, none⟩ = false := HK4.out.unfrozen 0
    have f1 : w2.frozen? ⟨b4, 1, none⟩ = false := HK4.out.unfrozen 1
    go_wp2_with fail
    have HK5 : Hid (Blk ((w2.setCell ⟨b4, 0, none⟩ (.slice at_ X.tills.length ct)).setCell ⟨b4, 1, none⟩ (.slice ag X.goods.length cg)) b4 #[.slice at_ X.tills.length ct, .slice ag X.goods.length cg]) := hid (by simpa using (HK4.out.set 0 (.slice at_ X.tills.length ct)).set 1 (.slice ag X.goods.length cg))
    have HT5 := hid (((H2.out.t).set4 (b4 := b4) (i := 0) (u := .slice at_ X.tills.length ct) (fun k hk => by have := HLOW.out k (.inl hk); have := HB4.out.1; omega)).set4 (b4 := b4) (i := 1) (u := .slice ag X.goods.length cg) (fun k hk => by have := HLOW.out k (.inl hk); have := HB4.out.1; omega))
    have HG5 := hid (((H2.out.g).set4 (b4 := b4) (i := 0) (u := .slice at_ X.tills.length ct) (fun k hk => by have := HLOW.out k (.inr hk); have := HB4.out.1; omega)).set4 (b4 := b4) (i := 1) (u := .slice ag X.goods.length cg) (fun k hk => by have := HLOW.out k (.inr hk); have := HB4.out.1; omega))
    have HB5 : Hid (Below w.heap.size w ((w2.setCell ⟨b4, 0, none⟩ (.slice at_ X.tills.length ct)).setCell ⟨b4, 1, none⟩ (.slice ag X.goods.length cg))) := hid (by
      have hb := HB2.out
      have u := (Upd.setCell w2 b4 0 (.slice at_ X.tills.length ct)).trans (Upd.setCell _ b4 1 (.slice ag X.goods.length cg)) (fun _ _ q => q)
      exact hb.trans (u.below hb.size (fun j _ q => by have := HB4.out.1; omega)))
    have HSZ9 : Hid (w2.heap.size ≤ ((w2.setCell ⟨b4, 0, none⟩ (.slice at_ X.tills.length ct)).setCell ⟨b4, 1, none⟩ (.slice ag X.goods.length cg)).heap.size) := hid (by simp [World.setCell])
    generalize World.setCell (World.setCell w2 _ _) _ _ = w9 at HK5 HT5 HG5 HB5 HSZ9
    have k0 : w9.cell? ⟨b4, 0, none⟩ = some (.slice at_ X.tills.length ct) := by rw [HK5.out.cell]; rfl
    have k1 : w9.cell? ⟨b4, 1, none⟩ = some (.slice ag X.goods.length cg) := by rw [HK5.out.cell]; rfl
    clear q0 q1 f0 f1
    refine bodyPost_ret (res_cell_tmp rfl _ _ _ rfl (by go_simp; rfl)) rfl ?_
    exact ⟨_, _, _, _, rfl, ⟨HT5.out, HG5.out, H.out.lt, H.out.lg⟩, HB5.out, fun k hk => ⟨by have := HLOW.out k hk; have := HB5.out.size; omega, .inl hk⟩⟩
  · cases hf : X.tills.lookup k with
    | some g0 =>
      rw [openX_has h1 (by rw [hf]; rfl)]
      have HF := hid hf
      clear hi hn hf
      go_enter Try.func16, Try.ntmps16
      go_upto_region 1 with fail
      generalize hw2 : World.alloc (World.alloc w _) _ = w2
      obtain ⟨bs, hbs⟩ : ∃ b, b = w.heap.size := ⟨_, rfl⟩
      obtain ⟨b4, hb4⟩ : ∃ b, b = w.heap.size + 1 := ⟨_, rfl⟩
      have hz1 : (World.alloc w (.cells #[.slice at_ X.tills.length ct, .slice ag X.goods.length cg] 46)).heap.size = w.heap.size + 1 := by simp
      try rw [hz1]
      try rw [← hb4]
      try rw [← hbs]
      have hb2 : Below w.heap.size w w2 := by rw [← hw2]; exact Below.next (Below.new _ _) (Below.new _ _)
      have HK : Hid (Blk w2 bs #[.slice at_ X.tills.length ct, .slice ag X.goods.length cg]) := hid (by rw [← hw2, hbs]; exact (Blk.new w _ _).below (Below.new _ _))
      have HK4 : Hid (Blk w2 b4 #[.slice none 0 0, .slice none 0 0]) := hid (by rw [← hw2, hb4, ← hz1]; exact Blk.new _ _ _)
      have H2 := hid (H.out.below hb2)
      have HB2 := hid hb2
      have HB4 : Hid (w.heap.size ≤ b4 ∧ b4 < w2.heap.size ∧ b4 ≠ bs) := hid (by have := HK4.out.lt; omega)
      clear hw2 hbs hb4 hz1 hb2
      have c0 : w2.cell? ⟨bs, 0, none⟩ = some (.slice at_ X.tills.length ct) := by rw [HK.out.cell]; rfl
      have c1 : w2.cell? ⟨bs, 1, none⟩ = some (.slice ag X.goods.length cg) := by rw [HK.out.cell]; rfl
      go_wp2_with fail
      refine (ref23_Has w2 H2.out k).mono ?_
      rintro e w3 ⟨r, rfl, hr, hb3⟩
      obtain ⟨i0, rfl⟩ : ∃ i0 : Nat, r = (i0 : Int) := by
        rcases hr with ⟨i, g, q1, -, -⟩ | ⟨-, q⟩
        · exact ⟨i, q1⟩
        · rw [HF.out] at q; simp at q
      have i00 : (0 : Int) ≤ (i0 : Int) := by omega
      have i01 : ¬ (i0 : Int) < 0 := by omega
      have HK3 := hid (HK.out.below hb3)
      have HK43 := hid (HK4.out.below hb3)
      have H3 := hid (H2.out.below hb3)
      have HB3 := hid (Below.next HB2.out hb3)
      have HBN : Hid (b4 < w3.heap.size) := hid HK43.out.lt
      clear hr hb3 c0 c1
      have c0 : w3.cell? ⟨bs, 0, none⟩ = some (.slice at_ X.tills.length ct) := by rw [HK3.out.cell]; rfl
      have c1 : w3.cell? ⟨bs, 1, none⟩ = some (.slice ag X.goods.length cg) := by rw [HK3.out.cell]; rfl
      have q0 : w3.cell? ⟨b4, 0, none⟩ = some (.slice none 0 0) := by rw [HK43.out.cell]; rfl
      have q1 : w3.cell? ⟨b4, 1, none⟩ = some (.slice none 0 0) := by rw [HK43.out.cell]; rfl
      have f0 : w3.frozen? ⟨b4, 0, none⟩ = false := HK43.out.unfrozen 0
      have f1 : w3.frozen? ⟨b4, 1, none⟩ = false := HK43.out.unfrozen 1
      go_wp2_with fail
      have HK5 : Hid (Blk ((w3.setCell ⟨b4, 0, none⟩ (.slice at_ X.tills.length ct)).setCell ⟨b4, 1, none⟩ (.slice ag X.goods.length cg)) b4 #[.slice at_ X.tills.length ct, .slice ag X.goods.length cg]) := hid (by simpa using (HK43.out.set 0 (.slice at_ X.tills.length ct)).set 1 (.slice ag X.goods.length cg))
      have HT5 := hid (((H3.out.t).set4 (b4 := b4) (i := 0) (u := .slice at_ X.tills.length ct) (fun k hk => by have := HLOW.out k (.inl hk); have := HB4.out.1; omega)).set4 (b4 := b4) (i := 1) (u := .slice ag X.goods.length cg) (fun k hk => by have := HLOW.out k (.inl hk); have := HB4.out.1; omega))
      have HG5 := hid (((H3.out.g).set4 (b4 := b4) (i := 0) (u := .slice at_ X.tills.length ct) (fun k hk => by have := HLOW.out k (.inr hk); have := HB4.out.1; omega)).set4 (b4 := b4) (i := 1) (u := .slice ag X.goods.length cg) (fun k hk => by have := HLOW.out k (.inr hk); have := HB4.out.1; omega))
      have HB5 : Hid (Below w.heap.size w ((w3.setCell ⟨b4, 0, none⟩ (.slice at_ X.tills.length ct)).setCell ⟨b4, 1, none⟩ (.slice ag X.goods.length cg))) := hid (by
        have hb := HB3.out
        have u := (Upd.setCell w3 b4 0 (.slice at_ X.tills.length ct)).trans (Upd.setCell _ b4 1 (.slice ag X.goods.length cg)) (fun _ _ q => q)
        exact hb.trans (u.below hb.size (fun j _ q => by have := HB4.out.1; omega)))
      have HSZ9 : Hid (w3.heap.size ≤ ((w3.setCell ⟨b4, 0, none⟩ (.slice at_ X.tills.length ct)).setCell ⟨b4, 1, none⟩ (.slice ag X.goods.length cg)).heap.size) := hid (by simp [World.setCell])
      generalize World.setCell (World.setCell w3 _ _) _ _ = w9 at HK5 HT5 HG5 HB5 HSZ9
      have k0 : w9.cell? ⟨b4, 0, none⟩ = some (.slice at_ X.tills.length ct) := by rw [HK5.out.cell]; rfl
      have k1 : w9.cell? ⟨b4, 1, none⟩ = some (.slice ag X.goods.length cg) := by rw [HK5.out.cell]; rfl
      clear q0 q1 f0 f1
      refine bodyPost_ret (res_cell_tmp rfl _ _ _ rfl (by go_simp; rfl)) rfl ?_
      exact ⟨_, _, _, _, rfl, ⟨HT5.out, HG5.out, H.out.lt, H.out.lg⟩, HB5.out, fun k hk => ⟨by have := HLOW.out k hk; have := HB5.out.size; omega, .inl hk⟩⟩
    | none =>
      rw [openX_new h1 hf]
      have HF := hid hf
      have HSORT := hid hi
      have HNE : Hid (∀ y ∈ X.tills, y.1 ≠ k) := hid (fun y hy => lookup_none_iff.1 hf y hy)
      clear hi hf
      go_enter Try.func16, Try.ntmps16
      go_upto_region 1 with fail
      generalize hw2 : World.alloc (World.alloc w _) _ = w2
      obtain ⟨bs, hbs⟩ : ∃ b, b = w.heap.size := ⟨_, rfl⟩
      obtain ⟨b4, hb4⟩ : ∃ b, b = w.heap.size + 1 := ⟨_, rfl⟩
      have hz1 : (World.alloc w (.cells #[.slice at_ X.tills.length ct, .slice ag X.goods.length cg] 46)).heap.size = w.heap.size + 1 := by simp
      try rw [hz1]
      try rw [← hb4]
      try rw [← hbs]
      have hb2 : Below w.heap.size w w2 := by rw [← hw2]; exact Below.next (Below.new _ _) (Below.new _ _)
      have HK : Hid (Blk w2 bs #[.slice at_ X.tills.length ct, .slice ag X.goods.length cg]) := hid (by rw [← hw2, hbs]; exact (Blk.new w _ _).below (Below.new _ _))
      have HK4 : Hid (Blk w2 b4 #[.slice none 0 0, .slice none 0 0]) := hid (by rw [← hw2, hb4, ← hz1]; exact Blk.new _ _ _)
      have H2 := hid (H.out.below hb2)
      have HB2 := hid hb2
      have HB4 : Hid (w.heap.size ≤ b4 ∧ b4 < w2.heap.size ∧ b4 ≠ bs) := hid (by have := HK4.out.lt; omega)
      clear hw2 hbs hb4 hz1 hb2
      have c0 : w2.cell? ⟨bs, 0, none⟩ = some (.slice at_ X.tills.length ct) := by rw [HK.out.cell]; rfl
      have c1 : w2.cell? ⟨bs, 1, none⟩ = some (.slice ag X.goods.length cg) := by rw [HK.out.cell]; rfl
      go_wp2_with fail
      refine (ref23_Has w2 H2.out k).mono ?_
      rintro e w3 ⟨r, rfl, hr, hb3⟩
      obtain rfl : r = -1 := by
        rcases hr with ⟨i, g, -, -, q⟩ | ⟨q, -⟩
        · rw [HF.out] at q; simp at q
        · exact q
      have HK3 := hid (HK.out.below hb3)
      have HK43 := hid (HK4.out.below hb3)
      have H3 := hid (H2.out.below hb3)
      have HB3 := hid (Below.next HB2.out hb3)
      have HBN : Hid (b4 < w3.heap.size) := hid HK43.out.lt
      clear hr hb3 c0 c1
      have c0 : w3.cell? ⟨bs, 0, none⟩ = some (.slice at_ X.tills.length ct) := by rw [HK3.out.cell]; rfl
      have c1 : w3.cell? ⟨bs, 1, none⟩ = some (.slice ag X.goods.length cg) := by rw [HK3.out.cell]; rfl
      go_wp2_with fail
      go_loopw [6, 7, 8] (fun vo vd vi wr => InsRT w3 X.tills k vo vd vi wr) (fun _ _ vi _ => X.tills.length - (intOf vi).toNat)
      case atStart => exact ⟨0, false, _, rfl, rfl, rfl, by simp, by omega, hid (by rw [insP_zero]; simpa [pv] using World.ownsRow_nil _ _ _ _), hid (Below.refl _ _)⟩
      case round =>
        obtain ⟨j, dn, vo, hvo, rfl, rfl, hdn, hj, hown, hb⟩ := hrel
        subst hvo
        have HKR := hid (HK3.out.below hb.out)
        have HK4R := hid (HK43.out.below hb.out)
        have c0 : wr.cell? ⟨bs, 0, none⟩ = some (.slice at_ X.tills.length ct) := by rw [HKR.out.cell]; rfl
        have c1 : wr.cell? ⟨bs, 1, none⟩ = some (.slice ag X.goods.length cg) := by rw [HKR.out.cell]; rfl
        have hfl : (insP kT X.tills (k, 0) j).length ≤ 100001 := Nat.le_trans (insP_len _ _ _ _) (by omega)
        by_cases hlt : j < X.tills.length
        · have j1 : (j : Int) < (X.tills.length : Int) := by omega
          have j0 : (0 : Int) ≤ (j : Int) := by omega
          obtain ⟨a', c', e', hrd, -⟩ := H3.out.t.below hb.out
          simp only [Value.slice.injEq, true_and] at e'
          obtain ⟨rfl, rfl⟩ := e'
          obtain ⟨b0, off, x, y, rfl, d0, d1, hatj, -, -⟩ := hrd.pair j hlt
          have hsz := hb.out.size
          clear hrd
          by_cases hd : dn = true
          · subst hd
            obtain ⟨hP', hw⟩ := insP_done kT (x := (k, 0)) hatj (of_decide_eq_true hdn.symm)
            have HW := hid hw
            have HP := hid hP'
            clear hdn hw hP' hatj
            go_wp2_with (at_builtin; refine wpList_append1w T_till _ rfl _ _ #[.int .i64 x, .int .i64 y] rfl w3.heap.size _ _ _ rfl hown.out rfl rfl ?a11 ?b11 ?c11 ?_)
            any_goals (first | exact ⟨rfl, rfl⟩ | omega)
            intro v' w1 hown' hgrow hne hwh
            have HO : Hid (w1.ownsRow w3.heap.size 78 2 v' (insP kT X.tills (k, 0) (j + 1)).length (pv (insP kT X.tills (k, 0) (j + 1)))) := hid (by
              rw [HW.out, pv_append, List.length_append]; exact hown')
            have HB : Hid (Below w3.heap.size w3 w1) := hid (hb.out.grown hgrow hsz (fun j hj => (hown.out.lt j hj).1))
            clear hown' hgrow hwh hne c0 c1
            go_wp2
            go_roundw
            case rel => exact ⟨j + 1, true, _, rfl, rfl, by go_num, (decide_eq_true HP.out).symm, by omega, HO, HB⟩
            case measure => simp [intOf]; omega
          · obtain rfl : dn = false := by simpa using hd
            have hP := of_decide_eq_false hdn.symm
            by_cases hgt : k < x
            · obtain ⟨hP', hw⟩ := insP_here kT (x := (k, 0)) hatj HSORT.out hP hgt
              have HW := hid hw
              have HP := hid hP'
              have HAT := hid hatj
              clear hdn hw hP' hatj hd hP
              go_wp2_with (at_builtin; refine wpList_append1w T_till _ rfl _ _ #[.int .i64 k, .int .i64 0] rfl w3.heap.size _ _ _ rfl hown.out rfl rfl ?a12 ?b12 ?c12 ?_)
              any_goals (first | exact ⟨rfl, rfl⟩ | omega)
              intro v' w1 hown' hgrow hne hwh
              have HB1 := hid (hb.out.grown hgrow hsz (fun j hj => (hown.out.lt j hj).1))
              have HKR1 := hid (HK3.out.below HB1.out)
              have HOA : Hid (w1.ownsRow w3.heap.size 78 2 v' ((insP kT X.tills (k, 0) j) ++ [(k, 0)]).length (pv ((insP kT X.tills (k, 0) j) ++ [(k, 0)]))) := hid (by
                rw [pv_append, List.length_append]; exact hown')
              have hfl1 : ((insP kT X.tills (k, 0) j) ++ [(k, 0)]).length ≤ 100002 := by rw [List.length_append]; simp only [List.length_singleton]; omega
              have hsz1 := HB1.out.size
              clear hown' hgrow hwh hne c0 c1 d0 d1
              have c0 : w1.cell? ⟨bs, 0, none⟩ = some (.slice (some ⟨b0, off, none⟩) X.tills.length ct) := by rw [HKR1.out.cell]; rfl
              have c1 : w1.cell? ⟨bs, 1, none⟩ = some (.slice ag X.goods.length cg) := by rw [HKR1.out.cell]; rfl
              obtain ⟨a', c', e', hrd, -⟩ := H3.out.t.below HB1.out
              simp only [Value.slice.injEq, true_and] at e'
              obtain ⟨rfl, rfl⟩ := e'
              obtain ⟨d0, d1⟩ := hrd.pair_at HAT.out
              clear hrd
              go_wp2_with (at_builtin; refine wpList_append1w T_till _ rfl _ _ #[.int .i64 x, .int .i64 y] rfl w3.heap.size _ _ _ rfl HOA.out rfl rfl ?a13 ?b13 ?c13 ?_)
              any_goals (first | exact ⟨rfl, rfl⟩ | omega)
              intro v2 w7 hown' hgrow hne hwh
              have HO : Hid (w7.ownsRow w3.heap.size 78 2 v2 (insP kT X.tills (k, 0) (j + 1)).length (pv (insP kT X.tills (k, 0) (j + 1)))) := hid (by
                rw [HW.out, pv_append (_ ++ _)]; simp only [List.length_append, List.length_singleton]; exact hown')
              have HB : Hid (Below w3.heap.size w3 w7) := hid (HB1.out.grown hgrow hsz1 (fun j hj => (HOA.out.lt j hj).1))
              clear hown' hgrow hwh hne c0 c1 d0 d1
              go_wp2
              go_roundw
              case rel => exact ⟨j + 1, true, _, rfl, rfl, by go_num, (decide_eq_true HP.out).symm, by omega, HO, HB⟩
              case measure => simp [intOf]; omega
            · have hne0 : x ≠ k := HNE.out _ (List.mem_of_getElem? hatj)
              obtain ⟨hP', hw⟩ := insP_less kT (x := (k, 0)) hatj HSORT.out hP (by show x < k; omega)
              have HW := hid hw
              have HP := hid hP'
              clear hdn hw hP' hatj hd hP hne0
              go_wp2_with (at_builtin; refine wpList_append1w T_till _ rfl _ _ #[.int .i64 x, .int .i64 y] rfl w3.heap.size _ _ _ rfl hown.out rfl rfl ?a14 ?b14 ?c14 ?_)
              any_goals (first | exact ⟨rfl, rfl⟩ | omega)
              intro v' w1 hown' hgrow hne hwh
              have HO : Hid (w1.ownsRow w3.heap.size 78 2 v' (insP kT X.tills (k, 0) (j + 1)).length (pv (insP kT X.tills (k, 0) (j + 1)))) := hid (by
                rw [HW.out, pv_append, List.length_append]; exact hown')
              have HB : Hid (Below w3.heap.size w3 w1) := hid (hb.out.grown hgrow hsz (fun j hj => (hown.out.lt j hj).1))
              clear hown' hgrow hwh hne c0 c1
              go_wp2
              go_roundw
              case rel => exact ⟨j + 1, false, _, rfl, rfl, by go_num, (decide_eq_false HP.out).symm, by omega, HO, HB⟩
              case measure => simp [intOf]; omega
        · have ej : j = X.tills.length := by omega
          have hdn2 := hdn
          rw [ej] at hown hdn2
          have j1 : ¬ (j : Int) < (X.tills.length : Int) := by omega
          clear ej
          by_cases hd : dn = true
          · subst hd
            rw [insP_all kT (x := (k, 0)) (of_decide_eq_true hdn2.symm)] at hown
            clear hdn hdn2
            obtain ⟨av, cv, rfl, hlo⟩ := owns_sl hown.out
            have HLO := hid hlo
            have HSL : Hid (SlP wr (.slice av (insK kT X.tills (k, 0)).length cv) (insK kT X.tills (k, 0))) := hid (SlP.of_own hown.out)
            have HR := hid (H3.out.below hb.out)
            have HBR := hid (Below.next HB3.out hb.out)
            have hdl : (insK kT X.tills (k, 0)).length ≤ 100000 := by rw [insK_len]; omega
            obtain ⟨N, hN⟩ : ∃ N, N = (insK kT X.tills (k, 0)).length := ⟨_, rfl⟩
            have HNN := hid hN
            clear hlo hown
            try rw [← hN]
            clear hN
            have q0 : wr.cell? ⟨b4, 0, none⟩ = some (.slice none 0 0) := by rw [HK4R.out.cell]; rfl
            have q1 : wr.cell? ⟨b4, 1, none⟩ = some (.slice none 0 0) := by rw [HK4R.out.cell]; rfl
            have f0 : wr.frozen? ⟨b4, 0, none⟩ = false := HK4R.out.unfrozen 0
            have f1 : wr.frozen? ⟨b4, 1, none⟩ = false := HK4R.out.unfrozen 1
            go_wp2_with fail
            have HK5 : Hid (Blk ((wr.setCell ⟨b4, 0, none⟩ (.slice av N cv)).setCell ⟨b4, 1, none⟩ (.slice ag X.goods.length cg)) b4 #[.slice av N cv, .slice ag X.goods.length cg]) := hid (by simpa using (HK4R.out.set 0 (.slice av N cv)).set 1 (.slice ag X.goods.length cg))
            have HT5 := hid (((HSL.out).set4 (b4 := b4) (i := 0) (u := .slice av N cv) (fun q hq => by have := (HLO.out q hq).1; have := HBN.out; omega)).set4 (b4 := b4) (i := 1) (u := .slice ag X.goods.length cg) (fun q hq => by have := (HLO.out q hq).1; have := HBN.out; omega))
            have HG5 := hid (((HR.out.g).set4 (b4 := b4) (i := 0) (u := .slice av N cv) (fun k hk => by have := HLOW.out k (.inr hk); have := HB4.out.1; omega)).set4 (b4 := b4) (i := 1) (u := .slice ag X.goods.length cg) (fun k hk => by have := HLOW.out k (.inr hk); have := HB4.out.1; omega))
            have HB5 : Hid (Below w.heap.size w ((wr.setCell ⟨b4, 0, none⟩ (.slice av N cv)).setCell ⟨b4, 1, none⟩ (.slice ag X.goods.length cg))) := hid (by
              have hb := HBR.out
              have u := (Upd.setCell wr b4 0 (.slice av N cv)).trans (Upd.setCell _ b4 1 (.slice ag X.goods.length cg)) (fun _ _ q => q)
              exact hb.trans (u.below hb.size (fun j _ q => by have := HB4.out.1; omega)))
            have HSZ9 : Hid (wr.heap.size ≤ ((wr.setCell ⟨b4, 0, none⟩ (.slice av N cv)).setCell ⟨b4, 1, none⟩ (.slice ag X.goods.length cg)).heap.size) := hid (by simp [World.setCell])
            generalize World.setCell (World.setCell wr _ _) _ _ = w9 at HK5 HT5 HG5 HB5 HSZ9
            have k0 : w9.cell? ⟨b4, 0, none⟩ = some (.slice av N cv) := by rw [HK5.out.cell]; rfl
            have k1 : w9.cell? ⟨b4, 1, none⟩ = some (.slice ag X.goods.length cg) := by rw [HK5.out.cell]; rfl
            clear q0 q1 f0 f1
            refine bodyPost_ret (res_cell_tmp rfl _ _ _ rfl (by go_simp; rfl)) rfl ?_
            refine ⟨av, cv, ag, cg, by rw [HNN.out]; rfl, ⟨HT5.out, HG5.out, hdl, H.out.lg⟩, HB5.out, fun q hq => ?_⟩
            rcases hq with hq | hq
            · exact ⟨by have := (HLO.out q hq).2; have := HSZ9.out; omega, .inr (by have := (HLO.out q hq).1; have := HB3.out.size; omega)⟩
            · exact ⟨by have := HLOW.out q (.inr hq); have := HB5.out.size; omega, .inl (.inr hq)⟩
          · obtain rfl : dn = false := by simpa using hd
            have hw := insP_last kT (x := (k, 0)) (of_decide_eq_false hdn2.symm)
            have HW := hid hw
            have hsz := hb.out.size
            have hfl3 : (insP kT X.tills (k, 0) X.tills.length).length ≤ 100001 := Nat.le_trans (insP_len _ _ _ _) (by omega)
            clear hdn hdn2 hw hd
            go_wp2_with (at_builtin; refine wpList_append1w T_till _ rfl _ _ #[.int .i64 k, .int .i64 0] rfl w3.heap.size _ _ _ rfl hown.out rfl rfl ?a15 ?b15 ?c15 ?_)
            any_goals (first | exact ⟨rfl, rfl⟩ | omega)
            intro v' w1 hown' hgrow hne hwh
            have HO : Hid (w1.ownsRow w3.heap.size 78 2 v' (insK kT X.tills (k, 0)).length (pv (insK kT X.tills (k, 0)))) := hid (by
              rw [← HW.out, pv_append, List.length_append]; exact hown')
            have HB1 := hid (hb.out.grown hgrow hsz (fun j hj => (hown.out.lt j hj).1))
            have HKR1 := hid (HK3.out.below HB1.out)
            have HK41 := hid (HK43.out.below HB1.out)
            clear hown' hgrow hwh hne c0 c1
            have c0 : w1.cell? ⟨bs, 0, none⟩ = some (.slice at_ X.tills.length ct) := by rw [HKR1.out.cell]; rfl
            have c1 : w1.cell? ⟨bs, 1, none⟩ = some (.slice ag X.goods.length cg) := by rw [HKR1.out.cell]; rfl
            obtain ⟨av, cv, rfl, hlo⟩ := owns_sl HO.out
            have HLO := hid hlo
            have HSL : Hid (SlP w1 (.slice av (insK kT X.tills (k, 0)).length cv) (insK kT X.tills (k, 0))) := hid (SlP.of_own HO.out)
            have HR := hid (H3.out.below HB1.out)
            have HBR := hid (Below.next HB3.out HB1.out)
            have hdl : (insK kT X.tills (k, 0)).length ≤ 100000 := by rw [insK_len]; omega
            obtain ⟨N, hN⟩ : ∃ N, N = (insK kT X.tills (k, 0)).length := ⟨_, rfl⟩
            have HNN := hid hN
            clear hlo HO
            try rw [← hN]
            clear hN
            have q0 : w1.cell? ⟨b4, 0, none⟩ = some (.slice none 0 0) := by rw [HK41.out.cell]; rfl
            have q1 : w1.cell? ⟨b4, 1, none⟩ = some (.slice none 0 0) := by rw [HK41.out.cell]; rfl
            have f0 : w1.frozen? ⟨b4, 0, none⟩ = false := HK41.out.unfrozen 0
            have f1 : w1.frozen? ⟨b4, 1, none⟩ = false := HK41.out.unfrozen 1
            go_wp2_with fail
            have HK5 : Hid (Blk ((w1.setCell ⟨b4, 0, none⟩ (.slice av N cv)).setCell ⟨b4, 1, none⟩ (.slice ag X.goods.length cg)) b4 #[.slice av N cv, .slice ag X.goods.length cg]) := hid (by simpa using (HK41.out.set 0 (.slice av N cv)).set 1 (.slice ag X.goods.length cg))
            have HT5 := hid (((HSL.out).set4 (b4 := b4) (i := 0) (u := .slice av N cv) (fun q hq => by have := (HLO.out q hq).1; have := HBN.out; omega)).set4 (b4 := b4) (i := 1) (u := .slice ag X.goods.length cg) (fun q hq => by have := (HLO.out q hq).1; have := HBN.out; omega))
            have HG5 := hid (((HR.out.g).set4 (b4 := b4) (i := 0) (u := .slice av N cv) (fun k hk => by have := HLOW.out k (.inr hk); have := HB4.out.1; omega)).set4 (b4 := b4) (i := 1) (u := .slice ag X.goods.length cg) (fun k hk => by have := HLOW.out k (.inr hk); have := HB4.out.1; omega))
            have HB5 : Hid (Below w.heap.size w ((w1.setCell ⟨b4, 0, none⟩ (.slice av N cv)).setCell ⟨b4, 1, none⟩ (.slice ag X.goods.length cg))) := hid (by
              have hb := HBR.out
              have u := (Upd.setCell w1 b4 0 (.slice av N cv)).trans (Upd.setCell _ b4 1 (.slice ag X.goods.length cg)) (fun _ _ q => q)
              exact hb.trans (u.below hb.size (fun j _ q => by have := HB4.out.1; omega)))
            have HSZ9 : Hid (w1.heap.size ≤ ((w1.setCell ⟨b4, 0, none⟩ (.slice av N cv)).setCell ⟨b4, 1, none⟩ (.slice ag X.goods.length cg)).heap.size) := hid (by simp [World.setCell])
            generalize World.setCell (World.setCell w1 _ _) _ _ = w9 at HK5 HT5 HG5 HB5 HSZ9
            have k0 : w9.cell? ⟨b4, 0, none⟩ = some (.slice av N cv) := by rw [HK5.out.cell]; rfl
            have k1 : w9.cell? ⟨b4, 1, none⟩ = some (.slice ag X.goods.length cg) := by rw [HK5.out.cell]; rfl
            clear q0 q1 f0 f1
            refine bodyPost_ret (res_cell_tmp rfl _ _ _ rfl (by go_simp; rfl)) rfl ?_
            refine ⟨av, cv, ag, cg, by rw [HNN.out]; rfl, ⟨HT5.out, HG5.out, hdl, H.out.lg⟩, HB5.out, fun q hq => ?_⟩
            rcases hq with hq | hq
            · exact ⟨by have := (HLO.out q hq).2; have := HSZ9.out; omega, .inr (by have := (HLO.out q hq).1; have := HB3.out.size; omega)⟩
            · exact ⟨by have := HLOW.out q (.inr hq); have := HB5.out.size; omega, .inl (.inr hq)⟩
end Go.Proofs.Ytajfjgekcjkedaa
end
