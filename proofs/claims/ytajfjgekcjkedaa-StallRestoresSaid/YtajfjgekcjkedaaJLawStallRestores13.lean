/- Joined texts, in this order: Ref23c, InsP. Each one's first remark says what it proves; no condition beyond those that its theorems name. -/
import Derived.Test.YtajfjgekcjkedaaJLawStallRestores12
section
/- Contracts of the document's stalls: Set, Close. -/
namespace Go.Proofs.Ytajfjgekcjkedaa
open Go.RowKit
open Go.Lib (hid)
set_option linter.unusedVariables false

theorem setT_snoc (T : List (Int × Int)) (p : Int × Int) (h g : Int) : setT (T ++ [p]) h g = setT T h g ++ [if p.1 = h then (h, g) else p] := by unfold setT; rw [List.map_append]; rfl
theorem setT_len (T : List (Int × Int)) (h g : Int) : (setT T h g).length = T.length := by unfold setT; rw [List.length_map]
set_option maxRecDepth 100000 in
set_option maxHeartbeats 2000000 in
theorem ref23_Set {at_ ag : Option Addr} {ct cg : Nat} {X : StX} (w : World) (h : RefX w at_ ct ag cg X) (hlow : Low at_ ag w.heap.size) (k g : Int) :
    Calls Try.prog 17 #[.agg #[.slice at_ X.tills.length ct, .slice ag X.goods.length cg], .int .i64 k, .int .i64 g] w (R23Set w at_ ag (setX X k g)) := by
  have H := hid h
  have HLOW := hid hlow
  have hlt_ := h.lt
  have hlg_ := h.lg
  clear h hlow
  go_enter Try.func17, Try.ntmps17
  go_upto_region 1 with fail
  generalize hw2 : World.alloc (World.alloc w _) _ = w2
  obtain ⟨bs, hbs⟩ : ∃ b, b = w.heap.size := ⟨_, rfl⟩
  obtain ⟨b4, hb4⟩ : ∃ b, b = w.heap.size + 1 := ⟨_, rfl⟩
  have hz1 : (World.alloc w (.cells #[.slice at_ X.tills.length ct, .slice ag X.goods.length cg] 46)).heap.size = w.heap.size + 1 := by simp
  try rw [hz1]
  try rw [← hb4]
  try rw [← hbs]
  have hb2 : Below w.heap.size w w2 := by rw [← hw2]; exact Below.next (Below.new _ _) (Below.new _ _)
  have HK : Hid (Blk w2 bs #[.slice at_ X.tills.length ct, .slice ag X.goods.length cg]) := hid (by rw [← hw2, hbs]; exact (Blk.new w _ _).below (Below.new _ _))
  have HK4 : Hid (Blk w2 b4 #[.slice none 0 0, .slice none 0 0]) := hid (by rw [← hw2, hb4, ← hz1]; exact Blk.new _ _ _)
  have H2 := hid (H.out.below hb2)
  have HB2 := hid hb2
  have HB4 : Hid (w.heap.size ≤ b4 ∧ b4 < w2.heap.size ∧ b4 ≠ bs) := hid (by have := HK4.out.lt; omega)
  clear hw2 hbs hb4 hz1 hb2
  go_wp2_with fail
  go_loopw [7, 8] (fun vo vi wr => ∃ (j : Nat) (vo' : Value), vo' = vo ∧ vi = .int .i64 (j : Int) ∧ j ≤ X.tills.length ∧ Hid (wr.ownsRow w2.heap.size 78 2 vo (setT (X.tills.take j) k g).length (pv (setT (X.tills.take j) k g))) ∧ Hid (Below w2.heap.size w2 wr)) (fun _ vi _ => X.tills.length - (intOf vi).toNat)
  case atStart => exact ⟨0, _, rfl, rfl, by omega, hid (by simpa [pv, setT] using World.ownsRow_nil _ _ _ _), hid (Below.refl _ _)⟩
  case round =>
    obtain ⟨j, vo, hvo, rfl, hj, hown, hb⟩ := hrel
    subst hvo
    have HKR := hid (HK.out.below hb.out)
    have HK4R := hid (HK4.out.below hb.out)
    have c0 : wr.cell? ⟨bs, 0, none⟩ = some (.slice at_ X.tills.length ct) := by rw [HKR.out.cell]; rfl
    have c1 : wr.cell? ⟨bs, 1, none⟩ = some (.slice ag X.goods.length cg) := by rw [HKR.out.cell]; rfl
    by_cases hlt : j < X.tills.length
    · have j1 : (j : Int) < (X.tills.length : Int) := by omega
      have j0 : (0 : Int) ≤ (j : Int) := by omega
      obtain ⟨a', c', e', hrd, -⟩ := H2.out.t.below hb.out
      simp only [Value.slice.injEq, true_and] at e'
      obtain ⟨rfl, rfl⟩ := e'
      obtain ⟨b0, off, x, y, rfl, d0, d1, -, -, htk⟩ := hrd.pair j hlt
      have hsz := hb.out.size
      have hfl : (setT (X.tills.take j) k g).length ≤ 100000 := by rw [setT_len, List.length_take]; omega
      have hw : setT (X.tills.take (j + 1)) k g = setT (X.tills.take j) k g ++ [if x = k then (k, g) else (x, y)] := by rw [htk, setT_snoc]
      clear hrd htk
      go_upto_region 6 with fail
      obtain ⟨w5, hw5⟩ : ∃ w5, w5 = wr.alloc (.cells #[.int .i64 x, .int .i64 y] 78) := ⟨_, rfl⟩
      rw [← hw5]
      obtain ⟨bx, hbx⟩ : ∃ b, b = wr.heap.size := ⟨_, rfl⟩
      rw [← hbx]
      have hb5 : Below wr.heap.size wr w5 := by rw [hw5]; exact Below.new _ _
      have HX5 := hid (show Blk w5 bx #[.int .i64 x, .int .i64 y] by rw [hw5, hbx]; exact Blk.new wr _ _)
      have HO5 := hid (owns_below hown.out hb5)
      have HB5' := hid (Below.next hb.out hb5)
      have HBX : Hid (w2.heap.size ≤ bx ∧ ∀ q, vo.ownBlock = some q → q ≠ bx) := hid ⟨by have := hb.out.size; omega, fun q hq => by have := (hown.out.lt q hq).2; omega⟩
      clear hw5 hbx hb5 c0 c1 d0 d1
      by_cases hx : x = k
      · subst hx
        rw [if_pos rfl] at hw
        have HW := hid hw
        have hxx : (x == x) = true := by simp
        have k0 : w5.cell? ⟨bx, 0, none⟩ = some (.int .i64 x) := by rw [HX5.out.cell]; rfl
        have k1 : w5.cell? ⟨bx, 1, none⟩ = some (.int .i64 y) := by rw [HX5.out.cell]; rfl
        have f1 : w5.frozen? ⟨bx, 1, none⟩ = false := HX5.out.unfrozen 1
        clear hw
        go_upto_region 8 with fail
        have HX6 : Hid (Blk (w5.setCell ⟨bx, 1, none⟩ (.int .i64 g)) bx #[.int .i64 x, .int .i64 g]) := hid (by simpa using HX5.out.set 1 (.int .i64 g))
        have HO6 := hid ((Upd.setCell w5 bx 1 (.int .i64 g)).owns HO5.out (fun q hq e => HBX.out.2 q hq e))
        have HB6 : Hid (Below w2.heap.size w2 (w5.setCell ⟨bx, 1, none⟩ (.int .i64 g))) := hid (HB5'.out.trans ((Upd.setCell w5 bx 1 (.int .i64 g)).below HB5'.out.size (fun q _ e => by have := HBX.out.1; omega)))
        generalize World.setCell w5 _ _ = w6 at HX6 HO6 HB6
        clear k0 k1 f1
        have k0 : w6.cell? ⟨bx, 0, none⟩ = some (.int .i64 x) := by rw [HX6.out.cell]; rfl
        have k1 : w6.cell? ⟨bx, 1, none⟩ = some (.int .i64 g) := by rw [HX6.out.cell]; rfl
        have hsz6 := HB6.out.size
        go_wp2_with (at_builtin; refine wpList_append1w T_till _ rfl _ _ #[.int .i64 x, .int .i64 g] rfl w2.heap.size _ _ _ rfl HO6.out rfl rfl ?c1 ?c2 ?c3 ?_)
        case c1 => exact ⟨rfl, rfl⟩
        case c2 => omega
        case c3 => omega
        intro v' w7 hown' hgrow hne hwh
        have HO : Hid (w7.ownsRow w2.heap.size 78 2 v' (setT (X.tills.take (j + 1)) x g).length (pv (setT (X.tills.take (j + 1)) x g))) := hid (by
          rw [HW.out, pv_append, List.length_append]; exact hown')
        have HB : Hid (Below w2.heap.size w2 w7) := hid (HB6.out.grown hgrow hsz6 (fun j hj => (HO6.out.lt j hj).1))
        clear hown' hgrow hwh hne k0 k1
        go_wp2
        go_roundw
        case rel => exact ⟨j + 1, _, rfl, by go_num, by omega, HO, HB⟩
        case measure => simp [intOf]; omega
      · rw [if_neg hx] at hw
        have HW := hid hw
        have hxx : (x == k) = false := by simpa using hx
        have k0 : w5.cell? ⟨bx, 0, none⟩ = some (.int .i64 x) := by rw [HX5.out.cell]; rfl
        have k1 : w5.cell? ⟨bx, 1, none⟩ = some (.int .i64 y) := by rw [HX5.out.cell]; rfl
        have hsz6 := HB5'.out.size
        clear hw hx
        go_wp2_with (at_builtin; refine wpList_append1w T_till _ rfl _ _ #[.int .i64 x, .int .i64 y] rfl w2.heap.size _ _ _ rfl HO5.out rfl rfl ?c1 ?c2 ?c3 ?_)
        case c1 => exact ⟨rfl, rfl⟩
        case c2 => omega
        case c3 => omega
        intro v' w7 hown' hgrow hne hwh
        have HO : Hid (w7.ownsRow w2.heap.size 78 2 v' (setT (X.tills.take (j + 1)) k g).length (pv (setT (X.tills.take (j + 1)) k g))) := hid (by
          rw [HW.out, pv_append, List.length_append]; exact hown')
        have HB : Hid (Below w2.heap.size w2 w7) := hid (HB5'.out.grown hgrow hsz6 (fun j hj => (HO5.out.lt j hj).1))
        clear hown' hgrow hwh hne k0 k1
        go_wp2
        go_roundw
        case rel => exact ⟨j + 1, _, rfl, by go_num, by omega, HO, HB⟩
        case measure => simp [intOf]; omega
    · have e1 : X.tills.take j = X.tills := List.take_of_length_le (by omega)
      rw [e1] at hown
      have j1 : ¬ (j : Int) < (X.tills.length : Int) := by omega
      obtain ⟨av, cv, rfl, hlo⟩ := owns_sl hown.out
      have HLO := hid hlo
      have HSL : Hid (SlP wr (.slice av (setT X.tills k g).length cv) (setT X.tills k g)) := hid (SlP.of_own hown.out)
      have HR := hid (H2.out.below hb.out)
      have HBR := hid (Below.next HB2.out hb.out)
      have hdl : (setT X.tills k g).length ≤ 100000 := by rw [setT_len]; exact hlt_
      obtain ⟨N, hN⟩ : ∃ N, N = (setT X.tills k g).length := ⟨_, rfl⟩
      have HNN := hid hN
      clear hlo hown e1
      rw [← hN]
      clear hN
      have q0 : wr.cell? ⟨b4, 0, none⟩ = some (.slice none 0 0) := by rw [HK4R.out.cell]; rfl
      have q1 : wr.cell? ⟨b4, 1, none⟩ = some (.slice none 0 0) := by rw [HK4R.out.cell]; rfl
      have f0 : wr.frozen? ⟨b4, 0, none⟩ = false := HK4R.out.unfrozen 0
      have f1 : wr.frozen? ⟨b4, 1, none⟩ = false := HK4R.out.unfrozen 1
      go_wp2_with fail
      have HK5 : Hid (Blk ((wr.setCell ⟨b4, 0, none⟩ (.slice av N cv)).setCell ⟨b4, 1, none⟩ (.slice ag X.goods.length cg)) b4 #[.slice av N cv, .slice ag X.goods.length cg]) := hid (by simpa using (HK4R.out.set 0 (.slice av N cv)).set 1 (.slice ag X.goods.length cg))
      have HT5 := hid (((HSL.out).set4 (b4 := b4) (i := 0) (u := .slice av N cv) (fun q hq => by have := (HLO.out q hq).1; have := HB4.out.2.1; omega)).set4 (b4 := b4) (i := 1) (u := .slice ag X.goods.length cg) (fun q hq => by have := (HLO.out q hq).1; have := HB4.out.2.1; omega))
      have HG5 := hid (((HR.out.g).set4 (b4 := b4) (i := 0) (u := .slice av N cv) (fun k hk => by have := HLOW.out k (.inr hk); have := HB4.out.1; omega)).set4 (b4 := b4) (i := 1) (u := .slice ag X.goods.length cg) (fun k hk => by have := HLOW.out k (.inr hk); have := HB4.out.1; omega))
      have HB5 : Hid (Below w.heap.size w ((wr.setCell ⟨b4, 0, none⟩ (.slice av N cv)).setCell ⟨b4, 1, none⟩ (.slice ag X.goods.length cg))) := hid (by
        have hb := HBR.out
        have u := (Upd.setCell wr b4 0 (.slice av N cv)).trans (Upd.setCell _ b4 1 (.slice ag X.goods.length cg)) (fun _ _ q => q)
        exact hb.trans (u.below hb.size (fun j _ q => by have := HB4.out.1; omega)))
      have HSZ9 : Hid (wr.heap.size ≤ ((wr.setCell ⟨b4, 0, none⟩ (.slice av N cv)).setCell ⟨b4, 1, none⟩ (.slice ag X.goods.length cg)).heap.size) := hid (by simp [World.setCell])
      generalize World.setCell (World.setCell wr _ _) _ _ = w9 at HK5 HT5 HG5 HB5 HSZ9
      have k0 : w9.cell? ⟨b4, 0, none⟩ = some (.slice av N cv) := by rw [HK5.out.cell]; rfl
      have k1 : w9.cell? ⟨b4, 1, none⟩ = some (.slice ag X.goods.length cg) := by rw [HK5.out.cell]; rfl
      clear q0 q1 f0 f1
      refine bodyPost_ret (res_cell1 rfl _ _ _ rfl (by go_simp; rfl)) rfl ?_
      refine ⟨av, cv, ag, cg, by rw [HNN.out]; rfl, ⟨HT5.out, HG5.out, hdl, H.out.lg⟩, HB5.out, fun q hq => ?_⟩
      rcases hq with hq | hq
      · exact ⟨by have := (HLO.out q hq).2; have := HSZ9.out; omega, .inr (by have := (HLO.out q hq).1; have := HB2.out.size; omega)⟩
      · exact ⟨by have := HLOW.out q (.inr hq); have := HB5.out.size; omega, .inl (.inr hq)⟩
set_option maxRecDepth 100000 in
set_option maxHeartbeats 2000000 in
theorem ref23_Close {at_ ag : Option Addr} {ct cg : Nat} {X : StX} (w : World) (h : RefX w at_ ct ag cg X) (hlow : Low at_ ag w.heap.size) (k : Int) :
    Calls Try.prog 45 #[.agg #[.slice at_ X.tills.length ct, .slice ag X.goods.length cg], .int .i64 k] w (R23Post w at_ ag (if (X.tills.lookup k).isSome then closeX X k else X) (tillE X k)) := by
  have H := hid h
  have HLOW := hid hlow
  have hlt_ := h.lt
  have hlg_ := h.lg
  clear h hlow
  cases hf : X.tills.lookup k with
  | none =>
    have hE : tillE X k = 14 := by unfold tillE; rw [hf]; rfl
    rw [hE]
    simp only [Option.isSome_none, Bool.false_eq_true, if_false]
    have HF := hid hf
    clear hf hE
    go_enter Try.func45, Try.ntmps45
    go_upto_region 1 with fail
    generalize hw2 : World.alloc (World.alloc w _) _ = w2
    obtain ⟨bs, hbs⟩ : ∃ b, b = w.heap.size := ⟨_, rfl⟩
    obtain ⟨b4, hb4⟩ : ∃ b, b = w.heap.size + 1 := ⟨_, rfl⟩
    have hz1 : (World.alloc w (.cells #[.slice at_ X.tills.length ct, .slice ag X.goods.length cg] 46)).heap.size = w.heap.size + 1 := by simp
    try rw [hz1]
    try rw [← hb4]
    try rw [← hbs]
    have hb2 : Below w.heap.size w w2 := by rw [← hw2]; exact Below.next (Below.new _ _) (Below.new _ _)
    have HK : Hid (Blk w2 bs #[.slice at_ X.tills.length ct, .slice ag X.goods.length cg]) := hid (by rw [← hw2, hbs]; exact (Blk.new w _ _).below (Below.new _ _))
    have HK4 : Hid (Blk w2 b4 #[.slice none 0 0, .slice none 0 0]) := hid (by rw [← hw2, hb4, ← hz1]; exact Blk.new _ _ _)
    have H2 := hid (H.out.below hb2)
    have HB2 := hid hb2
    have HB4 : Hid (w.heap.size ≤ b4 ∧ b4 < w2.heap.size ∧ b4 ≠ bs) := hid (by have := HK4.out.lt; omega)
    clear hw2 hbs hb4 hz1 hb2
    have c0 : w2.cell? ⟨bs, 0, none⟩ = some (.slice at_ X.tills.length ct) := by rw [HK.out.cell]; rfl
    have c1 : w2.cell? ⟨bs, 1, none⟩ = some (.slice ag X.goods.length cg) := by rw [HK.out.cell]; rfl
    go_wp2_with fail
    refine (ref23_Has w2 H2.out k).mono ?_
    rintro e w3 ⟨r, rfl, hr, hb3⟩
    obtain rfl : r = -1 := by
      rcases hr with ⟨i, g, -, -, q⟩ | ⟨q, -⟩
      · rw [HF.out] at q; simp at q
      · exact q
    have HK3 := hid (HK.out.below hb3)
    have HK43 := hid (HK4.out.below hb3)
    have H3 := hid (H2.out.below hb3)
    have HB3 := hid (Below.next HB2.out hb3)
    clear hr hb3 c0 c1
    have c0 : w3.cell? ⟨bs, 0, none⟩ = some (.slice at_ X.tills.length ct) := by rw [HK3.out.cell]; rfl
    have c1 : w3.cell? ⟨bs, 1, none⟩ = some (.slice ag X.goods.length cg) := by rw [HK3.out.cell]; rfl
    have q0 : w3.cell? ⟨b4, 0, none⟩ = some (.slice none 0 0) := by rw [HK43.out.cell]; rfl
    have q1 : w3.cell? ⟨b4, 1, none⟩ = some (.slice none 0 0) := by rw [HK43.out.cell]; rfl
    have f0 : w3.frozen? ⟨b4, 0, none⟩ = false := HK43.out.unfrozen 0
    have f1 : w3.frozen? ⟨b4, 1, none⟩ = false := HK43.out.unfrozen 1
    go_wp2_with fail
    have HK5 : Hid (Blk ((w3.setCell ⟨b4, 0, none⟩ (.slice at_ X.tills.length ct)).setCell ⟨b4, 1, none⟩ (.slice ag X.goods.length cg)) b4 #[.slice at_ X.tills.length ct, .slice ag X.goods.length cg]) := hid (by simpa using (HK43.out.set 0 (.slice at_ X.tills.length ct)).set 1 (.slice ag X.goods.length cg))
    have HT5 := hid (((H3.out.t).set4 (b4 := b4) (i := 0) (u := .slice at_ X.tills.length ct) (fun k hk => by have := HLOW.out k (.inl hk); have := HB4.out.1; omega)).set4 (b4 := b4) (i := 1) (u := .slice ag X.goods.length cg) (fun k hk => by have := HLOW.out k (.inl hk); have := HB4.out.1; omega))
    have HG5 := hid (((H3.out.g).set4 (b4 := b4) (i := 0) (u := .slice at_ X.tills.length ct) (fun k hk => by have := HLOW.out k (.inr hk); have := HB4.out.1; omega)).set4 (b4 := b4) (i := 1) (u := .slice ag X.goods.length cg) (fun k hk => by have := HLOW.out k (.inr hk); have := HB4.out.1; omega))
    have HB5 : Hid (Below w.heap.size w ((w3.setCell ⟨b4, 0, none⟩ (.slice at_ X.tills.length ct)).setCell ⟨b4, 1, none⟩ (.slice ag X.goods.length cg))) := hid (by
      have hb := HB3.out
      have u := (Upd.setCell w3 b4 0 (.slice at_ X.tills.length ct)).trans (Upd.setCell _ b4 1 (.slice ag X.goods.length cg)) (fun _ _ q => q)
      exact hb.trans (u.below hb.size (fun j _ q => by have := HB4.out.1; omega)))
    have HSZ9 : Hid (w3.heap.size ≤ ((w3.setCell ⟨b4, 0, none⟩ (.slice at_ X.tills.length ct)).setCell ⟨b4, 1, none⟩ (.slice ag X.goods.length cg)).heap.size) := hid (by simp [World.setCell])
    generalize World.setCell (World.setCell w3 _ _) _ _ = w9 at HK5 HT5 HG5 HB5 HSZ9
    have k0 : w9.cell? ⟨b4, 0, none⟩ = some (.slice at_ X.tills.length ct) := by rw [HK5.out.cell]; rfl
    have k1 : w9.cell? ⟨b4, 1, none⟩ = some (.slice ag X.goods.length cg) := by rw [HK5.out.cell]; rfl
    clear q0 q1 f0 f1
    refine bodyPost_ret (res_cell_tmp rfl _ _ _ rfl (by go_simp; rfl)) rfl ?_
    exact ⟨_, _, _, _, rfl, ⟨HT5.out, HG5.out, H.out.lt, H.out.lg⟩, HB5.out, fun k hk => ⟨by have := HLOW.out k hk; have := HB5.out.size; omega, .inl hk⟩⟩
  | some g0 =>
    have hE : tillE X k = 0 := by unfold tillE; rw [hf]; rfl
    rw [hE]
    simp only [Option.isSome_some, if_true]
    have HF := hid hf
    clear hf hE
    go_enter Try.func45, Try.ntmps45
    go_upto_region 1 with fail
    generalize hw2 : World.alloc (World.alloc w _) _ = w2
    obtain ⟨bs, hbs⟩ : ∃ b, b = w.heap.size := ⟨_, rfl⟩
    obtain ⟨b4, hb4⟩ : ∃ b, b = w.heap.size + 1 := ⟨_, rfl⟩
    have hz1 : (World.alloc w (.cells #[.slice at_ X.tills.length ct, .slice ag X.goods.length cg] 46)).heap.size = w.heap.size + 1 := by simp
    try rw [hz1]
    try rw [← hb4]
    try rw [← hbs]
    have hb2 : Below w.heap.size w w2 := by rw [← hw2]; exact Below.next (Below.new _ _) (Below.new _ _)
    have HK : Hid (Blk w2 bs #[.slice at_ X.tills.length ct, .slice ag X.goods.length cg]) := hid (by rw [← hw2, hbs]; exact (Blk.new w _ _).below (Below.new _ _))
    have HK4 : Hid (Blk w2 b4 #[.slice none 0 0, .slice none 0 0]) := hid (by rw [← hw2, hb4, ← hz1]; exact Blk.new _ _ _)
    have H2 := hid (H.out.below hb2)
    have HB2 := hid hb2
    have HB4 : Hid (w.heap.size ≤ b4 ∧ b4 < w2.heap.size ∧ b4 ≠ bs) := hid (by have := HK4.out.lt; omega)
    clear hw2 hbs hb4 hz1 hb2
    have c0 : w2.cell? ⟨bs, 0, none⟩ = some (.slice at_ X.tills.length ct) := by rw [HK.out.cell]; rfl
    have c1 : w2.cell? ⟨bs, 1, none⟩ = some (.slice ag X.goods.length cg) := by rw [HK.out.cell]; rfl
    go_wp2_with fail
    refine (ref23_Has w2 H2.out k).mono ?_
    rintro e w3 ⟨r, rfl, hr, hb3⟩
    obtain ⟨i0, rfl⟩ : ∃ i0 : Nat, r = (i0 : Int) := by
      rcases hr with ⟨i, g, q1, -, -⟩ | ⟨-, q⟩
      · exact ⟨i, q1⟩
      · rw [HF.out] at q; simp at q
    have i00 : ¬ (i0 : Int) < 0 := by omega
    have HK3 := hid (HK.out.below hb3)
    have HK43 := hid (HK4.out.below hb3)
    have H3 := hid (H2.out.below hb3)
    have HB3 := hid (Below.next HB2.out hb3)
    have HBN : Hid (b4 < w3.heap.size) := hid HK43.out.lt
    clear hr hb3 c0 c1
    go_wp2_with fail
    go_loopw [6, 7] (fun vo vi wr => ∃ (j : Nat), vi = .int .i64 (j : Int) ∧ j ≤ X.tills.length ∧ Hid (wr.ownsRow w3.heap.size 78 2 vo (adel (X.tills.take j) k).length (pv (adel (X.tills.take j) k))) ∧ Hid (Below w3.heap.size w3 wr)) (fun _ vi _ => X.tills.length - (intOf vi).toNat)
    case atStart => exact ⟨0, rfl, by omega, hid (by simpa [pv, adel] using World.ownsRow_nil _ _ _ _), hid (Below.refl _ _)⟩
    case round =>
      obtain ⟨j, rfl, hj, hown, hb⟩ := hrel
      have HKR := hid (HK3.out.below hb.out)
      have HK4R := hid (HK43.out.below hb.out)
      have c0 : wr.cell? ⟨bs, 0, none⟩ = some (.slice at_ X.tills.length ct) := by rw [HKR.out.cell]; rfl
      have c1 : wr.cell? ⟨bs, 1, none⟩ = some (.slice ag X.goods.length cg) := by rw [HKR.out.cell]; rfl
      by_cases hlt : j < X.tills.length
      · have j1 : (j : Int) < (X.tills.length : Int) := by omega
        have j0 : (0 : Int) ≤ (j : Int) := by omega
        obtain ⟨a', c', e', hrd, -⟩ := H3.out.t.below hb.out
        simp only [Value.slice.injEq, true_and] at e'
        obtain ⟨rfl, rfl⟩ := e'
        obtain ⟨b0, off, x, y, rfl, d0, d1, -, -, htk⟩ := hrd.pair j hlt
        have hsz := hb.out.size
        have hfl : (adel (X.tills.take j) k).length ≤ 100000 := Nat.le_trans (List.length_filter_le _ _) (by rw [List.length_take]; omega)
        clear hrd
        by_cases hx : x = k
        · subst hx
          have hw : adel (X.tills.take (j + 1)) x = adel (X.tills.take j) x := by unfold adel; rw [htk, List.filter_append]; simp
          have HW := hid hw
          have hxx : (x == x) = true := by simp
          clear hw htk
          go_wp2
          go_roundw
          case rel => exact ⟨j + 1, by go_num, by omega, by rw [HW.out]; exact hown, hb⟩
          case measure => simp [intOf]; omega
        · have hw : adel (X.tills.take (j + 1)) k = adel (X.tills.take j) k ++ [(x, y)] := by unfold adel; rw [htk, List.filter_append]; simp [hx]
          have HW := hid hw
          have hxx : (x == k) = false := by simpa using hx
          clear hw htk hx
          go_wp2_with (at_builtin; refine wpList_append1w T_till _ rfl _ _ #[.int .i64 x, .int .i64 y] rfl w3.heap.size _ _ _ rfl hown.out rfl rfl ?c1 ?c2 ?c3 ?_)
          case c1 => exact ⟨rfl, rfl⟩
          case c2 => omega
          case c3 => omega
          intro v' w1 hown' hgrow hne hwh
          have HO : Hid (w1.ownsRow w3.heap.size 78 2 v' (adel (X.tills.take (j + 1)) k).length (pv (adel (X.tills.take (j + 1)) k))) := hid (by
            rw [HW.out, pv_append, List.length_append]; exact hown')
          have HB : Hid (Below w3.heap.size w3 w1) := hid (hb.out.grown hgrow hsz (fun j hj => (hown.out.lt j hj).1))
          clear hown' hgrow hwh hne c0 c1
          go_wp2
          go_roundw
          case rel => exact ⟨j + 1, by go_num, by omega, HO, HB⟩
          case measure => simp [intOf]; omega
      · have e1 : X.tills.take j = X.tills := List.take_of_length_le (by omega)
        rw [e1] at hown
        have j1 : ¬ (j : Int) < (X.tills.length : Int) := by omega
        obtain ⟨av, cv, rfl, hlo⟩ := owns_sl hown.out
        have HLO := hid hlo
        have HSL : Hid (SlP wr (.slice av (adel X.tills k).length cv) (adel X.tills k)) := hid (SlP.of_own hown.out)
        have HR := hid (H3.out.below hb.out)
        have HBR := hid (Below.next HB3.out hb.out)
        have hdl : (adel X.tills k).length ≤ 100000 := Nat.le_trans (List.length_filter_le _ _) hlt_
        obtain ⟨N, hN⟩ : ∃ N, N = (adel X.tills k).length := ⟨_, rfl⟩
        have HNN := hid hN
        have HSZ := hid hb.out.size
        clear hlo hown e1
        rw [← hN]
        clear hN
        obtain ⟨wq, hwq⟩ : ∃ wq, wq = wr := ⟨_, rfl⟩
        subst hwq
        go_wp2_with fail
        clear c0 c1
        go_loopw [8, 9] (fun vo vi wr => ∃ (j : Nat), vi = .int .i64 (j : Int) ∧ j ≤ X.goods.length ∧ Hid (wr.ownsRow wq.heap.size 81 3 vo ((X.goods.take j).filter (fun g => !decide (g.1 = k))).length (tv ((X.goods.take j).filter (fun g => !decide (g.1 = k))))) ∧ Hid (Below wq.heap.size wq wr)) (fun _ vi _ => X.goods.length - (intOf vi).toNat)
        case atStart => exact ⟨0, rfl, by omega, hid (by simpa [tv] using World.ownsRow_nil _ _ _ _), hid (Below.refl _ _)⟩
        case round =>
          obtain ⟨j2, rfl, hj2, hown, hb⟩ := hrel
          have HKR2 := hid (HKR.out.below hb.out)
          have HK4R2 := hid (HK4R.out.below hb.out)
          have c0 : wr.cell? ⟨bs, 0, none⟩ = some (.slice at_ X.tills.length ct) := by rw [HKR2.out.cell]; rfl
          have c1 : wr.cell? ⟨bs, 1, none⟩ = some (.slice ag X.goods.length cg) := by rw [HKR2.out.cell]; rfl
          by_cases hlt2 : j2 < X.goods.length
          · have j21 : (j2 : Int) < (X.goods.length : Int) := by omega
            have j20 : (0 : Int) ≤ (j2 : Int) := by omega
            obtain ⟨a', c', e', hrd, -⟩ := HR.out.g.below hb.out
            simp only [Value.slice.injEq, true_and] at e'
            obtain ⟨rfl, rfl⟩ := e'
            obtain ⟨b0, off, x, y, z, rfl, d0, d1, d2, -, -, htk⟩ := hrd.triple j2 hlt2
            have hsz := hb.out.size
            have hfl : ((X.goods.take j2).filter (fun g => !decide (g.1 = k))).length ≤ 100000 := Nat.le_trans (List.length_filter_le _ _) (by rw [List.length_take]; omega)
            clear hrd
            by_cases hx : x = k
            · subst hx
              have hw : (X.goods.take (j2 + 1)).filter (fun g => !decide (g.1 = x)) = (X.goods.take j2).filter (fun g => !decide (g.1 = x)) := by rw [htk, List.filter_append]; simp
              have HW := hid hw
              have hxx : (x == x) = true := by simp
              clear hw htk
              go_wp2
              go_roundw
              case rel => exact ⟨j2 + 1, by go_num, by omega, by rw [HW.out]; exact hown, hb⟩
              case measure => simp [intOf]; omega
            · have hw : (X.goods.take (j2 + 1)).filter (fun g => !decide (g.1 = k)) = (X.goods.take j2).filter (fun g => !decide (g.1 = k)) ++ [(x, y, z)] := by rw [htk, List.filter_append]; simp [hx]
              have HW := hid hw
              have hxx : (x == k) = false := by simpa using hx
              clear hw htk hx
              go_wp2_with (at_builtin; refine wpList_append1w T_g3 _ rfl _ _ #[.int .i64 x, .int .i64 y, .int .i64 z] rfl wq.heap.size _ _ _ rfl hown.out rfl rfl ?c1 ?c2 ?c3 ?_)
              case c1 => exact ⟨rfl, rfl, rfl⟩
              case c2 => omega
              case c3 => omega
              intro v' w1 hown' hgrow hne hwh
              have HO : Hid (w1.ownsRow wq.heap.size 81 3 v' ((X.goods.take (j2 + 1)).filter (fun g => !decide (g.1 = k))).length (tv ((X.goods.take (j2 + 1)).filter (fun g => !decide (g.1 = k))))) := hid (by
                rw [HW.out, tv_append, List.length_append]; exact hown')
              have HB : Hid (Below wq.heap.size wq w1) := hid (hb.out.grown hgrow hsz (fun j hj => (hown.out.lt j hj).1))
              clear hown' hgrow hwh hne c0 c1
              go_wp2
              go_roundw
              case rel => exact ⟨j2 + 1, by go_num, by omega, HO, HB⟩
              case measure => simp [intOf]; omega
          · have e1 : X.goods.take j2 = X.goods := List.take_of_length_le (by omega)
            rw [e1] at hown
            have j21 : ¬ (j2 : Int) < (X.goods.length : Int) := by omega
            obtain ⟨au, cu, rfl, hlo⟩ := owns_sl hown.out
            have HLU := hid hlo
            have HSU : Hid (Sl3 wr (.slice au (X.goods.filter (fun g => !decide (g.1 = k))).length cu) (X.goods.filter (fun g => !decide (g.1 = k)))) := hid (Sl3.of_own hown.out)
            have HSV := hid (HSL.out.below hb.out)
            have HBR2 := hid (Below.next HBR.out hb.out)
            have hdu : (X.goods.filter (fun g => !decide (g.1 = k))).length ≤ 100000 := Nat.le_trans (List.length_filter_le _ _) hlg_
            obtain ⟨M, hM⟩ : ∃ M, M = (X.goods.filter (fun g => !decide (g.1 = k))).length := ⟨_, rfl⟩
            have HMM := hid hM
            clear hlo hown e1
            rw [← hM]
            clear hM
            have q0 : wr.cell? ⟨b4, 0, none⟩ = some (.slice none 0 0) := by rw [HK4R2.out.cell]; rfl
            have q1 : wr.cell? ⟨b4, 1, none⟩ = some (.slice none 0 0) := by rw [HK4R2.out.cell]; rfl
            have f0 : wr.frozen? ⟨b4, 0, none⟩ = false := HK4R2.out.unfrozen 0
            have f1 : wr.frozen? ⟨b4, 1, none⟩ = false := HK4R2.out.unfrozen 1
            go_wp2_with fail
            have HK5 : Hid (Blk ((wr.setCell ⟨b4, 0, none⟩ (.slice av N cv)).setCell ⟨b4, 1, none⟩ (.slice au M cu)) b4 #[.slice av N cv, .slice au M cu]) := hid (by simpa using (HK4R2.out.set 0 (.slice av N cv)).set 1 (.slice au M cu))
            have HT5 := hid (((HSV.out).set4 (b4 := b4) (i := 0) (u := .slice av N cv) (fun q hq => by have := (HLO.out q hq).1; have := HBN.out; omega)).set4 (b4 := b4) (i := 1) (u := .slice au M cu) (fun q hq => by have := (HLO.out q hq).1; have := HBN.out; omega))
            have HG5 := hid (((HSU.out).set4 (b4 := b4) (i := 0) (u := .slice av N cv) (fun q hq => by have := (HLU.out q hq).1; have := HBN.out; have := HSZ.out; omega)).set4 (b4 := b4) (i := 1) (u := .slice au M cu) (fun q hq => by have := (HLU.out q hq).1; have := HBN.out; have := HSZ.out; omega))
            have HB5 : Hid (Below w.heap.size w ((wr.setCell ⟨b4, 0, none⟩ (.slice av N cv)).setCell ⟨b4, 1, none⟩ (.slice au M cu))) := hid (by
              have hb := HBR2.out
              have u := (Upd.setCell wr b4 0 (.slice av N cv)).trans (Upd.setCell _ b4 1 (.slice au M cu)) (fun _ _ q => q)
              exact hb.trans (u.below hb.size (fun j _ q => by have := HB4.out.1; omega)))
            have HSZ9 : Hid (wr.heap.size ≤ ((wr.setCell ⟨b4, 0, none⟩ (.slice av N cv)).setCell ⟨b4, 1, none⟩ (.slice au M cu)).heap.size) := hid (by simp [World.setCell])
            generalize World.setCell (World.setCell wr _ _) _ _ = w9 at HK5 HT5 HG5 HB5 HSZ9
            have k0 : w9.cell? ⟨b4, 0, none⟩ = some (.slice av N cv) := by rw [HK5.out.cell]; rfl
            have k1 : w9.cell? ⟨b4, 1, none⟩ = some (.slice au M cu) := by rw [HK5.out.cell]; rfl
            clear q0 q1 f0 f1
            refine bodyPost_ret (res_cell_tmp rfl _ _ _ rfl (by go_simp; rfl)) rfl ?_
            refine ⟨av, cv, au, cu, by rw [HNN.out, HMM.out]; rfl, ⟨HT5.out, HG5.out, hdl, hdu⟩, HB5.out, fun q hq => ?_⟩
            have h3 := HB3.out.size
            have h5 := hb.out.size
            have h9 := HSZ9.out
            have h4 := HSZ.out
            rcases hq with hq | hq
            · have := HLO.out q hq; exact ⟨by omega, .inr (by omega)⟩
            · have := HLU.out q hq; exact ⟨by omega, .inr (by omega)⟩
end Go.Proofs.Ytajfjgekcjkedaa
end
section
/- Plain: a list that rises by a key, copied with one more put in where it belongs. -/
namespace Go.Proofs.Ytajfjgekcjkedaa
open Go.RowKit
open Go.Lib (hid)
set_option linter.unusedVariables false

section
variable {α : Type} (key : α → Int)
def insP (l : List α) (x : α) (j : Nat) : List α := if posK key l (key x) < j then l.take (posK key l (key x)) ++ x :: (l.drop (posK key l (key x))).take (j - posK key l (key x)) else l.take j
theorem insP_zero (l : List α) (x : α) : insP key l x 0 = [] := by unfold insP; rw [if_neg (by omega)]; rfl
theorem insP_len (l : List α) (x : α) (j : Nat) : (insP key l x j).length ≤ l.length + 1 := by
  unfold insP
  split
  · rw [List.length_append, List.length_cons, List.length_take, List.length_take, List.length_drop]
    have := posK_le key l (key x)
    omega
  · rw [List.length_take]; omega
theorem insP_here {l : List α} {x y : α} {j : Nat} (hj : l[j]? = some y) (hs : SortK key l) (h : ¬ posK key l (key x) < j) (hlt : key x < key y) : posK key l (key x) < j + 1 ∧ insP key l x (j + 1) = (insP key l x j ++ [x]) ++ [y] := by
  have hlj := (List.getElem?_eq_some_iff.1 hj).1
  have ej := (List.getElem?_eq_some_iff.1 hj).2
  have e : posK key l (key x) = j := by
    by_cases q : j < posK key l (key x)
    · have := posK_lt key hj q; omega
    · omega
  refine ⟨by omega, ?_⟩
  unfold insP
  rw [e, if_pos (by omega), if_neg (by omega), List.drop_eq_getElem_cons hlj, ej, show j + 1 - j = 1 by omega]
  simp
theorem insP_less {l : List α} {x y : α} {j : Nat} (hj : l[j]? = some y) (hs : SortK key l) (h : ¬ posK key l (key x) < j) (hlt : key y < key x) : ¬ posK key l (key x) < j + 1 ∧ insP key l x (j + 1) = insP key l x j ++ [y] := by
  have hlj := (List.getElem?_eq_some_iff.1 hj).1
  have ej := (List.getElem?_eq_some_iff.1 hj).2
  have e : ¬ posK key l (key x) < j + 1 := by
    intro q
    have := posK_ge key (t := key x) hs hj (by omega)
    omega
  refine ⟨e, ?_⟩
  unfold insP
  rw [if_neg e, if_neg h, List.take_succ_eq_append_getElem hlj, ej]
theorem insP_done {l : List α} {x y : α} {j : Nat} (hj : l[j]? = some y) (h : posK key l (key x) < j) : posK key l (key x) < j + 1 ∧ insP key l x (j + 1) = insP key l x j ++ [y] := by
  have hlj := (List.getElem?_eq_some_iff.1 hj).1
  have ej := (List.getElem?_eq_some_iff.1 hj).2
  refine ⟨by omega, ?_⟩
  unfold insP
  rw [if_pos h, if_pos (by omega), show j + 1 - posK key l (key x) = (j - posK key l (key x)) + 1 by omega, List.take_succ_eq_append_getElem (by rw [List.length_drop]; omega), List.getElem_drop]
  have e2 : l[posK key l (key x) + (j - posK key l (key x))]'(by omega) = y := by rw [← ej]; congr 1; omega
  rw [e2]
  simp
theorem insP_all {l : List α} {x : α} (h : posK key l (key x) < l.length) : insP key l x l.length = insK key l x := by
  unfold insP
  rw [if_pos h, insK_split, List.take_of_length_le (l := l.drop _) (by rw [List.length_drop]; omega)]
theorem insP_last {l : List α} {x : α} (h : ¬ posK key l (key x) < l.length) : insP key l x l.length ++ [x] = insK key l x := by
  unfold insP
  have e : posK key l (key x) = l.length := by have := posK_le key l (key x); omega
  rw [if_neg h, insK_split, e, List.take_length, List.drop_length]
end
theorem Rd.pair_at {w : World} {b off : Nat} {X : List (Int × Int)} {i : Nat} {x y : Int} (h : Rd w (some ⟨b, off, none⟩) (pv X)) (hat : X[i]? = some (x, y)) : w.cell? ⟨b, off + i * 2, none⟩ = some (.int .i64 x) ∧ w.cell? ⟨b, off + i * 2 + 1, none⟩ = some (.int .i64 y) := by
  obtain ⟨b', off', x', y', e, d0, d1, h1, -⟩ := h.pair i (List.getElem?_eq_some_iff.1 hat).1
  rw [hat] at h1
  obtain ⟨rfl, rfl⟩ := Prod.mk.inj (Option.some.inj h1)
  simp only [Option.some.injEq, Addr.mk.injEq, and_true] at e
  obtain ⟨rfl, rfl⟩ := e
  exact ⟨d0, d1⟩
theorem Rd.triple_at {w : World} {b off : Nat} {X : List G3} {i : Nat} {x y z : Int} (h : Rd w (some ⟨b, off, none⟩) (tv X)) (hat : X[i]? = some (x, y, z)) : w.cell? ⟨b, off + i * 3, none⟩ = some (.int .i64 x) ∧ w.cell? ⟨b, off + i * 3 + 1, none⟩ = some (.int .i64 y) ∧ w.cell? ⟨b, off + i * 3 + 2, none⟩ = some (.int .i64 z) := by
  obtain ⟨b', off', x', y', z', e, d0, d1, d2, h1, -⟩ := h.triple i (List.getElem?_eq_some_iff.1 hat).1
  rw [hat] at h1
  simp only [Option.some.injEq, Prod.mk.injEq] at h1
  obtain ⟨rfl, rfl, rfl⟩ := h1
  simp only [Option.some.injEq, Addr.mk.injEq, and_true] at e
  obtain ⟨rfl, rfl⟩ := e
  exact ⟨d0, d1, d2⟩
end Go.Proofs.Ytajfjgekcjkedaa
end
