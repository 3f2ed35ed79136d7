/- Joined texts, in this order: StallRestores. Each one's first remark says what it proves; no condition beyond those that its theorems name. -/
import Derived.Test.YtajfjgekcjkedaaJLawStallRestores28
section
/- Law StallRestores. -/
namespace Go.Proofs.Ytajfjgekcjkedaa
open Go.RowKit
open Go.Lib (hid)
set_option linter.unusedVariables false

set_option maxRecDepth 100000 in
set_option maxHeartbeats 8000000 in
theorem law23_Restores (L : List R3) (a : Option Addr) (c : Nat) (w : World) (h : SlE RowE23 3 w (.slice a L.length c) L) (h30 : L.length ≤ 30) :
    Calls Try.prog 4 #[.slice a L.length c] w fun e w' => e = .returned (.bool true) ∧ Below w.heap.size w w' := by
  have HL := hid h
  have i2 : ¬ (30 : Int) < (L.length : Int) := by omega
  have H30 := hid h30
  clear h h30
  go_enter Try.func4, Try.ntmps4
  go_upto_region 4 with fail
  obtain ⟨w2, hw2⟩ : ∃ w2, w2 = w.alloc (.cells #[.slice none 0 0, .slice none 0 0] 46) := ⟨_, rfl⟩
  rw [← hw2]
  obtain ⟨bX, hbX⟩ : ∃ b, b = w.heap.size := ⟨_, rfl⟩
  rw [← hbX]
  have hb2 : Below w.heap.size w w2 := by rw [hw2]; exact Below.new _ _
  have HX2 := hid (show Blk w2 bX #[.slice none 0 0, .slice none 0 0] by rw [hw2, hbX]; exact Blk.new w _ _)
  have HB2 := hid hb2
  have HRS : Hid (RefS w2 bX none 0 none 0 (rX L 0)) := hid ⟨⟨SlP.nil _, Sl3.nil _, by simp [rX], by simp [rX]⟩, HX2.out, fun k q => by simp [aB, Value.ownBlock] at q, fun k q => by simp [aB, Value.ownBlock] at q⟩
  have HGE : Hid (w.heap.size ≤ bX) := hid (by omega)
  clear hw2 hbX hb2 HX2
  go_wp2_with fail
  go_loopw [4, 5, 24] (fun v4 v5 v24 wr => RsL w bX L v4 v5 v24 wr) (fun _ _ v24 _ => L.length - (intOf v24).toNat)
  case atStart => exact ⟨0, none, none, 0, 0, rfl, rfl, rfl, by omega, HRS, hid (fun i p q _ => by omega), HB2⟩
  case round =>
    clear HRS HB2
    obtain ⟨j, at_, ag, ct, cg, hv4, hv5, rfl, hj, HRS, HG, HB⟩ := hrel
    obtain ⟨la, hla⟩ : ∃ la, lastH L j = la := ⟨_, rfl⟩
    obtain ⟨wt, hwt⟩ : ∃ wt, rOk L j = wt := ⟨_, rfl⟩
    rw [hla] at hv5
    rw [hwt] at hv4
    subst hv5 hv4
    obtain ⟨X, hX⟩ : ∃ X, rX L j = X := ⟨_, rfl⟩
    rw [hX] at HRS
    have HLA := hid hla
    have HWT := hid hwt
    have HX := hid hX
    have HSI : Hid (SInv X) := hid (by rw [← hX]; exact SInv.rows L j)
    have HLN : Hid (X.tills.length ≤ j ∧ X.goods.length ≤ 30 * j) := hid (by rw [← hX]; exact rX_len2 j HG.out)
    clear hla hwt hX
    by_cases hlt : j < L.length
    · obtain ⟨p, hp⟩ : ∃ p, L[j]? = some p := ⟨_, List.getElem?_eq_getElem hlt⟩
      have HP := hid hp
      obtain ⟨b, off, au, cu, rfl, c0w, c1w, c2w, hsl, i1, i2', i3⟩ := HL.out.row23 (Below.refl _ _) hp
      have hbs := World.block_lt_of_cell? w _ c0w
      have c0 := (World.cell?_of_block (a := ⟨b, off + j * 3, none⟩) (HB.out.block b hbs)).trans c0w
      have c1 := (World.cell?_of_block (a := ⟨b, off + j * 3 + 1, none⟩) (HB.out.block b hbs)).trans c1w
      have c2 := (World.cell?_of_block (a := ⟨b, off + j * 3 + 2, none⟩) (HB.out.block b hbs)).trans c2w
      obtain ⟨hh, till, gs⟩ := p
      simp only at c0 c1 c2 hsl i1 i2' i3
      have HSL := hid hsl
      have HI1 := hid i1
      have HI3 := hid i3
      have e0 : (0 : Int) ≤ (j : Int) := by omega
      have e1 : (j : Int) < (L.length : Int) := by omega
      clear hp hsl i1 i2' i3 c0w c1w c2w hbs
      go_upto_region 8 with fail
      obtain ⟨w5, hw5⟩ : ∃ w5, w5 = wr.alloc (.cells #[.int .i64 hh, .int .i64 till, .slice au gs.length cu] 37) := ⟨_, rfl⟩
      rw [← hw5]
      obtain ⟨x, hx⟩ : ∃ x, x = wr.heap.size := ⟨_, rfl⟩
      rw [← hx]
      have hb5 : Below wr.heap.size wr w5 := by rw [hw5]; exact Below.new _ _
      have HX5 : Hid (Blk w5 x #[.int .i64 hh, .int .i64 till, .slice au gs.length cu]) := hid (by rw [hw5, hx]; exact Blk.new _ _ _)
      have HB5 := hid (Below.next HB.out hb5)
      have HXW : Hid (bX < x) := hid (by have := HRS.out.blk.lt; omega)
      have HRS5 := hid (HRS.out.below hb5)
      clear hw5 hx hb5 c0 c1 c2
      have x0 : w5.cell? ⟨x, 0, none⟩ = some (.int .i64 hh) := by rw [HX5.out.cell]; rfl
      have x1 : w5.cell? ⟨x, 1, none⟩ = some (.int .i64 till) := by rw [HX5.out.cell]; rfl
      have x2 : w5.cell? ⟨x, 2, none⟩ = some (.slice au gs.length cu) := by rw [HX5.out.cell]; rfl
      by_cases hg30 : gs.length ≤ 30
      · have i3 : ¬ (30 : Int) < (gs.length : Int) := by omega
        have HG30 := hid hg30
        have HG2 : Hid (∀ i p, i < j + 1 → L[i]? = some p → p.2.2.length ≤ 30) := hid (fun i p hi hp => by
          by_cases hij : i < j
          · exact HG.out i p hij hp
          · have : i = j := by omega
            subst this
            rw [HP.out] at hp
            simp only [Option.some.injEq] at hp
            subst hp
            exact hg30)
        clear hg30
        have c0 : w5.cell? ⟨bX, 0, none⟩ = some (.slice at_ X.tills.length ct) := by rw [HRS5.out.blk.cell]; rfl
        have c1 : w5.cell? ⟨bX, 1, none⟩ = some (.slice ag X.goods.length cg) := by rw [HRS5.out.blk.cell]; rfl
        obtain ⟨X1, hX1⟩ : ∃ X1, (openX X hh).1 = X1 := ⟨_, rfl⟩
        obtain ⟨E, hE⟩ : ∃ E, (openX X hh).2 = E := ⟨_, rfl⟩
        have HX1 := hid hX1
        have HE := hid hE
        clear hX1 hE
        go_wp2_with fail
        have hq := ref23_Open w5 HRS5.out.rx HRS5.out.low HSI.out.t1 (by have := HLN.out; have := H30.out; omega) hh
        rw [HX1.out, HE.out] at hq
        refine hq.mono ?_
        rintro e w6 ⟨at6, ct6, ag6, cg6, rfl, hr6, hb6, hl6⟩
        obtain ⟨hs7, hu7⟩ := HRS5.out.store hr6 hb6 hl6
        have HS7 := hid hs7
        have HB6 := hid (Below.next HB5.out hb6)
        have HX6 := hid (HX5.out.below hb6)
        have HU7 := hid hu7
        have HBK := hid (HRS5.out.blk.below hb6)
        clear hq hr6 hb6 hl6 hs7 hu7 c0 c1 x0 x1 x2
        have c0 : w6.cell? ⟨bX, 0, none⟩ = some (.slice at_ X.tills.length ct) := by rw [HBK.out.cell]; rfl
        have c1 : w6.cell? ⟨bX, 1, none⟩ = some (.slice ag X.goods.length cg) := by rw [HBK.out.cell]; rfl
        have f0 : w6.frozen? ⟨bX, 0, none⟩ = false := HBK.out.unfrozen 0
        have f1 : w6.frozen? ⟨bX, 1, none⟩ = false := HBK.out.unfrozen 1
        go_upto_region 12 with fail
        generalize World.setCell (World.setCell w6 _ _) _ _ = w7 at HS7 HU7
        have HX7 := hid (HX6.out.upd HU7.out (fun q => by have := HXW.out; omega))
        have HB7 := hid (HB6.out.trans (HU7.out.below HB6.out.size (fun k _ q => by have := HGE.out; omega)))
        clear c0 c1 f0 f1 HU7 HBK
        have x0 : w7.cell? ⟨x, 0, none⟩ = some (.int .i64 hh) := by rw [HX7.out.cell]; rfl
        have x1 : w7.cell? ⟨x, 1, none⟩ = some (.int .i64 till) := by rw [HX7.out.cell]; rfl
        have x2 : w7.cell? ⟨x, 2, none⟩ = some (.slice au gs.length cu) := by rw [HX7.out.cell]; rfl
        obtain ⟨ho, hho⟩ : ∃ ho, headOk X la (hh, till, gs) = ho := ⟨_, rfl⟩
        have HHO := hid hho
        have HHV : Hid (ho = ((E == 0) && decide (la < hh) && decide (0 ≤ till) && decide (till ≤ 1099511627776))) := hid (by rw [← hho, ← HE.out]; rfl)
        clear hho
        go_cut [4] (fun c wx => c = .bool (wt && ho) ∧ w7 = wx)
        case first =>
          clear x2
          cases wt with
          | false =>
            go_wp2_with fail
            go_meet
            exact ⟨rfl, rfl⟩
          | true =>
            by_cases h1 : E = 0
            · subst h1
              by_cases h2 : la < hh
              · by_cases h3 : 0 ≤ till
                · by_cases h4 : till ≤ 1099511627776
                  · go_wp2_with fail
                    go_meet
                    exact ⟨by rw [HHV.out]; simp [h2, h3, h4], rfl⟩
                  · go_wp2_with fail
                    go_meet
                    exact ⟨by rw [HHV.out]; simp; intros; omega, rfl⟩
                · go_wp2_with fail
                  go_meet
                  exact ⟨by rw [HHV.out]; simp; intros; omega, rfl⟩
              · go_wp2_with fail
                go_meet
                exact ⟨by rw [HHV.out]; simp; intros; omega, rfl⟩
            · have hE1 : (E == 0) = false := by simpa using h1
              go_wp2_with fail
              go_meet
              exact ⟨by rw [HHV.out, hE1]; simp, rfl⟩
        case rest =>
        obtain ⟨rfl, rfl⟩ := hcut
        obtain ⟨b0, hb0⟩ : ∃ b0, (wt && ho) = b0 := ⟨_, rfl⟩
        rw [hb0]
        have HB0 := hid hb0
        clear hb0
        obtain ⟨X2, hX2⟩ : ∃ X2, setX X1 hh till = X2 := ⟨_, rfl⟩
        have HX2 := hid hX2
        have c0 : w7.cell? ⟨bX, 0, none⟩ = some (.slice at6 X1.tills.length ct6) := by rw [HS7.out.blk.cell]; rfl
        have c1 : w7.cell? ⟨bX, 1, none⟩ = some (.slice ag6 X1.goods.length cg6) := by rw [HS7.out.blk.cell]; rfl
        clear hX2
        go_wp2_with fail
        refine (ref23_SetOk w7 HS7.out.rx HS7.out.low hh till HX2.out).mono ?_
        rintro e w8 ⟨at8, ct8, ag8, cg8, rfl, hr8, hb8, hl8⟩
        obtain ⟨hs9, hu9⟩ := HS7.out.store hr8 hb8 hl8
        have HS9 := hid hs9
        have HB8 := hid (Below.next HB7.out hb8)
        have HX8 := hid (HX7.out.below hb8)
        have HU9 := hid hu9
        have HBK := hid (HS7.out.blk.below hb8)
        clear hr8 hb8 hl8 hs9 hu9 c0 c1 x0 x1 x2
        have c0 : w8.cell? ⟨bX, 0, none⟩ = some (.slice at6 X1.tills.length ct6) := by rw [HBK.out.cell]; rfl
        have c1 : w8.cell? ⟨bX, 1, none⟩ = some (.slice ag6 X1.goods.length cg6) := by rw [HBK.out.cell]; rfl
        have f0 : w8.frozen? ⟨bX, 0, none⟩ = false := HBK.out.unfrozen 0
        have f1 : w8.frozen? ⟨bX, 1, none⟩ = false := HBK.out.unfrozen 1
        go_upto_region 15 with fail
        generalize World.setCell (World.setCell w8 _ _) _ _ = w9 at HS9 HU9
        have HX9 := hid (HX8.out.upd HU9.out (fun q => by have := HXW.out; omega))
        have HB9 := hid (HB8.out.trans (HU9.out.below HB8.out.size (fun k _ q => by have := HGE.out; omega)))
        clear c0 c1 f0 f1 HU9 HBK
        have HR0 : Hid (row0 X (hh, till, gs) = X2) := hid (by unfold row0; rw [HX1.out, HX2.out])
        have HL2 : Hid (X2.tills.length ≤ 31 ∧ X2.goods.length ≤ 900) := hid (by rw [← HR0.out]; have := row0_len X (hh, till, gs); have := HLN.out; have := H30.out; omega)
        have HSI2 : Hid (SInv X2) := hid (by rw [← HR0.out]; exact HSI.out.row _)
        have x2 : w9.cell? ⟨x, 2, none⟩ = some (.slice au gs.length cu) := by rw [HX9.out.cell]; rfl
        go_wp2_with fail
        clear x2 HS7 HX7 HB7 HX6 HB6 HX5 HB5 HRS HB HRS5 HX8 HB8
        go_loopw [4, 72] (fun v4 v72 wr => RsI w bX b0 X2 hh gs x #[.int .i64 hh, .int .i64 till, .slice au gs.length cu] v4 v72 wr) (fun _ v72 _ => gs.length - (intOf v72).toNat)
        case atStart => exact ⟨0, at8, ag8, ct8, cg8, by simp [gOk], rfl, by omega, HS9, HX9, HB9⟩
        case round =>
          clear HS9 HX9 HB9
          obtain ⟨i, at_, ag, ct, cg, hv4, rfl, hi, HRS, HXX, HB⟩ := hrel
          obtain ⟨wi, hwi⟩ : ∃ wi, (b0 && gOk X2 hh gs i) = wi := ⟨_, rfl⟩
          rw [hwi] at hv4
          subst hv4
          have HWI := hid hwi
          clear hwi
          by_cases hli : i < gs.length
          · obtain ⟨aa, cc, ee, hrd, hcap, -⟩ := HSL.out.below HB.out
            simp only [Value.slice.injEq, true_and] at ee
            obtain ⟨rfl, rfl⟩ := ee
            obtain ⟨bu, ou, t, pr, rfl, d0, d1, hat, -, -⟩ := hrd.pair i hli
            have hbu : bu < w.heap.size := by
              obtain ⟨a2, c2, e2, hrd2, -⟩ := HSL.out
              simp only [Value.slice.injEq, true_and] at e2
              obtain ⟨rfl, rfl⟩ := e2
              obtain ⟨bu2, ou2, t2, pr2, q0, q1, -⟩ := hrd2.pair i hli
              simp only [Option.some.injEq, Addr.mk.injEq, and_true] at q0
              obtain ⟨rfl, rfl⟩ := q0
              exact World.block_lt_of_cell? w _ q1
            have HBU := hid hbu
            have HAT := hid hat
            obtain ⟨X3, hX3⟩ : ∃ X3, gX X2 hh gs i = X3 := ⟨_, rfl⟩
            rw [hX3] at HRS
            have HX3 := hid hX3
            have HSI3 : Hid (SInv X3) := hid (by rw [← hX3]; exact SInv.goods HSI2.out hh gs i)
            have HL3 : Hid (X3.goods.length < 100000) := hid (by rw [← hX3]; have := gX_len X2 hh gs i; have := HL2.out; have := HG30.out; omega)
            have i0 : (0 : Int) ≤ (i : Int) := by omega
            have i1 : (i : Int) < (gs.length : Int) := by omega
            have hi63 : (i : Int) ≤ 30 := by have := HG30.out; omega
            have x2 : wr.cell? ⟨x, 2, none⟩ = some (.slice (some ⟨bu, ou, none⟩) gs.length cu) := by rw [HXX.out.cell]; rfl
            have HHRD := hid hrd
            clear hrd hat hX3 hbu hcap
            go_upto_region 18 with fail
            obtain ⟨wA, hwA⟩ : ∃ wA, wA = wr.alloc (.cells #[.int .i64 t, .int .i64 pr] 51) := ⟨_, rfl⟩
            rw [← hwA]
            obtain ⟨g, hg⟩ : ∃ g, g = wr.heap.size := ⟨_, rfl⟩
            rw [← hg]
            have hbA : Below wr.heap.size wr wA := by rw [hwA]; exact Below.new _ _
            have HGA : Hid (Blk wA g #[.int .i64 t, .int .i64 pr]) := hid (by rw [hwA, hg]; exact Blk.new _ _ _)
            have HXA := hid (HXX.out.below hbA)
            have HRSA := hid (HRS.out.below hbA)
            have HBA := hid (Below.next HB.out hbA)
            have HGX : Hid (bX < g) := hid (by have := HRS.out.blk.lt; omega)
            have HRDA : Hid (Rd wA (some ⟨bu, ou, none⟩) (pv gs)) := hid (HHRD.out.below hbA (fun b off q _ => by cases q; have := HB.out.size; have := HBU.out; omega))
            clear hwA hbA hg d0 d1 x2
            have c0 : wA.cell? ⟨bX, 0, none⟩ = some (.slice at_ X3.tills.length ct) := by rw [HRSA.out.blk.cell]; rfl
            have c1 : wA.cell? ⟨bX, 1, none⟩ = some (.slice ag X3.goods.length cg) := by rw [HRSA.out.blk.cell]; rfl
            have x0 : wA.cell? ⟨x, 0, none⟩ = some (.int .i64 hh) := by rw [HXA.out.cell]; rfl
            have g0 : wA.cell? ⟨g, 0, none⟩ = some (.int .i64 t) := by rw [HGA.out.cell]; rfl
            have g1 : wA.cell? ⟨g, 1, none⟩ = some (.int .i64 pr) := by rw [HGA.out.cell]; rfl
            obtain ⟨X4, hX4⟩ : ∃ X4, putX X3 hh t pr = X4 := ⟨_, rfl⟩
            obtain ⟨E4, hE4⟩ : ∃ E4, putE X3 hh t pr = E4 := ⟨_, rfl⟩
            have HX4 := hid hX4
            have HE4 := hid hE4
            clear hX4 hE4
            go_wp2_with fail
            have hq := ref23_Put wA HRSA.out.rx HRSA.out.low HSI3.out.g1 HL3.out hh t pr
            rw [HX4.out, HE4.out] at hq
            refine hq.mono ?_
            rintro e wB ⟨atB, ctB, agB, cgB, rfl, hrB, hbB, hlB⟩
            obtain ⟨hsC, huC⟩ := HRSA.out.store hrB hbB hlB
            have HSC := hid hsC
            have HBB := hid (Below.next HBA.out hbB)
            have HXB := hid (HXA.out.below hbB)
            have HGB := hid (HGA.out.below hbB)
            have HUC := hid huC
            have HBK := hid (HRSA.out.blk.below hbB)
            have HRDB : Hid (Rd wB (some ⟨bu, ou, none⟩) (pv gs)) := hid (HRDA.out.below hbB (fun b off q _ => by cases q; have := HBA.out.size; have := HBU.out; omega))
            clear hq hrB hbB hlB hsC huC c0 c1 x0 g0 g1
            have c0 : wB.cell? ⟨bX, 0, none⟩ = some (.slice at_ X3.tills.length ct) := by rw [HBK.out.cell]; rfl
            have c1 : wB.cell? ⟨bX, 1, none⟩ = some (.slice ag X3.goods.length cg) := by rw [HBK.out.cell]; rfl
            have f0 : wB.frozen? ⟨bX, 0, none⟩ = false := HBK.out.unfrozen 0
            have f1 : wB.frozen? ⟨bX, 1, none⟩ = false := HBK.out.unfrozen 1
            go_upto_region 19 with fail
            generalize World.setCell (World.setCell wB _ _) _ _ = wC at HSC HUC
            have HXC := hid (HXB.out.upd HUC.out (fun q => by have := HXW.out; omega))
            have HGC := hid (HGB.out.upd HUC.out (fun q => by have := HGX.out; omega))
            have HBC := hid (HBB.out.trans (HUC.out.below HBB.out.size (fun k _ q => by have := HGE.out; omega)))
            have HRDC : Hid (Rd wC (some ⟨bu, ou, none⟩) (pv gs)) := hid (HRDB.out.congr fun b off q hlt => HUC.out.block b hlt (fun q2 => by cases q; have := HBU.out; have := HGE.out; omega))
            clear c0 c1 f0 f1 HUC HBK
            have x2 : wC.cell? ⟨x, 2, none⟩ = some (.slice (some ⟨bu, ou, none⟩) gs.length cu) := by rw [HXC.out.cell]; rfl
            have g0 : wC.cell? ⟨g, 0, none⟩ = some (.int .i64 t) := by rw [HGC.out.cell]; rfl
            obtain ⟨ok, hok⟩ : ∃ ok, ((E4 == 0) && (i == 0 || decide (prevT gs i < t))) = ok := ⟨_, rfl⟩
            have HOK := hid hok
            clear hok
            have hgo : ∀ wx, Below wC.heap.size wC wx → RefS wx bX atB ctB agB cgB (gX X2 hh gs (i + 1)) ∧ Blk wx x #[.int .i64 hh, .int .i64 till, .slice (some ⟨bu, ou, none⟩) gs.length cu] ∧ Below w.heap.size w wx := fun wx hb =>
              ⟨by rw [gX_step HAT.out, HX3.out]; show RefS wx bX atB ctB agB cgB (putX X3 hh t pr); rw [HX4.out]; exact HSC.out.below hb, HXC.out.below hb, Below.next HBC.out hb⟩
            have HGO := hid hgo
            have HOK5 : Hid ((wi && ok) = (b0 && gOk X2 hh gs (i + 1))) := hid (by
              rw [gOk_step HAT.out, HX3.out, ← HWI.out, ← HOK.out, ← HE4.out]
              simp only [Bool.and_assoc])
            clear hgo
            cases wi with
            | false =>
              have HOV : Hid ((false : Bool) = (b0 && gOk X2 hh gs (i + 1))) := hid (by
                rw [← HOK5.out, ← HOK.out]; rfl)
              go_quiet (fail)
              have hbD := Below.drawn wC nq
              obtain ⟨wD, hwD⟩ : ∃ wD, wD = wC.drewN nq := ⟨_, rfl⟩
              rw [← hwD] at hbD ⊢
              have HD := hid (HGO.out wD hbD)
              clear hbD hwD x2 g0
              go_wp2_with fail
              go_roundw
              case rel => exact ⟨i + 1, atB, agB, ctB, cgB, by rw [← HOV.out], by go_num, by omega, hid HD.out.1, hid HD.out.2.1, hid HD.out.2.2⟩
              case measure => simp [intOf]; omega
            | true =>
              by_cases h1 : E4 = 0
              · subst h1
                by_cases hz : i = 0
                · have HZ := hid hz
                  have z1 : ((i : Int) == 0) = true := by simpa using hz
                  have z0 : (i == 0) = true := by simpa using hz
                  clear hz
                  have HOV : Hid ((true : Bool) = (b0 && gOk X2 hh gs (i + 1))) := hid (by
                    rw [← HOK5.out, ← HOK.out]; rw [z0]; rfl)
                  go_quiet (fail)
                  have hbD := Below.drawn wC nq
                  obtain ⟨wD, hwD⟩ : ∃ wD, wD = wC.drewN nq := ⟨_, rfl⟩
                  rw [← hwD] at hbD ⊢
                  have HD := hid (HGO.out wD hbD)
                  clear hbD hwD x2 g0
                  go_wp2_with fail
                  go_roundw
                  case rel => exact ⟨i + 1, atB, agB, ctB, cgB, by rw [← HOV.out], by go_num, by omega, hid HD.out.1, hid HD.out.2.1, hid HD.out.2.2⟩
                  case measure => simp [intOf]; omega
                · obtain ⟨m, hm⟩ : ∃ m, i = m + 1 := ⟨i - 1, by omega⟩
                  have z1 : ((i : Int) == 0) = false := by simp; omega
                  have z0 : (i == 0) = false := by simpa using hz
                  have z2 : IntKind.i64.wrap ((i : Int) - 1) = (m : Int) := by rw [IntKind.wrap_i64]; omega
                  have z3 : (0 : Int) ≤ (m : Int) := by omega
                  have z4 : (m : Int) < (gs.length : Int) := by omega
                  obtain ⟨b3, o3, t3, p3, e3, d3, -, hat3, -, -⟩ := HRDC.out.pair m (by omega)
                  simp only [Option.some.injEq, Addr.mk.injEq, and_true] at e3
                  obtain ⟨rfl, rfl⟩ := e3
                  have HPV : Hid (prevT gs i = t3) := hid (by unfold prevT; rw [hm, Nat.add_sub_cancel, hat3]; rfl)
                  have HZ := hid z0
                  clear hm hat3 hz
                  by_cases hlt3 : t3 < t
                  · have z5 : decide (t3 < t) = true := by simpa using hlt3
                    have HPL := hid hlt3
                    have HOV : Hid ((true : Bool) = (b0 && gOk X2 hh gs (i + 1))) := hid (by
                      rw [← HOK5.out, ← HOK.out]; rw [HPV.out, z5, z0]; rfl)
                    go_quiet (fail)
                    have hbD := Below.drawn wC nq
                    obtain ⟨wD, hwD⟩ : ∃ wD, wD = wC.drewN nq := ⟨_, rfl⟩
                    rw [← hwD] at hbD ⊢
                    have HD := hid (HGO.out wD hbD)
                    clear hbD hwD x2 g0
                    go_wp2_with fail
                    go_roundw
                    case rel => exact ⟨i + 1, atB, agB, ctB, cgB, by rw [← HOV.out], by go_num, by omega, hid HD.out.1, hid HD.out.2.1, hid HD.out.2.2⟩
                    case measure => simp [intOf]; omega
                  · have z5 : decide (t3 < t) = false := by simpa using hlt3
                    have HPL := hid hlt3
                    have HOV : Hid ((false : Bool) = (b0 && gOk X2 hh gs (i + 1))) := hid (by
                      rw [← HOK5.out, ← HOK.out]; rw [HPV.out, z5, z0]; rfl)
                    go_quiet (fail)
                    have hbD := Below.drawn wC nq
                    obtain ⟨wD, hwD⟩ : ∃ wD, wD = wC.drewN nq := ⟨_, rfl⟩
                    rw [← hwD] at hbD ⊢
                    have HD := hid (HGO.out wD hbD)
                    clear hbD hwD x2 g0
                    go_wp2_with fail
                    go_roundw
                    case rel => exact ⟨i + 1, atB, agB, ctB, cgB, by rw [← HOV.out], by go_num, by omega, hid HD.out.1, hid HD.out.2.1, hid HD.out.2.2⟩
                    case measure => simp [intOf]; omega
              · have hE1 : (E4 == 0) = false := by simpa using h1
                have HE1 := hid hE1
                have HOV : Hid ((false : Bool) = (b0 && gOk X2 hh gs (i + 1))) := hid (by
                  rw [← HOK5.out, ← HOK.out]; rw [HE1.out]; rfl)
                go_quiet (fail)
                have hbD := Below.drawn wC nq
                obtain ⟨wD, hwD⟩ : ∃ wD, wD = wC.drewN nq := ⟨_, rfl⟩
                rw [← hwD] at hbD ⊢
                have HD := hid (HGO.out wD hbD)
                clear hbD hwD x2 g0
                go_wp2_with fail
                go_roundw
                case rel => exact ⟨i + 1, atB, agB, ctB, cgB, by rw [← HOV.out], by go_num, by omega, hid HD.out.1, hid HD.out.2.1, hid HD.out.2.2⟩
                case measure => simp [intOf]; omega
          · have hil : i = gs.length := by omega
            have i1 : ¬ (i : Int) < (gs.length : Int) := by omega
            have HRS2 : Hid (RefS wr bX at_ ct ag cg (rX L (j + 1))) := hid (by
              rw [rX_step HP.out, HX.out]
              show RefS wr bX at_ ct ag cg (gX (row0 X (hh, till, gs)) hh gs gs.length)
              rw [HR0.out, ← hil]
              exact HRS.out)
            have HO2 : Hid (wi = rOk L (j + 1)) := hid (by
              rw [rOk_step HP.out, HX.out, HLA.out, HWT.out, ← HWI.out, ← HB0.out, hil, ← HHO.out, ← HR0.out])
            have HL8 : Hid (hh = lastH L (j + 1)) := hid (by rw [lastH_step HP.out])
            clear hil
            go_wp2_with fail
            go_roundw
            case rel => exact ⟨j + 1, at_, ag, ct, cg, by rw [← HO2.out], by rw [← HL8.out], by go_num, by omega, HRS2, HG2, HB⟩
            case measure => simp [intOf]; omega
      · have i3 : (30 : Int) < (gs.length : Int) := by omega
        clear hg30
        go_wp2_with fail
        refine (law23_awake w5).mono ?_
        rintro e w6 ⟨rfl, hb6⟩
        have HB6 := hid (Below.next HB5.out hb6)
        clear hb6 x0 x1 x2
        go_wp2_with fail
        go_ret
        exact ⟨rfl, HB6.out⟩
    · have hj2 : j = L.length := by omega
      have HGG : Hid (∀ p ∈ L, p.2.2.length ≤ 30) := hid (fun p hp => by
        obtain ⟨i, hi⟩ := List.getElem?_of_mem hp
        exact HG.out i p (by have := (List.getElem?_eq_some_iff.1 hi).1; omega) hi)
      have HD : Hid (rOk L L.length = wt ∧ rX L L.length = X) := hid (by rw [← hj2]; exact ⟨HWT.out, HX.out⟩)
      have e1 : ¬ (j : Int) < (L.length : Int) := by omega
      have HJ := hid hj
      clear hj2
      go_wp2_with fail
      refine (stall_Restore L _ wr (HL.out.below rowKept23 HB.out) H30.out HGG.out).mono ?_
      intro e w9 hq
      cases wt with
      | false =>
        obtain rfl := hq.2.1 HD.out.1
        have HB9 := hid (Below.next HB.out hq.1)
        clear hq
        go_wp2_with fail
        refine (law23_awake w9).mono ?_
        rintro e wE ⟨rfl, hbE⟩
        have HBE := hid (Below.next HB9.out hbE)
        clear hbE
        go_wp2_with fail
        go_ret
        exact ⟨rfl, HBE.out⟩
      | true =>
        obtain ⟨s, rfl, hs⟩ := hq.2.2 HD.out.1
        rw [HD.out.2] at hs
        have HS9 := hid (hs.weaken (G := fun k => wr.heap.size ≤ k ∧ k < w9.heap.size) (fun k q q2 => ⟨q, q2⟩))
        have HB9 := hid hq.1
        have HRS9 := hid (HRS.out.below hq.1)
        have HSB : Hid (sumT X.tills ≤ 4611686018427387904) := hid (sumB hs (by have := HLN.out; have := H30.out; have := HJ.out; omega))
        have HT30 : Hid (X.tills.length ≤ 100000 ∧ X.goods.length ≤ 100000) := hid (by have := HLN.out; have := H30.out; have := HJ.out; omega)
        clear hq hs
        have c0 : w9.cell? ⟨bX, 0, none⟩ = some (.slice at_ X.tills.length ct) := by rw [HRS9.out.blk.cell]; rfl
        have c1 : w9.cell? ⟨bX, 1, none⟩ = some (.slice ag X.goods.length cg) := by rw [HRS9.out.blk.cell]; rfl
        go_wp2_with fail
        refine (law23_same w9 HS9.out HRS9.out.rx HSB.out).mono ?_
        rintro e wa ⟨rfl, hba⟩
        have HSA := hid (HS9.out.below hba)
        have HBA := hid (Below.next HB9.out hba)
        have HRSA := hid (HRS9.out.below hba)
        clear hba c0 c1
        go_wp2_with fail
        refine (stall_Rows wa HSA.out HT30.out.1).mono ?_
        rintro e wb ⟨v, R, rfl, hrw, hR, hbb⟩
        have HWR := hid hrw.wr
        have HRX := hid hR
        have hlR : R.length ≤ 100000 := by
          have := congrArg List.length hR
          rw [List.length_map, rowsX_len] at this
          have := HT30.out.1
          omega
        have HLR := hid hlR
        obtain ⟨av, cv, rfl, -⟩ := ownsRow.rd hrw.own
        have HBB := hid hbb
        clear hrw hR hbb hlR
        go_wp2_with fail
        go_loopw [142] (fun v142 wr => WrL wa wa.heap.size (.slice av R.length cv) R v142 wr) (fun v142 _ => R.length - (intOf v142).toNat)
        case atStart => exact ⟨0, rfl, by omega, HWR, HBB⟩
        case round =>
          clear HWR HBB
          obtain ⟨k, rfl, hk, HWR, HBB⟩ := hrel
          by_cases hlk : k < R.length
          · have k0 : (0 : Int) ≤ (k : Int) := by omega
            have k1 : (k : Int) < (R.length : Int) := by omega
            have hk63 : (k : Int) ≤ 100000 := by have := HLR.out; omega
            obtain ⟨q, hq⟩ : ∃ q, R[k]? = some q := ⟨_, List.getElem?_eq_getElem hlk⟩
            obtain ⟨b0, of0, c0', e0, d0, d1, d2⟩ := HWR.out.at hq
            simp only [Value.slice.injEq, true_and] at e0
            obtain ⟨rfl, rfl⟩ := e0
            have HGW := hid (HWR.out.one q (List.mem_of_getElem? hq))
            obtain ⟨qh, qg, qu, qs⟩ := q
            simp only at d0 d1 d2 HGW
            obtain ⟨au, cu2, rfl, hg1, hg2, hg3⟩ := id HGW.out
            obtain ⟨n, hn⟩ : ∃ n, n = qs.length := ⟨_, rfl⟩
            have HLQ : Hid (n ≤ 100000) := hid (by
              have h1 := congrArg (fun l => l[k]?) HRX.out
              simp only [List.getElem?_map, hq, Option.map_some] at h1
              have h2 := List.mem_of_getElem? h1.symm
              unfold rowsX at h2
              obtain ⟨p, -, hp⟩ := List.mem_map.1 h2
              have h3 : qs = ofX X.goods p.1 := by
                have := congrArg (fun z => z.2.2) hp
                exact this.symm
              rw [hn, h3]
              unfold ofX
              rw [List.length_map]
              exact Nat.le_trans (List.length_filter_le _ _) HT30.out.2)
            rw [← hn] at d2 hg1 hg3
            have HG3 := hid (show n ≤ cu2 ∧ cu2 ≤ 9223372036854775807 from ⟨hg1, hg2⟩)
            have HG4 := hid hg3
            have HIN := hid (List.mem_of_getElem? hq)
            have HNN := hid hn
            clear hq hg1 hg2 hg3 hn HGW
            go_upto_region 30 with fail
            obtain ⟨wc, hwc⟩ : ∃ wc, wc = wr.alloc (.cells #[.int .i64 qh, .int .i64 qg, .slice au n cu2] 37) := ⟨_, rfl⟩
            rw [← hwc]
            obtain ⟨y, hy⟩ : ∃ y, y = wr.heap.size := ⟨_, rfl⟩
            rw [← hy]
            have hbc : Below wr.heap.size wr wc := by rw [hwc]; exact Below.new _ _
            have HY : Hid (Blk wc y #[.int .i64 qh, .int .i64 qg, .slice au n cu2]) := hid (by rw [hwc, hy]; exact Blk.new _ _ _)
            have HWRc := hid (HWR.out.below hbc)
            have HBc := hid (Below.next HBB.out hbc)
            have HYA : Hid (wa.heap.size ≤ y ∧ b0 ≠ y ∧ (0 < n → ∃ b, au = some ⟨b, 0, none⟩ ∧ b < y)) := hid ⟨by have := HBB.out.size; omega, by have : b0 < wr.heap.size := World.block_lt_of_cell? wr _ d0; omega, fun h0 => by
              obtain ⟨b3, cur, e3, hk3, -⟩ := HG4.out h0
              exact ⟨b3, e3, by have := hk3.lt; omega⟩⟩
            clear HG4
            clear hwc hbc hy d0 d1 d2
            have y2 : wc.cell? ⟨y, 2, none⟩ = some (.slice au n cu2) := by rw [HY.out.cell]; rfl
            go_wp2_with fail
            clear y2 HWR HBB
            go_loopw [149] (fun v149 wr => WrI wa wa.heap.size (.slice (some ⟨b0, of0, none⟩) R.length cv) R n y #[.int .i64 qh, .int .i64 qg, .slice au n cu2] v149 wr) (fun v149 _ => n - (intOf v149).toNat)
            case atStart => exact ⟨0, rfl, by omega, HWRc, HY, HBc⟩
            case round =>
              clear HWRc HY HBc
              obtain ⟨i, rfl, hi, HWR, HY, HBB⟩ := hrel
              by_cases hli : i < n
              · obtain ⟨a3, c3, e3, -, -, h3⟩ := HWR.out.one _ HIN.out
                rw [← HNN.out] at e3 h3
                simp only [Value.slice.injEq, true_and] at e3
                obtain ⟨rfl, rfl⟩ := e3
                obtain ⟨b3, cur, rfl, hk3, hn3, hB3, hv3⟩ := h3 (by omega)
                obtain ⟨b4, e4, hb4⟩ := HYA.out.2.2 (by omega)
                simp only [Option.some.injEq, Addr.mk.injEq, and_true] at e4
                subst e4
                have HV3 := hid (show b3 < y ∧ wa.heap.size ≤ b3 from ⟨hb4, hB3⟩)
                have HNV := hid hv3
                have i0 : (0 : Int) ≤ (i : Int) := by omega
                have i1 : (i : Int) < (n : Int) := by omega
                have hi63 : (i : Int) ≤ 100000 := by have := HLQ.out; omega
                have hix : i * 2 + 1 < cur.size := by omega
                have d1 : wr.cell? ⟨b3, i * 2 + 1, none⟩ = some cur[i * 2 + 1] := by rw [hk3.cell]; exact Array.getElem?_eq_getElem hix
                have f1 : wr.frozen? ⟨b3, i * 2 + 1, none⟩ = false := hk3.unfrozen _
                have y2 : wr.cell? ⟨y, 2, none⟩ = some (.slice (some ⟨b3, 0, none⟩) n cu2) := by rw [HY.out.cell]; rfl
                generalize cur[i * 2 + 1] = old at d1
                clear hk3 h3 hn3 hB3 hv3 hb4 hix
                go_upto_region 34 with fail
                have HS := hid (HWR.out.set b3 (i * 2 + 1) (.int .i64 9) HNV.out)
                have HY2 := hid (HY.out.upd (Upd.setCell wr b3 (i * 2 + 1) (.int .i64 9)) (fun q => by have := HV3.out; omega))
                have HB2 := hid (HBB.out.trans ((Upd.setCell wr b3 (i * 2 + 1) (.int .i64 9)).below HBB.out.size (fun k _ q => by have := HV3.out; omega)))
                generalize World.setCell wr _ _ = wd at HS HY2 HB2
                clear d1 f1 y2
                go_wp2_with fail
                go_roundw
                case rel => exact ⟨i + 1, by go_num, by omega, HS, HY2, HB2⟩
                case measure => simp [intOf]; omega
              · have i1 : ¬ (i : Int) < (n : Int) := by omega
                have y0 : wr.cell? ⟨y, 0, none⟩ = some (.int .i64 qh) := by rw [HY.out.cell]; rfl
                have HSG := hid (HSA.out.below HBB.out)
                go_wp2_with fail
                refine (stall_Goods wr HSG.out qh).mono ?_
                rintro e wg ⟨vg, rfl, hog, hbg⟩
                obtain ⟨ag2, cg2, rfl, -⟩ := ownsRow.rd hog
                obtain ⟨N, hN⟩ : ∃ N, N = (goodsV X qh).length := ⟨_, rfl⟩
                have HSP := hid (SlP.of_own hog)
                have HNG := hid hN
                have HN5 : Hid (N ≤ 100000) := hid (by
                  rw [hN]
                  unfold goodsV
                  split
                  · unfold ofX; rw [List.length_map]; exact Nat.le_trans (List.length_filter_le _ _) HT30.out.2
                  · simp)
                rw [← hN]
                have HWRg := hid (HWR.out.below hbg)
                have HBg := hid (Below.next HBB.out hbg)
                clear hog hbg hN y0 HSG
                go_wp2_with fail
                go_loopw [163] (fun v163 wr => ∃ i : Nat, v163 = .int .i64 (i : Int) ∧ i ≤ N ∧ Hid (Below wg.heap.size wg wr)) (fun v163 _ => N - (intOf v163).toNat)
                case atStart => exact ⟨0, rfl, by omega, hid (Below.refl _ _)⟩
                case round =>
                  obtain ⟨m, rfl, hm, HBM⟩ := hrel
                  by_cases hlm : m < N
                  · have m0 : (0 : Int) ≤ (m : Int) := by omega
                    have m1 : (m : Int) < (N : Int) := by omega
                    have hm63 : (m : Int) ≤ 100000 := by have := HN5.out; omega
                    obtain ⟨a5, c5, e5, hrd5, -⟩ := HSP.out.below HBM.out
                    rw [← HNG.out] at e5
                    simp only [Value.slice.injEq, true_and] at e5
                    obtain ⟨rfl, rfl⟩ := e5
                    obtain ⟨b5, o5, t5, p5, rfl, q0, q1, -⟩ := hrd5.pair m (by rw [← HNG.out]; exact hlm)
                    clear hrd5
                    go_upto_region 39 with fail
                    have HBN := hid (Below.next HBM.out (Below.new wr (.cells #[.int .i64 t5, .int .i64 9] 51)))
                    generalize World.alloc wr _ = we at HBN
                    clear q0 q1
                    go_wp2_with fail
                    go_roundw
                    case rel => exact ⟨m + 1, by go_num, by omega, HBN⟩
                    case measure => simp [intOf]; omega
                  · have m1 : ¬ (m : Int) < (N : Int) := by omega
                    have HWRz := hid (HWRg.out.below HBM.out)
                    have HBz := hid (HBg.out.trans (HBM.out.mono (HBg.out.size)))
                    go_wp2_with fail
                    go_roundw
                    case rel => exact ⟨k + 1, by go_num, by omega, HWRz, HBz⟩
                    case measure => simp [intOf]; omega
          · have k1 : ¬ (k : Int) < (R.length : Int) := by omega
            have HSZ := hid (HSA.out.below HBB.out)
            have HRZ := hid (HRSA.out.below HBB.out)
            have HBZ := hid (Below.next HB.out (Below.next HBA.out HBB.out))
            have c0 : wr.cell? ⟨bX, 0, none⟩ = some (.slice at_ X.tills.length ct) := by rw [HRZ.out.blk.cell]; rfl
            have c1 : wr.cell? ⟨bX, 1, none⟩ = some (.slice ag X.goods.length cg) := by rw [HRZ.out.blk.cell]; rfl
            go_wp2_with fail
            refine (law23_same wr HSZ.out HRZ.out.rx HSB.out).mono ?_
            rintro e wz ⟨rfl, hbz⟩
            have HBY := hid (Below.next HBZ.out hbz)
            clear hbz c0 c1
            go_wp2_with fail
            refine (law23_awake wz).mono ?_
            rintro e wE ⟨rfl, hbE⟩
            have HBE := hid (Below.next HBY.out hbE)
            clear hbE
            go_wp2_with fail
            go_ret
            exact ⟨rfl, HBE.out⟩
set_option maxRecDepth 100000 in
set_option maxHeartbeats 1000000 in
theorem law23_RestoresFar (L : List R3) (a : Option Addr) (c : Nat) (w : World) (h63 : L.length ≤ 9223372036854775807) (h : 30 < L.length) :
    Calls Try.prog 4 #[.slice a L.length c] w fun e w' => e = .returned (.bool true) ∧ Below w.heap.size w w' := by
  have i2 : (30 : Int) < (L.length : Int) := by omega
  clear h
  go_enter Try.func4, Try.ntmps4
  go_wp2_with fail
  refine (law23_awake w).mono ?_
  rintro e w7 ⟨rfl, hb7⟩
  have HB7 := hid hb7
  clear hb7
  go_wp2_with fail
  go_ret
  exact ⟨rfl, HB7.out⟩
set_option maxRecDepth 100000 in
theorem StallRestores_walk {H : Type} {enc : TypeId × Value → H} {b0 : Nat} {d0 : DataW H} {p0 : List MemPlace} (v0 : Value) (w : World) (ok0 : Value.okWide Try.prog w .any b0 42 v0) (k0 : DataW.Trod enc Try.prog w 0 (fun _ => true) true 42 v0 d0 p0) :
    Calls Try.prog 4 #[v0] w fun e w' => e = .returned (.bool true) ∧ Below w.heap.size w w' := by
  obtain ⟨L, hL⟩ := open_rows23 ok0 k0
  clear ok0 k0
  have HL := hid hL
  obtain ⟨a, c, rfl, hlc, hcm, -⟩ := hL
  by_cases h : L.length ≤ 30
  · exact law23_Restores L a c w HL.out h
  · exact law23_RestoresFar L a c w (by omega) (by omega)
end Go.Proofs.Ytajfjgekcjkedaa
end
