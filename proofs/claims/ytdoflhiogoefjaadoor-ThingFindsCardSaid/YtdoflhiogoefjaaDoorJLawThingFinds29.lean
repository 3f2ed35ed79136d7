/- Joined texts, in this order: ThingFinds. Each one's first remark says what it proves; no condition beyond those that its theorems name. -/
import Derived.Test.YtdoflhiogoefjaaDoorJLawThingFinds27
import Derived.Test.YtdoflhiogoefjaaDoorJLawThingFinds28
section
/- Law ThingFinds. -/
namespace Go.Proofs.YtdoflhiogoefjaaDoor
open Go.RowKit
open Go.Lib (hid)
set_option linter.unusedVariables false

def FnR (w : World) (L : List Th) (n : Int) (N : Nat) (v9 v10 v47 : Value) (wr : World) : Prop :=
  ∃ k : Nat, v47 = .int .i64 (k : Int) ∧ k ≤ N ∧ Hid (wr.ownsRow w.heap.size 45 6 v9 ((L.take k).filter (pOf n)).length (svT ((L.take k).filter (pOf n)))) ∧ Hid (wr.ownsRow w.heap.size 45 6 v10 ((L.take k).filter (pOwned n)).length (svT ((L.take k).filter (pOwned n)))) ∧ Hid (∀ k, v9.ownBlock = some k → v10.ownBlock ≠ some k) ∧ Hid (Below w.heap.size w wr)
set_option maxRecDepth 100000 in
set_option maxHeartbeats 8000000 in
theorem law21_Finds (L : List OpT) (n : Int) (a : Option Addr) (c : Nat) (w : World) (hl : SlE OpTE 7 w (.slice a L.length c) L) :
    Calls Tryd.prog 5 #[.slice a L.length c, .int .i64 n] w fun e w' => e = .returned (.bool true) ∧ Below w.heap.size w w' := by
  have HL := hid hl
  clear hl
  go_enter Tryd.func5, Tryd.ntmps5
  go_wp2_with fail
  refine (thing_New w).mono ?_
  rintro e w1 ⟨s, rfl, h1, hb1⟩
  have H1 := hid h1
  have HB1 := hid hb1
  obtain ⟨bb, hbb⟩ : ∃ bb, smallT L 80 = bb := ⟨_, rfl⟩
  have HBB := hid hbb
  clear h1 hb1 hbb
  go_wp2_with fail
  refine (law21_small L 80 (by omega) _ w1 (HL.out.below opTKept HB1.out) bb HBB).mono ?_
  rintro e w2 ⟨rfl, hb2⟩
  have H2 := hid (H1.out.below hb2)
  have HB2 := hid (Below.next HB1.out hb2)
  have HS12 := hid hb2.size
  clear hb2
  cases bb with
  | false =>
    go_wp2_with fail
    refine (law21_awake w2).mono ?_
    rintro e w3 ⟨rfl, hb3⟩
    have HB3 := hid (Below.next HB2.out hb3)
    clear hb3
    go_wp2_with fail
    go_ret
    exact ⟨rfl, HB3.out⟩
  | true =>
  have HSM : Hid (L.all okT = true ∧ L.length ≤ 80) := hid (by have := HBB.out; unfold smallT at this; simpa using this)
  have h80 : L.length ≤ 80 := HSM.out.2
  go_upto_region 5 with fail
  obtain ⟨w3, hw3⟩ : ∃ w3, w3 = w2.alloc (.cells #[.slice none 0 0, .int .i64 1] 34) := ⟨_, rfl⟩
  rw [← hw3]
  obtain ⟨bX, hbX⟩ : ∃ b, b = w2.heap.size := ⟨_, rfl⟩
  rw [← hbX]
  have hb3 : Below w2.heap.size w2 w3 := by rw [hw3]; exact Below.new _ _
  have HX3 := hid (show Blk w3 bX #[.slice none 0 0, .int .i64 1] by rw [hw3, hbX]; exact Blk.new w2 _ _)
  have HB3 := hid (Below.next HB2.out hb3)
  have HBO : Hid (BothT w3 s (fun k => w.heap.size ≤ k ∧ k < w2.heap.size) none 0 ⟨[], 1⟩) := hid ⟨(H2.out.weaken (fun k q q2 => ⟨q, q2⟩)).below hb3, ⟨SlTh.nil _, by simp⟩, fun k q => by have := hb3.size; omega, fun k q => by simp [aB, Value.ownBlock] at q, fun k q => by simp [aB, Value.ownBlock] at q⟩
  have HN : Hid (¬ (w.heap.size ≤ bX ∧ bX < w2.heap.size) ∧ (∀ k, aB none k → k ≠ bX) ∧ (0 : Nat) ≤ 0 ∧ (1 : Int) ≤ ((0 : Nat) : Int) + 1 ∧ (∀ k, (w.heap.size ≤ k ∧ k < w2.heap.size) → w.heap.size ≤ k)) := hid ⟨by omega, fun k q => by simp [aB, Value.ownBlock] at q, Nat.le_refl _, by omega, fun k q => q.1⟩
  have HGE : Hid (w.heap.size ≤ bX) := hid (by rw [hbX]; exact HB2.out.size)
  clear hw3 hbX hb3
  go_wp2_with fail
  go_loopw [32] (fun v32 wr => PlaysT w s bX L.length v32 wr) (fun v32 _ => L.length - (intOf v32).toNat)
  case atStart => exact ⟨0, ⟨[], 1⟩, _, none, 0, rfl, by omega, HBO, HX3, HN, HB3⟩
  case round =>
    clear H1 HB1 HX3 HBO HN HB3 H2 HB2 HS12
    obtain ⟨j, X, F, a4, c4, rfl, hj, HBO, HBX, HN, HB⟩ := hrel
    by_cases hlt : j < L.length
    · have j1 : (j : Int) < (L.length : Int) := by omega
      have j0 : (0 : Int) ≤ (j : Int) := by omega
      obtain ⟨o, hp⟩ : ∃ o, L[j]? = some o := ⟨_, List.getElem?_eq_getElem hlt⟩
      have HMEM := hid (List.all_eq_true.1 HSM.out.1 o (List.mem_of_getElem? hp))
      obtain ⟨bo, off, rfl, q0, q1, q2, q3, q4, q5, q6, ho63⟩ := HL.out.opT HB.out hp
      obtain ⟨ok, on, oo, os, ok1, oh1, os1⟩ := o
      simp only at q0 q1 q2 q3 q4 q5 q6 ho63
      obtain ⟨X', hX'⟩ : ∃ X', stepTX X ⟨ok, on, oo, os, (ok1, oh1, os1)⟩ = X' := ⟨_, rfl⟩
      have HXN := hid hX'
      have HLEN := hid (show X'.L.length ≤ X.L.length + 1 ∧ X'.nx ≤ X.nx + 1 by rw [← hX']; exact stepTX_len X _)
      have HO63 := hid ho63
      have HNM : Hid (os.length ≤ 60) := hid (by have := HMEM.out; unfold okT at this; simpa using this)
      clear hp hX' ho63
      go_upto_region 8 with fail
      obtain ⟨w5, hw5⟩ : ∃ w5, w5 = wr.alloc (.cells #[.int .i64 ok, .int .i64 on, .int .i64 oo, .string ⟨os.toArray⟩, .int .i64 ok1, .int .i64 oh1, .int .i64 os1] 36) := ⟨_, rfl⟩
      rw [← hw5]
      have hb5 : Below wr.heap.size wr w5 := by rw [hw5]; exact Below.new _ _
      obtain ⟨bb, hbb⟩ : ∃ bb, bb = wr.heap.size := ⟨_, rfl⟩
      rw [← hbb]
      have HO5 : Hid (Blk w5 bb #[.int .i64 ok, .int .i64 on, .int .i64 oo, .string ⟨os.toArray⟩, .int .i64 ok1, .int .i64 oh1, .int .i64 os1]) := hid (by rw [hw5, hbb]; exact Blk.new _ _ _)
      have HX5 := hid (HBX.out.below hb5)
      have HBO5 : Hid (BothT w5 s F a4 c4 X) := hid (HBO.out.below hb5)
      have HB5 := hid (Below.next HB.out hb5)
      have HZ : Hid (¬ F bb ∧ bX ≠ bb ∧ wr.heap.size = bb) := hid ⟨fun q => by have := HBO.out.fl _ q; omega, by have := HBX.out.lt; omega, hbb.symm⟩
      clear hw5 hb5 hbb q0 q1 q2 q3 q4 q5 q6
      have x0 : w5.cell? ⟨bX, 0, none⟩ = some (.slice a4 X.L.length c4) := by rw [HX5.out.cell]; rfl
      have x1 : w5.cell? ⟨bX, 1, none⟩ = some (.int .i64 X.nx) := by rw [HX5.out.cell]; rfl
      have cx0 : w5.cell? ⟨bb, 0, none⟩ = some (.int .i64 ok) := by rw [HO5.out.cell]; rfl
      have cx1 : w5.cell? ⟨bb, 1, none⟩ = some (.int .i64 on) := by rw [HO5.out.cell]; rfl
      have cx2 : w5.cell? ⟨bb, 2, none⟩ = some (.int .i64 oo) := by rw [HO5.out.cell]; rfl
      have cx3 : w5.cell? ⟨bb, 3, none⟩ = some (.string ⟨os.toArray⟩) := by rw [HO5.out.cell]; rfl
      have cx4 : w5.cell? ⟨bb, 4, none⟩ = some (.int .i64 ok1) := by rw [HO5.out.cell]; rfl
      have cx5 : w5.cell? ⟨bb, 5, none⟩ = some (.int .i64 oh1) := by rw [HO5.out.cell]; rfl
      have cx6 : w5.cell? ⟨bb, 6, none⟩ = some (.int .i64 os1) := by rw [HO5.out.cell]; rfl
      go_wp2_with fail
      refine (law21_step w5 HBO5.out (by have := HN.out.2.2.1; have := HSM.out.2; omega) (by have := HN.out.2.2.2.1; have := HSM.out.2; omega) ⟨ok, on, oo, os, (ok1, oh1, os1)⟩ (by have := HNM.out; show os.length ≤ _; omega) HO63.out HXN.out).mono ?_
      rintro e w6 ⟨F', a', c', rfl, hbo6, hu6, hF6, hr6⟩
      have HBO6 := hid hbo6
      have HX6 := hid (HX5.out.upd hu6 HN.out.1)
      have HO6 := hid (HO5.out.upd hu6 HZ.out.1)
      have HR6 := hid hr6
      have HF6 := hid hF6
      have HZ6 := hid hu6.size
      have HB6 := hid (HB5.out.trans (hu6.below HB5.out.size (fun k _ q => HN.out.2.2.2.2 k q)))
      clear hbo6 hu6 hF6 hr6 x0 x1 cx0 cx1 cx2 cx3 cx4 cx5 cx6
      have x0 : w6.cell? ⟨bX, 0, none⟩ = some (.slice a4 X.L.length c4) := by rw [HX6.out.cell]; rfl
      have x1 : w6.cell? ⟨bX, 1, none⟩ = some (.int .i64 X.nx) := by rw [HX6.out.cell]; rfl
      have f0 : w6.frozen? ⟨bX, 0, none⟩ = false := HX6.out.unfrozen 0
      have f1 : w6.frozen? ⟨bX, 1, none⟩ = false := HX6.out.unfrozen 1
      go_upto_region 9 with fail
      have HX7 : Hid (Blk ((w6.setCell ⟨bX, 0, none⟩ (.slice a' X'.L.length c')).setCell ⟨bX, 1, none⟩ (.int .i64 X'.nx)) bX #[.slice a' X'.L.length c', .int .i64 X'.nx]) := hid (by simpa using (HX6.out.set 0 (.slice a' X'.L.length c')).set 1 (.int .i64 X'.nx))
      have HU7 := hid ((Upd.setCell w6 bX 0 (.slice a' X'.L.length c')).trans (Upd.setCell _ bX 1 (.int .i64 X'.nx)) (fun _ _ q => q))
      generalize World.setCell (World.setCell w6 _ _) _ _ = w7 at HX7 HU7
      have HNF : Hid (¬ F' bX ∧ (∀ k, aB a' k → k ≠ bX) ∧ (∀ k, F' k → w.heap.size ≤ k)) := hid ⟨fun q => by
        rcases HF6.out _ q with q | q
        · exact HN.out.1 q
        · have := HX5.out.lt; omega, fun k hk q => by
        rcases HR6.out k hk with q2 | q2
        · exact HN.out.2.1 k q2 q
        · have := HX5.out.lt; omega, fun k hk => by
        rcases HF6.out _ hk with q | q
        · exact HN.out.2.2.2.2 k q
        · have := HB5.out.size; omega⟩
      have HBO7 : Hid (BothT w7 s F' a' c' X') := hid ⟨HBO6.out.st.upd HU7.out (fun k q hk => by subst q; exact HNF.out.1 hk), HBO6.out.rx.upd HU7.out (fun k hk q => HNF.out.2.1 k hk q), fun k q => by have := HBO6.out.fl k q; have := HU7.out.size; omega, fun k q => by have := HBO6.out.low k q; have := HU7.out.size; omega, HBO6.out.far⟩
      have HO7 := hid (HO6.out.upd HU7.out (fun q => HZ.out.2.1 q.symm))
      have HB7 := hid (HB6.out.trans (HU7.out.below HB6.out.size (fun k _ q => by have := HGE.out; omega)))
      clear x0 x1 f0 f1
      go_wp2_with fail
      go_roundw
      case rel => exact ⟨j + 1, X', F', a', c', by go_num, by omega, HBO7, HX7, hid ⟨HNF.out.1, HNF.out.2.1, by have := HN.out.2.2.1; have := HLEN.out.1; omega, by have := HN.out.2.2.2.1; have := HLEN.out.2; omega, HNF.out.2.2⟩, HB7⟩
      case measure => simp [intOf]; omega
    · obtain ⟨wo, hwo⟩ : ∃ wo, wo = wr := ⟨_, rfl⟩
      subst hwo
      have j1 : ¬ (j : Int) < (L.length : Int) := by omega
      have HSZ : Hid (X.L.length ≤ 80 ∧ X.nx ≤ 81) := hid (by have := HN.out.2.2.1; have := HN.out.2.2.2.1; have := HSM.out.2; omega)
      obtain ⟨N, hn⟩ : ∃ N, N = X.L.length := ⟨_, rfl⟩
      have HNE := hid hn
      have hn80 : N ≤ 80 := by rw [hn]; exact HSZ.out.1
      have x0 : wo.cell? ⟨bX, 0, none⟩ = some (.slice a4 N c4) := by rw [HBX.out.cell, hn]; rfl
      clear hn
      go_wp2_with fail
      go_loopw [9, 10, 47] (fun v9 v10 v47 wq => FnR wo X.L n N v9 v10 v47 wq) (fun _ _ v47 _ => N - (intOf v47).toNat)
      case atStart => exact ⟨0, rfl, by omega, hid (by simpa [svT] using World.ownsRow_nil _ _ _ _), hid (by simpa [svT] using World.ownsRow_nil _ _ _ _), hid (fun k q => by simp [Value.ownBlock] at q), hid (Below.refl _ _)⟩
      case round =>
        obtain ⟨vA, hvA⟩ : ∃ v, v = u9 := ⟨_, rfl⟩
        subst hvA
        obtain ⟨vB, hvB⟩ : ∃ v, v = u10 := ⟨_, rfl⟩
        subst hvB
        obtain ⟨wq, hwq⟩ : ∃ wq, wq = wr := ⟨_, rfl⟩
        subst hwq
        clear x0
        obtain ⟨k, rfl, hk, HA, HBB, HDJ, HBQ⟩ := hrel
        by_cases hlk : k < N
        · have k1 : (k : Int) < (N : Int) := by omega
          have k0 : (0 : Int) ≤ (k : Int) := by omega
          have HRQ := hid (HBO.out.rx.below HBQ.out)
          obtain ⟨a5, c5, e5, hrd, -⟩ := HRQ.out.t
          simp only [Value.slice.injEq, true_and] at e5
          obtain ⟨rfl, rfl⟩ := e5
          obtain ⟨b0, off, y, rfl, d0, d1, d2, d3, d4, d5, hy, -, -⟩ := hrd.six k (by rw [← HNE.out]; exact hlk)
          have HTK : Hid (X.L.take (k + 1) = X.L.take k ++ [y]) := hid (by
            obtain ⟨h1, h2⟩ := List.getElem?_eq_some_iff.1 hy
            rw [List.take_succ_eq_append_getElem h1, h2])
          have HCA : Hid (((X.L.take k).filter (pOf n)).length ≤ 80) := hid (Nat.le_trans (List.length_filter_le _ _) (by rw [List.length_take]; omega))
          have HCB : Hid (((X.L.take k).filter (pOwned n)).length ≤ 80) := hid (Nat.le_trans (List.length_filter_le _ _) (by rw [List.length_take]; omega))
          obtain ⟨yi, yn, yo, yk, yh, ys⟩ := y
          simp only at d0 d1 d2 d3 d4 d5
          clear hrd hy
          go_upto_region 14 with fail
          obtain ⟨w5, hw5⟩ : ∃ w5, w5 = wq.alloc (.cells #[.int .i64 yi, .string ⟨yn.toArray⟩, .int .i64 yo, .int .i64 yk, .int .i64 yh, .int .i64 ys] 45) := ⟨_, rfl⟩
          rw [← hw5]
          have hb5 : Below wq.heap.size wq w5 := by rw [hw5]; exact Below.new _ _
          obtain ⟨bb, hbb⟩ : ∃ bb, bb = wq.heap.size := ⟨_, rfl⟩
          rw [← hbb]
          have HO5 : Hid (Blk w5 bb #[.int .i64 yi, .string ⟨yn.toArray⟩, .int .i64 yo, .int .i64 yk, .int .i64 yh, .int .i64 ys]) := hid (by rw [hw5, hbb]; exact Blk.new _ _ _)
          have HB5 := hid (Below.next HBQ.out hb5)
          have HA5 := hid (owns_below HA.out hb5)
          have HBB5 := hid (owns_below HBB.out hb5)
          have HZA : Hid (vA.ownBlock ≠ some bb) := hid (fun q => by have := (HA.out.lt _ q).2; omega)
          have HZB : Hid (vB.ownBlock ≠ some bb) := hid (fun q => by have := (HBB.out.lt _ q).2; omega)
          clear hw5 hb5 hbb d0 d1 d2 d3 d4 d5
          have cx0 : w5.cell? ⟨bb, 0, none⟩ = some (.int .i64 yi) := by rw [HO5.out.cell]; rfl
          have cx1 : w5.cell? ⟨bb, 1, none⟩ = some (.string ⟨yn.toArray⟩) := by rw [HO5.out.cell]; rfl
          have cx2 : w5.cell? ⟨bb, 2, none⟩ = some (.int .i64 yo) := by rw [HO5.out.cell]; rfl
          have cx3 : w5.cell? ⟨bb, 3, none⟩ = some (.int .i64 yk) := by rw [HO5.out.cell]; rfl
          have cx4 : w5.cell? ⟨bb, 4, none⟩ = some (.int .i64 yh) := by rw [HO5.out.cell]; rfl
          have cx5 : w5.cell? ⟨bb, 5, none⟩ = some (.int .i64 ys) := by rw [HO5.out.cell]; rfl
          by_cases q1 : yk = 1
          · have q1c : (yk != 1) = false := by simp [q1]
            have hpo : pOf n ⟨yi, yn, yo, (yk, yh, ys)⟩ = false := by unfold pOf; simp [q1]
            clear q1
            by_cases q3 : yo = n
            · have q3b : (yo == n) = true := by simpa using q3
              have hpw : pOwned n ⟨yi, yn, yo, (yk, yh, ys)⟩ = true := by unfold pOwned; exact q3b
              clear q3
              have HFA : Hid ((X.L.take (k + 1)).filter (pOf n) = (X.L.take k).filter (pOf n)) := hid (by rw [HTK.out, List.filter_append]; simp [hpo])
              have HFB : Hid ((X.L.take (k + 1)).filter (pOwned n) = (X.L.take k).filter (pOwned n) ++ [⟨yi, yn, yo, (yk, yh, ys)⟩]) := hid (by rw [HTK.out, List.filter_append]; simp [hpw])
              clear hpo hpw
              try clear q1b
              have hsz := HB5.out.size
              go_wp2_with (at_builtin; refine wpList_append1w T_th21 _ rfl _ _ #[.int .i64 yi, .string ⟨yn.toArray⟩, .int .i64 yo, .int .i64 yk, .int .i64 yh, .int .i64 ys] rfl wo.heap.size _ _ _ rfl HBB5.out rfl rfl ?cpb1 ?cpb2 ?cpb3 ?_)
              case cpb1 => exact ⟨rfl, rfl, rfl, rfl, rfl, rfl⟩
              case cpb2 => have := HCB.out; omega
              try (case cpb3 => omega)
              intro uB wA hown' hgrow hne hwh
              clear hsz
              have hown2 : wA.ownsRow wo.heap.size 45 6 uB ((X.L.take (k + 1)).filter (pOwned n)).length (svT ((X.L.take (k + 1)).filter (pOwned n))) := by rw [HFB.out, svT_append, List.length_append]; exact hown'
              have HBBA := hid hown2
              have HAA := hid ((Upd.of_grown hgrow).owns HA5.out (fun k hk q => HDJ.out k hk q))
              have HDA : Hid (∀ k, vA.ownBlock = some k → uB.ownBlock ≠ some k) := hid (fun k hk q => by
                rcases hwh k q with h9 | h9
                · exact HDJ.out k hk h9
                · have := (HA5.out.lt k hk).2; omega)
              have HWA : Hid (Below wo.heap.size wo wA) := hid (HB5.out.grown hgrow HB5.out.size (fun k hk => (HBB5.out.lt k hk).1))
              clear hown' hgrow hne hwh hown2 cx0 cx1 cx2 cx3 cx4 cx5
              go_wp2_with fail
              go_roundw
              case rel => exact ⟨k + 1, by go_num, by omega, hid (by rw [HFA.out]; exact HAA.out), HBBA, HDA, HWA⟩
              case measure => simp [intOf]; omega
            · have q3b : (yo == n) = false := by simpa using q3
              have hpw : pOwned n ⟨yi, yn, yo, (yk, yh, ys)⟩ = false := by unfold pOwned; exact q3b
              clear q3
              have HFA : Hid ((X.L.take (k + 1)).filter (pOf n) = (X.L.take k).filter (pOf n)) := hid (by rw [HTK.out, List.filter_append]; simp [hpo])
              have HFB : Hid ((X.L.take (k + 1)).filter (pOwned n) = (X.L.take k).filter (pOwned n)) := hid (by rw [HTK.out, List.filter_append]; simp [hpw])
              clear hpo hpw
              try clear q1b
              go_wp2_with fail
              go_roundw
              case rel => exact ⟨k + 1, by go_num, by omega, hid (by rw [HFA.out]; exact HA5.out), hid (by rw [HFB.out]; exact HBB5.out), HDJ, HB5⟩
              case measure => simp [intOf]; omega
          · have q1b : (yk == 1) = false := by simpa using q1
            have q1c : (yk != 1) = true := by simpa using q1
            clear q1
            by_cases q2 : yh = n
            · have q2b : (yh == n) = true := by simpa using q2
              have hpo : pOf n ⟨yi, yn, yo, (yk, yh, ys)⟩ = true := by unfold pOf; simp only; rw [q1b, q2b]; rfl
              clear q2
              by_cases q3 : yo = n
              · have q3b : (yo == n) = true := by simpa using q3
                have hpw : pOwned n ⟨yi, yn, yo, (yk, yh, ys)⟩ = true := by unfold pOwned; exact q3b
                clear q3
                have HFA : Hid ((X.L.take (k + 1)).filter (pOf n) = (X.L.take k).filter (pOf n) ++ [⟨yi, yn, yo, (yk, yh, ys)⟩]) := hid (by rw [HTK.out, List.filter_append]; simp [hpo])
                have HFB : Hid ((X.L.take (k + 1)).filter (pOwned n) = (X.L.take k).filter (pOwned n) ++ [⟨yi, yn, yo, (yk, yh, ys)⟩]) := hid (by rw [HTK.out, List.filter_append]; simp [hpw])
                clear hpo hpw
                try clear q1b
                have hsz := HB5.out.size
                go_wp2_with (at_builtin; refine wpList_append1w T_th21 _ rfl _ _ #[.int .i64 yi, .string ⟨yn.toArray⟩, .int .i64 yo, .int .i64 yk, .int .i64 yh, .int .i64 ys] rfl wo.heap.size _ _ _ rfl HA5.out rfl rfl ?cra1 ?cra2 ?cra3 ?_)
                case cra1 => exact ⟨rfl, rfl, rfl, rfl, rfl, rfl⟩
                case cra2 => have := HCA.out; omega
                try (case cra3 => omega)
                intro uA w9 hown' hgrow hne hwh
                clear hsz
                have hown2 : w9.ownsRow wo.heap.size 45 6 uA ((X.L.take (k + 1)).filter (pOf n)).length (svT ((X.L.take (k + 1)).filter (pOf n))) := by rw [HFA.out, svT_append, List.length_append]; exact hown'
                have HA9 := hid hown2
                have HBB9 := hid ((Upd.of_grown hgrow).owns HBB5.out (fun k hk q => HDJ.out k q hk))
                have HD9 : Hid (∀ k, uA.ownBlock = some k → vB.ownBlock ≠ some k) := hid (fun k hk q => by
                  rcases hwh k hk with h9 | h9
                  · exact HDJ.out k h9 q
                  · have := (HBB5.out.lt k q).2; omega)
                have HW9 : Hid (Below wo.heap.size wo w9) := hid (HB5.out.grown hgrow HB5.out.size (fun k hk => (HA5.out.lt k hk).1))
                have HO9 := hid (HO5.out.upd (Upd.of_grown hgrow) HZA.out)
                clear hown' hgrow hne hwh hown2
                clear cx0 cx1 cx2 cx3 cx4 cx5
                have cx0 : w9.cell? ⟨bb, 0, none⟩ = some (.int .i64 yi) := by rw [HO9.out.cell]; rfl
                have cx1 : w9.cell? ⟨bb, 1, none⟩ = some (.string ⟨yn.toArray⟩) := by rw [HO9.out.cell]; rfl
                have cx2 : w9.cell? ⟨bb, 2, none⟩ = some (.int .i64 yo) := by rw [HO9.out.cell]; rfl
                have cx3 : w9.cell? ⟨bb, 3, none⟩ = some (.int .i64 yk) := by rw [HO9.out.cell]; rfl
                have cx4 : w9.cell? ⟨bb, 4, none⟩ = some (.int .i64 yh) := by rw [HO9.out.cell]; rfl
                have cx5 : w9.cell? ⟨bb, 5, none⟩ = some (.int .i64 ys) := by rw [HO9.out.cell]; rfl
                have hsz := HW9.out.size
                go_wp2_with (at_builtin; refine wpList_append1w T_th21 _ rfl _ _ #[.int .i64 yi, .string ⟨yn.toArray⟩, .int .i64 yo, .int .i64 yk, .int .i64 yh, .int .i64 ys] rfl wo.heap.size _ _ _ rfl HBB9.out rfl rfl ?crb1 ?crb2 ?crb3 ?_)
                case crb1 => exact ⟨rfl, rfl, rfl, rfl, rfl, rfl⟩
                case crb2 => have := HCB.out; omega
                try (case crb3 => omega)
                intro uB wA hown' hgrow hne hwh
                clear hsz
                have hown2 : wA.ownsRow wo.heap.size 45 6 uB ((X.L.take (k + 1)).filter (pOwned n)).length (svT ((X.L.take (k + 1)).filter (pOwned n))) := by rw [HFB.out, svT_append, List.length_append]; exact hown'
                have HBBA := hid hown2
                have HAA := hid ((Upd.of_grown hgrow).owns HA9.out (fun k hk q => HD9.out k hk q))
                have HDA : Hid (∀ k, uA.ownBlock = some k → uB.ownBlock ≠ some k) := hid (fun k hk q => by
                  rcases hwh k q with h9 | h9
                  · exact HD9.out k hk h9
                  · have := (HA9.out.lt k hk).2; omega)
                have HWA : Hid (Below wo.heap.size wo wA) := hid (HW9.out.grown hgrow HW9.out.size (fun k hk => (HBB9.out.lt k hk).1))
                clear hown' hgrow hne hwh hown2 cx0 cx1 cx2 cx3 cx4 cx5
                go_wp2_with fail
                go_roundw
                case rel => exact ⟨k + 1, by go_num, by omega, HAA, HBBA, HDA, HWA⟩
                case measure => simp [intOf]; omega
              · have q3b : (yo == n) = false := by simpa using q3
                have hpw : pOwned n ⟨yi, yn, yo, (yk, yh, ys)⟩ = false := by unfold pOwned; exact q3b
                clear q3
                have HFA : Hid ((X.L.take (k + 1)).filter (pOf n) = (X.L.take k).filter (pOf n) ++ [⟨yi, yn, yo, (yk, yh, ys)⟩]) := hid (by rw [HTK.out, List.filter_append]; simp [hpo])
                have HFB : Hid ((X.L.take (k + 1)).filter (pOwned n) = (X.L.take k).filter (pOwned n)) := hid (by rw [HTK.out, List.filter_append]; simp [hpw])
                clear hpo hpw
                try clear q1b
                have hsz := HB5.out.size
                go_wp2_with (at_builtin; refine wpList_append1w T_th21 _ rfl _ _ #[.int .i64 yi, .string ⟨yn.toArray⟩, .int .i64 yo, .int .i64 yk, .int .i64 yh, .int .i64 ys] rfl wo.heap.size _ _ _ rfl HA5.out rfl rfl ?csa1 ?csa2 ?csa3 ?_)
                case csa1 => exact ⟨rfl, rfl, rfl, rfl, rfl, rfl⟩
                case csa2 => have := HCA.out; omega
                try (case csa3 => omega)
                intro uA w9 hown' hgrow hne hwh
                clear hsz
                have hown2 : w9.ownsRow wo.heap.size 45 6 uA ((X.L.take (k + 1)).filter (pOf n)).length (svT ((X.L.take (k + 1)).filter (pOf n))) := by rw [HFA.out, svT_append, List.length_append]; exact hown'
                have HA9 := hid hown2
                have HBB9 := hid ((Upd.of_grown hgrow).owns HBB5.out (fun k hk q => HDJ.out k q hk))
                have HD9 : Hid (∀ k, uA.ownBlock = some k → vB.ownBlock ≠ some k) := hid (fun k hk q => by
                  rcases hwh k hk with h9 | h9
                  · exact HDJ.out k h9 q
                  · have := (HBB5.out.lt k q).2; omega)
                have HW9 : Hid (Below wo.heap.size wo w9) := hid (HB5.out.grown hgrow HB5.out.size (fun k hk => (HA5.out.lt k hk).1))
                have HO9 := hid (HO5.out.upd (Upd.of_grown hgrow) HZA.out)
                clear hown' hgrow hne hwh hown2
                clear cx0 cx1 cx2 cx3 cx4 cx5
                have cx0 : w9.cell? ⟨bb, 0, none⟩ = some (.int .i64 yi) := by rw [HO9.out.cell]; rfl
                have cx1 : w9.cell? ⟨bb, 1, none⟩ = some (.string ⟨yn.toArray⟩) := by rw [HO9.out.cell]; rfl
                have cx2 : w9.cell? ⟨bb, 2, none⟩ = some (.int .i64 yo) := by rw [HO9.out.cell]; rfl
                have cx3 : w9.cell? ⟨bb, 3, none⟩ = some (.int .i64 yk) := by rw [HO9.out.cell]; rfl
                have cx4 : w9.cell? ⟨bb, 4, none⟩ = some (.int .i64 yh) := by rw [HO9.out.cell]; rfl
                have cx5 : w9.cell? ⟨bb, 5, none⟩ = some (.int .i64 ys) := by rw [HO9.out.cell]; rfl
                go_wp2_with fail
                go_roundw
                case rel => exact ⟨k + 1, by go_num, by omega, HA9, hid (by rw [HFB.out]; exact HBB9.out), HD9, HW9⟩
                case measure => simp [intOf]; omega
            · have q2b : (yh == n) = false := by simpa using q2
              have hpo : pOf n ⟨yi, yn, yo, (yk, yh, ys)⟩ = false := by unfold pOf; simp only; rw [q1b, q2b]; rfl
              clear q2
              by_cases q3 : yo = n
              · have q3b : (yo == n) = true := by simpa using q3
                have hpw : pOwned n ⟨yi, yn, yo, (yk, yh, ys)⟩ = true := by unfold pOwned; exact q3b
                clear q3
                have HFA : Hid ((X.L.take (k + 1)).filter (pOf n) = (X.L.take k).filter (pOf n)) := hid (by rw [HTK.out, List.filter_append]; simp [hpo])
                have HFB : Hid ((X.L.take (k + 1)).filter (pOwned n) = (X.L.take k).filter (pOwned n) ++ [⟨yi, yn, yo, (yk, yh, ys)⟩]) := hid (by rw [HTK.out, List.filter_append]; simp [hpw])
                clear hpo hpw
                try clear q1b
                have hsz := HB5.out.size
                go_wp2_with (at_builtin; refine wpList_append1w T_th21 _ rfl _ _ #[.int .i64 yi, .string ⟨yn.toArray⟩, .int .i64 yo, .int .i64 yk, .int .i64 yh, .int .i64 ys] rfl wo.heap.size _ _ _ rfl HBB5.out rfl rfl ?ctb1 ?ctb2 ?ctb3 ?_)
                case ctb1 => exact ⟨rfl, rfl, rfl, rfl, rfl, rfl⟩
                case ctb2 => have := HCB.out; omega
                try (case ctb3 => omega)
                intro uB wA hown' hgrow hne hwh
                clear hsz
                have hown2 : wA.ownsRow wo.heap.size 45 6 uB ((X.L.take (k + 1)).filter (pOwned n)).length (svT ((X.L.take (k + 1)).filter (pOwned n))) := by rw [HFB.out, svT_append, List.length_append]; exact hown'
                have HBBA := hid hown2
                have HAA := hid ((Upd.of_grown hgrow).owns HA5.out (fun k hk q => HDJ.out k hk q))
                have HDA : Hid (∀ k, vA.ownBlock = some k → uB.ownBlock ≠ some k) := hid (fun k hk q => by
                  rcases hwh k q with h9 | h9
                  · exact HDJ.out k hk h9
                  · have := (HA5.out.lt k hk).2; omega)
                have HWA : Hid (Below wo.heap.size wo wA) := hid (HB5.out.grown hgrow HB5.out.size (fun k hk => (HBB5.out.lt k hk).1))
                clear hown' hgrow hne hwh hown2 cx0 cx1 cx2 cx3 cx4 cx5
                go_wp2_with fail
                go_roundw
                case rel => exact ⟨k + 1, by go_num, by omega, hid (by rw [HFA.out]; exact HAA.out), HBBA, HDA, HWA⟩
                case measure => simp [intOf]; omega
              · have q3b : (yo == n) = false := by simpa using q3
                have hpw : pOwned n ⟨yi, yn, yo, (yk, yh, ys)⟩ = false := by unfold pOwned; exact q3b
                clear q3
                have HFA : Hid ((X.L.take (k + 1)).filter (pOf n) = (X.L.take k).filter (pOf n)) := hid (by rw [HTK.out, List.filter_append]; simp [hpo])
                have HFB : Hid ((X.L.take (k + 1)).filter (pOwned n) = (X.L.take k).filter (pOwned n)) := hid (by rw [HTK.out, List.filter_append]; simp [hpw])
                clear hpo hpw
                try clear q1b
                go_wp2_with fail
                go_roundw
                case rel => exact ⟨k + 1, by go_num, by omega, hid (by rw [HFA.out]; exact HA5.out), hid (by rw [HFB.out]; exact HBB5.out), HDJ, HB5⟩
                case measure => simp [intOf]; omega
        · have k1 : ¬ (k : Int) < (N : Int) := by omega
          have e1 : X.L.take k = X.L := List.take_of_length_le (by rw [← HNE.out]; omega)
          rw [e1] at HA HBB
          obtain ⟨av, cv, hv, -⟩ := ownsRow.rd HA.out
          subst hv
          obtain ⟨au, cu, hv, -⟩ := ownsRow.rd HBB.out
          subst hv
          have HRA : Hid (RefT wq av cv (X.L.filter (pOf n))) := hid ⟨SlTh.of_own HA.out, by have := List.length_filter_le (pOf n) X.L; have := HSZ.out.1; omega⟩
          have HRB : Hid (RefT wq au cu (X.L.filter (pOwned n))) := hid ⟨SlTh.of_own HBB.out, by have := List.length_filter_le (pOwned n) X.L; have := HSZ.out.1; omega⟩
          have HKHRA : Hid (∀ k, aB av k → k < wq.heap.size) := hid (fun k hk => (HA.out.lt k (own_aB hk)).2)
          have HKHRB : Hid (∀ k, aB au k → k < wq.heap.size) := hid (fun k hk => (HBB.out.lt k (own_aB hk)).2)
          have HBO2 := hid (HBO.out.below HBQ.out)
          have HBX2 := hid (HBX.out.below HBQ.out)
          have hget := thing_Get wq HBO2.out.st.1 n
          clear e1
          cases hf : fdT X.L n with
          | some x =>
            have HF := hid hf
            rw [show getR X.L n = .tuple #[thV x, .int .i64 0] by unfold getR; rw [hf]] at hget
            obtain ⟨xi, xn, xo, xk, xh, xs⟩ := x
            simp only [thV, strV] at hget
            clear hf
            have HGT := hid hget
            clear hget
            go_wp2_with fail
            refine HGT.out.mono ?_
            rintro e w4 ⟨rfl, hb4⟩
            have HQw4 := hid hb4
            clear hb4
            go_upto_region 20 with fail
            obtain ⟨w5, hw5⟩ : ∃ w5, w5 = w4.alloc (.cells #[.int .i64 xi, .string ⟨xn.toArray⟩, .int .i64 xo, .int .i64 xk, .int .i64 xh, .int .i64 xs] 48) := ⟨_, rfl⟩
            rw [← hw5]
            have hb5 : Below w4.heap.size w4 w5 := by rw [hw5]; exact Below.new _ _
            obtain ⟨bb, hbb⟩ : ∃ bb, bb = w4.heap.size := ⟨_, rfl⟩
            rw [← hbb]
            have HO5 : Hid (Blk w5 bb #[.int .i64 xi, .string ⟨xn.toArray⟩, .int .i64 xo, .int .i64 xk, .int .i64 xh, .int .i64 xs]) := hid (by rw [hw5, hbb]; exact Blk.new _ _ _)
            have HQw5 := hid (Below.next HQw4.out hb5)
            clear hw5 hb5 hbb
            have x0 : w5.cell? ⟨bX, 0, none⟩ = some (.slice a4 X.L.length c4) := by rw [(HBX2.out.below HQw5.out).cell]; rfl
            have x1 : w5.cell? ⟨bX, 1, none⟩ = some (.int .i64 X.nx) := by rw [(HBX2.out.below HQw5.out).cell]; rfl
            go_wp2_with fail
            refine (ref21_Find X.nx w5 (HBO2.out.rx.below HQw5.out) n).mono ?_
            rintro e w6 ⟨r, rfl, hr, hb6⟩
            have HQw6 := hid (Below.next HQw5.out hb6)
            have HO6 := hid (HO5.out.below hb6)
            clear hb6 x0 x1
            obtain ⟨i, rfl, hat⟩ : ∃ i : Nat, r = (i : Int) ∧ X.L[i]? = some ⟨xi, xn, xo, (xk, xh, xs)⟩ := by
              rcases hr with ⟨i, g, q1, q2, q3, q4⟩ | ⟨-, q⟩
              · rw [HF.out] at q4; obtain rfl := Option.some.inj q4; exact ⟨i, q1, q2⟩
              · rw [HF.out] at q; cases q
            have hil : i < X.L.length := (List.getElem?_eq_some_iff.1 hat).1
            have HRQ := hid (HBO2.out.rx.below HQw6.out)
            obtain ⟨a5, c5, e5, hrd, -⟩ := HRQ.out.t
            simp only [Value.slice.injEq, true_and] at e5
            obtain ⟨rfl, rfl⟩ := e5
            obtain ⟨b0, off, y, rfl, d0, d1, d2, d3, d4, d5, hy, -, -⟩ := hrd.six i hil
            rw [hat] at hy
            obtain rfl := Option.some.inj hy
            simp only at d0 d1 d2 d3 d4 d5
            have g0 : decide (0 ≤ i) = true := by simp
            have g1 : (0 : Int) ≤ (i : Int) := by omega
            have g2 : (i : Int) < (X.L.length : Int) := by omega
            have g3 : ¬ (i : Int) < 0 := by omega
            have hrf := law21_ref ⟨xi, xn, xo, (xk, xh, xs)⟩
            simp only [thV, strV] at hrf
            have HRF := hid hrf
            clear hr hat hil hrd hy hrf
            replace d0 := fun (y : World) (hy : Below w6.heap.size w6 y) => cellOf_below hy d0 (Nat.le_refl _)
            replace d1 := fun (y : World) (hy : Below w6.heap.size w6 y) => cellOf_below hy d1 (Nat.le_refl _)
            replace d2 := fun (y : World) (hy : Below w6.heap.size w6 y) => cellOf_below hy d2 (Nat.le_refl _)
            replace d3 := fun (y : World) (hy : Below w6.heap.size w6 y) => cellOf_below hy d3 (Nat.le_refl _)
            replace d4 := fun (y : World) (hy : Below w6.heap.size w6 y) => cellOf_below hy d4 (Nat.le_refl _)
            replace d5 := fun (y : World) (hy : Below w6.heap.size w6 y) => cellOf_below hy d5 (Nat.le_refl _)
            have z0 : ∀ y, Below w6.heap.size w6 y → y.cell? ⟨bb, 0, none⟩ = some (.int .i64 xi) := fun y hy => by rw [(HO6.out.below hy).cell]; rfl
            have z1 : ∀ y, Below w6.heap.size w6 y → y.cell? ⟨bb, 1, none⟩ = some (.string ⟨xn.toArray⟩) := fun y hy => by rw [(HO6.out.below hy).cell]; rfl
            have z2 : ∀ y, Below w6.heap.size w6 y → y.cell? ⟨bb, 2, none⟩ = some (.int .i64 xo) := fun y hy => by rw [(HO6.out.below hy).cell]; rfl
            have z3 : ∀ y, Below w6.heap.size w6 y → y.cell? ⟨bb, 3, none⟩ = some (.int .i64 xk) := fun y hy => by rw [(HO6.out.below hy).cell]; rfl
            have z4 : ∀ y, Below w6.heap.size w6 y → y.cell? ⟨bb, 4, none⟩ = some (.int .i64 xh) := fun y hy => by rw [(HO6.out.below hy).cell]; rfl
            have z5 : ∀ y, Below w6.heap.size w6 y → y.cell? ⟨bb, 5, none⟩ = some (.int .i64 xs) := fun y hy => by rw [(HO6.out.below hy).cell]; rfl
            have x0 : ∀ y, Below w6.heap.size w6 y → y.cell? ⟨bX, 0, none⟩ = some (.slice (some ⟨b0, off, none⟩) X.L.length c4) := fun y hy => by rw [((HBX2.out.below HQw6.out).below hy).cell]; rfl
            have hyd := (Below.refl w6.heap.size w6).drew
            go_upto_region 21 with fail
            refine wp_region_kept [] (fun y => Below w6.heap.size w6 y) (by kernel_rfl) (by assumption) (fun hH => ?_)
            refine wpK.take (i := 0) (v := _) (by simp only [List.getElem?_toArray, List.getElem?_cons_succ, List.getElem?_cons_zero]; rfl) (by kernel_rfl) (by kernel_rfl) (by kernel_rfl) (by kernel_rfl) (by kernel_rfl) (by exact fun _ _ _ h => h) (by first | exact Or.inl ⟨by rfl, by intro w hSw; go_simp; try with_reducible rfl⟩ | exact Or.inr ⟨by rfl, rfl⟩) hH ?_
            try simp only [Act.put, List.setIfInBounds_toArray, List.set_cons_zero, List.set_cons_succ]
            refine wpK.take (i := 1) (v := _) (by simp only [List.getElem?_toArray, List.getElem?_cons_succ, List.getElem?_cons_zero]; rfl) (by kernel_rfl) (by kernel_rfl) (by kernel_rfl) (by kernel_rfl) (by kernel_rfl) (by exact fun _ _ _ h => h) (by first | exact Or.inl ⟨by rfl, by intro w hSw; go_simp; try with_reducible rfl⟩ | exact Or.inr ⟨by rfl, rfl⟩) hH ?_
            try simp only [Act.put, List.setIfInBounds_toArray, List.set_cons_zero, List.set_cons_succ]
            refine wpK.take (i := 2) (v := _) (by simp only [List.getElem?_toArray, List.getElem?_cons_succ, List.getElem?_cons_zero]; rfl) (by kernel_rfl) (by kernel_rfl) (by kernel_rfl) (by kernel_rfl) (by kernel_rfl) (by exact fun _ _ _ h => h) (by first | exact Or.inl ⟨by rfl, by intro w hSw; go_simp; try with_reducible rfl⟩ | exact Or.inr ⟨by rfl, rfl⟩) hH ?_
            try simp only [Act.put, List.setIfInBounds_toArray, List.set_cons_zero, List.set_cons_succ]
            refine wpK.take (i := 3) (v := _) (by simp only [List.getElem?_toArray, List.getElem?_cons_succ, List.getElem?_cons_zero]; rfl) (by kernel_rfl) (by kernel_rfl) (by kernel_rfl) (by kernel_rfl) (by kernel_rfl) (by exact fun _ _ _ h => h) (by first | exact Or.inl ⟨by rfl, by intro w hSw; go_simp; try with_reducible rfl⟩ | exact Or.inr ⟨by rfl, rfl⟩) hH ?_
            try simp only [Act.put, List.setIfInBounds_toArray, List.set_cons_zero, List.set_cons_succ]
            refine wpK.take (i := 4) (v := _) (by simp only [List.getElem?_toArray, List.getElem?_cons_succ, List.getElem?_cons_zero]; rfl) (by kernel_rfl) (by kernel_rfl) (by kernel_rfl) (by kernel_rfl) (by kernel_rfl) (by exact fun _ _ _ h => h) (by first | exact Or.inl ⟨by rfl, by intro w hSw; go_simp; try with_reducible rfl⟩ | exact Or.inr ⟨by rfl, rfl⟩) hH ?_
            try simp only [Act.put, List.setIfInBounds_toArray, List.set_cons_zero, List.set_cons_succ]
            refine wpK.take (i := 5) (v := _) (by simp only [List.getElem?_toArray, List.getElem?_cons_succ, List.getElem?_cons_zero]; rfl) (by kernel_rfl) (by kernel_rfl) (by kernel_rfl) (by kernel_rfl) (by kernel_rfl) (by exact fun _ _ _ h => h) (by first | exact Or.inl ⟨by rfl, by intro w hSw; go_simp; try with_reducible rfl⟩ | exact Or.inr ⟨by rfl, rfl⟩) hH ?_
            try simp only [Act.put, List.setIfInBounds_toArray, List.set_cons_zero, List.set_cons_succ]
            refine wpK.take (i := 6) (v := _) (by simp only [List.getElem?_toArray, List.getElem?_cons_succ, List.getElem?_cons_zero]; rfl) (by kernel_rfl) (by kernel_rfl) (by kernel_rfl) (by kernel_rfl) (by kernel_rfl) (by exact fun _ _ _ h => h) (by first | exact Or.inl ⟨by rfl, by intro w hSw; go_simp; try with_reducible rfl⟩ | exact Or.inr ⟨by rfl, rfl⟩) hH ?_
            try simp only [Act.put, List.setIfInBounds_toArray, List.set_cons_zero, List.set_cons_succ]
            refine wpK.take (i := 8) (v := _) (by simp only [List.getElem?_toArray, List.getElem?_cons_succ, List.getElem?_cons_zero]; rfl) (by kernel_rfl) (by kernel_rfl) (by kernel_rfl) (by kernel_rfl) (by kernel_rfl) (by exact fun _ _ _ h => h) (by first | exact Or.inl ⟨by rfl, by intro w hSw; go_simp; try with_reducible rfl⟩ | exact Or.inr ⟨by rfl, rfl⟩) hH ?_
            try simp only [Act.put, List.setIfInBounds_toArray, List.set_cons_zero, List.set_cons_succ]
            refine wpK.take (i := 9) (v := _) (by simp only [List.getElem?_toArray, List.getElem?_cons_succ, List.getElem?_cons_zero]; rfl) (by kernel_rfl) (by kernel_rfl) (by kernel_rfl) (by kernel_rfl) (by kernel_rfl) (by exact fun _ _ _ h => h) (by first | exact Or.inl ⟨by rfl, by intro w hSw; go_simp; try with_reducible rfl⟩ | exact Or.inr ⟨by rfl, rfl⟩) hH ?_
            try simp only [Act.put, List.setIfInBounds_toArray, List.set_cons_zero, List.set_cons_succ]
            refine wpK.take (i := 10) (v := _) (by simp only [List.getElem?_toArray, List.getElem?_cons_succ, List.getElem?_cons_zero]; rfl) (by kernel_rfl) (by kernel_rfl) (by kernel_rfl) (by kernel_rfl) (by kernel_rfl) (by exact fun _ _ _ h => h) (by first | exact Or.inl ⟨by rfl, by intro w hSw; go_simp; try with_reducible rfl⟩ | exact Or.inr ⟨by rfl, rfl⟩) hH ?_
            try simp only [Act.put, List.setIfInBounds_toArray, List.set_cons_zero, List.set_cons_succ]
            refine wpK.take (i := 11) (v := _) (by simp only [List.getElem?_toArray, List.getElem?_cons_succ, List.getElem?_cons_zero]; rfl) (by kernel_rfl) (by kernel_rfl) (by kernel_rfl) (by kernel_rfl) (by kernel_rfl) (by exact fun _ _ _ h => h) (by first | exact Or.inl ⟨by rfl, by intro w hSw; go_simp; try with_reducible rfl⟩ | exact Or.inr ⟨by rfl, rfl⟩) hH ?_
            try simp only [Act.put, List.setIfInBounds_toArray, List.set_cons_zero, List.set_cons_succ]
            refine wpK.take (i := 12) (v := _) (by simp only [List.getElem?_toArray, List.getElem?_cons_succ, List.getElem?_cons_zero]; rfl) (by kernel_rfl) (by kernel_rfl) (by kernel_rfl) (by kernel_rfl) (by kernel_rfl) (by exact fun _ _ _ h => h) (by first | exact Or.inl ⟨by rfl, by intro w hSw; go_simp; try with_reducible rfl⟩ | exact Or.inr ⟨by rfl, rfl⟩) hH ?_
            try simp only [Act.put, List.setIfInBounds_toArray, List.set_cons_zero, List.set_cons_succ]
            refine wpK.step (i := 7) (by kernel_rfl) (by simp only [List.getElem?_toArray, List.getElem?_cons_succ, List.getElem?_cons_zero]; rfl) (fun K hK => ?_)
            go_simp
            (refine (HRF.out _).mono ?_); rintro e w7 ⟨rfl, hb7⟩; (have hk7 := Below.next hyd hb7); go_simp
            refine hK.out _ _ (by assumption) (fun hH => ?_)
            clear hK K
            try simp only [Act.put, List.setIfInBounds_toArray, List.set_cons_zero, List.set_cons_succ]
            refine wpK.take (i := 13) (v := _) (by simp only [List.getElem?_toArray, List.getElem?_cons_succ, List.getElem?_cons_zero]; rfl) (by kernel_rfl) (by kernel_rfl) (by kernel_rfl) (by kernel_rfl) (by kernel_rfl) (by exact fun _ _ _ h => h) (by first | exact Or.inl ⟨by rfl, by intro w hSw; go_simp; try with_reducible rfl⟩ | exact Or.inr ⟨by rfl, rfl⟩) hH ?_
            try simp only [Act.put, List.setIfInBounds_toArray, List.set_cons_zero, List.set_cons_succ]
            refine wpK.take (i := 14) (v := _) (by simp only [List.getElem?_toArray, List.getElem?_cons_succ, List.getElem?_cons_zero]; rfl) (by kernel_rfl) (by kernel_rfl) (by kernel_rfl) (by kernel_rfl) (by kernel_rfl) (by exact fun _ _ _ h => h) (by first | exact Or.inl ⟨by rfl, by intro w hSw; go_simp; try with_reducible rfl⟩ | exact Or.inr ⟨by rfl, rfl⟩) hH ?_
            try simp only [Act.put, List.setIfInBounds_toArray, List.set_cons_zero, List.set_cons_succ]
            refine wpK.take (i := 15) (v := _) (by simp only [List.getElem?_toArray, List.getElem?_cons_succ, List.getElem?_cons_zero]; rfl) (by kernel_rfl) (by kernel_rfl) (by kernel_rfl) (by kernel_rfl) (by kernel_rfl) (by exact fun _ _ _ h => h) (by first | exact Or.inl ⟨by rfl, by intro w hSw; go_simp; try with_reducible rfl⟩ | exact Or.inr ⟨by rfl, rfl⟩) hH ?_
            try simp only [Act.put, List.setIfInBounds_toArray, List.set_cons_zero, List.set_cons_succ]
            refine wpK.take (i := 16) (v := _) (by simp only [List.getElem?_toArray, List.getElem?_cons_succ, List.getElem?_cons_zero]; rfl) (by kernel_rfl) (by kernel_rfl) (by kernel_rfl) (by kernel_rfl) (by kernel_rfl) (by exact fun _ _ _ h => h) (by first | exact Or.inl ⟨by rfl, by intro w hSw; go_simp; try with_reducible rfl⟩ | exact Or.inr ⟨by rfl, rfl⟩) hH ?_
            try simp only [Act.put, List.setIfInBounds_toArray, List.set_cons_zero, List.set_cons_succ]
            refine wpK.take (i := 17) (v := _) (by simp only [List.getElem?_toArray, List.getElem?_cons_succ, List.getElem?_cons_zero]; rfl) (by kernel_rfl) (by kernel_rfl) (by kernel_rfl) (by kernel_rfl) (by kernel_rfl) (by exact fun _ _ _ h => h) (by first | exact Or.inl ⟨by rfl, by intro w hSw; go_simp; try with_reducible rfl⟩ | exact Or.inr ⟨by rfl, rfl⟩) hH ?_
            try simp only [Act.put, List.setIfInBounds_toArray, List.set_cons_zero, List.set_cons_succ]
            refine wpK.take (i := 18) (v := _) (by simp only [List.getElem?_toArray, List.getElem?_cons_succ, List.getElem?_cons_zero]; rfl) (by kernel_rfl) (by kernel_rfl) (by kernel_rfl) (by kernel_rfl) (by kernel_rfl) (by exact fun _ _ _ h => h) (by first | exact Or.inl ⟨by rfl, by intro w hSw; go_simp; try with_reducible rfl⟩ | exact Or.inr ⟨by rfl, rfl⟩) hH ?_
            try simp only [Act.put, List.setIfInBounds_toArray, List.set_cons_zero, List.set_cons_succ]
            refine wpK.take (i := 19) (v := _) (by simp only [List.getElem?_toArray, List.getElem?_cons_succ, List.getElem?_cons_zero]; rfl) (by kernel_rfl) (by kernel_rfl) (by kernel_rfl) (by kernel_rfl) (by kernel_rfl) (by exact fun _ _ _ h => h) (by first | exact Or.inl ⟨by rfl, by intro w hSw; go_simp; try with_reducible rfl⟩ | exact Or.inr ⟨by rfl, rfl⟩) hH ?_
            try simp only [Act.put, List.setIfInBounds_toArray, List.set_cons_zero, List.set_cons_succ]
            refine wpK.take (i := 20) (v := _) (by simp only [List.getElem?_toArray, List.getElem?_cons_succ, List.getElem?_cons_zero]; rfl) (by kernel_rfl) (by kernel_rfl) (by kernel_rfl) (by kernel_rfl) (by kernel_rfl) (by exact fun _ _ _ h => h) (by first | exact Or.inl ⟨by rfl, by intro w hSw; go_simp; try with_reducible rfl⟩ | exact Or.inr ⟨by rfl, rfl⟩) hH ?_
            try simp only [Act.put, List.setIfInBounds_toArray, List.set_cons_zero, List.set_cons_succ]
            refine wpK.take (i := 21) (v := _) (by simp only [List.getElem?_toArray, List.getElem?_cons_succ, List.getElem?_cons_zero]; rfl) (by kernel_rfl) (by kernel_rfl) (by kernel_rfl) (by kernel_rfl) (by kernel_rfl) (by exact fun _ _ _ h => h) (by first | exact Or.inl ⟨by rfl, by intro w hSw; go_simp; try with_reducible rfl⟩ | exact Or.inr ⟨by rfl, rfl⟩) hH ?_
            try simp only [Act.put, List.setIfInBounds_toArray, List.set_cons_zero, List.set_cons_succ]
            refine wpK.take (i := 22) (v := _) (by simp only [List.getElem?_toArray, List.getElem?_cons_succ, List.getElem?_cons_zero]; rfl) (by kernel_rfl) (by kernel_rfl) (by kernel_rfl) (by kernel_rfl) (by kernel_rfl) (by exact fun _ _ _ h => h) (by first | exact Or.inl ⟨by rfl, by intro w hSw; go_simp; try with_reducible rfl⟩ | exact Or.inr ⟨by rfl, rfl⟩) hH ?_
            try simp only [Act.put, List.setIfInBounds_toArray, List.set_cons_zero, List.set_cons_succ]
            refine wpK.take (i := 23) (v := _) (by simp only [List.getElem?_toArray, List.getElem?_cons_succ, List.getElem?_cons_zero]; rfl) (by kernel_rfl) (by kernel_rfl) (by kernel_rfl) (by kernel_rfl) (by kernel_rfl) (by exact fun _ _ _ h => h) (by first | exact Or.inl ⟨by rfl, by intro w hSw; go_simp; try with_reducible rfl⟩ | exact Or.inr ⟨by rfl, rfl⟩) hH ?_
            try simp only [Act.put, List.setIfInBounds_toArray, List.set_cons_zero, List.set_cons_succ]
            refine wpK.take (i := 24) (v := _) (by simp only [List.getElem?_toArray, List.getElem?_cons_succ, List.getElem?_cons_zero]; rfl) (by kernel_rfl) (by kernel_rfl) (by kernel_rfl) (by kernel_rfl) (by kernel_rfl) (by exact fun _ _ _ h => h) (by first | exact Or.inl ⟨by rfl, by intro w hSw; go_simp; try with_reducible rfl⟩ | exact Or.inr ⟨by rfl, rfl⟩) hH ?_
            try simp only [Act.put, List.setIfInBounds_toArray, List.set_cons_zero, List.set_cons_succ]
            refine wpK.take (i := 25) (v := _) (by simp only [List.getElem?_toArray, List.getElem?_cons_succ, List.getElem?_cons_zero]; rfl) (by kernel_rfl) (by kernel_rfl) (by kernel_rfl) (by kernel_rfl) (by kernel_rfl) (by exact fun _ _ _ h => h) (by first | exact Or.inl ⟨by rfl, by intro w hSw; go_simp; try with_reducible rfl⟩ | exact Or.inr ⟨by rfl, rfl⟩) hH ?_
            try simp only [Act.put, List.setIfInBounds_toArray, List.set_cons_zero, List.set_cons_succ]
            refine wpK.take (i := 26) (v := _) (by simp only [List.getElem?_toArray, List.getElem?_cons_succ, List.getElem?_cons_zero]; rfl) (by kernel_rfl) (by kernel_rfl) (by kernel_rfl) (by kernel_rfl) (by kernel_rfl) (by exact fun _ _ _ h => h) (by first | exact Or.inl ⟨by rfl, by intro w hSw; go_simp; try with_reducible rfl⟩ | exact Or.inr ⟨by rfl, rfl⟩) hH ?_
            try simp only [Act.put, List.setIfInBounds_toArray, List.set_cons_zero, List.set_cons_succ]
            refine wpK.take (i := 27) (v := _) (by simp only [List.getElem?_toArray, List.getElem?_cons_succ, List.getElem?_cons_zero]; rfl) (by kernel_rfl) (by kernel_rfl) (by kernel_rfl) (by kernel_rfl) (by kernel_rfl) (by exact fun _ _ _ h => h) (by first | exact Or.inl ⟨by rfl, by intro w hSw; go_simp; try with_reducible rfl⟩ | exact Or.inr ⟨by rfl, rfl⟩) hH ?_
            try simp only [Act.put, List.setIfInBounds_toArray, List.set_cons_zero, List.set_cons_succ]
            refine wpK.take (i := 28) (v := _) (by simp only [List.getElem?_toArray, List.getElem?_cons_succ, List.getElem?_cons_zero]; rfl) (by kernel_rfl) (by kernel_rfl) (by kernel_rfl) (by kernel_rfl) (by kernel_rfl) (by exact fun _ _ _ h => h) (by first | exact Or.inl ⟨by rfl, by intro w hSw; go_simp; try with_reducible rfl⟩ | exact Or.inr ⟨by rfl, rfl⟩) hH ?_
            try simp only [Act.put, List.setIfInBounds_toArray, List.set_cons_zero, List.set_cons_succ]
            refine wpK.done (by kernel_rfl) ?_ _
            have HQw7 := hid (Below.next HQw6.out hk7)
            clear z0 z1 z2 z3 z4 z5 x0 hyd d0 d1 d2 d3 d4 d5 g0 g1 g2 g3 hb7 hk7
            go_wp2_with fail
            refine (thing_Of w7 s n).mono ?_
            rintro e wF ⟨bTOf, bIOf, bHOf, rfl, hT, hI, hH, hb⟩
            have HTOf := hid hT
            have HIOf := hid hI
            have HHOf := hid hH
            have HQwF := hid (Below.next HQw7.out hb)
            clear hT hI hH hb
            go_wp2_with fail
            refine (law21_toldG (Y := X.L.filter (pOf n)) wF (fun z hz => stops_Of n bTOf bIOf bHOf s wF.heap.size F X z hz.size (HTOf.out.below hz) (HIOf.out.below hz) (HHOf.out.below hz) HTOf.out.lt HIOf.out.lt HHOf.out.lt ((HBO2.out.st.below HQwF.out).below hz) (fun k q => by have := HBO2.out.fl k q; have := HQwF.out.size; omega) (by have := HSZ.out.1; omega) (by have := HSZ.out.2; omega)) (HRA.out.below HQwF.out) (fun k hk => by have := HKHRA.out k hk; have := HQwF.out.size; omega) (by have := List.length_filter_le (pOf n) X.L; have := HSZ.out.1; omega)).mono ?_
            rintro e wG ⟨rfl, hb⟩
            have HQwG := hid (Below.next HQwF.out hb)
            clear hb
            go_wp2_with fail
            refine (thing_Owned wG s n).mono ?_
            rintro e wH ⟨bTOwned, bIOwned, bHOwned, rfl, hT, hI, hH, hb⟩
            have HTOwned := hid hT
            have HIOwned := hid hI
            have HHOwned := hid hH
            have HQwH := hid (Below.next HQwG.out hb)
            clear hT hI hH hb
            go_wp2_with fail
            refine (law21_toldG (Y := X.L.filter (pOwned n)) wH (fun z hz => stops_Owned n bTOwned bIOwned bHOwned s wH.heap.size F X z hz.size (HTOwned.out.below hz) (HIOwned.out.below hz) (HHOwned.out.below hz) HTOwned.out.lt HIOwned.out.lt HHOwned.out.lt ((HBO2.out.st.below HQwH.out).below hz) (fun k q => by have := HBO2.out.fl k q; have := HQwH.out.size; omega) (by have := HSZ.out.1; omega) (by have := HSZ.out.2; omega)) (HRB.out.below HQwH.out) (fun k hk => by have := HKHRB.out k hk; have := HQwH.out.size; omega) (by have := List.length_filter_le (pOwned n) X.L; have := HSZ.out.1; omega)).mono ?_
            rintro e wI ⟨rfl, hb⟩
            have HQwI := hid (Below.next HQwH.out hb)
            clear hb
            go_wp2_with fail
            refine (law21_awake wI).mono ?_
            rintro e wJ ⟨rfl, hb⟩
            have HQZ := hid (Below.next (Below.next HB.out HBQ.out) (Below.next HQwI.out hb))
            clear hb
            go_wp2_with fail
            go_ret
            exact ⟨rfl, HQZ.out⟩
          | none =>
            have HF := hid hf
            rw [show getR X.L n = .tuple #[thV ⟨0, [], 0, (0, 0, 0)⟩, .int .i64 14] by unfold getR; rw [hf]] at hget
            simp only [thV, strV] at hget
            clear hf
            have HGT := hid hget
            clear hget
            go_wp2_with fail
            refine HGT.out.mono ?_
            rintro e w4 ⟨rfl, hb4⟩
            have HQw4 := hid hb4
            clear hb4
            go_upto_region 20 with fail
            obtain ⟨w5, hw5⟩ : ∃ w5, w5 = w4.alloc (.cells #[.int .i64 0, .string ⟨#[]⟩, .int .i64 0, .int .i64 0, .int .i64 0, .int .i64 0] 48) := ⟨_, rfl⟩
            rw [← hw5]
            have hb5 : Below w4.heap.size w4 w5 := by rw [hw5]; exact Below.new _ _
            obtain ⟨bb, hbb⟩ : ∃ bb, bb = w4.heap.size := ⟨_, rfl⟩
            rw [← hbb]
            have HO5 : Hid (Blk w5 bb #[.int .i64 0, .string ⟨#[]⟩, .int .i64 0, .int .i64 0, .int .i64 0, .int .i64 0]) := hid (by rw [hw5, hbb]; exact Blk.new _ _ _)
            have HQw5 := hid (Below.next HQw4.out hb5)
            clear hw5 hb5 hbb
            have x0 : w5.cell? ⟨bX, 0, none⟩ = some (.slice a4 X.L.length c4) := by rw [(HBX2.out.below HQw5.out).cell]; rfl
            have x1 : w5.cell? ⟨bX, 1, none⟩ = some (.int .i64 X.nx) := by rw [(HBX2.out.below HQw5.out).cell]; rfl
            go_wp2_with fail
            refine (ref21_Find X.nx w5 (HBO2.out.rx.below HQw5.out) n).mono ?_
            rintro e w6 ⟨r, rfl, hr, hb6⟩
            have HQw6 := hid (Below.next HQw5.out hb6)
            have HO6 := hid (HO5.out.below hb6)
            clear hb6 x0 x1
            obtain rfl : r = -1 := by
              rcases hr with ⟨i, g, q1, q2, q3, q4⟩ | ⟨q, -⟩
              · rw [HF.out] at q4; cases q4
              · exact q
            clear hr
            have z0 : ∀ y, Below w6.heap.size w6 y → y.cell? ⟨bb, 0, none⟩ = some (.int .i64 0) := fun y hy => by rw [(HO6.out.below hy).cell]; rfl
            have z1 : ∀ y, Below w6.heap.size w6 y → y.cell? ⟨bb, 1, none⟩ = some (.string ⟨#[]⟩) := fun y hy => by rw [(HO6.out.below hy).cell]; rfl
            have z2 : ∀ y, Below w6.heap.size w6 y → y.cell? ⟨bb, 2, none⟩ = some (.int .i64 0) := fun y hy => by rw [(HO6.out.below hy).cell]; rfl
            have z3 : ∀ y, Below w6.heap.size w6 y → y.cell? ⟨bb, 3, none⟩ = some (.int .i64 0) := fun y hy => by rw [(HO6.out.below hy).cell]; rfl
            have z4 : ∀ y, Below w6.heap.size w6 y → y.cell? ⟨bb, 4, none⟩ = some (.int .i64 0) := fun y hy => by rw [(HO6.out.below hy).cell]; rfl
            have z5 : ∀ y, Below w6.heap.size w6 y → y.cell? ⟨bb, 5, none⟩ = some (.int .i64 0) := fun y hy => by rw [(HO6.out.below hy).cell]; rfl
            have x0 : ∀ y, Below w6.heap.size w6 y → y.cell? ⟨bX, 0, none⟩ = some (.slice (a4) X.L.length c4) := fun y hy => by rw [((HBX2.out.below HQw6.out).below hy).cell]; rfl
            have hyd := (Below.refl w6.heap.size w6).drew
            go_upto_region 21 with fail
            refine wp_region_kept [] (fun y => Below w6.heap.size w6 y) (by kernel_rfl) (by assumption) (fun hH => ?_)
            refine wpK.take (i := 0) (v := _) (by simp only [List.getElem?_toArray, List.getElem?_cons_succ, List.getElem?_cons_zero]; rfl) (by kernel_rfl) (by kernel_rfl) (by kernel_rfl) (by kernel_rfl) (by kernel_rfl) (by exact fun _ _ _ h => h) (by first | exact Or.inl ⟨by rfl, by intro w hSw; go_simp; try with_reducible rfl⟩ | exact Or.inr ⟨by rfl, rfl⟩) hH ?_
            try simp only [Act.put, List.setIfInBounds_toArray, List.set_cons_zero, List.set_cons_succ]
            refine wpK.take (i := 1) (v := _) (by simp only [List.getElem?_toArray, List.getElem?_cons_succ, List.getElem?_cons_zero]; rfl) (by kernel_rfl) (by kernel_rfl) (by kernel_rfl) (by kernel_rfl) (by kernel_rfl) (by exact fun _ _ _ h => h) (by first | exact Or.inl ⟨by rfl, by intro w hSw; go_simp; try with_reducible rfl⟩ | exact Or.inr ⟨by rfl, rfl⟩) hH ?_
            try simp only [Act.put, List.setIfInBounds_toArray, List.set_cons_zero, List.set_cons_succ]
            refine wpK.take (i := 2) (v := _) (by simp only [List.getElem?_toArray, List.getElem?_cons_succ, List.getElem?_cons_zero]; rfl) (by kernel_rfl) (by kernel_rfl) (by kernel_rfl) (by kernel_rfl) (by kernel_rfl) (by exact fun _ _ _ h => h) (by first | exact Or.inl ⟨by rfl, by intro w hSw; go_simp; try with_reducible rfl⟩ | exact Or.inr ⟨by rfl, rfl⟩) hH ?_
            try simp only [Act.put, List.setIfInBounds_toArray, List.set_cons_zero, List.set_cons_succ]
            refine wpK.take (i := 3) (v := _) (by simp only [List.getElem?_toArray, List.getElem?_cons_succ, List.getElem?_cons_zero]; rfl) (by kernel_rfl) (by kernel_rfl) (by kernel_rfl) (by kernel_rfl) (by kernel_rfl) (by exact fun _ _ _ h => h) (by first | exact Or.inl ⟨by rfl, by intro w hSw; go_simp; try with_reducible rfl⟩ | exact Or.inr ⟨by rfl, rfl⟩) hH ?_
            try simp only [Act.put, List.setIfInBounds_toArray, List.set_cons_zero, List.set_cons_succ]
            refine wpK.take (i := 4) (v := _) (by simp only [List.getElem?_toArray, List.getElem?_cons_succ, List.getElem?_cons_zero]; rfl) (by kernel_rfl) (by kernel_rfl) (by kernel_rfl) (by kernel_rfl) (by kernel_rfl) (by exact fun _ _ _ h => h) (by first | exact Or.inl ⟨by rfl, by intro w hSw; go_simp; try with_reducible rfl⟩ | exact Or.inr ⟨by rfl, rfl⟩) hH ?_
            try simp only [Act.put, List.setIfInBounds_toArray, List.set_cons_zero, List.set_cons_succ]
            refine wpK.take (i := 5) (v := _) (by simp only [List.getElem?_toArray, List.getElem?_cons_succ, List.getElem?_cons_zero]; rfl) (by kernel_rfl) (by kernel_rfl) (by kernel_rfl) (by kernel_rfl) (by kernel_rfl) (by exact fun _ _ _ h => h) (by first | exact Or.inl ⟨by rfl, by intro w hSw; go_simp; try with_reducible rfl⟩ | exact Or.inr ⟨by rfl, rfl⟩) hH ?_
            try simp only [Act.put, List.setIfInBounds_toArray, List.set_cons_zero, List.set_cons_succ]
            refine wpK.take (i := 6) (v := _) (by simp only [List.getElem?_toArray, List.getElem?_cons_succ, List.getElem?_cons_zero]; rfl) (by kernel_rfl) (by kernel_rfl) (by kernel_rfl) (by kernel_rfl) (by kernel_rfl) (by exact fun _ _ _ h => h) (by first | exact Or.inl ⟨by rfl, by intro w hSw; go_simp; try with_reducible rfl⟩ | exact Or.inr ⟨by rfl, rfl⟩) hH ?_
            try simp only [Act.put, List.setIfInBounds_toArray, List.set_cons_zero, List.set_cons_succ]
            refine wpK.take (i := 8) (v := _) (by simp only [List.getElem?_toArray, List.getElem?_cons_succ, List.getElem?_cons_zero]; rfl) (by kernel_rfl) (by kernel_rfl) (by kernel_rfl) (by kernel_rfl) (by kernel_rfl) (by exact fun _ _ _ h => h) (by first | exact Or.inl ⟨by rfl, by intro w hSw; go_simp; try with_reducible rfl⟩ | exact Or.inr ⟨by rfl, rfl⟩) hH ?_
            try simp only [Act.put, List.setIfInBounds_toArray, List.set_cons_zero, List.set_cons_succ]
            refine wpK.take (i := 9) (v := _) (by simp only [List.getElem?_toArray, List.getElem?_cons_succ, List.getElem?_cons_zero]; rfl) (by kernel_rfl) (by kernel_rfl) (by kernel_rfl) (by kernel_rfl) (by kernel_rfl) (by exact fun _ _ _ h => h) (by first | exact Or.inl ⟨by rfl, by intro w hSw; go_simp; try with_reducible rfl⟩ | exact Or.inr ⟨by rfl, rfl⟩) hH ?_
            try simp only [Act.put, List.setIfInBounds_toArray, List.set_cons_zero, List.set_cons_succ]
            refine wpK.take (i := 10) (v := _) (by simp only [List.getElem?_toArray, List.getElem?_cons_succ, List.getElem?_cons_zero]; rfl) (by kernel_rfl) (by kernel_rfl) (by kernel_rfl) (by kernel_rfl) (by kernel_rfl) (by exact fun _ _ _ h => h) (by first | exact Or.inl ⟨by rfl, by intro w hSw; go_simp; try with_reducible rfl⟩ | exact Or.inr ⟨by rfl, rfl⟩) hH ?_
            try simp only [Act.put, List.setIfInBounds_toArray, List.set_cons_zero, List.set_cons_succ]
            refine wpK.take (i := 11) (v := _) (by simp only [List.getElem?_toArray, List.getElem?_cons_succ, List.getElem?_cons_zero]; rfl) (by kernel_rfl) (by kernel_rfl) (by kernel_rfl) (by kernel_rfl) (by kernel_rfl) (by exact fun _ _ _ h => h) (by first | exact Or.inl ⟨by rfl, by intro w hSw; go_simp; try with_reducible rfl⟩ | exact Or.inr ⟨by rfl, rfl⟩) hH ?_
            try simp only [Act.put, List.setIfInBounds_toArray, List.set_cons_zero, List.set_cons_succ]
            refine wpK.take (i := 12) (v := _) (by simp only [List.getElem?_toArray, List.getElem?_cons_succ, List.getElem?_cons_zero]; rfl) (by kernel_rfl) (by kernel_rfl) (by kernel_rfl) (by kernel_rfl) (by kernel_rfl) (by exact fun _ _ _ h => h) (by first | exact Or.inl ⟨by rfl, by intro w hSw; go_simp; try with_reducible rfl⟩ | exact Or.inr ⟨by rfl, rfl⟩) hH ?_
            try simp only [Act.put, List.setIfInBounds_toArray, List.set_cons_zero, List.set_cons_succ]
            refine wpK.step (i := 7) (by kernel_rfl) (by simp only [List.getElem?_toArray, List.getElem?_cons_succ, List.getElem?_cons_zero]; rfl) (fun K hK => ?_)
            go_simp
            refine hK.out _ _ (by assumption) (fun hH => ?_)
            clear hK K
            try simp only [Act.put, List.setIfInBounds_toArray, List.set_cons_zero, List.set_cons_succ]
            refine wpK.take (i := 13) (v := _) (by simp only [List.getElem?_toArray, List.getElem?_cons_succ, List.getElem?_cons_zero]; rfl) (by kernel_rfl) (by kernel_rfl) (by kernel_rfl) (by kernel_rfl) (by kernel_rfl) (by exact fun _ _ _ h => h) (by first | exact Or.inl ⟨by rfl, by intro w hSw; go_simp; try with_reducible rfl⟩ | exact Or.inr ⟨by rfl, rfl⟩) hH ?_
            try simp only [Act.put, List.setIfInBounds_toArray, List.set_cons_zero, List.set_cons_succ]
            refine wpK.take (i := 14) (v := _) (by simp only [List.getElem?_toArray, List.getElem?_cons_succ, List.getElem?_cons_zero]; rfl) (by kernel_rfl) (by kernel_rfl) (by kernel_rfl) (by kernel_rfl) (by kernel_rfl) (by exact fun _ _ _ h => h) (by first | exact Or.inl ⟨by rfl, by intro w hSw; go_simp; try with_reducible rfl⟩ | exact Or.inr ⟨by rfl, rfl⟩) hH ?_
            try simp only [Act.put, List.setIfInBounds_toArray, List.set_cons_zero, List.set_cons_succ]
            refine wpK.take (i := 15) (v := _) (by simp only [List.getElem?_toArray, List.getElem?_cons_succ, List.getElem?_cons_zero]; rfl) (by kernel_rfl) (by kernel_rfl) (by kernel_rfl) (by kernel_rfl) (by kernel_rfl) (by exact fun _ _ _ h => h) (by first | exact Or.inl ⟨by rfl, by intro w hSw; go_simp; try with_reducible rfl⟩ | exact Or.inr ⟨by rfl, rfl⟩) hH ?_
            try simp only [Act.put, List.setIfInBounds_toArray, List.set_cons_zero, List.set_cons_succ]
            refine wpK.take (i := 16) (v := _) (by simp only [List.getElem?_toArray, List.getElem?_cons_succ, List.getElem?_cons_zero]; rfl) (by kernel_rfl) (by kernel_rfl) (by kernel_rfl) (by kernel_rfl) (by kernel_rfl) (by exact fun _ _ _ h => h) (by first | exact Or.inl ⟨by rfl, by intro w hSw; go_simp; try with_reducible rfl⟩ | exact Or.inr ⟨by rfl, rfl⟩) hH ?_
            try simp only [Act.put, List.setIfInBounds_toArray, List.set_cons_zero, List.set_cons_succ]
            refine wpK.take (i := 17) (v := _) (by simp only [List.getElem?_toArray, List.getElem?_cons_succ, List.getElem?_cons_zero]; rfl) (by kernel_rfl) (by kernel_rfl) (by kernel_rfl) (by kernel_rfl) (by kernel_rfl) (by exact fun _ _ _ h => h) (by first | exact Or.inl ⟨by rfl, by intro w hSw; go_simp; try with_reducible rfl⟩ | exact Or.inr ⟨by rfl, rfl⟩) hH ?_
            try simp only [Act.put, List.setIfInBounds_toArray, List.set_cons_zero, List.set_cons_succ]
            refine wpK.take (i := 18) (v := _) (by simp only [List.getElem?_toArray, List.getElem?_cons_succ, List.getElem?_cons_zero]; rfl) (by kernel_rfl) (by kernel_rfl) (by kernel_rfl) (by kernel_rfl) (by kernel_rfl) (by exact fun _ _ _ h => h) (by first | exact Or.inl ⟨by rfl, by intro w hSw; go_simp; try with_reducible rfl⟩ | exact Or.inr ⟨by rfl, rfl⟩) hH ?_
            try simp only [Act.put, List.setIfInBounds_toArray, List.set_cons_zero, List.set_cons_succ]
            refine wpK.take (i := 19) (v := _) (by simp only [List.getElem?_toArray, List.getElem?_cons_succ, List.getElem?_cons_zero]; rfl) (by kernel_rfl) (by kernel_rfl) (by kernel_rfl) (by kernel_rfl) (by kernel_rfl) (by exact fun _ _ _ h => h) (by first | exact Or.inl ⟨by rfl, by intro w hSw; go_simp; try with_reducible rfl⟩ | exact Or.inr ⟨by rfl, rfl⟩) hH ?_
            try simp only [Act.put, List.setIfInBounds_toArray, List.set_cons_zero, List.set_cons_succ]
            refine wpK.take (i := 20) (v := _) (by simp only [List.getElem?_toArray, List.getElem?_cons_succ, List.getElem?_cons_zero]; rfl) (by kernel_rfl) (by kernel_rfl) (by kernel_rfl) (by kernel_rfl) (by kernel_rfl) (by exact fun _ _ _ h => h) (by first | exact Or.inl ⟨by rfl, by intro w hSw; go_simp; try with_reducible rfl⟩ | exact Or.inr ⟨by rfl, rfl⟩) hH ?_
            try simp only [Act.put, List.setIfInBounds_toArray, List.set_cons_zero, List.set_cons_succ]
            refine wpK.take (i := 21) (v := _) (by simp only [List.getElem?_toArray, List.getElem?_cons_succ, List.getElem?_cons_zero]; rfl) (by kernel_rfl) (by kernel_rfl) (by kernel_rfl) (by kernel_rfl) (by kernel_rfl) (by exact fun _ _ _ h => h) (by first | exact Or.inl ⟨by rfl, by intro w hSw; go_simp; try with_reducible rfl⟩ | exact Or.inr ⟨by rfl, rfl⟩) hH ?_
            try simp only [Act.put, List.setIfInBounds_toArray, List.set_cons_zero, List.set_cons_succ]
            refine wpK.take (i := 22) (v := _) (by simp only [List.getElem?_toArray, List.getElem?_cons_succ, List.getElem?_cons_zero]; rfl) (by kernel_rfl) (by kernel_rfl) (by kernel_rfl) (by kernel_rfl) (by kernel_rfl) (by exact fun _ _ _ h => h) (by first | exact Or.inl ⟨by rfl, by intro w hSw; go_simp; try with_reducible rfl⟩ | exact Or.inr ⟨by rfl, rfl⟩) hH ?_
            try simp only [Act.put, List.setIfInBounds_toArray, List.set_cons_zero, List.set_cons_succ]
            refine wpK.take (i := 23) (v := _) (by simp only [List.getElem?_toArray, List.getElem?_cons_succ, List.getElem?_cons_zero]; rfl) (by kernel_rfl) (by kernel_rfl) (by kernel_rfl) (by kernel_rfl) (by kernel_rfl) (by exact fun _ _ _ h => h) (by first | exact Or.inl ⟨by rfl, by intro w hSw; go_simp; try with_reducible rfl⟩ | exact Or.inr ⟨by rfl, rfl⟩) hH ?_
            try simp only [Act.put, List.setIfInBounds_toArray, List.set_cons_zero, List.set_cons_succ]
            refine wpK.take (i := 24) (v := _) (by simp only [List.getElem?_toArray, List.getElem?_cons_succ, List.getElem?_cons_zero]; rfl) (by kernel_rfl) (by kernel_rfl) (by kernel_rfl) (by kernel_rfl) (by kernel_rfl) (by exact fun _ _ _ h => h) (by first | exact Or.inl ⟨by rfl, by intro w hSw; go_simp; try with_reducible rfl⟩ | exact Or.inr ⟨by rfl, rfl⟩) hH ?_
            try simp only [Act.put, List.setIfInBounds_toArray, List.set_cons_zero, List.set_cons_succ]
            refine wpK.take (i := 25) (v := _) (by simp only [List.getElem?_toArray, List.getElem?_cons_succ, List.getElem?_cons_zero]; rfl) (by kernel_rfl) (by kernel_rfl) (by kernel_rfl) (by kernel_rfl) (by kernel_rfl) (by exact fun _ _ _ h => h) (by first | exact Or.inl ⟨by rfl, by intro w hSw; go_simp; try with_reducible rfl⟩ | exact Or.inr ⟨by rfl, rfl⟩) hH ?_
            try simp only [Act.put, List.setIfInBounds_toArray, List.set_cons_zero, List.set_cons_succ]
            refine wpK.take (i := 26) (v := _) (by simp only [List.getElem?_toArray, List.getElem?_cons_succ, List.getElem?_cons_zero]; rfl) (by kernel_rfl) (by kernel_rfl) (by kernel_rfl) (by kernel_rfl) (by kernel_rfl) (by exact fun _ _ _ h => h) (by first | exact Or.inl ⟨by rfl, by intro w hSw; go_simp; try with_reducible rfl⟩ | exact Or.inr ⟨by rfl, rfl⟩) hH ?_
            try simp only [Act.put, List.setIfInBounds_toArray, List.set_cons_zero, List.set_cons_succ]
            refine wpK.take (i := 27) (v := _) (by simp only [List.getElem?_toArray, List.getElem?_cons_succ, List.getElem?_cons_zero]; rfl) (by kernel_rfl) (by kernel_rfl) (by kernel_rfl) (by kernel_rfl) (by kernel_rfl) (by exact fun _ _ _ h => h) (by first | exact Or.inl ⟨by rfl, by intro w hSw; go_simp; try with_reducible rfl⟩ | exact Or.inr ⟨by rfl, rfl⟩) hH ?_
            try simp only [Act.put, List.setIfInBounds_toArray, List.set_cons_zero, List.set_cons_succ]
            refine wpK.take (i := 28) (v := _) (by simp only [List.getElem?_toArray, List.getElem?_cons_succ, List.getElem?_cons_zero]; rfl) (by kernel_rfl) (by kernel_rfl) (by kernel_rfl) (by kernel_rfl) (by kernel_rfl) (by exact fun _ _ _ h => h) (by first | exact Or.inl ⟨by rfl, by intro w hSw; go_simp; try with_reducible rfl⟩ | exact Or.inr ⟨by rfl, rfl⟩) hH ?_
            try simp only [Act.put, List.setIfInBounds_toArray, List.set_cons_zero, List.set_cons_succ]
            refine wpK.done (by kernel_rfl) ?_ _
            have HQw7 := hid (Below.next HQw6.out hyd)
            obtain ⟨w7, hw7⟩ : ∃ w7, w7 = w6.drew := ⟨_, rfl⟩
            rw [← hw7] at HQw7 ⊢
            clear hw7
            clear z0 z1 z2 z3 z4 z5 x0 hyd
            go_wp2_with fail
            refine (thing_Of w7 s n).mono ?_
            rintro e wF ⟨bTOf, bIOf, bHOf, rfl, hT, hI, hH, hb⟩
            have HTOf := hid hT
            have HIOf := hid hI
            have HHOf := hid hH
            have HQwF := hid (Below.next HQw7.out hb)
            clear hT hI hH hb
            go_wp2_with fail
            refine (law21_toldG (Y := X.L.filter (pOf n)) wF (fun z hz => stops_Of n bTOf bIOf bHOf s wF.heap.size F X z hz.size (HTOf.out.below hz) (HIOf.out.below hz) (HHOf.out.below hz) HTOf.out.lt HIOf.out.lt HHOf.out.lt ((HBO2.out.st.below HQwF.out).below hz) (fun k q => by have := HBO2.out.fl k q; have := HQwF.out.size; omega) (by have := HSZ.out.1; omega) (by have := HSZ.out.2; omega)) (HRA.out.below HQwF.out) (fun k hk => by have := HKHRA.out k hk; have := HQwF.out.size; omega) (by have := List.length_filter_le (pOf n) X.L; have := HSZ.out.1; omega)).mono ?_
            rintro e wG ⟨rfl, hb⟩
            have HQwG := hid (Below.next HQwF.out hb)
            clear hb
            go_wp2_with fail
            refine (thing_Owned wG s n).mono ?_
            rintro e wH ⟨bTOwned, bIOwned, bHOwned, rfl, hT, hI, hH, hb⟩
            have HTOwned := hid hT
            have HIOwned := hid hI
            have HHOwned := hid hH
            have HQwH := hid (Below.next HQwG.out hb)
            clear hT hI hH hb
            go_wp2_with fail
            refine (law21_toldG (Y := X.L.filter (pOwned n)) wH (fun z hz => stops_Owned n bTOwned bIOwned bHOwned s wH.heap.size F X z hz.size (HTOwned.out.below hz) (HIOwned.out.below hz) (HHOwned.out.below hz) HTOwned.out.lt HIOwned.out.lt HHOwned.out.lt ((HBO2.out.st.below HQwH.out).below hz) (fun k q => by have := HBO2.out.fl k q; have := HQwH.out.size; omega) (by have := HSZ.out.1; omega) (by have := HSZ.out.2; omega)) (HRB.out.below HQwH.out) (fun k hk => by have := HKHRB.out k hk; have := HQwH.out.size; omega) (by have := List.length_filter_le (pOwned n) X.L; have := HSZ.out.1; omega)).mono ?_
            rintro e wI ⟨rfl, hb⟩
            have HQwI := hid (Below.next HQwH.out hb)
            clear hb
            go_wp2_with fail
            refine (law21_awake wI).mono ?_
            rintro e wJ ⟨rfl, hb⟩
            have HQZ := hid (Below.next (Below.next HB.out HBQ.out) (Below.next HQwI.out hb))
            clear hb
            go_wp2_with fail
            go_ret
            exact ⟨rfl, HQZ.out⟩
set_option maxRecDepth 100000 in
theorem ThingFinds_walk {H : Type} {enc : TypeId × Value → H} {b0 : Nat} {d0 : DataW H} {p0 : List MemPlace} (v0 : Value) (x1 : Int) (w : World) (ok0 : Value.okWide Tryd.prog w .any b0 28 v0) (k0 : DataW.Trod enc Tryd.prog w 0 (fun _ => true) true 28 v0 d0 p0) (w1 : (Lit.int .i64 x1).wf = true) :
    Calls Tryd.prog 5 #[v0, .int .i64 x1] w fun e w' => e = .returned (.bool true) ∧ Below w.heap.size w w' := by
  obtain ⟨L, hl⟩ := open_opsT ok0 k0
  obtain ⟨a, c, rfl, h2⟩ := id hl
  exact law21_Finds L x1 a c w hl
end Go.Proofs.YtdoflhiogoefjaaDoor
end
