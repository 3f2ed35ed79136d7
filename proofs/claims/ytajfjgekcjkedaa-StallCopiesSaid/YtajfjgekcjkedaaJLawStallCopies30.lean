/- Joined texts, in this order: StallCopies, LawStallCopies. Each one's first remark says what it proves; no condition beyond those that its theorems name. -/
import Derived.Test.YtajfjgekcjkedaaJLawStallCopies28
import Derived.Test.YtajfjgekcjkedaaJLawStallCopies29
import Derived.Test.YtajfjgekcjkedaaRows
import Derived.WalkKit
import Derived.ProofKit
import Derived.OpenShut
import Derived.ShutString
import Derived.ChangeOld
import Derived.Below
section
/- Law StallCopies. -/
namespace Go.Proofs.Ytajfjgekcjkedaa
open Go.RowKit
open Go.Lib (hid)
set_option linter.unusedVariables false

def PlaysO (w : World) (s bX n m : Nat) (v26 : Value) (wr : World) : Prop :=
  ∃ (j : Nat) (X : StX) (F : Nat → Prop) (at_ : Option Addr) (ct : Nat) (ag : Option Addr) (cg : Nat), v26 = .int .i64 (j : Int) ∧ j ≤ n ∧ Hid (Both wr s F at_ ct ag cg X) ∧ Hid (Blk wr bX #[.slice at_ X.tills.length ct, .slice ag X.goods.length cg]) ∧ Hid (¬ F bX ∧ (∀ k, (aB at_ k ∨ aB ag k) → k ≠ bX) ∧ X.tills.length ≤ m + j ∧ X.goods.length ≤ m + j ∧ (∀ k, F k → w.heap.size ≤ k)) ∧ Hid (Below w.heap.size w wr)
theorem sumB {w : World} {s : Nat} {F : Nat → Prop} {X : StX} (h : StallIs w s F X) (hl : X.tills.length ≤ 1000) : sumT X.tills ≤ 4611686018427387904 := by
  have h1 := sumT_le23 (T := X.tills) (fun p hp => (h.inv.t2 p hp).2.2.2)
  omega
set_option maxRecDepth 100000 in
set_option maxHeartbeats 8000000 in
theorem law23_Copies (L : List OpS) (a : Option Addr) (c : Nat) (M : List OpS) (am : Option Addr) (cm : Nat) (w : World) (hl : SlE OpSE 4 w (.slice a L.length c) L) (hm : SlE OpSE 4 w (.slice am M.length cm) M) (h60 : L.length ≤ 60) (h60m : M.length ≤ 60) :
    Calls Try.prog 6 #[.slice a L.length c, .slice am M.length cm] w fun e w' => e = .returned (.bool true) ∧ Below w.heap.size w w' := by
  have HL := hid hl
  have HMM := hid hm
  have i2 : ¬ (60 : Int) < (L.length : Int) := by omega
  have i3 : ¬ (60 : Int) < (M.length : Int) := by omega
  clear hl hm
  go_enter Try.func6, Try.ntmps6
  go_wp2_with fail
  refine (stall_New w).mono ?_
  rintro e w1 ⟨s, rfl, h1, hb1⟩
  have H1 := hid h1
  have HB1 := hid hb1
  clear h1 hb1
  go_upto_region 5 with fail
  obtain ⟨w2, hw2⟩ : ∃ w2, w2 = w1.alloc (.cells #[.slice none 0 0, .slice none 0 0] 46) := ⟨_, rfl⟩
  rw [← hw2]
  obtain ⟨bX, hbX⟩ : ∃ b, b = w1.heap.size := ⟨_, rfl⟩
  rw [← hbX]
  have hb2 : Below w1.heap.size w1 w2 := by rw [hw2]; exact Below.new _ _
  have HX2 := hid (show Blk w2 bX #[.slice none 0 0, .slice none 0 0] by rw [hw2, hbX]; exact Blk.new w1 _ _)
  have HB2 := hid (Below.next HB1.out hb2)
  have HBO : Hid (Both w2 s (fun k => w.heap.size ≤ k ∧ k < w1.heap.size) none 0 none 0 ⟨[], []⟩) := hid ⟨(H1.out.weaken (fun k q q2 => ⟨q, q2⟩)).below hb2, ⟨SlP.nil _, Sl3.nil _, by simp, by simp⟩, fun k q => by have := hb2.size; omega, fun k q => by simp [aB, Value.ownBlock] at q, fun k q => by simp [aB, Value.ownBlock] at q⟩
  have HN : Hid (¬ (w.heap.size ≤ bX ∧ bX < w1.heap.size) ∧ (∀ k, (aB none k ∨ aB none k) → k ≠ bX) ∧ (0 : Nat) ≤ 0 + 0 ∧ (0 : Nat) ≤ 0 + 0 ∧ (∀ k, (w.heap.size ≤ k ∧ k < w1.heap.size) → w.heap.size ≤ k)) := hid ⟨by omega, fun k q => by simp [aB, Value.ownBlock] at q, Nat.le_refl _, Nat.le_refl _, fun k q => q.1⟩
  have HGE : Hid (w.heap.size ≤ bX) := hid (by rw [hbX]; exact HB1.out.size)
  clear hw2 hbX hb2
  go_wp2_with fail
  go_loopw [34] (fun v34 wr => PlaysO w s bX L.length 0 v34 wr) (fun v34 _ => L.length - (intOf v34).toNat)
  case atStart => exact ⟨0, _, _, _, _, _, _, rfl, by omega, HBO, HX2, HN, HB2⟩
  case round =>
    clear H1 HB1 HX2 HBO HN HB2
    obtain ⟨j, X, F, at_, ct, ag, cg, rfl, hj, HBO, HBX, HN, HB⟩ := hrel
    by_cases hlt : j < L.length
    · have j1 : (j : Int) < (L.length : Int) := by omega
      have j0 : (0 : Int) ≤ (j : Int) := by omega
      obtain ⟨o, hp⟩ : ∃ o, L[j]? = some o := ⟨_, List.getElem?_eq_getElem hlt⟩
      obtain ⟨bo, off, rfl, q0, q1, q2, q3, hh63, ht63, -⟩ := HL.out.opS HB.out hp
      obtain ⟨ok, oh, ot, op⟩ := o
      simp only at q0 q1 q2 q3 hh63 ht63
      obtain ⟨X', hX'⟩ : ∃ X', stepX X ⟨ok, oh, ot, op⟩ = X' := ⟨_, rfl⟩
      have HXN := hid hX'
      have HLEN := hid (show X'.tills.length ≤ X.tills.length + 1 ∧ X'.goods.length ≤ X.goods.length + 1 by rw [← hX']; exact stepX_len X _)
      have HH63 := hid hh63
      have HT63 := hid ht63
      clear hp hX' hh63 ht63
      go_upto_region 8 with fail
      obtain ⟨w5, hw5⟩ : ∃ w5, w5 = wr.alloc (.cells #[.int .i64 ok, .int .i64 oh, .int .i64 ot, .int .i64 op] 27) := ⟨_, rfl⟩
      rw [← hw5]
      have hb5 : Below wr.heap.size wr w5 := by rw [hw5]; exact Below.new _ _
      obtain ⟨bb, hbb⟩ : ∃ bb, bb = wr.heap.size := ⟨_, rfl⟩
      rw [← hbb]
      have HO5 : Hid (Blk w5 bb #[.int .i64 ok, .int .i64 oh, .int .i64 ot, .int .i64 op]) := hid (by rw [hw5, hbb]; exact Blk.new _ _ _)
      have HX5 := hid (HBX.out.below hb5)
      have HBO5 : Hid (Both w5 s F at_ ct ag cg X) := hid ⟨HBO.out.st.below hb5, HBO.out.rx.below hb5, fun k q => by have := HBO.out.fl k q; have := hb5.size; omega, fun k q => by have := HBO.out.low k q; have := hb5.size; omega, HBO.out.far⟩
      have HB5 := hid (Below.next HB.out hb5)
      have HZ : Hid (¬ F bb ∧ bX ≠ bb ∧ wr.heap.size = bb) := hid ⟨fun q => by have := HBO.out.fl _ q; omega, by have := HBX.out.lt; omega, hbb.symm⟩
      clear hw5 hb5 hbb q0 q1 q2 q3
      have x0 : w5.cell? ⟨bX, 0, none⟩ = some (.slice at_ X.tills.length ct) := by rw [HX5.out.cell]; rfl
      have x1 : w5.cell? ⟨bX, 1, none⟩ = some (.slice ag X.goods.length cg) := by rw [HX5.out.cell]; rfl
      have cx0 : w5.cell? ⟨bb, 0, none⟩ = some (.int .i64 ok) := by rw [HO5.out.cell]; rfl
      have cx1 : w5.cell? ⟨bb, 1, none⟩ = some (.int .i64 oh) := by rw [HO5.out.cell]; rfl
      have cx2 : w5.cell? ⟨bb, 2, none⟩ = some (.int .i64 ot) := by rw [HO5.out.cell]; rfl
      have cx3 : w5.cell? ⟨bb, 3, none⟩ = some (.int .i64 op) := by rw [HO5.out.cell]; rfl
      go_wp2_with fail
      refine (law23_step w5 HBO5.out (by have := HN.out.2.2.1; omega) (by have := HN.out.2.2.2.1; omega) ⟨ok, oh, ot, op⟩ HH63.out HT63.out HXN.out).mono ?_
      rintro e w6 ⟨F', at', ct', ag', cg', rfl, hbo6, hu6, hF6, hr6⟩
      have HBO6 := hid hbo6
      have HX6 := hid (HX5.out.upd hu6 HN.out.1)
      have HR6 := hid hr6
      have HF6 := hid hF6
      have HB6 := hid (HB5.out.trans (hu6.below HB5.out.size (fun k _ q => HN.out.2.2.2.2 k q)))
      clear hbo6 hu6 hF6 hr6 x0 x1 cx0 cx1 cx2 cx3
      have x0 : w6.cell? ⟨bX, 0, none⟩ = some (.slice at_ X.tills.length ct) := by rw [HX6.out.cell]; rfl
      have x1 : w6.cell? ⟨bX, 1, none⟩ = some (.slice ag X.goods.length cg) := by rw [HX6.out.cell]; rfl
      have f0 : w6.frozen? ⟨bX, 0, none⟩ = false := HX6.out.unfrozen 0
      have f1 : w6.frozen? ⟨bX, 1, none⟩ = false := HX6.out.unfrozen 1
      go_upto_region 9 with fail
      have HX7 : Hid (Blk ((w6.setCell ⟨bX, 0, none⟩ (.slice at' X'.tills.length ct')).setCell ⟨bX, 1, none⟩ (.slice ag' X'.goods.length cg')) bX #[.slice at' X'.tills.length ct', .slice ag' X'.goods.length cg']) := hid (by simpa using (HX6.out.set 0 (.slice at' X'.tills.length ct')).set 1 (.slice ag' X'.goods.length cg'))
      have HU7 := hid ((Upd.setCell w6 bX 0 (.slice at' X'.tills.length ct')).trans (Upd.setCell _ bX 1 (.slice ag' X'.goods.length cg')) (fun _ _ q => q))
      generalize World.setCell (World.setCell w6 _ _) _ _ = w7 at HX7 HU7
      have HNF : Hid (¬ F' bX ∧ (∀ k, (aB at' k ∨ aB ag' k) → k ≠ bX) ∧ X'.tills.length ≤ 0 + (j + 1) ∧ X'.goods.length ≤ 0 + (j + 1) ∧ (∀ k, F' k → w.heap.size ≤ k)) := hid ⟨fun q => by
        rcases HF6.out _ q with q | q
        · exact HN.out.1 q
        · have := HX5.out.lt; omega, fun k hk q => by
        rcases HR6.out k hk with q2 | q2
        · exact HN.out.2.1 k q2 q
        · have := HX5.out.lt; omega, by have := HLEN.out.1; have := HN.out.2.2.1; omega, by have := HLEN.out.2; have := HN.out.2.2.2.1; omega, fun k hk => by
        rcases HF6.out _ hk with q | q
        · exact HN.out.2.2.2.2 k q
        · have := HB5.out.size; omega⟩
      have HBO7 : Hid (Both w7 s F' at' ct' ag' cg' X') := hid ⟨HBO6.out.st.upd HU7.out (fun k q hk => by subst q; exact HNF.out.1 hk), HBO6.out.rx.upd HU7.out (fun k hk q => HNF.out.2.1 k hk q), fun k q => by have := HBO6.out.fl k q; have := HU7.out.size; omega, fun k q => by have := HBO6.out.low k q; have := HU7.out.size; omega, HBO6.out.far⟩
      have HB7 := hid (HB6.out.trans (HU7.out.below HB6.out.size (fun k _ q => by have := HGE.out; omega)))
      clear x0 x1 f0 f1
      go_wp2_with fail
      go_roundw
      case rel => exact ⟨j + 1, _, _, _, _, _, _, by go_num, by omega, HBO7, HX7, HNF, HB7⟩
      case measure => simp [intOf]; omega
    · have j1 : ¬ (j : Int) < (L.length : Int) := by omega
      obtain ⟨w0, hw0⟩ : ∃ w0, w0 = wr := ⟨_, rfl⟩
      subst hw0
      have HBX0 := HBX
      have HBO0 := HBO
      have HB0 := HB
      have HN0 := HN
      have HJ := hid hj
      go_wp2_with fail
      refine (stall_Copy w0 HBO0.out.st).mono ?_
      rintro e wC ⟨s', G, rfl, hsC, hG, hbC⟩
      have HSC := hid (hsC.weaken (G := fun k => w0.heap.size ≤ k ∧ k < wC.heap.size) (fun k q q2 => ⟨hG k q, q2⟩))
      have HBC := hid hbC
      have HXC := hid (HBX0.out.below hbC)
      clear hsC hG hbC
      have x0 : wC.cell? ⟨bX, 0, none⟩ = some (.slice at_ X.tills.length ct) := by rw [HXC.out.cell]; rfl
      have x1 : wC.cell? ⟨bX, 1, none⟩ = some (.slice ag X.goods.length cg) := by rw [HXC.out.cell]; rfl
      go_upto_region 14 with fail
      clear x0 x1
      obtain ⟨w2, hw2⟩ : ∃ w2, w2 = wC.alloc (.cells #[.slice at_ X.tills.length ct, .slice ag X.goods.length cg] 46) := ⟨_, rfl⟩
      rw [← hw2]
      obtain ⟨bY, hbY⟩ : ∃ b, b = wC.heap.size := ⟨_, rfl⟩
      rw [← hbY]
      have hb2 : Below wC.heap.size wC w2 := by rw [hw2]; exact Below.new _ _
      have HX2 := hid (show Blk w2 bY #[.slice at_ X.tills.length ct, .slice ag X.goods.length cg] by rw [hw2, hbY]; exact Blk.new wC _ _)
      have HB2 := hid (Below.next HBC.out hb2)
      have HBY : Hid (Both w2 s' (fun k => w0.heap.size ≤ k ∧ k < wC.heap.size) at_ ct ag cg X) := hid ⟨HSC.out.below hb2, (HBO0.out.rx.below HBC.out).below hb2, fun k q => by have := hb2.size; omega, fun k q => by have := HBO0.out.low k q; have := HB2.out.size; omega, fun k q z => by have := HBO0.out.low k q; omega⟩
      have HNY : Hid (¬ (w0.heap.size ≤ bY ∧ bY < wC.heap.size) ∧ (∀ k, (aB at_ k ∨ aB ag k) → k ≠ bY) ∧ X.tills.length ≤ 60 + 0 ∧ X.goods.length ≤ 60 + 0 ∧ (∀ k, (w0.heap.size ≤ k ∧ k < wC.heap.size) → w0.heap.size ≤ k)) := hid ⟨by omega, fun k q => by have := HBO0.out.low k q; have := HBC.out.size; omega, by have := HN0.out.2.2.1; have := HJ.out; omega, by have := HN0.out.2.2.2.1; have := HJ.out; omega, fun k q => q.1⟩
      have HGY : Hid (w0.heap.size ≤ bY) := hid (by rw [hbY]; exact HBC.out.size)
      clear hw2 hbY hb2 HBO HBX HN HB HGE hj j1
      have HGE := HGY
      obtain ⟨X0, hX0⟩ : ∃ X0, X0 = X := ⟨_, rfl⟩
      go_wp2_with fail
      go_loopw [53] (fun v53 wr => PlaysO w0 s' bY M.length 60 v53 wr) (fun v53 _ => M.length - (intOf v53).toNat)
      case atStart => exact ⟨0, _, _, _, _, _, _, rfl, by omega, HBY, HX2, HNY, HB2⟩
      case round =>
        clear HX2 HBY HNY HB2
        obtain ⟨i, Y, FY, aty, cty, agy, cgy, rfl, hi, HBO, HBX, HN, HB⟩ := hrel
        by_cases hlt : i < M.length
        · have i1 : (i : Int) < (M.length : Int) := by omega
          have i0 : (0 : Int) ≤ (i : Int) := by omega
          obtain ⟨o, hp⟩ : ∃ o, M[i]? = some o := ⟨_, List.getElem?_eq_getElem hlt⟩
          obtain ⟨bo, off, rfl, q0, q1, q2, q3, hh63, ht63, -⟩ := HMM.out.opS (Below.next HB0.out HB.out) hp
          obtain ⟨ok, oh, ot, op⟩ := o
          simp only at q0 q1 q2 q3 hh63 ht63
          obtain ⟨Y', hY'⟩ : ∃ Y', stepX Y ⟨ok, oh, ot, op⟩ = Y' := ⟨_, rfl⟩
          have HXN := hid hY'
          have HLEN := hid (show Y'.tills.length ≤ Y.tills.length + 1 ∧ Y'.goods.length ≤ Y.goods.length + 1 by rw [← hY']; exact stepX_len Y _)
          have HH63 := hid hh63
          have HT63 := hid ht63
          clear hp hY' hh63 ht63
          go_upto_region 17 with fail
          obtain ⟨w5, hw5⟩ : ∃ w5, w5 = wr.alloc (.cells #[.int .i64 ok, .int .i64 oh, .int .i64 ot, .int .i64 op] 27) := ⟨_, rfl⟩
          rw [← hw5]
          have hb5 : Below wr.heap.size wr w5 := by rw [hw5]; exact Below.new _ _
          obtain ⟨bb, hbb⟩ : ∃ bb, bb = wr.heap.size := ⟨_, rfl⟩
          rw [← hbb]
          have HO5 : Hid (Blk w5 bb #[.int .i64 ok, .int .i64 oh, .int .i64 ot, .int .i64 op]) := hid (by rw [hw5, hbb]; exact Blk.new _ _ _)
          have HX5 := hid (HBX.out.below hb5)
          have HBO5 : Hid (Both w5 s' FY aty cty agy cgy Y) := hid ⟨HBO.out.st.below hb5, HBO.out.rx.below hb5, fun k q => by have := HBO.out.fl k q; have := hb5.size; omega, fun k q => by have := HBO.out.low k q; have := hb5.size; omega, HBO.out.far⟩
          have HB5 := hid (Below.next HB.out hb5)
          have HZ : Hid (¬ FY bb ∧ bY ≠ bb ∧ wr.heap.size = bb) := hid ⟨fun q => by have := HBO.out.fl _ q; omega, by have := HBX.out.lt; omega, hbb.symm⟩
          clear hw5 hb5 hbb q0 q1 q2 q3
          have x0 : w5.cell? ⟨bY, 0, none⟩ = some (.slice aty Y.tills.length cty) := by rw [HX5.out.cell]; rfl
          have x1 : w5.cell? ⟨bY, 1, none⟩ = some (.slice agy Y.goods.length cgy) := by rw [HX5.out.cell]; rfl
          have cx0 : w5.cell? ⟨bb, 0, none⟩ = some (.int .i64 ok) := by rw [HO5.out.cell]; rfl
          have cx1 : w5.cell? ⟨bb, 1, none⟩ = some (.int .i64 oh) := by rw [HO5.out.cell]; rfl
          have cx2 : w5.cell? ⟨bb, 2, none⟩ = some (.int .i64 ot) := by rw [HO5.out.cell]; rfl
          have cx3 : w5.cell? ⟨bb, 3, none⟩ = some (.int .i64 op) := by rw [HO5.out.cell]; rfl
          go_wp2_with fail
          refine (law23_step w5 HBO5.out (by have := HN.out.2.2.1; omega) (by have := HN.out.2.2.2.1; omega) ⟨ok, oh, ot, op⟩ HH63.out HT63.out HXN.out).mono ?_
          rintro e w6 ⟨FY', at', cty', agy', cgy', rfl, hbo6, hu6, hF6, hr6⟩
          have HBO6 := hid hbo6
          have HX6 := hid (HX5.out.upd hu6 HN.out.1)
          have HR6 := hid hr6
          have HF6 := hid hF6
          have HB6 := hid (HB5.out.trans (hu6.below HB5.out.size (fun k _ q => HN.out.2.2.2.2 k q)))
          clear hbo6 hu6 hF6 hr6 x0 x1 cx0 cx1 cx2 cx3
          have x0 : w6.cell? ⟨bY, 0, none⟩ = some (.slice aty Y.tills.length cty) := by rw [HX6.out.cell]; rfl
          have x1 : w6.cell? ⟨bY, 1, none⟩ = some (.slice agy Y.goods.length cgy) := by rw [HX6.out.cell]; rfl
          have f0 : w6.frozen? ⟨bY, 0, none⟩ = false := HX6.out.unfrozen 0
          have f1 : w6.frozen? ⟨bY, 1, none⟩ = false := HX6.out.unfrozen 1
          go_upto_region 19 with fail
          have HX7 : Hid (Blk ((w6.setCell ⟨bY, 0, none⟩ (.slice at' Y'.tills.length cty')).setCell ⟨bY, 1, none⟩ (.slice agy' Y'.goods.length cgy')) bY #[.slice at' Y'.tills.length cty', .slice agy' Y'.goods.length cgy']) := hid (by simpa using (HX6.out.set 0 (.slice at' Y'.tills.length cty')).set 1 (.slice agy' Y'.goods.length cgy'))
          have HU7 := hid ((Upd.setCell w6 bY 0 (.slice at' Y'.tills.length cty')).trans (Upd.setCell _ bY 1 (.slice agy' Y'.goods.length cgy')) (fun _ _ q => q))
          generalize World.setCell (World.setCell w6 _ _) _ _ = w7 at HX7 HU7
          have HNF : Hid (¬ FY' bY ∧ (∀ k, (aB at' k ∨ aB agy' k) → k ≠ bY) ∧ Y'.tills.length ≤ 60 + (i + 1) ∧ Y'.goods.length ≤ 60 + (i + 1) ∧ (∀ k, FY' k → w0.heap.size ≤ k)) := hid ⟨fun q => by
            rcases HF6.out _ q with q | q
            · exact HN.out.1 q
            · have := HX5.out.lt; omega, fun k hk q => by
            rcases HR6.out k hk with q2 | q2
            · exact HN.out.2.1 k q2 q
            · have := HX5.out.lt; omega, by have := HLEN.out.1; have := HN.out.2.2.1; omega, by have := HLEN.out.2; have := HN.out.2.2.2.1; omega, fun k hk => by
            rcases HF6.out _ hk with q | q
            · exact HN.out.2.2.2.2 k q
            · have := HB5.out.size; omega⟩
          have HBO7 : Hid (Both w7 s' FY' at' cty' agy' cgy' Y') := hid ⟨HBO6.out.st.upd HU7.out (fun k q hk => by subst q; exact HNF.out.1 hk), HBO6.out.rx.upd HU7.out (fun k hk q => HNF.out.2.1 k hk q), fun k q => by have := HBO6.out.fl k q; have := HU7.out.size; omega, fun k q => by have := HBO6.out.low k q; have := HU7.out.size; omega, HBO6.out.far⟩
          have HB7 := hid (HB6.out.trans (HU7.out.below HB6.out.size (fun k _ q => by have := HGE.out; omega)))
          clear x0 x1 f0 f1
          go_wp2_with fail
          go_roundw
          case rel => exact ⟨i + 1, _, _, _, _, _, _, by go_num, by omega, HBO7, HX7, HNF, HB7⟩
          case measure => simp [intOf]; omega
        · have i1 : ¬ (i : Int) < (M.length : Int) := by omega
          have HXR := hid (HBX0.out.below HB.out)
          have HSR := hid (HBO0.out.st.below HB.out)
          have HRR := hid (HBO0.out.rx.below HB.out)
          have HSX : Hid (sumT X.tills ≤ 4611686018427387904) := hid (sumB HSR.out (by have := HN0.out.2.2.1; have := HJ.out; omega))
          have HSY : Hid (sumT Y.tills ≤ 4611686018427387904) := hid (sumB HBO.out.st (by have := HN.out.2.2.1; omega))
          have x0 : wr.cell? ⟨bX, 0, none⟩ = some (.slice at_ X.tills.length ct) := by rw [HXR.out.cell]; rfl
          have x1 : wr.cell? ⟨bX, 1, none⟩ = some (.slice ag X.goods.length cg) := by rw [HXR.out.cell]; rfl
          go_wp2_with fail
          refine (law23_same wr HSR.out HRR.out HSX.out).mono ?_
          rintro e w8 ⟨rfl, hb8⟩
          have HX8 := hid (HBX.out.below hb8)
          have HS8 := hid (HBO.out.st.below hb8)
          have HR8 := hid (HBO.out.rx.below hb8)
          have HB8 := hid (Below.next HB.out hb8)
          clear hb8 x0 x1
          have x0 : w8.cell? ⟨bY, 0, none⟩ = some (.slice aty Y.tills.length cty) := by rw [HX8.out.cell]; rfl
          have x1 : w8.cell? ⟨bY, 1, none⟩ = some (.slice agy Y.goods.length cgy) := by rw [HX8.out.cell]; rfl
          go_wp2_with fail
          refine (law23_same w8 HS8.out HR8.out HSY.out).mono ?_
          rintro e w9 ⟨rfl, hb9⟩
          have HB9 := hid (Below.next HB8.out hb9)
          clear hb9 x0 x1
          go_wp2_with fail
          refine (law23_awake w9).mono ?_
          rintro e wE ⟨rfl, hbE⟩
          have HBE := hid (Below.next HB0.out (Below.next HB9.out hbE))
          clear hbE
          go_wp2_with fail
          go_ret
          exact ⟨rfl, HBE.out⟩
set_option maxRecDepth 100000 in
set_option maxHeartbeats 1000000 in
theorem law23_CopiesFar (L : List OpS) (a : Option Addr) (c : Nat) (M : List OpS) (am : Option Addr) (cm : Nat) (w : World) (h63 : L.length ≤ 9223372036854775807) (h63m : M.length ≤ 9223372036854775807) (h : 60 < L.length ∨ 60 < M.length) :
    Calls Try.prog 6 #[.slice a L.length c, .slice am M.length cm] w fun e w' => e = .returned (.bool true) ∧ Below w.heap.size w w' := by
  by_cases h1 : 60 < L.length
  · have i2 : (60 : Int) < (L.length : Int) := by omega
    clear h h1
    go_enter Try.func6, Try.ntmps6
    go_wp2_with fail
    refine (stall_New w).mono ?_
    rintro e w1 ⟨s, rfl, h1, hb1⟩
    have HB1 := hid hb1
    clear h1 hb1
    go_wp2_with fail
    refine (law23_awake w1).mono ?_
    rintro e w7 ⟨rfl, hb7⟩
    have HB7 := hid (Below.next HB1.out hb7)
    clear hb7
    go_wp2_with fail
    go_ret
    exact ⟨rfl, HB7.out⟩
  · have i2 : ¬ (60 : Int) < (L.length : Int) := by omega
    have i3 : (60 : Int) < (M.length : Int) := by omega
    clear h h1
    go_enter Try.func6, Try.ntmps6
    go_wp2_with fail
    refine (stall_New w).mono ?_
    rintro e w1 ⟨s, rfl, h1, hb1⟩
    have HB1 := hid hb1
    clear h1 hb1
    go_wp2_with fail
    refine (law23_awake w1).mono ?_
    rintro e w7 ⟨rfl, hb7⟩
    have HB7 := hid (Below.next HB1.out hb7)
    clear hb7
    go_wp2_with fail
    go_ret
    exact ⟨rfl, HB7.out⟩
set_option maxRecDepth 100000 in
theorem StallCopies_walk {H : Type} {enc : TypeId × Value → H} {b0 b1 : Nat} {d0 d1 : DataW H} {p0 p1 : List MemPlace} (v0 v1 : Value) (w : World) (ok0 : Value.okWide Try.prog w .any b0 22 v0) (k0 : DataW.Trod enc Try.prog w 0 (fun _ => true) true 22 v0 d0 p0)
    (ok1 : Value.okWide Try.prog w .any b1 22 v1) (k1 : DataW.Trod enc Try.prog w 0 (fun _ => true) true 22 v1 d1 p1) :
    Calls Try.prog 6 #[v0, v1] w fun e w' => e = .returned (.bool true) ∧ Below w.heap.size w w' := by
  obtain ⟨L, hL⟩ := open_ops23 ok0 k0
  obtain ⟨M, hM⟩ := open_ops23 ok1 k1
  clear ok0 k0 ok1 k1
  have HL := hid hL
  have HM := hid hM
  obtain ⟨a, c, rfl, hlc, hcm, -⟩ := hL
  obtain ⟨am, cm, rfl, hlc2, hcm2, -⟩ := hM
  by_cases h : L.length ≤ 60 ∧ M.length ≤ 60
  · exact law23_Copies L a c M am cm w HL.out HM.out h.1 h.2
  · exact law23_CopiesFar L a c M am cm w (by omega) (by omega) (by omega)
end Go.Proofs.Ytajfjgekcjkedaa
end
section
/- The law StallCopies returns true for every input, and what it is handed reads behind the call as it read before: no condition. (The frame follows the kit's proof-skeleton.) -/
namespace Go.Proofs.Ytajfjgekcjkedaa.stallCopies
open Go.ChangeShapes Go.WideShapes Go.ChangeAt Go.RowKit
open Go.ChangeMaps (open_string shut_string)
set_option linter.unusedVariables false

theorem own : ownKnob Try.prog.godebug = none := by kernel_rfl
theorem laidOut : laidOutB Try.prog = true := by kernel_rfl

/-! ### the row's step -/
set_option maxRecDepth 100000 in
theorem lifted (os : Os) (started : os.Started) (H : Type) (enc : TypeId × Value → H) :
    ReturnsInHanded {} Try.checked os 6 .any (Rows.stallCopiesSpec.pre6 enc Try.prog Try.f6 Rows.stallCopiesRow.domain false) (Rows.stallCopiesSpec.post enc Try.prog Try.f6 false true false false) := by
  refine returnsInHanded_of_change (C := Try.checked) own started (by kernel_rfl) Try.func6
    (ChangeSpec.witness6 (enc := enc) (C := Try.checked) false ⟨#[], #[.slice none 0 0, .slice none 0 0], []⟩ 8 (by kernel_rfl) (by kernel_rfl) (by kernel_rfl) (by kernel_rfl)) ?_
  intro W base args ds gs before hval0 hW hcnd _
  have hval : ∀ (j : Nat) t v, Try.f6.params[j]? = some t → args[j]? = some v → Value.okWide Try.prog W .any base t v := hval0
  have hW' := hW
  obtain ⟨p, q, hA0, hV, rfl, hfz, hnd⟩ := hW
  have hA : DataW.TrodAll enc Try.prog W 0 (fun _ => true) true Try.f6.params.toList args.toList ds p := hA0
  rw [Try.params6] at hA hval
  obtain ⟨v0, vs0, d0, ds0, p0, q0, hargs, rfl, rfl, h0, r0⟩ := trodAll_cons hA
  obtain ⟨v1, vs1, d1, ds1, p1, q1, rfl, rfl, rfl, h1, r1⟩ := trodAll_cons r0
  obtain ⟨rfl, rfl, rfl⟩ := trodAll_nil r1
  obtain rfl : args = #[v0, v1] := by cases args; simp_all
  obtain ⟨rfl, rfl⟩ := trodVars_none hV
  have k0 := h0
  have lt0 : ∀ x ∈ p0, x.block < W.heap.size := by obtain ⟨m, hm⟩ := k0; exact DataW.trod_lt m _ _ _ hm
  have ok0 := hval 0 22 v0 rfl rfl
  have k1 := h1
  have lt1 : ∀ x ∈ p1, x.block < W.heap.size := by obtain ⟨m, hm⟩ := k1; exact DataW.trod_lt m _ _ _ hm
  have ok1 := hval 1 22 v1 rfl rfl
  clear hA0 hval0
  refine (StallCopies_walk v0 v1 W ok0 k0 ok1 k1).mono fun e W' ⟨he, bel⟩ => ?_
  subst he
  exact ⟨_, rfl, _, _, _, [], _, [], hW', trodAll_mk1 (shut_bool Try.underlying4 _), (trodAll_cons_mk (Below.trod laidOut (by kernel_rfl) (of_decide_eq_true (by kernel_rfl)) k0 bel lt0) (trodAll_cons_mk (Below.trod laidOut (by kernel_rfl) (of_decide_eq_true (by kernel_rfl)) k1 bel lt1) trodAll_mk0)), rfl, bel.frame _, fun h => by cases h⟩

theorem over : Rows.stallCopiesRow.holds Try.pinned (OpenSpec.ofChange Rows.stallCopiesSpec) :=
  OpenClaim.holds_of_wide 6 Try.f6 rfl rfl rfl rfl rfl rfl rfl ⟨rfl, rfl, rfl, rfl, rfl⟩ rfl rfl rfl rfl rfl (by kernel_rfl) Try.func6 (by kernel_rfl)
    (of_decide_eq_true (by kernel_rfl)) (by unfold Func.isWrapper; first | (rw [if_pos (by decide +kernel)]; kernel_rfl) | (rw [if_neg (by decide +kernel)]; exact ⟨rfl, rfl⟩))
    (fun os started H enc _ => lifted os started H enc)

/-- the statement -/
theorem proved : Rows.StallCopiesSaid := over
#print axioms proved
end Go.Proofs.Ytajfjgekcjkedaa.stallCopies
end
