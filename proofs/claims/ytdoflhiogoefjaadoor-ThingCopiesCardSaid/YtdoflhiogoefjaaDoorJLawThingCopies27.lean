/- Joined texts, in this order: ThingCopies, LawThingCopies. Each one's first remark says what it proves; no condition beyond those that its theorems name. -/
import Derived.Test.YtdoflhiogoefjaaDoorJLawThingCopies24
import Derived.Test.YtdoflhiogoefjaaDoorJLawThingCopies26
import Derived.Test.YtdoflhiogoefjaaDoorRows
import Derived.WalkKit
import Derived.ProofKit
import Derived.OpenShut
import Derived.ShutString
import Derived.ChangeOld
import Derived.Below
import Derived.Test.YtdoflhiogoefjaaDoorCards
import Derived.Test.YtdoflhiogoefjaaDoorTie
import Derived.LaidMore
import Derived.Lay
import Derived.Stop.Joined
import Derived.SevenTiedAt
section
/- Law ThingCopies. -/
namespace Go.Proofs.YtdoflhiogoefjaaDoor
open Go.RowKit
open Go.Lib (hid)
set_option linter.unusedVariables false

/-- both, and the law's own x, where m things may be there already -/
def PlaysC (w : World) (s bX n m : Nat) (v30 : Value) (wr : World) : Prop :=
  ∃ (j : Nat) (X : ThX) (F : Nat → Prop) (a : Option Addr) (c : Nat), v30 = .int .i64 (j : Int) ∧ j ≤ n ∧ Hid (BothT wr s F a c X) ∧ Hid (Blk wr bX #[.slice a X.L.length c, .int .i64 X.nx]) ∧ Hid (¬ F bX ∧ (∀ k, aB a k → k ≠ bX) ∧ X.L.length ≤ m + j ∧ X.nx ≤ ((m + j : Nat) : Int) + 1 ∧ (∀ k, F k → w.heap.size ≤ k)) ∧ Hid (Below w.heap.size w wr)
set_option maxRecDepth 100000 in
set_option maxHeartbeats 8000000 in
theorem law21_Copies (L : List OpT) (a : Option Addr) (c : Nat) (M : List OpT) (am : Option Addr) (cm : Nat) (w : World) (hl : SlE OpTE 7 w (.slice a L.length c) L) (hm : SlE OpTE 7 w (.slice am M.length cm) M) :
    Calls Tryd.prog 7 #[.slice a L.length c, .slice am M.length cm] w fun e w' => e = .returned (.bool true) ∧ Below w.heap.size w w' := by
  have HL := hid hl
  have HMM := hid hm
  clear hl hm
  go_enter Tryd.func7, Tryd.ntmps7
  go_wp2_with fail
  refine (thing_New w).mono ?_
  rintro e w1 ⟨s, rfl, h1, hb1⟩
  have H1 := hid h1
  have HB1 := hid hb1
  obtain ⟨bb, hbb⟩ : ∃ bb, smallT L 50 = bb := ⟨_, rfl⟩
  have HBB := hid hbb
  clear h1 hb1 hbb
  go_wp2_with fail
  refine (law21_small L 50 (by omega) _ w1 (HL.out.below opTKept HB1.out) bb HBB).mono ?_
  rintro e w2 ⟨rfl, hb2⟩
  have H2 := hid (H1.out.below hb2)
  have HB2 := hid (Below.next HB1.out hb2)
  clear hb2
  cases bb with
  | false =>
    go_wp2_with fail
    refine (law21_awake w2).mono ?_
    rintro e w9 ⟨rfl, hb9⟩
    have HB9 := hid (Below.next HB2.out hb9)
    clear hb9
    go_wp2_with fail
    go_ret
    exact ⟨rfl, HB9.out⟩
  | true =>
  obtain ⟨bb, hbb⟩ : ∃ bb, smallT M 50 = bb := ⟨_, rfl⟩
  have HBC := hid hbb
  clear hbb
  go_wp2_with fail
  refine (law21_small M 50 (by omega) _ w2 (HMM.out.below opTKept HB2.out) bb HBC).mono ?_
  rintro e wS ⟨rfl, hbS⟩
  have HS := hid (H2.out.below hbS)
  have HBS := hid (Below.next HB2.out hbS)
  clear hbS
  cases bb with
  | false =>
    go_wp2_with fail
    refine (law21_awake wS).mono ?_
    rintro e w9 ⟨rfl, hb9⟩
    have HB9 := hid (Below.next HBS.out hb9)
    clear hb9
    go_wp2_with fail
    go_ret
    exact ⟨rfl, HB9.out⟩
  | true =>
  have HSM : Hid (L.all okT = true ∧ L.length ≤ 50) := hid (by have := HBB.out; unfold smallT at this; simpa using this)
  have HSM2 : Hid (M.all okT = true ∧ M.length ≤ 50) := hid (by have := HBC.out; unfold smallT at this; simpa using this)
  go_upto_region 5 with fail
  obtain ⟨w3, hw3⟩ : ∃ w3, w3 = wS.alloc (.cells #[.slice none 0 0, .int .i64 1] 34) := ⟨_, rfl⟩
  rw [← hw3]
  obtain ⟨bX, hbX⟩ : ∃ b, b = wS.heap.size := ⟨_, rfl⟩
  rw [← hbX]
  have hb3 : Below wS.heap.size wS w3 := by rw [hw3]; exact Below.new _ _
  have HX3 := hid (show Blk w3 bX #[.slice none 0 0, .int .i64 1] by rw [hw3, hbX]; exact Blk.new wS _ _)
  have HB3 := hid (Below.next HBS.out hb3)
  have HBO : Hid (BothT w3 s (fun k => w.heap.size ≤ k ∧ k < wS.heap.size) none 0 ⟨[], 1⟩) := hid ⟨(HS.out.weaken (fun k q q2 => ⟨q, q2⟩)).below hb3, ⟨SlTh.nil _, by simp⟩, fun k q => by have := hb3.size; omega, fun k q => by simp [aB, Value.ownBlock] at q, fun k q => by simp [aB, Value.ownBlock] at q⟩
  have HN : Hid (¬ (w.heap.size ≤ bX ∧ bX < wS.heap.size) ∧ (∀ k, aB none k → k ≠ bX) ∧ (0 : Nat) ≤ 0 + 0 ∧ (1 : Int) ≤ ((0 + 0 : Nat) : Int) + 1 ∧ (∀ k, (w.heap.size ≤ k ∧ k < wS.heap.size) → w.heap.size ≤ k)) := hid ⟨by omega, fun k q => by simp [aB, Value.ownBlock] at q, Nat.le_refl _, by omega, fun k q => q.1⟩
  have HGE : Hid (w.heap.size ≤ bX) := hid (by rw [hbX]; exact HBS.out.size)
  have h50 : L.length ≤ 50 := HSM.out.2
  have h50m : M.length ≤ 50 := HSM2.out.2
  clear hw3 hbX hb3
  go_wp2_with fail
  go_loopw [35] (fun v35 wr => PlaysC w s bX L.length 0 v35 wr) (fun v35 _ => L.length - (intOf v35).toNat)
  case atStart => exact ⟨0, ⟨[], 1⟩, _, none, 0, rfl, by omega, HBO, HX3, HN, HB3⟩
  case round =>
    clear H1 HB1 HX3 HBO HN HB3 H2 HB2 HS HBS
    obtain ⟨j, X, F, a4, c4, rfl, hj, HBO, HBX, HN, HB⟩ := hrel
    by_cases hlt : j < L.length
    · have j1 : (j : Int) < (L.length : Int) := by omega
      have j0 : (0 : Int) ≤ (j : Int) := by omega
      obtain ⟨o, hp⟩ : ∃ o, L[j]? = some o := ⟨_, List.getElem?_eq_getElem hlt⟩
      have HMEM := hid (List.all_eq_true.1 HSM.out.1 o (List.mem_of_getElem? hp))
      obtain ⟨bo, off, rfl, q0, q1, q2, q3, q4, q5, q6, ho63⟩ := HL.out.opT HB.out hp
      obtain ⟨ok, on, oo, os, ok1, oh1, os1⟩ := o
      simp only at q0 q1 q2 q3 q4 q5 q6 ho63
      obtain ⟨X', hX'⟩ : ∃ X', stepTX X ⟨ok, on, oo, os, (ok1, oh1, os1)⟩ = X' := ⟨_, rfl⟩
      have HXN := hid hX'
      have HLEN := hid (show X'.L.length ≤ X.L.length + 1 ∧ X'.nx ≤ X.nx + 1 by rw [← hX']; exact stepTX_len X _)
      have HO63 := hid ho63
      have HNM : Hid (os.length ≤ 60) := hid (by have := HMEM.out; unfold okT at this; simpa using this)
      clear hp hX' ho63
      go_upto_region 8 with fail
      obtain ⟨w5, hw5⟩ : ∃ w5, w5 = wr.alloc (.cells #[.int .i64 ok, .int .i64 on, .int .i64 oo, .string ⟨os.toArray⟩, .int .i64 ok1, .int .i64 oh1, .int .i64 os1] 36) := ⟨_, rfl⟩
      rw [← hw5]
      have hb5 : Below wr.heap.size wr w5 := by rw [hw5]; exact Below.new _ _
      obtain ⟨bb, hbb⟩ : ∃ bb, bb = wr.heap.size := ⟨_, rfl⟩
      rw [← hbb]
      have HO5 : Hid (Blk w5 bb #[.int .i64 ok, .int .i64 on, .int .i64 oo, .string ⟨os.toArray⟩, .int .i64 ok1, .int .i64 oh1, .int .i64 os1]) := hid (by rw [hw5, hbb]; exact Blk.new _ _ _)
      have HX5 := hid (HBX.out.below hb5)
      have HBO5 : Hid (BothT w5 s F a4 c4 X) := hid (HBO.out.below hb5)
      have HB5 := hid (Below.next HB.out hb5)
      have HZ : Hid (¬ F bb ∧ bX ≠ bb ∧ wr.heap.size = bb) := hid ⟨fun q => by have := HBO.out.fl _ q; omega, by have := HBX.out.lt; omega, hbb.symm⟩
      clear hw5 hb5 hbb q0 q1 q2 q3 q4 q5 q6
      have x0 : w5.cell? ⟨bX, 0, none⟩ = some (.slice a4 X.L.length c4) := by rw [HX5.out.cell]; rfl
      have x1 : w5.cell? ⟨bX, 1, none⟩ = some (.int .i64 X.nx) := by rw [HX5.out.cell]; rfl
      have cx0 : w5.cell? ⟨bb, 0, none⟩ = some (.int .i64 ok) := by rw [HO5.out.cell]; rfl
      have cx1 : w5.cell? ⟨bb, 1, none⟩ = some (.int .i64 on) := by rw [HO5.out.cell]; rfl
      have cx2 : w5.cell? ⟨bb, 2, none⟩ = some (.int .i64 oo) := by rw [HO5.out.cell]; rfl
      have cx3 : w5.cell? ⟨bb, 3, none⟩ = some (.string ⟨os.toArray⟩) := by rw [HO5.out.cell]; rfl
      have cx4 : w5.cell? ⟨bb, 4, none⟩ = some (.int .i64 ok1) := by rw [HO5.out.cell]; rfl
      have cx5 : w5.cell? ⟨bb, 5, none⟩ = some (.int .i64 oh1) := by rw [HO5.out.cell]; rfl
      have cx6 : w5.cell? ⟨bb, 6, none⟩ = some (.int .i64 os1) := by rw [HO5.out.cell]; rfl
      go_wp2_with fail
      refine (law21_step w5 HBO5.out (by have := HN.out.2.2.1; have := HSM.out.2; omega) (by have := HN.out.2.2.2.1; have := HSM.out.2; omega) ⟨ok, on, oo, os, (ok1, oh1, os1)⟩ (by have := HNM.out; show os.length ≤ _; omega) HO63.out HXN.out).mono ?_
      rintro e w6 ⟨F', a', c', rfl, hbo6, hu6, hF6, hr6⟩
      have HBO6 := hid hbo6
      have HX6 := hid (HX5.out.upd hu6 HN.out.1)
      have HO6 := hid (HO5.out.upd hu6 HZ.out.1)
      have HR6 := hid hr6
      have HF6 := hid hF6
      have HZ6 := hid hu6.size
      have HB6 := hid (HB5.out.trans (hu6.below HB5.out.size (fun k _ q => HN.out.2.2.2.2 k q)))
      clear hbo6 hu6 hF6 hr6 x0 x1 cx0 cx1 cx2 cx3 cx4 cx5 cx6
      have x0 : w6.cell? ⟨bX, 0, none⟩ = some (.slice a4 X.L.length c4) := by rw [HX6.out.cell]; rfl
      have x1 : w6.cell? ⟨bX, 1, none⟩ = some (.int .i64 X.nx) := by rw [HX6.out.cell]; rfl
      have f0 : w6.frozen? ⟨bX, 0, none⟩ = false := HX6.out.unfrozen 0
      have f1 : w6.frozen? ⟨bX, 1, none⟩ = false := HX6.out.unfrozen 1
      go_upto_region 9 with fail
      have HX7 : Hid (Blk ((w6.setCell ⟨bX, 0, none⟩ (.slice a' X'.L.length c')).setCell ⟨bX, 1, none⟩ (.int .i64 X'.nx)) bX #[.slice a' X'.L.length c', .int .i64 X'.nx]) := hid (by simpa using (HX6.out.set 0 (.slice a' X'.L.length c')).set 1 (.int .i64 X'.nx))
      have HU7 := hid ((Upd.setCell w6 bX 0 (.slice a' X'.L.length c')).trans (Upd.setCell _ bX 1 (.int .i64 X'.nx)) (fun _ _ q => q))
      generalize World.setCell (World.setCell w6 _ _) _ _ = w7 at HX7 HU7
      have HNF : Hid (¬ F' bX ∧ (∀ k, aB a' k → k ≠ bX) ∧ (∀ k, F' k → w.heap.size ≤ k)) := hid ⟨fun q => by
        rcases HF6.out _ q with q | q
        · exact HN.out.1 q
        · have := HX5.out.lt; omega, fun k hk q => by
        rcases HR6.out k hk with q2 | q2
        · exact HN.out.2.1 k q2 q
        · have := HX5.out.lt; omega, fun k hk => by
        rcases HF6.out _ hk with q | q
        · exact HN.out.2.2.2.2 k q
        · have := HB5.out.size; omega⟩
      have HBO7 : Hid (BothT w7 s F' a' c' X') := hid ⟨HBO6.out.st.upd HU7.out (fun k q hk => by subst q; exact HNF.out.1 hk), HBO6.out.rx.upd HU7.out (fun k hk q => HNF.out.2.1 k hk q), fun k q => by have := HBO6.out.fl k q; have := HU7.out.size; omega, fun k q => by have := HBO6.out.low k q; have := HU7.out.size; omega, HBO6.out.far⟩
      have HO7 := hid (HO6.out.upd HU7.out (fun q => HZ.out.2.1 q.symm))
      have HB7 := hid (HB6.out.trans (HU7.out.below HB6.out.size (fun k _ q => by have := HGE.out; omega)))
      clear x0 x1 f0 f1
      go_wp2_with fail
      go_roundw
      case rel => exact ⟨j + 1, X', F', a', c', by go_num, by omega, HBO7, HX7, hid ⟨HNF.out.1, HNF.out.2.1, by have := HN.out.2.2.1; have := HLEN.out.1; omega, by have := HN.out.2.2.2.1; have := HLEN.out.2; omega, HNF.out.2.2⟩, HB7⟩
      case measure => simp [intOf]; omega
    · have j1 : ¬ (j : Int) < (L.length : Int) := by omega
      obtain ⟨w0, hw0⟩ : ∃ w0, w0 = wr := ⟨_, rfl⟩
      subst hw0
      have HBX0 := HBX
      have HBO0 := HBO
      have HB0 := HB
      have HN0 := HN
      have HJ := hid (And.intro hj h50)
      go_wp2_with fail
      refine (thing_Copy w0 HBO0.out.st (by have := HN0.out.2.2.1; omega)).mono ?_
      rintro e wC ⟨s', G, rfl, hsC, hG, hbC⟩
      have HSC := hid (hsC.weaken (G := fun k => w0.heap.size ≤ k ∧ k < wC.heap.size) (fun k q q2 => ⟨hG k q, q2⟩))
      have HBC := hid hbC
      have HXC := hid (HBX0.out.below hbC)
      clear hsC hG hbC
      have x0 : wC.cell? ⟨bX, 0, none⟩ = some (.slice a4 X.L.length c4) := by rw [HXC.out.cell]; rfl
      have x1 : wC.cell? ⟨bX, 1, none⟩ = some (.int .i64 X.nx) := by rw [HXC.out.cell]; rfl
      go_upto_region 14 with fail
      clear x0 x1
      obtain ⟨w2, hw2⟩ : ∃ w2, w2 = wC.alloc (.cells #[.slice a4 X.L.length c4, .int .i64 X.nx] 34) := ⟨_, rfl⟩
      rw [← hw2]
      obtain ⟨bY, hbY⟩ : ∃ b, b = wC.heap.size := ⟨_, rfl⟩
      rw [← hbY]
      have hb2 : Below wC.heap.size wC w2 := by rw [hw2]; exact Below.new _ _
      have HX2 := hid (show Blk w2 bY #[.slice a4 X.L.length c4, .int .i64 X.nx] by rw [hw2, hbY]; exact Blk.new wC _ _)
      have HB2 := hid (Below.next HBC.out hb2)
      have HBY : Hid (BothT w2 s' (fun k => w0.heap.size ≤ k ∧ k < wC.heap.size) a4 c4 X) := hid ⟨HSC.out.below hb2, (HBO0.out.rx.below HBC.out).below hb2, fun k q => by have := hb2.size; omega, fun k q => by have := HBO0.out.low k q; have := HB2.out.size; omega, fun k q z => by have := HBO0.out.low k q; omega⟩
      have HNY : Hid (¬ (w0.heap.size ≤ bY ∧ bY < wC.heap.size) ∧ (∀ k, aB a4 k → k ≠ bY) ∧ X.L.length ≤ 50 + 0 ∧ X.nx ≤ ((50 + 0 : Nat) : Int) + 1 ∧ (∀ k, (w0.heap.size ≤ k ∧ k < wC.heap.size) → w0.heap.size ≤ k)) := hid ⟨by omega, fun k q => by have := HBO0.out.low k q; have := HBC.out.size; omega, by have := HN0.out.2.2.1; have := HJ.out; omega, by have := HN0.out.2.2.2.1; have := HJ.out; omega, fun k q => q.1⟩
      have HGY : Hid (w0.heap.size ≤ bY) := hid (by rw [hbY]; exact HBC.out.size)
      clear hw2 hbY hb2 HBO HBX HN HB HGE hj j1
      have HGE := HGY
      go_wp2_with fail
      go_loopw [54] (fun v54 wr => PlaysC w0 s' bY M.length 50 v54 wr) (fun v54 _ => M.length - (intOf v54).toNat)
      case atStart => exact ⟨0, _, _, _, _, rfl, by omega, HBY, HX2, HNY, HB2⟩
      case round =>
        clear HX2 HBY HNY HB2
        obtain ⟨j, Y, FY, ay, cy, rfl, hj, HBO, HBX, HN, HB⟩ := hrel
        by_cases hlt : j < M.length
        · have j1 : (j : Int) < (M.length : Int) := by omega
          have j0 : (0 : Int) ≤ (j : Int) := by omega
          obtain ⟨o, hp⟩ : ∃ o, M[j]? = some o := ⟨_, List.getElem?_eq_getElem hlt⟩
          have HMEM := hid (List.all_eq_true.1 HSM2.out.1 o (List.mem_of_getElem? hp))
          obtain ⟨bo, off, rfl, q0, q1, q2, q3, q4, q5, q6, ho63⟩ := HMM.out.opT (Below.next HB0.out HB.out) hp
          obtain ⟨ok, on, oo, os, ok1, oh1, os1⟩ := o
          simp only at q0 q1 q2 q3 q4 q5 q6 ho63
          obtain ⟨Y', hX'⟩ : ∃ Y', stepTX Y ⟨ok, on, oo, os, (ok1, oh1, os1)⟩ = Y' := ⟨_, rfl⟩
          have HXN := hid hX'
          have HLEN := hid (show Y'.L.length ≤ Y.L.length + 1 ∧ Y'.nx ≤ Y.nx + 1 by rw [← hX']; exact stepTX_len Y _)
          have HO63 := hid ho63
          have HNM : Hid (os.length ≤ 60) := hid (by have := HMEM.out; unfold okT at this; simpa using this)
          clear hp hX' ho63
          go_upto_region 17 with fail
          obtain ⟨w5, hw5⟩ : ∃ w5, w5 = wr.alloc (.cells #[.int .i64 ok, .int .i64 on, .int .i64 oo, .string ⟨os.toArray⟩, .int .i64 ok1, .int .i64 oh1, .int .i64 os1] 36) := ⟨_, rfl⟩
          rw [← hw5]
          have hb5 : Below wr.heap.size wr w5 := by rw [hw5]; exact Below.new _ _
          obtain ⟨bb, hbb⟩ : ∃ bb, bb = wr.heap.size := ⟨_, rfl⟩
          rw [← hbb]
          have HO5 : Hid (Blk w5 bb #[.int .i64 ok, .int .i64 on, .int .i64 oo, .string ⟨os.toArray⟩, .int .i64 ok1, .int .i64 oh1, .int .i64 os1]) := hid (by rw [hw5, hbb]; exact Blk.new _ _ _)
          have HX5 := hid (HBX.out.below hb5)
          have HBO5 : Hid (BothT w5 s' FY ay cy Y) := hid (HBO.out.below hb5)
          have HB5 := hid (Below.next HB.out hb5)
          have HZ : Hid (¬ FY bb ∧ bY ≠ bb ∧ wr.heap.size = bb) := hid ⟨fun q => by have := HBO.out.fl _ q; omega, by have := HBX.out.lt; omega, hbb.symm⟩
          clear hw5 hb5 hbb q0 q1 q2 q3 q4 q5 q6
          have x0 : w5.cell? ⟨bY, 0, none⟩ = some (.slice ay Y.L.length cy) := by rw [HX5.out.cell]; rfl
          have x1 : w5.cell? ⟨bY, 1, none⟩ = some (.int .i64 Y.nx) := by rw [HX5.out.cell]; rfl
          have cx0 : w5.cell? ⟨bb, 0, none⟩ = some (.int .i64 ok) := by rw [HO5.out.cell]; rfl
          have cx1 : w5.cell? ⟨bb, 1, none⟩ = some (.int .i64 on) := by rw [HO5.out.cell]; rfl
          have cx2 : w5.cell? ⟨bb, 2, none⟩ = some (.int .i64 oo) := by rw [HO5.out.cell]; rfl
          have cx3 : w5.cell? ⟨bb, 3, none⟩ = some (.string ⟨os.toArray⟩) := by rw [HO5.out.cell]; rfl
          have cx4 : w5.cell? ⟨bb, 4, none⟩ = some (.int .i64 ok1) := by rw [HO5.out.cell]; rfl
          have cx5 : w5.cell? ⟨bb, 5, none⟩ = some (.int .i64 oh1) := by rw [HO5.out.cell]; rfl
          have cx6 : w5.cell? ⟨bb, 6, none⟩ = some (.int .i64 os1) := by rw [HO5.out.cell]; rfl
          go_wp2_with fail
          refine (law21_step w5 HBO5.out (by have := HN.out.2.2.1; have := HSM2.out.2; omega) (by have := HN.out.2.2.2.1; have := HSM2.out.2; omega) ⟨ok, on, oo, os, (ok1, oh1, os1)⟩ (by have := HNM.out; show os.length ≤ _; omega) HO63.out HXN.out).mono ?_
          rintro e w6 ⟨FY', a', c', rfl, hbo6, hu6, hF6, hr6⟩
          have HBO6 := hid hbo6
          have HX6 := hid (HX5.out.upd hu6 HN.out.1)
          have HO6 := hid (HO5.out.upd hu6 HZ.out.1)
          have HR6 := hid hr6
          have HF6 := hid hF6
          have HZ6 := hid hu6.size
          have HB6 := hid (HB5.out.trans (hu6.below HB5.out.size (fun k _ q => HN.out.2.2.2.2 k q)))
          clear hbo6 hu6 hF6 hr6 x0 x1 cx0 cx1 cx2 cx3 cx4 cx5 cx6
          have x0 : w6.cell? ⟨bY, 0, none⟩ = some (.slice ay Y.L.length cy) := by rw [HX6.out.cell]; rfl
          have x1 : w6.cell? ⟨bY, 1, none⟩ = some (.int .i64 Y.nx) := by rw [HX6.out.cell]; rfl
          have f0 : w6.frozen? ⟨bY, 0, none⟩ = false := HX6.out.unfrozen 0
          have f1 : w6.frozen? ⟨bY, 1, none⟩ = false := HX6.out.unfrozen 1
          go_upto_region 19 with fail
          have HX7 : Hid (Blk ((w6.setCell ⟨bY, 0, none⟩ (.slice a' Y'.L.length c')).setCell ⟨bY, 1, none⟩ (.int .i64 Y'.nx)) bY #[.slice a' Y'.L.length c', .int .i64 Y'.nx]) := hid (by simpa using (HX6.out.set 0 (.slice a' Y'.L.length c')).set 1 (.int .i64 Y'.nx))
          have HU7 := hid ((Upd.setCell w6 bY 0 (.slice a' Y'.L.length c')).trans (Upd.setCell _ bY 1 (.int .i64 Y'.nx)) (fun _ _ q => q))
          generalize World.setCell (World.setCell w6 _ _) _ _ = w7 at HX7 HU7
          have HNF : Hid (¬ FY' bY ∧ (∀ k, aB a' k → k ≠ bY) ∧ (∀ k, FY' k → w0.heap.size ≤ k)) := hid ⟨fun q => by
            rcases HF6.out _ q with q | q
            · exact HN.out.1 q
            · have := HX5.out.lt; omega, fun k hk q => by
            rcases HR6.out k hk with q2 | q2
            · exact HN.out.2.1 k q2 q
            · have := HX5.out.lt; omega, fun k hk => by
            rcases HF6.out _ hk with q | q
            · exact HN.out.2.2.2.2 k q
            · have := HB5.out.size; omega⟩
          have HBO7 : Hid (BothT w7 s' FY' a' c' Y') := hid ⟨HBO6.out.st.upd HU7.out (fun k q hk => by subst q; exact HNF.out.1 hk), HBO6.out.rx.upd HU7.out (fun k hk q => HNF.out.2.1 k hk q), fun k q => by have := HBO6.out.fl k q; have := HU7.out.size; omega, fun k q => by have := HBO6.out.low k q; have := HU7.out.size; omega, HBO6.out.far⟩
          have HO7 := hid (HO6.out.upd HU7.out (fun q => HZ.out.2.1 q.symm))
          have HB7 := hid (HB6.out.trans (HU7.out.below HB6.out.size (fun k _ q => by have := HGE.out; omega)))
          have HBF7 := hid (HBO0.out.below HB7.out)
          have HXF7 := hid (HBX0.out.below HB7.out)
          have HLX : Hid (X.L.length ≤ 900) := hid (by have := HN0.out.2.2.1; have := HJ.out; omega)
          clear x0 x1 f0 f1
          have x0 : ∀ y, Below w7.heap.size w7 y → y.cell? ⟨bX, 0, none⟩ = some (.slice a4 X.L.length c4) := fun y hy => by rw [(HXF7.out.below hy).cell]; rfl
          have x1 : ∀ y, Below w7.heap.size w7 y → y.cell? ⟨bX, 1, none⟩ = some (.int .i64 X.nx) := fun y hy => by rw [(HXF7.out.below hy).cell]; rfl
          have cx4 : ∀ y, Below w7.heap.size w7 y → y.cell? ⟨bb, 4, none⟩ = some (.int .i64 ok1) := fun y hy => by rw [(HO7.out.below hy).cell]; rfl
          have cx5 : ∀ y, Below w7.heap.size w7 y → y.cell? ⟨bb, 5, none⟩ = some (.int .i64 oh1) := fun y hy => by rw [(HO7.out.below hy).cell]; rfl
          have cx6 : ∀ y, Below w7.heap.size w7 y → y.cell? ⟨bb, 6, none⟩ = some (.int .i64 os1) := fun y hy => by rw [(HO7.out.below hy).cell]; rfl
          have hyd := (Below.refl w7.heap.size w7).drew
          refine wp_region_kept [] (fun y => Below w7.heap.size w7 y) (by kernel_rfl) (by assumption) (fun hH => ?_)
          refine wpK.take (i := 0) (v := _) (by simp only [List.getElem?_toArray, List.getElem?_cons_succ, List.getElem?_cons_zero]; rfl) (by kernel_rfl) (by kernel_rfl) (by kernel_rfl) (by kernel_rfl) (by kernel_rfl) (by exact fun _ _ _ h => h) (by first | exact Or.inl ⟨by rfl, by intro w hSw; go_simp; try with_reducible rfl⟩ | exact Or.inr ⟨by rfl, rfl⟩) hH ?_
          try simp only [Act.put, List.setIfInBounds_toArray, List.set_cons_zero, List.set_cons_succ]
          refine wpK.take (i := 1) (v := _) (by simp only [List.getElem?_toArray, List.getElem?_cons_succ, List.getElem?_cons_zero]; rfl) (by kernel_rfl) (by kernel_rfl) (by kernel_rfl) (by kernel_rfl) (by kernel_rfl) (by exact fun _ _ _ h => h) (by first | exact Or.inl ⟨by rfl, by intro w hSw; go_simp; try with_reducible rfl⟩ | exact Or.inr ⟨by rfl, rfl⟩) hH ?_
          try simp only [Act.put, List.setIfInBounds_toArray, List.set_cons_zero, List.set_cons_succ]
          refine wpK.take (i := 2) (v := _) (by simp only [List.getElem?_toArray, List.getElem?_cons_succ, List.getElem?_cons_zero]; rfl) (by kernel_rfl) (by kernel_rfl) (by kernel_rfl) (by kernel_rfl) (by kernel_rfl) (by exact fun _ _ _ h => h) (by first | exact Or.inl ⟨by rfl, by intro w hSw; go_simp; try with_reducible rfl⟩ | exact Or.inr ⟨by rfl, rfl⟩) hH ?_
          try simp only [Act.put, List.setIfInBounds_toArray, List.set_cons_zero, List.set_cons_succ]
          refine wpK.take (i := 3) (v := _) (by simp only [List.getElem?_toArray, List.getElem?_cons_succ, List.getElem?_cons_zero]; rfl) (by kernel_rfl) (by kernel_rfl) (by kernel_rfl) (by kernel_rfl) (by kernel_rfl) (by exact fun _ _ _ h => h) (by first | exact Or.inl ⟨by rfl, by intro w hSw; go_simp; try with_reducible rfl⟩ | exact Or.inr ⟨by rfl, rfl⟩) hH ?_
          try simp only [Act.put, List.setIfInBounds_toArray, List.set_cons_zero, List.set_cons_succ]
          refine wpK.take (i := 4) (v := _) (by simp only [List.getElem?_toArray, List.getElem?_cons_succ, List.getElem?_cons_zero]; rfl) (by kernel_rfl) (by kernel_rfl) (by kernel_rfl) (by kernel_rfl) (by kernel_rfl) (by exact fun _ _ _ h => h) (by first | exact Or.inl ⟨by rfl, by intro w hSw; go_simp; try with_reducible rfl⟩ | exact Or.inr ⟨by rfl, rfl⟩) hH ?_
          try simp only [Act.put, List.setIfInBounds_toArray, List.set_cons_zero, List.set_cons_succ]
          refine wpK.take (i := 5) (v := _) (by simp only [List.getElem?_toArray, List.getElem?_cons_succ, List.getElem?_cons_zero]; rfl) (by kernel_rfl) (by kernel_rfl) (by kernel_rfl) (by kernel_rfl) (by kernel_rfl) (by exact fun _ _ _ h => h) (by first | exact Or.inl ⟨by rfl, by intro w hSw; go_simp; try with_reducible rfl⟩ | exact Or.inr ⟨by rfl, rfl⟩) hH ?_
          try simp only [Act.put, List.setIfInBounds_toArray, List.set_cons_zero, List.set_cons_succ]
          refine wpK.take (i := 7) (v := _) (by simp only [List.getElem?_toArray, List.getElem?_cons_succ, List.getElem?_cons_zero]; rfl) (by kernel_rfl) (by kernel_rfl) (by kernel_rfl) (by kernel_rfl) (by kernel_rfl) (by exact fun _ _ _ h => h) (by first | exact Or.inl ⟨by rfl, by intro w hSw; go_simp; try with_reducible rfl⟩ | exact Or.inr ⟨by rfl, rfl⟩) hH ?_
          try simp only [Act.put, List.setIfInBounds_toArray, List.set_cons_zero, List.set_cons_succ]
          refine wpK.take (i := 8) (v := _) (by simp only [List.getElem?_toArray, List.getElem?_cons_succ, List.getElem?_cons_zero]; rfl) (by kernel_rfl) (by kernel_rfl) (by kernel_rfl) (by kernel_rfl) (by kernel_rfl) (by exact fun _ _ _ h => h) (by first | exact Or.inl ⟨by rfl, by intro w hSw; go_simp; try with_reducible rfl⟩ | exact Or.inr ⟨by rfl, rfl⟩) hH ?_
          try simp only [Act.put, List.setIfInBounds_toArray, List.set_cons_zero, List.set_cons_succ]
          refine wpK.take (i := 9) (v := _) (by simp only [List.getElem?_toArray, List.getElem?_cons_succ, List.getElem?_cons_zero]; rfl) (by kernel_rfl) (by kernel_rfl) (by kernel_rfl) (by kernel_rfl) (by kernel_rfl) (by exact fun _ _ _ h => h) (by first | exact Or.inl ⟨by rfl, by intro w hSw; go_simp; try with_reducible rfl⟩ | exact Or.inr ⟨by rfl, rfl⟩) hH ?_
          try simp only [Act.put, List.setIfInBounds_toArray, List.set_cons_zero, List.set_cons_succ]
          refine wpK.step (i := 6) (by kernel_rfl) (by simp only [List.getElem?_toArray, List.getElem?_cons_succ, List.getElem?_cons_zero]; rfl) (fun K hK => ?_)
          go_simp
          (refine (thing_In _ (HBF7.out.st.below hH).1 HLX.out ok1 oh1 os1 _ (hid rfl)).mono ?_); rintro e w9 ⟨v1, rfl, ho1, hb9⟩; (have hk9 := Below.next hH hb9); (have HK9 := hid hk9); (have HO1 := hid (SlI.of_own ho1)); clear ho1; go_simp
          refine hK.out _ _ (by assumption) (fun hH => ?_)
          clear hK K
          try simp only [Act.put, List.setIfInBounds_toArray, List.set_cons_zero, List.set_cons_succ]
          refine wpK.step (i := 10) (by kernel_rfl) (by simp only [List.getElem?_toArray, List.getElem?_cons_succ, List.getElem?_cons_zero]; rfl) (fun K hK => ?_)
          go_simp
          (refine (ref21_In w9 (HBF7.out.rx.below HK9.out) ok1 oh1 os1).mono ?_); rintro e wA ⟨v2, rfl, ho2, hbA⟩; (have hkA := Below.next HK9.out hbA); (have HKA := hid hkA); (have HO2 := hid (SlI.of_own ho2)); (have HO3 := hid (HO1.out.below hbA)); clear ho2; go_simp
          refine hK.out _ _ (by assumption) (fun hH => ?_)
          clear hK K
          try simp only [Act.put, List.setIfInBounds_toArray, List.set_cons_zero, List.set_cons_succ]
          refine wpK.step (i := 11) (by kernel_rfl) (by simp only [List.getElem?_toArray, List.getElem?_cons_succ, List.getElem?_cons_zero]; rfl) (fun K hK => ?_)
          go_simp
          (refine (law21_equal _ v1 v2 wA HO3.out HO2.out).mono ?_); rintro e wB ⟨rfl, hbB⟩; (have hkB := Below.next HKA.out hbB); (have HKB := hid hkB); go_simp
          refine hK.out _ _ (by assumption) (fun hH => ?_)
          clear hK K
          try simp only [Act.put, List.setIfInBounds_toArray, List.set_cons_zero, List.set_cons_succ]
          refine wpK.take (i := 12) (v := _) (by simp only [List.getElem?_toArray, List.getElem?_cons_succ, List.getElem?_cons_zero]; rfl) (by kernel_rfl) (by kernel_rfl) (by kernel_rfl) (by kernel_rfl) (by kernel_rfl) (by exact fun _ _ _ h => h) (by first | exact Or.inl ⟨by rfl, by intro w hSw; go_simp; try with_reducible rfl⟩ | exact Or.inr ⟨by rfl, rfl⟩) hH ?_
          try simp only [Act.put, List.setIfInBounds_toArray, List.set_cons_zero, List.set_cons_succ]
          refine wpK.take (i := 13) (v := _) (by simp only [List.getElem?_toArray, List.getElem?_cons_succ, List.getElem?_cons_zero]; rfl) (by kernel_rfl) (by kernel_rfl) (by kernel_rfl) (by kernel_rfl) (by kernel_rfl) (by exact fun _ _ _ h => h) (by first | exact Or.inl ⟨by rfl, by intro w hSw; go_simp; try with_reducible rfl⟩ | exact Or.inr ⟨by rfl, rfl⟩) hH ?_
          try simp only [Act.put, List.setIfInBounds_toArray, List.set_cons_zero, List.set_cons_succ]
          refine wpK.done (by kernel_rfl) ?_ _
          have HX9 := hid (HX7.out.below HKB.out)
          have HBO9 := hid (HBO7.out.below HKB.out)
          have HB9 := hid (Below.next HB7.out HKB.out)
          clear x0 x1 cx4 cx5 cx6 hyd
          go_wp2_with fail
          go_roundw
          case rel => exact ⟨j + 1, Y', FY', a', c', by go_num, by omega, HBO9, HX9, hid ⟨HNF.out.1, HNF.out.2.1, by have := HN.out.2.2.1; have := HLEN.out.1; omega, by have := HN.out.2.2.2.1; have := HLEN.out.2; omega, HNF.out.2.2⟩, HB9⟩
          case measure => simp [intOf]; omega
        · have j1 : ¬ (j : Int) < (M.length : Int) := by omega
          have HXR := hid (HBX0.out.below HB.out)
          have HBR := hid (HBO0.out.below HB.out)
          have y0 : wr.cell? ⟨bY, 0, none⟩ = some (.slice ay Y.L.length cy) := by rw [HBX.out.cell]; rfl
          have y1 : wr.cell? ⟨bY, 1, none⟩ = some (.int .i64 Y.nx) := by rw [HBX.out.cell]; rfl
          go_wp2_with fail
          refine (law21_same wr HBO.out (by have := HN.out.2.2.1; omega) (by have := HN.out.2.2.2.1; omega)).mono ?_
          rintro e w8 ⟨rfl, hb8⟩
          have HX8 := hid (HXR.out.below hb8)
          have HR8 := hid (HBR.out.below hb8)
          have HB8 := hid (Below.next HB.out hb8)
          clear hb8 y0 y1
          have x0 : w8.cell? ⟨bX, 0, none⟩ = some (.slice a4 X.L.length c4) := by rw [HX8.out.cell]; rfl
          have x1 : w8.cell? ⟨bX, 1, none⟩ = some (.int .i64 X.nx) := by rw [HX8.out.cell]; rfl
          go_wp2_with fail
          refine (law21_same w8 HR8.out (by have := HN0.out.2.2.1; have := HJ.out; omega) (by have := HN0.out.2.2.2.1; have := HJ.out; omega)).mono ?_
          rintro e w9 ⟨rfl, hb9⟩
          have HB9 := hid (Below.next HB8.out hb9)
          clear hb9 x0 x1
          go_wp2_with fail
          refine (law21_awake w9).mono ?_
          rintro e wE ⟨rfl, hbE⟩
          have HBE := hid (Below.next HB0.out (Below.next HB9.out hbE))
          clear hbE
          go_wp2_with fail
          go_ret
          exact ⟨rfl, HBE.out⟩
set_option maxRecDepth 100000 in
theorem ThingCopies_walk {H : Type} {enc : TypeId × Value → H} {b0 b1 : Nat} {d0 d1 : DataW H} {p0 p1 : List MemPlace} (v0 v1 : Value) (w : World) (ok0 : Value.okWide Tryd.prog w .any b0 28 v0) (k0 : DataW.Trod enc Tryd.prog w 0 (fun _ => true) true 28 v0 d0 p0)
    (ok1 : Value.okWide Tryd.prog w .any b1 28 v1) (k1 : DataW.Trod enc Tryd.prog w 0 (fun _ => true) true 28 v1 d1 p1) :
    Calls Tryd.prog 7 #[v0, v1] w fun e w' => e = .returned (.bool true) ∧ Below w.heap.size w w' := by
  obtain ⟨L, hL⟩ := open_opsT ok0 k0
  obtain ⟨M, hM⟩ := open_opsT ok1 k1
  obtain ⟨a, c, rfl, h2⟩ := id hL
  obtain ⟨am, cm, rfl, h3⟩ := id hM
  exact law21_Copies L a c M am cm w hL hM
end Go.Proofs.YtdoflhiogoefjaaDoor
end
section
/- The law ThingCopies returns true for every input, and what it is handed reads behind the call as it read before: no condition. (The frame follows the kit's proof-skeleton.) -/
namespace Go.Proofs.YtdoflhiogoefjaaDoor.thingCopies
open Go.ChangeShapes Go.WideShapes Go.ChangeAt Go.RowKit
open Go.ChangeMaps (open_string shut_string)
set_option linter.unusedVariables false

theorem own : ownKnob Tryd.prog.godebug = none := by kernel_rfl
theorem laidOut : laidOutB Tryd.prog = true := by kernel_rfl

/-! ### the row's step -/
set_option maxRecDepth 100000 in
theorem lifted (os : Os) (started : os.Started) (H : Type) (enc : TypeId × Value → H) :
    ReturnsInHanded {} Tryd.checked os 7 .any (fun w args => (Rows.thingCopiesSpec.pre enc Tryd.prog Tryd.f7 [] false w args ∧ laidMetH Tryd.prog Rows.thingCopiesRow.laid w) ∧ sizedMet enc Tryd.prog Tryd.f7 (OpenSpec.ofChange Rows.thingCopiesSpec) false w args)
      (Rows.thingCopiesSpec.post enc Tryd.prog Tryd.f7 false true false false) := by
  refine returnsInHanded_of_change_and (C := Tryd.checked) (X := fun w _ => laidMetH Tryd.prog Rows.thingCopiesRow.laid w) (fun _ _ _ hh h => h.of_heap hh) own started (by kernel_rfl) Tryd.func7
    (ChangeSpec.witness_shaped (enc := enc) (C := Tryd.checked) (os := os) (X := fun w _ => laidMetH Tryd.prog Rows.thingCopiesRow.laid w) false (World.laidAll Tryd.prog os Rows.thingCopiesRow.laid) #[.slice none 0 0, .slice none 0 0] 8 (World.laidAll_os _ _ _)
      (World.shaped_of_ZipB (by kernel_rfl) (by kernel_rfl)) (by kernel_rfl) (by kernel_rfl) (by kernel_rfl)
      (by rw [MakeChecks.laidMetH_plain _ _ _ (by kernel_rfl)]; exact laidMet_laidAll _ (by kernel_rfl) (by kernel_rfl))) ?_
  intro W base args ds gs before hval0 hW _ _ hL _
  have hval : ∀ (j : Nat) t v, Tryd.f7.params[j]? = some t → args[j]? = some v → Value.okWide Tryd.prog W .any base t v := hval0
  have hW' := hW
  obtain ⟨p, q, hA0, hV, rfl, hfz, hnd⟩ := hW
  have hA : DataW.TrodAll enc Tryd.prog W 0 (fun _ => true) true Tryd.f7.params.toList args.toList ds p := hA0
  rw [Tryd.params7] at hA hval
  obtain ⟨v0, vs0, d0, ds0, p0, q0, hargs, rfl, rfl, h0, r0⟩ := trodAll_cons hA
  obtain ⟨v1, vs1, d1, ds1, p1, q1, rfl, rfl, rfl, h1, r1⟩ := trodAll_cons r0
  obtain ⟨rfl, rfl, rfl⟩ := trodAll_nil r1
  obtain rfl : args = #[v0, v1] := by cases args; simp_all
  obtain ⟨rfl, rfl⟩ := trodVars_none hV
  have k0 := h0
  have lt0 : ∀ x ∈ p0, x.block < W.heap.size := by obtain ⟨m, hm⟩ := k0; exact DataW.trod_lt m _ _ _ hm
  have ok0 := hval 0 28 v0 rfl rfl
  have k1 := h1
  have lt1 : ∀ x ∈ p1, x.block < W.heap.size := by obtain ⟨m, hm⟩ := k1; exact DataW.trod_lt m _ _ _ hm
  have ok1 := hval 1 28 v1 rfl rfl
  clear hA0 hval0
  refine (ThingCopies_walk v0 v1 W ok0 k0 ok1 k1).mono fun e W' ⟨he, bel⟩ => ?_
  subst he
  exact ⟨_, rfl, _, _, _, [], _, [], hW', trodAll_mk1 (shut_bool Tryd.underlying4 _), (trodAll_cons_mk (Below.trod laidOut (by kernel_rfl) (of_decide_eq_true (by kernel_rfl)) k0 bel lt0) (trodAll_cons_mk (Below.trod laidOut (by kernel_rfl) (of_decide_eq_true (by kernel_rfl)) k1 bel lt1) trodAll_mk0)), rfl, bel.frame _, fun h => by cases h⟩

theorem over : Rows.thingCopiesRow.holds Tryd.pinned (OpenSpec.ofChange Rows.thingCopiesSpec) :=
  OpenClaim.holds_of_wide 7 Tryd.f7 rfl rfl rfl rfl rfl rfl rfl ⟨rfl, rfl, rfl, rfl, rfl⟩ rfl rfl rfl rfl rfl (by kernel_rfl) Tryd.func7 (by kernel_rfl)
    (of_decide_eq_true (by kernel_rfl)) (by unfold Func.isWrapper; first | (rw [if_pos (by decide +kernel)]; kernel_rfl) | (rw [if_neg (by decide +kernel)]; exact ⟨rfl, rfl⟩))
    (fun os started H enc _ => lifted os started H enc)

/-- the statement: the card -/
theorem proved : Rows.ThingCopiesCardSaid :=
  Claim7.holds_tied_plain_at .later [] [.data, .pinned] true (true, "3eabfc7ec4ce52c70f28a4037542889e36783f9221e8ac1bc71760866ac72d24") true
    over (fun _ h => by cases h) (by kernel_rfl) (fun _ h => by cases h) thingCopies_row_tie rfl ⟨rfl, rfl⟩ (by kernel_rfl) rfl
    (fun f fn hf hfn => by
      obtain rfl : f = 7 := Option.some.inj ((show Tryd.prog.funcNamed "deedhold/deedholdlaw21.ThingCopies" = some 7 by kernel_rfl).symm.trans hf) |>.symm
      obtain rfl : fn = Tryd.f7 := (Option.some.inj (Tryd.func7.symm.trans hfn)).symm
      exact ⟨by kernel_rfl, fun j t ht => by
        rw [Tryd.params7] at ht
        have hm : t ∈ [28, 28] := by simpa using Array.mem_of_getElem? ht
        have hall : ([28, 28].all fun u => !Tryd.prog.wantsStandIn u) = true := by kernel_rfl
        exact (show Tryd.prog.wantsStandIn t = false by simpa using List.all_eq_true.1 hall t hm)⟩)
    (by kernel_rfl)
#print axioms proved
end Go.Proofs.YtdoflhiogoefjaaDoor.thingCopies
end
