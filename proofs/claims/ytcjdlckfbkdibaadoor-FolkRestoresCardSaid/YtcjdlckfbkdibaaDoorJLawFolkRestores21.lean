/- Joined texts, in this order: FolkAwake. Each one's first remark says what it proves; no condition beyond those that its theorems name. -/
import Derived.Test.YtcjdlckfbkdibaaDoorJLawFolkRestores15
section
/- The fixed answer of the laws of accounts. -/
namespace Go.Proofs.YtcjdlckfbkdibaaDoor
open Go.RowKit
open Go.Lib (hid)
set_option linter.unusedVariables false

theorem FkStep.belowX {g b : Nat} {v v' : Value} {w0 w w' : World} (h : FkStep g b v v' w w') (hb : Below w0.heap.size w0 w) (hg : w0.heap.size ≤ g) (hbb : w0.heap.size ≤ b) (hv : ∀ k, v.ownBlock = some k → w0.heap.size ≤ k) : Below w0.heap.size w0 w' ∧ ∀ k, v'.ownBlock = some k → w0.heap.size ≤ k :=
  ⟨hb.trans (h.upd.below hb.size (fun k _ e => by
      rcases e with rfl | rfl | e
      · exact hg
      · exact hbb
      · exact hv k e)),
   fun k hk => by
      rcases h.wh k hk with e | e
      · exact hv k e
      · have := hb.size; omega⟩
theorem aw_name : nameB [97, 110, 110] = true := by decide
theorem aw_E : addFE [] [97, 110, 110] = 0 := by unfold addFE; rw [aw_name]; rfl
theorem aw_I : addFI [] [97, 110, 110] = 1 := by unfold addFI; rw [aw_E]; rfl
theorem aw_L : addFL [] [97, 110, 110] = [([97, 110, 110], 0)] := by unfold addFL; rw [aw_E]; rfl
set_option maxRecDepth 100000 in
set_option maxHeartbeats 2000000 in
theorem law17_awake (w : World) : Calls Tryd.prog 11 #[] w fun e w' => e = .returned (.bool true) ∧ Below w.heap.size w w' := by
  go_enter Tryd.func11, Tryd.ntmps11
  go_wp2_with fail
  refine (folk_New w).mono ?_
  rintro e w1 ⟨g, b, rfl, h1, hg, hb, hb1⟩
  have H1 := hid h1
  have HG := hid (And.intro hg hb)
  have HB1 := hid hb1
  clear h1 hg hb hb1
  go_wp2_with fail
  refine (folk_Add g b _ [] 0 0 w1 H1.out (by simp) [97, 110, 110] (by simp)).mono ?_
  rintro e w2 ⟨v2, rfl, h2, hs2⟩
  rw [aw_I, aw_E]
  rw [aw_L] at h2
  obtain ⟨r, c, hv⟩ := Go.Joins.ownsRow_form h2.own (by simp)
  subst hv
  have HB2 := hid (hs2.belowX HB1.out HG.out.1 HG.out.2 (fun k hk => by simp [Value.ownBlock] at hk))
  have HR := hid (HB2.out.2 r rfl)
  have H2 := hid h2
  clear h2 hs2
  go_wp2_with fail
  refine (folk_MintYes g b r c [([97, 110, 110], 0)] 0 0 w2 H2.out 0 [97, 110, 110] 0 50 rfl (by simp) 1 (by simp) (by omega) (by omega) (by omega) (by omega)).mono ?_
  rintro e w3 ⟨rfl, h3, hu3⟩
  have H3 : Hid (FkIs w3 g b (.slice (some ⟨r, 0, none⟩) [(([97, 110, 110] : List UInt8), (50 : Int))].length c) [([97, 110, 110], 50)] 0 50) := hid h3
  have HB3 : Hid (Below w.heap.size w w3) := hid (HB2.out.1.trans (hu3.below HB2.out.1.size (fun k _ e => by have := HG.out; have := HR.out; omega)))
  clear h3 hu3
  go_wp2_with fail
  refine (folk_HoldYes g b r c [([97, 110, 110], 50)] 0 50 w3 H3.out 0 [97, 110, 110] 50 20 30 rfl (by simp) 1 (by simp) (by omega) (by omega) (by omega) (by omega) (hid (by omega))).mono ?_
  rintro e w4 ⟨rfl, h4, hu4⟩
  have H4 : Hid (FkIs w4 g b (.slice (some ⟨r, 0, none⟩) [(([97, 110, 110] : List UInt8), (30 : Int))].length c) [([97, 110, 110], 30)] 20 50) := hid h4
  have HB4 : Hid (Below w.heap.size w w4) := hid (HB3.out.trans (hu4.below HB3.out.size (fun k _ e => by have := HG.out; have := HR.out; omega)))
  clear h4 hu4
  go_wp2_with fail
  refine (folk_BurnNo g b r c [([97, 110, 110], 30)] 20 50 w4 H4.out 0 [97, 110, 110] 30 31 rfl (by simp) 1 (by simp) (by omega) (by omega) (by omega) (by omega)).mono ?_
  rintro e w5 ⟨rfl, h5, hu5⟩
  have H5 := hid h5
  have HB5 : Hid (Below w.heap.size w w5) := hid (HB4.out.trans (hu5.below HB4.out.size (fun k _ e => by have := HG.out; omega)))
  clear h5 hu5
  go_wp2_with fail
  refine (folk_GoldYes g b r c [([97, 110, 110], 30)] 20 50 w5 H5.out 0 [97, 110, 110] 30 rfl (by simp) 1 (by simp)).mono ?_
  rintro e w6 ⟨rfl, rfl⟩
  go_wp2_with fail
  refine (folk_Held g b _ _ 20 50 w5 H5.out).mono ?_
  rintro e w6 ⟨rfl, rfl⟩
  go_wp2_with fail
  refine (folk_Total g b _ _ 20 50 w5 H5.out).mono ?_
  rintro e w6 ⟨rfl, rfl⟩
  go_wp2_with fail
  go_ret
  exact ⟨rfl, HB5.out⟩
end Go.Proofs.YtcjdlckfbkdibaaDoor
end
