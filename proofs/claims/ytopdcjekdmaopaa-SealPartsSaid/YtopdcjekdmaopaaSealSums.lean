/- deedholdlaw03.awake; the law SealSums, walked. -/
import Derived.Test.YtopdcjekdmaopaaSealOpen
import Derived.Lib.SlBytesConst
namespace Go.Proofs.Ytopdcjekdmaopaa
open Go.RowKit
open Go.Lib (hid)
set_option linter.unusedVariables false

/-- the sum of two parts -/
theorem seal_Sum2 (l m : List UInt8) (u v : Value) (g : Nat) (w : World) (hc : w.cell? ⟨g, 0, none⟩ = some u) (hd : w.cell? ⟨g, 1, none⟩ = some v) (hl : SlB w u l) (hm : SlB w v m) :
   Calls Try.prog 28 #[.slice (some ⟨g, 0, none⟩) 2 2] w fun e w' => e = .returned (.int .u32 ((crc (l ++ m) : Nat) : Int)) ∧ Below w.heap.size w w' := by
  have h := seal_Sum [l, m] [u, v] (some ⟨g, 0, none⟩) 2 2 (hid rfl) (by omega) w (fun i hi => by
      simp at hi
      refine ⟨g, 0, rfl, ?_⟩
      match i, hi with
      | 0, _ => exact hc
      | 1, _ => exact hd) rfl (fun i v' m' hv hm' => by
      have hi := (List.getElem?_eq_some_iff.1 hv).1
      simp at hi
      match i, hi with
      | 0, _ => simp at hv hm'; subst hv; subst hm'; exact hl
      | 1, _ => simp at hv hm'; subst hv; subst hm'; exact hm)
  simpa using h

theorem crc_check : crc [49, 50, 51, 52, 53, 54, 55, 56, 57] = 3421780262 := by decide

attribute [local irreducible] crc lowB
set_option maxHeartbeats 400000 in
theorem seal_awake (w : World) : Calls Try.prog 27 #[] w fun e w' => e = .returned (.bool true) ∧ Below w.heap.size w w' := by
  have hkc := kc
  go_enter Try.func27, Try.ntmps27
  go_wp2_with fail
  refine (seal_Close [97] _ _ (slb_lit w #[.int .u8 97] _ [97] rfl (by simp) 1 rfl) (by simp)).mono ?_
  rintro e w1 ⟨v1, rfl, hown1, hb1⟩
  have HB1 := hid (Below.next (Below.new w _) hb1)
  have s1 := ownsRow.slb (l := [97] ++ lowB (crc [97]) 4) (by simpa [lowB_length] using hown1) (by simp [lowB_length])
  clear hown1 hb1
  go_wp2_with fail
  refine (seal_Open_yes [97] _ w1 s1 (by simp)).mono ?_
  rintro e w2 ⟨v2, rfl, hown2, hb2⟩
  have HB2 := hid (Below.next HB1.out hb2)
  have s2 := ownsRow.slb (l := [97]) hown2 (by simp)
  clear hown2 hb2 s1
  go_wp2_with fail
  refine (seal_Sum1 [49, 50, 51, 52, 53, 54, 55, 56, 57] (.slice (some ⟨w2.heap.size, 0, none⟩) 9 9) _ _ ?_ ?_).mono ?_
  case refine_1 => exact cell_block1 _ _ _ _
  case refine_2 => exact (slb_lit w2 #[.int .u8 49, .int .u8 50, .int .u8 51, .int .u8 52, .int .u8 53, .int .u8 54, .int .u8 55, .int .u8 56, .int .u8 57] _ [49, 50, 51, 52, 53, 54, 55, 56, 57] rfl (by simp) 9 rfl).below (Below.new _ _)
  rintro e w3 ⟨rfl, hb3⟩
  have hb3' := Below.next (Below.next (Below.new w2 _) (Below.new _ _)) hb3
  have HB3 := hid (Below.next HB2.out hb3')
  have s3 := s2.below hb3'
  clear hb3 hb3' s2
  obtain ⟨a, c, rfl, -, hr, -⟩ := s3
  have hstr := run_str w3 a 1 c [97] rfl hr
  rw [crc_check]
  go_wp2
  go_ret
  exact ⟨rfl, HB3.out⟩

set_option maxHeartbeats 400000 in
theorem SealSums_walk (a0 : Option Addr) (len0 cap0 : Nat) (z0 : List Int) (a1 : Option Addr) (len1 cap1 : Nat) (z1 : List Int) (w : World) (w0 : (a0 = none ∧ len0 = 0 ∧ cap0 = 0 ∧ z0 = []) ∨
      ∃ x, a0 = some x ∧ len0 ≤ cap0 ∧ cap0 ≤ maxLen ∧ z0.length = cap0 ∧ (∀ i, i < z0.length → w.cell? (x.add i) = some (.int .u8 (z0.getD i 0))) ∧ ∀ n ∈ z0, (Lit.int .u8 n).wf = true) (w1 : (a1 = none ∧ len1 = 0 ∧ cap1 = 0 ∧ z1 = []) ∨
      ∃ x, a1 = some x ∧ len1 ≤ cap1 ∧ cap1 ≤ maxLen ∧ z1.length = cap1 ∧ (∀ i, i < z1.length → w.cell? (x.add i) = some (.int .u8 (z1.getD i 0))) ∧ ∀ n ∈ z1, (Lit.int .u8 n).wf = true) :
    Calls Try.prog 9 #[.slice a0 len0 cap0, .slice a1 len1 cap1] w fun e w' => e = .returned (.bool true) ∧ Below w.heap.size w w' := by
  obtain ⟨l, rfl, hl⟩ := slb_of_row w0
  obtain ⟨m, rfl, hm⟩ := slb_of_row w1
  clear w0 w1
  by_cases hbig : 500 < l.length
  · go_enter Try.func9, Try.ntmps9
    go_wp2_with (go_at_call 27; (with_reducible refine (seal_awake _).mono ?_); rintro e w1 ⟨rfl, hb1⟩)
    go_ret
    exact ⟨rfl, hb1⟩
  · by_cases hbig2 : 500 < m.length
    · go_enter Try.func9, Try.ntmps9
      go_wp2_with (go_at_call 27; (with_reducible refine (seal_awake _).mono ?_); rintro e w1 ⟨rfl, hb1⟩)
      go_ret
      exact ⟨rfl, hb1⟩
    · have HL := hid hl
      have HM := hid hm
      obtain ⟨a, c, e1, h1, h2, -, -, h5⟩ := hl
      obtain ⟨rfl, -, rfl⟩ : a0 = a ∧ l.length = l.length ∧ cap0 = c := by simpa using e1
      obtain ⟨a', c', e1', h1', h2', -, -, h5'⟩ := hm
      obtain ⟨rfl, -, rfl⟩ : a1 = a' ∧ m.length = m.length ∧ cap1 = c' := by simpa using e1'
      have H5 := hid h5
      have H5' := hid h5'
      clear h5 h5' e1 e1'
      have hown0 : (w.alloc (.cells #[] 5)).ownsRow w.heap.size 5 1 (.slice (some ⟨w.heap.size, 0, none⟩) 0 0) 0 [] := World.ownsRow_made w #[] 0 (Nat.le_refl _) (by omega) (by simp)
      have hr0 := h2.below' (Below.new w (.cells #[] 5))
      go_enter Try.func9, Try.ntmps9
      go_wp2_with (at_builtin; refine wpList_appendN T_bytes _ rfl _ _ rfl w.heap.size _ _ _ rfl hown0 _ _ _ (bv l) rfl ?c1 (fun _ h => H5.out h) hr0 (bv_oneCell l) ?c2 ?c3 ?_)
      case c1 => simp [bv_length]
      case c2 => omega
      case c3 => simp
      intro v1 w1 hown1 hg1 hnil
      have hb1 : Below w.heap.size w w1 := (Below.new w _).grown hg1 (by simp) (fun k hk => by simp [Value.ownBlock] at hk; omega)
      have hr1 := h2'.below' hb1
      clear hg1 hnil hown0 hr0
      go_wp2_with (at_builtin; refine wpList_appendN T_bytes _ rfl _ _ rfl w.heap.size _ _ _ rfl hown1 _ _ _ (bv m) rfl ?c4 (fun _ h => H5'.out h) hr1 (bv_oneCell m) ?c5 ?c6 ?_)
      case c4 => simp [bv_length]
      case c5 => omega
      case c6 => exact hb1.size
      intro v2 w2 hown2 hg2 hnil
      have hb2 : Below w.heap.size w w2 := hb1.grown hg2 hb1.size (fun k hk => (hown1.lt k hk).1)
      have HB2 := hid hb2
      obtain ⟨lm, hlm⟩ : ∃ lm, lm = l ++ m := ⟨_, rfl⟩
      have hs2 := ownsRow.slb (l := lm) (by rw [hlm]; simpa [bv_append] using hown2) (by rw [hlm]; simp; omega)
      have HS2 := hid hs2
      obtain ⟨a2, c2, rfl, -⟩ := hs2
      have HLM := hid hlm
      clear hg2 hnil hown2 hown1 hr1 hb1 hb2 hlm
      go_wp2_with fail
      refine (seal_Sum1 lm _ w2.heap.size _ (cell_block0 _ _ _) (HS2.out.below (Below.new _ _))).mono ?_
      rintro e w3 ⟨rfl, hb3⟩
      have hb3' := Below.next (Below.new w2 _) hb3
      have HB3 := hid (Below.next HB2.out hb3')
      have HS3 := hid (HS2.out.below hb3')
      clear hb3 hb3'
      go_wp2_with fail
      refine (ref_Sum lm _ w3 HS3.out).mono ?_
      rintro e w' ⟨rfl, rfl⟩
      go_wp2_with fail
      refine (seal_Sum2 l m _ _ w3.heap.size _ ?_ ?_ ((HL.out.below HB3.out).below (Below.new _ _)) ((HM.out.below HB3.out).below (Below.new _ _))).mono ?_
      case refine_1 => rw [World.cell?_alloc_new]; rfl
      case refine_2 => rw [World.cell?_alloc_new]; rfl
      rintro e w4 ⟨rfl, hb4⟩
      rw [← HLM.out]
      have hb4' := Below.next (Below.new w3 _) hb4
      have HB4 := hid (Below.next HB3.out hb4')
      have HS4 := hid (HS3.out.below hb4')
      clear hb4 hb4'
      go_wp2_with fail
      refine (ref_Sum lm _ w4 HS4.out).mono ?_
      rintro e w' ⟨rfl, rfl⟩
      go_wp2_with fail
      refine (seal_Sum1 l _ w4.heap.size _ (cell_block0 _ _ _) ((HL.out.below HB4.out).below (Below.new _ _))).mono ?_
      rintro e w5 ⟨rfl, hb5⟩
      have HB5 := hid (Below.next HB4.out (Below.next (Below.new w4 _) hb5))
      clear hb5
      go_wp2_with fail
      refine (ref_Sum l _ w5 (HL.out.below HB5.out)).mono ?_
      rintro e w' ⟨rfl, rfl⟩
      go_wp2_with fail
      refine (seal_awake w5).mono ?_
      rintro e w6 ⟨rfl, hb6⟩
      have HB6 := hid (Below.next HB5.out hb6)
      clear hb6
      go_wp2
      go_ret
      exact ⟨rfl, HB6.out⟩
end Go.Proofs.Ytopdcjekdmaopaa
