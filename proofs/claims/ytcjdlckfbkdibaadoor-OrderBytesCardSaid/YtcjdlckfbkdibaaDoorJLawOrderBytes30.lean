/- Joined texts, in this order: OrdBytesLaw, LawOrderBytes. Each one's first remark says what it proves; no condition beyond those that its theorems name. -/
import Derived.Test.YtcjdlckfbkdibaaDoorJLawOrderBytes29
import Derived.Test.YtcjdlckfbkdibaaDoorRows
import Derived.WalkKit
import Derived.ProofKit
import Derived.OpenShut
import Derived.ShutString
import Derived.ChangeOld
import Derived.Below
import Derived.Test.YtcjdlckfbkdibaaDoorCards
import Derived.Test.YtcjdlckfbkdibaaDoorTie
import Derived.LaidMore
import Derived.Lay
import Derived.Stop.Joined
import Derived.SevenTiedAt
section
/- The law OrderBytes. -/
namespace Go.Proofs.YtcjdlckfbkdibaaDoor
open Go.RowKit
open Go.Lib (hid)
set_option linter.unusedVariables false

set_option maxRecDepth 100000 in
set_option maxHeartbeats 8000000 in
theorem law27_Bytes (ses who kind a b c d : Int) (text login : ByteArray) (w : World) (hl : login.size ≤ 100) (ht : text.size ≤ 100) (hok : Hid ((cmOf ses who kind a b c d text login).Ok)) :
    Calls Tryd.prog 6 #[.agg #[.int .i64 ses, .int .i64 who, .int .i64 kind, .int .i64 a, .int .i64 b, .int .i64 c, .int .i64 d, .string text, .string login]] w fun e w' => e = .returned (.bool true) ∧ Below w.heap.size w w' := by
  obtain ⟨R, hR⟩ : ∃ R, (cmOf ses who kind a b c d text login).right = R := ⟨_, rfl⟩
  obtain ⟨all, hall⟩ : ∃ l, (cmOf ses who kind a b c d text login).bytes = l := ⟨_, rfl⟩
  have hle : all.length ≤ 300 := by rw [← hall]; exact bytes_le _ hok.out (by show text.data.toList.length ≤ 100; rw [ba_len]; exact ht) (by show login.data.toList.length ≤ 100; rw [ba_len]; exact hl)
  have HR := hid hR
  have HA := hid hall
  have HLE := hid hle
  have i1 : (login.size : Int) ≤ 100 := by omega
  have i2 : (text.size : Int) ≤ 100 := by omega
  clear hR hall hle
  obtain ⟨bb, hbb⟩ : ∃ bb, bb = w.heap.size := ⟨_, rfl⟩
  go_enter Tryd.func6, Tryd.ntmps6
  go_wp2_with fail
  generalize hw1 : World.alloc w _ = w1
  have HB1 : Hid (Below w.heap.size w w1) := hid (by rw [← hw1]; exact Below.new _ _)
  have hK1 : Blk w1 w.heap.size (cmA ses who kind a b c d text login) := by rw [← hw1]; exact Blk.new w _ _
  clear hw1
  rw [← hbb] at hK1
  rw [← hbb]
  have HK1 := hid hK1
  have HBB := hid hbb
  clear hK1 hbb
  refine (law27_ref ses who kind a b c d text login w1).mono ?_
  rintro e w2 ⟨rfl, hb2⟩
  have HB2 := hid (Below.next HB1.out hb2)
  have HK2 := hid (HK1.out.below hb2)
  clear hb2 HB1 HK1
  go_wp2_with fail
  refine (ref_Right ses who kind a b c d text login w2 (by omega) (by omega) R HR).mono ?_
  rintro e w3 ⟨rfl, hb3⟩
  have HB3 := hid (Below.next HB2.out hb3)
  have HK3 := hid (HK2.out.below hb3)
  clear hb3 HB2 HK2
  have hK3 := HK3.out
  unfold cmA at hK3
  obtain ⟨c0, c1, c2, c3, c4, c5, c6, c7, c8⟩ := hK3.cells9
  clear hK3
  cases R with
  | false =>
    go_wp2_with fail
    refine (order_BytesNo ses who kind a b c d text login w3 hl ht HR).mono ?_
    rintro e w4 ⟨rfl, hb4⟩
    have HB4 := hid (Below.next HB3.out hb4)
    have HK4 := hid (HK3.out.below hb4)
    clear hb4 HB3 HK3 c0 c1 c2 c3 c4 c5 c6 c7 c8
    have hK4 := HK4.out
    unfold cmA at hK4
    obtain ⟨c0, c1, c2, c3, c4, c5, c6, c7, c8⟩ := hK4.cells9
    clear hK4
    go_wp2_with fail
    refine (order_Right ses who kind a b c d text login w4 (by omega) (by omega) false HR).mono ?_
    rintro e w5 ⟨rfl, hb5⟩
    have HB5 := hid (Below.next HB4.out hb5)
    clear hb5 HB4 HK4 c0 c1 c2 c3 c4 c5 c6 c7 c8
    go_wp2_with fail
    refine (law27_awake _).mono ?_
    rintro e w6 ⟨rfl, hb6⟩
    have HB6 := hid (Below.next HB5.out hb6)
    clear hb6
    go_wp2_with fail
    go_ret
    exact ⟨rfl, HB6.out⟩
  | true =>
    go_wp2_with fail
    refine (order_BytesYes ses who kind a b c d text login w3 hl ht hok HR all HA).mono ?_
    rintro e w4 ⟨v4, rfl, ho4, hb4⟩
    have HB4 := hid (Below.next HB3.out hb4)
    have HK4 := hid (HK3.out.below hb4)
    have HS4 := hid (ownsRow.slb ho4 (by have := HLE.out; omega))
    obtain ⟨a4, q4, rfl, -⟩ := HS4.out
    clear hb4 ho4 HB3 HK3 c0 c1 c2 c3 c4 c5 c6 c7 c8
    have hK4 := HK4.out
    unfold cmA at hK4
    obtain ⟨c0, c1, c2, c3, c4, c5, c6, c7, c8⟩ := hK4.cells9
    clear hK4
    go_wp2_with fail
    refine (order_Right ses who kind a b c d text login w4 (by omega) (by omega) true HR).mono ?_
    rintro e w5 ⟨rfl, hb5⟩
    have HB5 := hid (Below.next HB4.out hb5)
    have HK5 := hid (HK4.out.below hb5)
    have HS5 := hid (HS4.out.below hb5)
    clear hb5 HB4 HK4 HS4 c0 c1 c2 c3 c4 c5 c6 c7 c8
    go_wp2_with fail
    refine (order_Parse all _ w5 HS5.out (by have := HLE.out; omega)).mono ?_
    rintro e w6 ⟨V, E, rfl, hpv, hb6⟩
    obtain ⟨rfl, rfl⟩ : V = .agg #[.int .i64 ses, .int .i64 who, .int .i64 kind, .int .i64 a, .int .i64 b, .int .i64 c, .int .i64 d, .string text, .string login] ∧ E = 0 := by
      have hp : parseV all = some (cmOf ses who kind a b c d text login) := by
        rw [← HA.out]
        exact parseV_bytes _ hok.out HR.out (by show text.data.toList.length ≤ 100; rw [ba_len]; exact ht) (by show login.data.toList.length ≤ 100; rw [ba_len]; exact hl)
      rcases hpv with ⟨h1, -⟩ | ⟨cc, h1, h2, h3⟩
      · rw [hp] at h1; simp at h1
      · rw [hp] at h1
        obtain rfl := Option.some.inj h1
        exact ⟨h2, h3⟩
    have HB6 := hid (Below.next HB5.out hb6)
    have HK6 := hid (HK5.out.below hb6)
    have HS6 := hid (HS5.out.below hb6)
    clear hb6 hpv HB5 HK5 HS5
    go_upto_region 10 with fail
    generalize hw7 : World.alloc w6 _ = w7
    obtain ⟨bp, hbp⟩ : ∃ bp, bp = w6.heap.size := ⟨_, rfl⟩
    rw [← hbp]
    have hb7 : Below w6.heap.size w6 w7 := by rw [← hw7]; exact Below.new _ _
    have HP7 : Hid (Blk w7 bp (cmA ses who kind a b c d text login)) := hid (by rw [← hw7, hbp]; exact Blk.new _ _ _)
    have HB7 := hid (Below.next HB6.out hb7)
    have HK7 := hid (HK6.out.below hb7)
    have HS7 := hid (HS6.out.below hb7)
    clear hw7 hbp hb7 HB6 HK6 HS6
    have hst := HS7.out.str
    have hcell : ∀ y, Below w7.heap.size w7 y → Blk y bb #[.int .i64 ses, .int .i64 who, .int .i64 kind, .int .i64 a, .int .i64 b, .int .i64 c, .int .i64 d, .string text, .string login] := fun y hy => HK7.out.below hy
    have hcelp : ∀ y, Below w7.heap.size w7 y → Blk y bp #[.int .i64 ses, .int .i64 who, .int .i64 kind, .int .i64 a, .int .i64 b, .int .i64 c, .int .i64 d, .string text, .string login] := fun y hy => HP7.out.below hy
    have HCELL := hid hcell
    have HCELP := hid hcelp
    have c0 := fun y hy => (HCELL.out y hy).cells9.1
    have c1 := fun y hy => (HCELL.out y hy).cells9.2.1
    have c2 := fun y hy => (HCELL.out y hy).cells9.2.2.1
    have c3 := fun y hy => (HCELL.out y hy).cells9.2.2.2.1
    have c4 := fun y hy => (HCELL.out y hy).cells9.2.2.2.2.1
    have c5 := fun y hy => (HCELL.out y hy).cells9.2.2.2.2.2.1
    have c6 := fun y hy => (HCELL.out y hy).cells9.2.2.2.2.2.2.1
    have c7 := fun y hy => (HCELL.out y hy).cells9.2.2.2.2.2.2.2.1
    have c8 := fun y hy => (HCELL.out y hy).cells9.2.2.2.2.2.2.2.2
    have d0 := fun y hy => (HCELP.out y hy).cells9.1
    have d1 := fun y hy => (HCELP.out y hy).cells9.2.1
    have d2 := fun y hy => (HCELP.out y hy).cells9.2.2.1
    have d3 := fun y hy => (HCELP.out y hy).cells9.2.2.2.1
    have d4 := fun y hy => (HCELP.out y hy).cells9.2.2.2.2.1
    have d5 := fun y hy => (HCELP.out y hy).cells9.2.2.2.2.2.1
    have d6 := fun y hy => (HCELP.out y hy).cells9.2.2.2.2.2.2.1
    have d7 := fun y hy => (HCELP.out y hy).cells9.2.2.2.2.2.2.2.1
    have d8 := fun y hy => (HCELP.out y hy).cells9.2.2.2.2.2.2.2.2
    clear hcell hcelp
    have hy7 := (Below.refl w7.heap.size w7).drew
    refine wp_region_kept [22] (fun y => Below w7.heap.size w7 y) (by kernel_rfl) (by assumption) (fun hH => ?_)
    refine wpK.take (i := 0) (v := _) (by simp only [List.getElem?_toArray, List.getElem?_cons_succ, List.getElem?_cons_zero]; rfl) (by kernel_rfl) (by kernel_rfl) (by kernel_rfl) (by kernel_rfl) (by kernel_rfl) (by exact fun _ _ _ h => h) (by first | exact Or.inl ⟨by rfl, by intro w hSw; go_simp; try with_reducible rfl⟩ | exact Or.inr ⟨by rfl, rfl⟩) hH ?_
    try simp only [Act.put, List.setIfInBounds_toArray, List.set_cons_zero, List.set_cons_succ]
    refine wpK.take (i := 1) (v := _) (by simp only [List.getElem?_toArray, List.getElem?_cons_succ, List.getElem?_cons_zero]; rfl) (by kernel_rfl) (by kernel_rfl) (by kernel_rfl) (by kernel_rfl) (by kernel_rfl) (by exact fun _ _ _ h => h) (by first | exact Or.inl ⟨by rfl, by intro w hSw; go_simp; try with_reducible rfl⟩ | exact Or.inr ⟨by rfl, rfl⟩) hH ?_
    try simp only [Act.put, List.setIfInBounds_toArray, List.set_cons_zero, List.set_cons_succ]
    refine wpK.take (i := 2) (v := _) (by simp only [List.getElem?_toArray, List.getElem?_cons_succ, List.getElem?_cons_zero]; rfl) (by kernel_rfl) (by kernel_rfl) (by kernel_rfl) (by kernel_rfl) (by kernel_rfl) (by exact fun _ _ _ h => h) (by first | exact Or.inl ⟨by rfl, by intro w hSw; go_simp; try with_reducible rfl⟩ | exact Or.inr ⟨by rfl, rfl⟩) hH ?_
    try simp only [Act.put, List.setIfInBounds_toArray, List.set_cons_zero, List.set_cons_succ]
    refine wpK.take (i := 3) (v := _) (by simp only [List.getElem?_toArray, List.getElem?_cons_succ, List.getElem?_cons_zero]; rfl) (by kernel_rfl) (by kernel_rfl) (by kernel_rfl) (by kernel_rfl) (by kernel_rfl) (by exact fun _ _ _ h => h) (by first | exact Or.inl ⟨by rfl, by intro w hSw; go_simp; try with_reducible rfl⟩ | exact Or.inr ⟨by rfl, rfl⟩) hH ?_
    try simp only [Act.put, List.setIfInBounds_toArray, List.set_cons_zero, List.set_cons_succ]
    refine wpK.take (i := 4) (v := _) (by simp only [List.getElem?_toArray, List.getElem?_cons_succ, List.getElem?_cons_zero]; rfl) (by kernel_rfl) (by kernel_rfl) (by kernel_rfl) (by kernel_rfl) (by kernel_rfl) (by exact fun _ _ _ h => h) (by first | exact Or.inl ⟨by rfl, by intro w hSw; go_simp; try with_reducible rfl⟩ | exact Or.inr ⟨by rfl, rfl⟩) hH ?_
    try simp only [Act.put, List.setIfInBounds_toArray, List.set_cons_zero, List.set_cons_succ]
    refine wpK.take (i := 5) (v := _) (by simp only [List.getElem?_toArray, List.getElem?_cons_succ, List.getElem?_cons_zero]; rfl) (by kernel_rfl) (by kernel_rfl) (by kernel_rfl) (by kernel_rfl) (by kernel_rfl) (by exact fun _ _ _ h => h) (by first | exact Or.inl ⟨by rfl, by intro w hSw; go_simp; try with_reducible rfl⟩ | exact Or.inr ⟨by rfl, rfl⟩) hH ?_
    try simp only [Act.put, List.setIfInBounds_toArray, List.set_cons_zero, List.set_cons_succ]
    refine wpK.step (i := 6) (by kernel_rfl) (by simp only [List.getElem?_toArray, List.getElem?_cons_succ, List.getElem?_cons_zero]; rfl) (fun K hK => ?_)
    go_simp
    (refine (law27_ref ses who kind a b c d text login _).mono ?_); rintro e wk ⟨rfl, hbk⟩; (have hyk := Below.next (by assumption) hbk); clear hbk; go_simp
    refine hK.out _ _ (by assumption) (fun hH => ?_)
    clear hK K
    try simp only [Act.put, List.setIfInBounds_toArray, List.set_cons_zero, List.set_cons_succ]
    refine wpK.step (i := 7) (by kernel_rfl) (by simp only [List.getElem?_toArray, List.getElem?_cons_succ, List.getElem?_cons_zero]; rfl) (fun K hK => ?_)
    go_simp
    (refine (ref_CmBytes ses who kind a b c d text login _ hl ht hok all HA).mono ?_); rintro e wm ⟨rfl, hbm⟩; (have hym := Below.next (by assumption) hbm); clear hbm; go_simp
    refine hK.out _ _ (by assumption) (fun hH => ?_)
    clear hK K
    try simp only [Act.put, List.setIfInBounds_toArray, List.set_cons_zero, List.set_cons_succ]
    refine wpK.take (i := 8) (v := _) (by simp only [List.getElem?_toArray, List.getElem?_cons_succ, List.getElem?_cons_zero]; rfl) (by kernel_rfl) (by kernel_rfl) (by kernel_rfl) (by kernel_rfl) (by kernel_rfl) (by exact fun _ _ _ h => h) (by first | exact Or.inl ⟨by rfl, by intro w hSw; go_simp; try with_reducible rfl⟩ | exact Or.inr ⟨by rfl, rfl⟩) hH ?_
    try simp only [Act.put, List.setIfInBounds_toArray, List.set_cons_zero, List.set_cons_succ]
    refine wpK.take (i := 9) (v := _) (by simp only [List.getElem?_toArray, List.getElem?_cons_succ, List.getElem?_cons_zero]; rfl) (by kernel_rfl) (by kernel_rfl) (by kernel_rfl) (by kernel_rfl) (by kernel_rfl) (by exact fun _ _ _ h => h) (by first | exact Or.inl ⟨by rfl, by intro w hSw; go_simp; try with_reducible rfl⟩ | exact Or.inr ⟨by rfl, rfl⟩) hH ?_
    try simp only [Act.put, List.setIfInBounds_toArray, List.set_cons_zero, List.set_cons_succ]
    refine wpK.take (i := 10) (v := _) (by simp only [List.getElem?_toArray, List.getElem?_cons_succ, List.getElem?_cons_zero]; rfl) (by kernel_rfl) (by kernel_rfl) (by kernel_rfl) (by kernel_rfl) (by kernel_rfl) (by exact fun _ _ _ h => h) (by first | exact Or.inl ⟨by rfl, by intro w hSw; go_simp; try with_reducible rfl⟩ | exact Or.inr ⟨by rfl, rfl⟩) hH ?_
    try simp only [Act.put, List.setIfInBounds_toArray, List.set_cons_zero, List.set_cons_succ]
    refine wpK.take (i := 11) (v := _) (by simp only [List.getElem?_toArray, List.getElem?_cons_succ, List.getElem?_cons_zero]; rfl) (by kernel_rfl) (by kernel_rfl) (by kernel_rfl) (by kernel_rfl) (by kernel_rfl) (by exact fun _ _ _ h => h) (by first | exact Or.inl ⟨by rfl, by intro w hSw; go_simp; try with_reducible rfl⟩ | exact Or.inr ⟨by rfl, rfl⟩) hH ?_
    try simp only [Act.put, List.setIfInBounds_toArray, List.set_cons_zero, List.set_cons_succ]
    refine wpK.take (i := 12) (v := _) (by simp only [List.getElem?_toArray, List.getElem?_cons_succ, List.getElem?_cons_zero]; rfl) (by kernel_rfl) (by kernel_rfl) (by kernel_rfl) (by kernel_rfl) (by kernel_rfl) (by exact fun _ _ _ h => h) (by first | exact Or.inl ⟨by rfl, by intro w hSw; go_simp; try with_reducible rfl⟩ | exact Or.inr ⟨by rfl, rfl⟩) hH ?_
    try simp only [Act.put, List.setIfInBounds_toArray, List.set_cons_zero, List.set_cons_succ]
    refine wpK.take (i := 13) (v := _) (by simp only [List.getElem?_toArray, List.getElem?_cons_succ, List.getElem?_cons_zero]; rfl) (by kernel_rfl) (by kernel_rfl) (by kernel_rfl) (by kernel_rfl) (by kernel_rfl) (by exact fun _ _ _ h => h) (by first | exact Or.inl ⟨by rfl, by intro w hSw; go_simp; try with_reducible rfl⟩ | exact Or.inr ⟨by rfl, rfl⟩) hH ?_
    try simp only [Act.put, List.setIfInBounds_toArray, List.set_cons_zero, List.set_cons_succ]
    refine wpK.take (i := 14) (v := _) (by simp only [List.getElem?_toArray, List.getElem?_cons_succ, List.getElem?_cons_zero]; rfl) (by kernel_rfl) (by kernel_rfl) (by kernel_rfl) (by kernel_rfl) (by kernel_rfl) (by exact fun _ _ _ h => h) (by first | exact Or.inl ⟨by rfl, by intro w hSw; go_simp; try with_reducible rfl⟩ | exact Or.inr ⟨by rfl, rfl⟩) hH ?_
    try simp only [Act.put, List.setIfInBounds_toArray, List.set_cons_zero, List.set_cons_succ]
    refine wpK.take (i := 15) (v := _) (by simp only [List.getElem?_toArray, List.getElem?_cons_succ, List.getElem?_cons_zero]; rfl) (by kernel_rfl) (by kernel_rfl) (by kernel_rfl) (by kernel_rfl) (by kernel_rfl) (by exact fun _ _ _ h => h) (by first | exact Or.inl ⟨by rfl, by intro w hSw; go_simp; try with_reducible rfl⟩ | exact Or.inr ⟨by rfl, rfl⟩) hH ?_
    try simp only [Act.put, List.setIfInBounds_toArray, List.set_cons_zero, List.set_cons_succ]
    refine wpK.take (i := 16) (v := _) (by simp only [List.getElem?_toArray, List.getElem?_cons_succ, List.getElem?_cons_zero]; rfl) (by kernel_rfl) (by kernel_rfl) (by kernel_rfl) (by kernel_rfl) (by kernel_rfl) (by exact fun _ _ _ h => h) (by first | exact Or.inl ⟨by rfl, by intro w hSw; go_simp; try with_reducible rfl⟩ | exact Or.inr ⟨by rfl, rfl⟩) hH ?_
    try simp only [Act.put, List.setIfInBounds_toArray, List.set_cons_zero, List.set_cons_succ]
    refine wpK.take (i := 17) (v := _) (by simp only [List.getElem?_toArray, List.getElem?_cons_succ, List.getElem?_cons_zero]; rfl) (by kernel_rfl) (by kernel_rfl) (by kernel_rfl) (by kernel_rfl) (by kernel_rfl) (by exact fun _ _ _ h => h) (by first | exact Or.inl ⟨by rfl, by intro w hSw; go_simp; try with_reducible rfl⟩ | exact Or.inr ⟨by rfl, rfl⟩) hH ?_
    try simp only [Act.put, List.setIfInBounds_toArray, List.set_cons_zero, List.set_cons_succ]
    refine wpK.take (i := 18) (v := _) (by simp only [List.getElem?_toArray, List.getElem?_cons_succ, List.getElem?_cons_zero]; rfl) (by kernel_rfl) (by kernel_rfl) (by kernel_rfl) (by kernel_rfl) (by kernel_rfl) (by exact fun _ _ _ h => h) (by first | exact Or.inl ⟨by rfl, by intro w hSw; go_simp; try with_reducible rfl⟩ | exact Or.inr ⟨by rfl, rfl⟩) hH ?_
    try simp only [Act.put, List.setIfInBounds_toArray, List.set_cons_zero, List.set_cons_succ]
    refine wpK.take (i := 19) (v := _) (by simp only [List.getElem?_toArray, List.getElem?_cons_succ, List.getElem?_cons_zero]; rfl) (by kernel_rfl) (by kernel_rfl) (by kernel_rfl) (by kernel_rfl) (by kernel_rfl) (by exact fun _ _ _ h => h) (by first | exact Or.inl ⟨by rfl, by intro w hSw; go_simp; try with_reducible rfl⟩ | exact Or.inr ⟨by rfl, rfl⟩) hH ?_
    try simp only [Act.put, List.setIfInBounds_toArray, List.set_cons_zero, List.set_cons_succ]
    refine wpK.step (i := 20) (by kernel_rfl) (by simp only [List.getElem?_toArray, List.getElem?_cons_succ, List.getElem?_cons_zero]; rfl) (fun K hK => ?_)
    go_simp
    (refine (law27_awake _).mono ?_); rintro e wn ⟨rfl, hbn⟩; (have hyn := Below.next (by assumption) hbn); clear hbn; go_simp
    refine hK.out _ _ (by assumption) (fun hH => ?_)
    clear hK K
    try simp only [Act.put, List.setIfInBounds_toArray, List.set_cons_zero, List.set_cons_succ]
    refine wpK.take (i := 21) (v := _) (by simp only [List.getElem?_toArray, List.getElem?_cons_succ, List.getElem?_cons_zero]; rfl) (by kernel_rfl) (by kernel_rfl) (by kernel_rfl) (by kernel_rfl) (by kernel_rfl) (by exact fun _ _ _ h => h) (by first | exact Or.inl ⟨by rfl, by intro w hSw; go_simp; try with_reducible rfl⟩ | exact Or.inr ⟨by rfl, rfl⟩) hH ?_
    try simp only [Act.put, List.setIfInBounds_toArray, List.set_cons_zero, List.set_cons_succ]
    refine wpK.late (i := 22) (by kernel_rfl) (by simp only [List.getElem?_toArray, List.getElem?_cons_succ, List.getElem?_cons_zero]; rfl) (by kernel_rfl) (fun K hK => ?_)
    go_simp
    refine hK.out _ _ ?_
    clear hK K
    try simp only [Act.put, List.setIfInBounds_toArray, List.set_cons_zero, List.set_cons_succ]
    refine wpK.done (by kernel_rfl) ?_ _
    have HYN := hid hyn
    clear c0 c1 c2 c3 c4 c5 c6 c7 c8 d0 d1 d2 d3 d4 d5 d6 d7 d8 hst hy7 hyk hym hyn
    go_wp2_with fail
    go_ret
    exact ⟨rfl, Below.next HB7.out HYN.out⟩
set_option maxRecDepth 100000 in
set_option maxHeartbeats 2000000 in
theorem OrderBytes_walk {H : Type} {enc : TypeId × Value → H} {b0 : Nat} {d0 : DataW H} {p0 : List MemPlace} (v0 : Value) (w : World) (ok0 : Value.okWide Tryd.prog w .any b0 60 v0) (k0 : DataW.Trod enc Tryd.prog w 0 (fun _ => true) true 60 v0 d0 p0) :
    Calls Tryd.prog 6 #[v0] w fun e w' => e = .returned (.bool true) ∧ Below w.heap.size w w' := by
  obtain ⟨ses, who, kind, a, b, c, d, text, login, rfl, hwf, h1, h2⟩ := open_cm ok0 k0
  clear ok0 k0
  by_cases hl : login.size ≤ 100
  · by_cases ht : text.size ≤ 100
    · exact law27_Bytes ses who kind a b c d text login w hl ht (hid (wf7 hwf text login))
    · have i1 : (login.size : Int) ≤ 100 := by omega
      have i2 : (100 : Int) < (text.size : Int) := by omega
      have HK : Hid (∀ x, Below w.heap.size w (w.alloc x)) := hid fun x => Below.new w x
      clear hwf h1 h2 hl ht
      go_enter Tryd.func6, Tryd.ntmps6
      go_wp2_with fail
      refine (law27_awake _).mono ?_
      rintro e w4 ⟨rfl, hb4⟩
      have HB4 := hid (Below.next (HK.out _) hb4)
      clear hb4
      go_wp2_with fail
      go_ret
      exact ⟨rfl, HB4.out⟩
  · have i1 : (100 : Int) < (login.size : Int) := by omega
    have HK : Hid (∀ x, Below w.heap.size w (w.alloc x)) := hid fun x => Below.new w x
    clear hwf h1 h2 hl
    go_enter Tryd.func6, Tryd.ntmps6
    go_wp2_with fail
    refine (law27_awake _).mono ?_
    rintro e w4 ⟨rfl, hb4⟩
    have HB4 := hid (Below.next (HK.out _) hb4)
    clear hb4
    go_wp2_with fail
    go_ret
    exact ⟨rfl, HB4.out⟩
end Go.Proofs.YtcjdlckfbkdibaaDoor
end
section
/- The law OrderBytes returns true for every input, and what it is handed reads behind the call as it read before: no condition. (The frame follows the kit's proof-skeleton.) -/
namespace Go.Proofs.YtcjdlckfbkdibaaDoor.orderBytes
open Go.ChangeShapes Go.WideShapes Go.ChangeAt Go.RowKit
open Go.ChangeMaps (open_string shut_string)
set_option linter.unusedVariables false

theorem own : ownKnob Tryd.prog.godebug = none := by kernel_rfl
theorem laidOut : laidOutB Tryd.prog = true := by kernel_rfl

/-! ### the row's step -/
set_option maxRecDepth 100000 in
theorem lifted (os : Os) (started : os.Started) (H : Type) (enc : TypeId × Value → H) :
    ReturnsInHanded {} Tryd.checked os 6 .any (fun w args => (Rows.orderBytesSpec.pre enc Tryd.prog Tryd.f6 [] false w args ∧ laidMetH Tryd.prog Rows.orderBytesRow.laid w) ∧ sizedMet enc Tryd.prog Tryd.f6 (OpenSpec.ofChange Rows.orderBytesSpec) false w args)
      (Rows.orderBytesSpec.post enc Tryd.prog Tryd.f6 false true false false) := by
  refine returnsInHanded_of_change_and (C := Tryd.checked) (X := fun w _ => laidMetH Tryd.prog Rows.orderBytesRow.laid w) (fun _ _ _ hh h => h.of_heap hh) own started (by kernel_rfl) Tryd.func6
    (ChangeSpec.witness_shaped (enc := enc) (C := Tryd.checked) (os := os) (X := fun w _ => laidMetH Tryd.prog Rows.orderBytesRow.laid w) false (World.laidAll Tryd.prog os Rows.orderBytesRow.laid) #[.agg #[.int .i64 0, .int .i64 0, .int .i64 0, .int .i64 0, .int .i64 0, .int .i64 0, .int .i64 0, .string ByteArray.empty, .string ByteArray.empty]] 8 (World.laidAll_os _ _ _)
      (World.shaped_of_ZipB (by kernel_rfl) (by kernel_rfl)) (by kernel_rfl) (by kernel_rfl) (by kernel_rfl)
      (by rw [MakeChecks.laidMetH_plain _ _ _ (by kernel_rfl)]; exact laidMet_laidAll _ (by kernel_rfl) (by kernel_rfl))) ?_
  intro W base args ds gs before hval0 hW _ _ hL _
  have hval : ∀ (j : Nat) t v, Tryd.f6.params[j]? = some t → args[j]? = some v → Value.okWide Tryd.prog W .any base t v := hval0
  have hW' := hW
  obtain ⟨p, q, hA0, hV, rfl, hfz, hnd⟩ := hW
  have hA : DataW.TrodAll enc Tryd.prog W 0 (fun _ => true) true Tryd.f6.params.toList args.toList ds p := hA0
  rw [Tryd.params6] at hA hval
  obtain ⟨v0, vs0, d0, ds0, p0, q0, hargs, rfl, rfl, h0, r0⟩ := trodAll_cons hA
  obtain ⟨rfl, rfl, rfl⟩ := trodAll_nil r0
  obtain rfl : args = #[v0] := by cases args; simp_all
  obtain ⟨rfl, rfl⟩ := trodVars_none hV
  have k0 := h0
  have lt0 : ∀ x ∈ p0, x.block < W.heap.size := by obtain ⟨m, hm⟩ := k0; exact DataW.trod_lt m _ _ _ hm
  have ok0 := hval 0 60 v0 rfl rfl
  clear hA0 hval0
  refine (OrderBytes_walk v0 W ok0 k0).mono fun e W' ⟨he, bel⟩ => ?_
  subst he
  exact ⟨_, rfl, _, _, _, [], _, [], hW', trodAll_mk1 (shut_bool Tryd.underlying4 _), (trodAll_cons_mk (Below.trod laidOut (by kernel_rfl) (of_decide_eq_true (by kernel_rfl)) k0 bel lt0) trodAll_mk0), rfl, bel.frame _, fun h => by cases h⟩

theorem over : Rows.orderBytesRow.holds Tryd.pinned (OpenSpec.ofChange Rows.orderBytesSpec) :=
  OpenClaim.holds_of_wide 6 Tryd.f6 rfl rfl rfl rfl rfl rfl rfl ⟨rfl, rfl, rfl, rfl, rfl⟩ rfl rfl rfl rfl rfl (by kernel_rfl) Tryd.func6 (by kernel_rfl)
    (of_decide_eq_true (by kernel_rfl)) (by unfold Func.isWrapper; first | (rw [if_pos (by decide +kernel)]; kernel_rfl) | (rw [if_neg (by decide +kernel)]; exact ⟨rfl, rfl⟩))
    (fun os started H enc _ => lifted os started H enc)

/-- the statement: the card -/
theorem proved : Rows.OrderBytesCardSaid :=
  Claim7.holds_tied_plain_at .later [] [.data, .pinned] true (true, "95c5e0baea14d259fa08840643a51885dbcb859a6132a907c68469966bc0bf4b") false
    over (fun _ h => by cases h) (by kernel_rfl) (fun _ h => by cases h) orderBytes_row_tie rfl ⟨rfl, rfl⟩ (by kernel_rfl) rfl
    (fun f fn hf hfn => by
      obtain rfl : f = 6 := Option.some.inj ((show Tryd.prog.funcNamed "deedhold/deedholdlaw27.OrderBytes" = some 6 by kernel_rfl).symm.trans hf) |>.symm
      obtain rfl : fn = Tryd.f6 := (Option.some.inj (Tryd.func6.symm.trans hfn)).symm
      exact ⟨by kernel_rfl, fun j t ht => by
        rw [Tryd.params6] at ht
        have hm : t ∈ [60] := by simpa using Array.mem_of_getElem? ht
        have hall : ([60].all fun u => !Tryd.prog.wantsStandIn u) = true := by kernel_rfl
        exact (show Tryd.prog.wantsStandIn t = false by simpa using List.all_eq_true.1 hall t hm)⟩)
    (by kernel_rfl)
#print axioms proved
end Go.Proofs.YtcjdlckfbkdibaaDoor.orderBytes
end
