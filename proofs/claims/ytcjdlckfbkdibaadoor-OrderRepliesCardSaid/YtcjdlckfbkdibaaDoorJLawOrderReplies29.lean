/- Joined texts, in this order: OrdRepliesLaw. Each one's first remark says what it proves; no condition beyond those that its theorems name. -/
import Derived.Test.YtcjdlckfbkdibaaDoorJLawOrderReplies27
import Derived.Test.YtcjdlckfbkdibaaDoorJLawOrderReplies28
section
/- The law OrderReplies. -/
namespace Go.Proofs.YtcjdlckfbkdibaaDoor
open Go.RowKit Go.ChangeShapes Go.WideShapes Go.Deep Go.Joins
open Go.Lib (hid)
set_option linter.unusedVariables false

set_option maxRecDepth 100000 in
theorem open_reply {H : Type} {enc : TypeId × Value → H} {w : World} {b0 : Nat} {d0 : DataW H} {p0 : List MemPlace} {v0 : Value} (ok0 : Value.okWide Tryd.prog w .any b0 77 v0) (k0 : DataW.Trod enc Tryd.prog w 0 (fun _ => true) true 77 v0 d0 p0) :
    ∃ (e n : Int) (v : Value) (l : List Int), v0 = .agg #[.int .i64 e, .int .i64 n, v] ∧ SlI w v l ∧ (Lit.int .i64 e).wf = true ∧ (Lit.int .i64 n).wf = true ∧ ∀ x ∈ l, (Lit.int .i64 x).wf = true := by
  obtain ⟨x0, x1, v, y0, y1, y2, n, rfl, -, -, t0, t1, t2⟩ := open_agg3 Tryd.underlying77 (by kernel_rfl) (by kernel_rfl) ok0 k0
  obtain ⟨e, e0, -, he⟩ := DataW.trod_int Tryd.underlying25 t0
  obtain ⟨m, e1, -, hm⟩ := DataW.trod_int Tryd.underlying3 t1
  simp only [List.cons.injEq, and_true] at e0 e1
  subst e0 e1
  obtain ⟨l, hl, hw⟩ := open_sliF t2
  exact ⟨e, m, v, l, rfl, hl, he, hm, hw⟩
theorem sli_own {w : World} {base : Nat} {v : Value} {l : List Int} (h : w.ownsRow base 3 1 v l.length (iv l)) : SlI w v l := by
  obtain ⟨a, cap, rfl, h1, h2, hr, h3⟩ := ownsRow.rd h
  exact ⟨a, cap, rfl, hr, h1, by unfold maxLen at h2; omega, h3⟩
set_option maxRecDepth 100000 in
set_option maxHeartbeats 8000000 in
theorem law27_Replies (e n : Int) (v : Value) (li : List Int) (a1 : Option Addr) (q1 : Nat) (lb : List UInt8) (w : World) (hv : SlI w v li) (hb : SlB w (.slice a1 lb.length q1) lb) (hl : li.length ≤ 100) (hlb : lb.length ≤ 500)
    (he : Hid (-9223372036854775808 ≤ e ∧ e ≤ 9223372036854775807)) (hn : Hid (-9223372036854775808 ≤ n ∧ n ≤ 9223372036854775807)) (hbd : Hid (∀ x ∈ li, -9223372036854775808 ≤ x ∧ x ≤ 9223372036854775807)) :
    Calls Tryd.prog 10 #[.agg #[.int .i64 e, .int .i64 n, v], .slice a1 lb.length q1] w fun e w' => e = .returned (.bool true) ∧ Below w.heap.size w w' := by
  have HV := hid hv
  have HBL := hid hb
  obtain ⟨a0, q0, rfl, hrd, -⟩ := hv
  have HRD := hid hrd
  obtain ⟨all, hall⟩ : ∃ l, l = replyL e n li := ⟨_, rfl⟩
  have hal : all.length ≤ 1100 := by
    rw [hall]; unfold replyL; simp only [List.length_append]
    have := enc_len10 (zz e) (zz_lt _ he.out.1 he.out.2)
    have := enc_len10 (zz n) (zz_lt _ hn.out.1 hn.out.2)
    have := enc_len10 (zz (li.length : Int)) (zz_lt _ (by omega) (by omega))
    have := encs_le li hbd.out
    omega
  have HALL := hid hall
  have HAL := hid hal
  have i1 : (li.length : Int) ≤ 100 := by omega
  have i2 : ¬ (500 : Int) < (lb.length : Int) := by omega
  clear hrd hb hall hal
  obtain ⟨bb, hbb⟩ : ∃ bb, bb = w.heap.size := ⟨_, rfl⟩
  go_enter Tryd.func10, Tryd.ntmps10
  go_wp2_with fail
  generalize hw1 : World.alloc w _ = w1
  rw [← hbb]
  have hx1 : Below w.heap.size w w1 := by rw [← hw1]; exact Below.new _ _
  have HB1 := hid hx1
  have HK1 : Hid (Blk w1 bb #[.int .i64 e, .int .i64 n, .slice a0 li.length q0]) := hid (by rw [← hw1, hbb]; exact Blk.new w _ _)
  clear hw1 hx1 hbb
  refine (order_Reply e n he hn li hbd a0 q0 (by omega) w1 (HRD.out.below' HB1.out) all HALL).mono ?_
  rintro en w2 ⟨u2, rfl, ho2, hb2⟩
  have HB2 := hid (Below.next HB1.out hb2)
  have HK2 := hid (HK1.out.below hb2)
  have HS2 := hid (ownsRow.slb ho2 (by have := HAL.out; omega))
  obtain ⟨a2, q2, rfl, -⟩ := HS2.out
  clear hb2 ho2 HB1 HK1
  go_wp2_with fail
  refine (order_ParseReply all _ w2 HS2.out (by have := HAL.out; omega)).mono ?_
  rintro en w3 ⟨V, ok, rfl, hpr, hb3⟩
  have hpa : parseR all = some (e, n, li) := by rw [HALL.out]; exact parseR_reply e n li he.out hn.out hbd.out (by omega)
  obtain ⟨v3, hV, hok3, ho3⟩ : ∃ v3, V = .agg #[.int .i64 e, .int .i64 n, v3] ∧ ok = true ∧ w3.ownsRow w2.heap.size 3 1 v3 li.length (iv li) := by
    rcases hpr with ⟨h1, -⟩ | ⟨e', n', li', v', h1, h2, h3, h4⟩
    · rw [hpa] at h1; simp at h1
    · rw [hpa] at h1
      simp only [Option.some.injEq, Prod.mk.injEq] at h1
      obtain ⟨rfl, rfl, rfl⟩ := h1
      exact ⟨v', h3, h2, h4⟩
  subst hV
  subst hok3
  have HS3 := hid (sli_own ho3)
  obtain ⟨a3, q3, rfl, -⟩ := HS3.out
  have HB3 := hid (Below.next HB2.out hb3)
  have HK3 := hid (HK2.out.below hb3)
  have HX3 := hid (HS2.out.below hb3)
  clear hpr hpa hb3 ho3 HB2 HK2 HS2
  go_upto_region 5 with fail
  generalize hw4 : World.alloc w3 _ = w4
  obtain ⟨b4, hb4⟩ : ∃ b4, b4 = w3.heap.size := ⟨_, rfl⟩
  rw [← hb4]
  have hx4 : Below w3.heap.size w3 w4 := by rw [← hw4]; exact Below.new _ _
  have HB4 := hid (Below.next HB3.out hx4)
  have HK4 := hid (HK3.out.below hx4)
  have HX4 := hid (HX3.out.below hx4)
  have HS4 := hid (HS3.out.below hx4)
  have HP4 : Hid (Blk w4 b4 #[.int .i64 e, .int .i64 n, .slice a3 li.length q3]) := hid (by rw [← hw4, hb4]; exact Blk.new _ _ _)
  clear hw4 hx4 hb4 HB3 HK3 HX3 HS3
  have hst := HX4.out.str
  have c0 := fun y hy => (HK4.out.below (w' := y) hy).cells3.1
  have c1 := fun y hy => (HK4.out.below (w' := y) hy).cells3.2.1
  have c2 := fun y hy => (HK4.out.below (w' := y) hy).cells3.2.2.1
  have d0 := fun y hy => (HP4.out.below (w' := y) hy).cells3.1
  have d1 := fun y hy => (HP4.out.below (w' := y) hy).cells3.2.1
  have d2 := fun y hy => (HP4.out.below (w' := y) hy).cells3.2.2.1
  have hy4 := (Below.refl w4.heap.size w4).drew
  refine wp_region_kept [] (fun y => Below w4.heap.size w4 y) (by kernel_rfl) (by assumption) (fun hH => ?_)
  refine wpK.take (i := 0) (v := _) (by simp only [List.getElem?_toArray, List.getElem?_cons_succ, List.getElem?_cons_zero]; rfl) (by kernel_rfl) (by kernel_rfl) (by kernel_rfl) (by kernel_rfl) (by kernel_rfl) (by exact fun _ _ _ h => h) (by first | exact Or.inl ⟨by rfl, by intro w hSw; go_simp; try with_reducible rfl⟩ | exact Or.inr ⟨by rfl, rfl⟩) hH ?_
  try simp only [Act.put, List.setIfInBounds_toArray, List.set_cons_zero, List.set_cons_succ]
  refine wpK.take (i := 1) (v := _) (by simp only [List.getElem?_toArray, List.getElem?_cons_succ, List.getElem?_cons_zero]; rfl) (by kernel_rfl) (by kernel_rfl) (by kernel_rfl) (by kernel_rfl) (by kernel_rfl) (by exact fun _ _ _ h => h) (by first | exact Or.inl ⟨by rfl, by intro w hSw; go_simp; try with_reducible rfl⟩ | exact Or.inr ⟨by rfl, rfl⟩) hH ?_
  try simp only [Act.put, List.setIfInBounds_toArray, List.set_cons_zero, List.set_cons_succ]
  refine wpK.take (i := 2) (v := _) (by simp only [List.getElem?_toArray, List.getElem?_cons_succ, List.getElem?_cons_zero]; rfl) (by kernel_rfl) (by kernel_rfl) (by kernel_rfl) (by kernel_rfl) (by kernel_rfl) (by exact fun _ _ _ h => h) (by first | exact Or.inl ⟨by rfl, by intro w hSw; go_simp; try with_reducible rfl⟩ | exact Or.inr ⟨by rfl, rfl⟩) hH ?_
  try simp only [Act.put, List.setIfInBounds_toArray, List.set_cons_zero, List.set_cons_succ]
  refine wpK.take (i := 3) (v := _) (by simp only [List.getElem?_toArray, List.getElem?_cons_succ, List.getElem?_cons_zero]; rfl) (by kernel_rfl) (by kernel_rfl) (by kernel_rfl) (by kernel_rfl) (by kernel_rfl) (by exact fun _ _ _ h => h) (by first | exact Or.inl ⟨by rfl, by intro w hSw; go_simp; try with_reducible rfl⟩ | exact Or.inr ⟨by rfl, rfl⟩) hH ?_
  try simp only [Act.put, List.setIfInBounds_toArray, List.set_cons_zero, List.set_cons_succ]
  refine wpK.take (i := 4) (v := _) (by simp only [List.getElem?_toArray, List.getElem?_cons_succ, List.getElem?_cons_zero]; rfl) (by kernel_rfl) (by kernel_rfl) (by kernel_rfl) (by kernel_rfl) (by kernel_rfl) (by exact fun _ _ _ h => h) (by first | exact Or.inl ⟨by rfl, by intro w hSw; go_simp; try with_reducible rfl⟩ | exact Or.inr ⟨by rfl, rfl⟩) hH ?_
  try simp only [Act.put, List.setIfInBounds_toArray, List.set_cons_zero, List.set_cons_succ]
  refine wpK.take (i := 5) (v := _) (by simp only [List.getElem?_toArray, List.getElem?_cons_succ, List.getElem?_cons_zero]; rfl) (by kernel_rfl) (by kernel_rfl) (by kernel_rfl) (by kernel_rfl) (by kernel_rfl) (by exact fun _ _ _ h => h) (by first | exact Or.inl ⟨by rfl, by intro w hSw; go_simp; try with_reducible rfl⟩ | exact Or.inr ⟨by rfl, rfl⟩) hH ?_
  try simp only [Act.put, List.setIfInBounds_toArray, List.set_cons_zero, List.set_cons_succ]
  refine wpK.take (i := 6) (v := _) (by simp only [List.getElem?_toArray, List.getElem?_cons_succ, List.getElem?_cons_zero]; rfl) (by kernel_rfl) (by kernel_rfl) (by kernel_rfl) (by kernel_rfl) (by kernel_rfl) (by exact fun _ _ _ h => h) (by first | exact Or.inl ⟨by rfl, by intro w hSw; go_simp; try with_reducible rfl⟩ | exact Or.inr ⟨by rfl, rfl⟩) hH ?_
  try simp only [Act.put, List.setIfInBounds_toArray, List.set_cons_zero, List.set_cons_succ]
  refine wpK.take (i := 7) (v := _) (by simp only [List.getElem?_toArray, List.getElem?_cons_succ, List.getElem?_cons_zero]; rfl) (by kernel_rfl) (by kernel_rfl) (by kernel_rfl) (by kernel_rfl) (by kernel_rfl) (by exact fun _ _ _ h => h) (by first | exact Or.inl ⟨by rfl, by intro w hSw; go_simp; try with_reducible rfl⟩ | exact Or.inr ⟨by rfl, rfl⟩) hH ?_
  try simp only [Act.put, List.setIfInBounds_toArray, List.set_cons_zero, List.set_cons_succ]
  refine wpK.step (i := 8) (by kernel_rfl) (by simp only [List.getElem?_toArray, List.getElem?_cons_succ, List.getElem?_cons_zero]; rfl) (fun K hK => ?_)
  go_simp
  (refine (ref_Reply e n he hn li hbd a0 q0 (by omega) _ (HRD.out.below' (Below.next HB4.out (by assumption))) all HALL).mono ?_); rintro en wk ⟨rfl, hbk⟩; (have hyk := Below.next (by assumption) hbk); clear hbk; go_simp
  refine hK.out _ _ (by assumption) (fun hH => ?_)
  clear hK K
  try simp only [Act.put, List.setIfInBounds_toArray, List.set_cons_zero, List.set_cons_succ]
  refine wpK.take (i := 9) (v := _) (by simp only [List.getElem?_toArray, List.getElem?_cons_succ, List.getElem?_cons_zero]; rfl) (by kernel_rfl) (by kernel_rfl) (by kernel_rfl) (by kernel_rfl) (by kernel_rfl) (by exact fun _ _ _ h => h) (by first | exact Or.inl ⟨by rfl, by intro w hSw; go_simp; try with_reducible rfl⟩ | exact Or.inr ⟨by rfl, rfl⟩) hH ?_
  try simp only [Act.put, List.setIfInBounds_toArray, List.set_cons_zero, List.set_cons_succ]
  refine wpK.take (i := 10) (v := _) (by simp only [List.getElem?_toArray, List.getElem?_cons_succ, List.getElem?_cons_zero]; rfl) (by kernel_rfl) (by kernel_rfl) (by kernel_rfl) (by kernel_rfl) (by kernel_rfl) (by exact fun _ _ _ h => h) (by first | exact Or.inl ⟨by rfl, by intro w hSw; go_simp; try with_reducible rfl⟩ | exact Or.inr ⟨by rfl, rfl⟩) hH ?_
  try simp only [Act.put, List.setIfInBounds_toArray, List.set_cons_zero, List.set_cons_succ]
  refine wpK.take (i := 11) (v := _) (by simp only [List.getElem?_toArray, List.getElem?_cons_succ, List.getElem?_cons_zero]; rfl) (by kernel_rfl) (by kernel_rfl) (by kernel_rfl) (by kernel_rfl) (by kernel_rfl) (by exact fun _ _ _ h => h) (by first | exact Or.inl ⟨by rfl, by intro w hSw; go_simp; try with_reducible rfl⟩ | exact Or.inr ⟨by rfl, rfl⟩) hH ?_
  try simp only [Act.put, List.setIfInBounds_toArray, List.set_cons_zero, List.set_cons_succ]
  refine wpK.take (i := 12) (v := _) (by simp only [List.getElem?_toArray, List.getElem?_cons_succ, List.getElem?_cons_zero]; rfl) (by kernel_rfl) (by kernel_rfl) (by kernel_rfl) (by kernel_rfl) (by kernel_rfl) (by exact fun _ _ _ h => h) (by first | exact Or.inl ⟨by rfl, by intro w hSw; go_simp; try with_reducible rfl⟩ | exact Or.inr ⟨by rfl, rfl⟩) hH ?_
  try simp only [Act.put, List.setIfInBounds_toArray, List.set_cons_zero, List.set_cons_succ]
  refine wpK.take (i := 13) (v := _) (by simp only [List.getElem?_toArray, List.getElem?_cons_succ, List.getElem?_cons_zero]; rfl) (by kernel_rfl) (by kernel_rfl) (by kernel_rfl) (by kernel_rfl) (by kernel_rfl) (by exact fun _ _ _ h => h) (by first | exact Or.inl ⟨by rfl, by intro w hSw; go_simp; try with_reducible rfl⟩ | exact Or.inr ⟨by rfl, rfl⟩) hH ?_
  try simp only [Act.put, List.setIfInBounds_toArray, List.set_cons_zero, List.set_cons_succ]
  refine wpK.take (i := 14) (v := _) (by simp only [List.getElem?_toArray, List.getElem?_cons_succ, List.getElem?_cons_zero]; rfl) (by kernel_rfl) (by kernel_rfl) (by kernel_rfl) (by kernel_rfl) (by kernel_rfl) (by exact fun _ _ _ h => h) (by first | exact Or.inl ⟨by rfl, by intro w hSw; go_simp; try with_reducible rfl⟩ | exact Or.inr ⟨by rfl, rfl⟩) hH ?_
  try simp only [Act.put, List.setIfInBounds_toArray, List.set_cons_zero, List.set_cons_succ]
  refine wpK.take (i := 15) (v := _) (by simp only [List.getElem?_toArray, List.getElem?_cons_succ, List.getElem?_cons_zero]; rfl) (by kernel_rfl) (by kernel_rfl) (by kernel_rfl) (by kernel_rfl) (by kernel_rfl) (by exact fun _ _ _ h => h) (by first | exact Or.inl ⟨by rfl, by intro w hSw; go_simp; try with_reducible rfl⟩ | exact Or.inr ⟨by rfl, rfl⟩) hH ?_
  try simp only [Act.put, List.setIfInBounds_toArray, List.set_cons_zero, List.set_cons_succ]
  refine wpK.take (i := 16) (v := _) (by simp only [List.getElem?_toArray, List.getElem?_cons_succ, List.getElem?_cons_zero]; rfl) (by kernel_rfl) (by kernel_rfl) (by kernel_rfl) (by kernel_rfl) (by kernel_rfl) (by exact fun _ _ _ h => h) (by first | exact Or.inl ⟨by rfl, by intro w hSw; go_simp; try with_reducible rfl⟩ | exact Or.inr ⟨by rfl, rfl⟩) hH ?_
  try simp only [Act.put, List.setIfInBounds_toArray, List.set_cons_zero, List.set_cons_succ]
  refine wpK.step (i := 17) (by kernel_rfl) (by simp only [List.getElem?_toArray, List.getElem?_cons_succ, List.getElem?_cons_zero]; rfl) (fun K hK => ?_)
  go_simp
  (refine (reply_Equal e n e n li li _ _ _ (HS4.out.below (by assumption)) (HV.out.below (Below.next HB4.out (by assumption))) true (hid (by simp))).mono ?_); rintro en wm ⟨rfl, hbm⟩; (have hym := Below.next (by assumption) hbm); clear hbm; go_simp
  refine hK.out _ _ (by assumption) (fun hH => ?_)
  clear hK K
  try simp only [Act.put, List.setIfInBounds_toArray, List.set_cons_zero, List.set_cons_succ]
  refine wpK.take (i := 18) (v := _) (by simp only [List.getElem?_toArray, List.getElem?_cons_succ, List.getElem?_cons_zero]; rfl) (by kernel_rfl) (by kernel_rfl) (by kernel_rfl) (by kernel_rfl) (by kernel_rfl) (by exact fun _ _ _ h => h) (by first | exact Or.inl ⟨by rfl, by intro w hSw; go_simp; try with_reducible rfl⟩ | exact Or.inr ⟨by rfl, rfl⟩) hH ?_
  try simp only [Act.put, List.setIfInBounds_toArray, List.set_cons_zero, List.set_cons_succ]
  refine wpK.take (i := 19) (v := _) (by simp only [List.getElem?_toArray, List.getElem?_cons_succ, List.getElem?_cons_zero]; rfl) (by kernel_rfl) (by kernel_rfl) (by kernel_rfl) (by kernel_rfl) (by kernel_rfl) (by exact fun _ _ _ h => h) (by first | exact Or.inl ⟨by rfl, by intro w hSw; go_simp; try with_reducible rfl⟩ | exact Or.inr ⟨by rfl, rfl⟩) hH ?_
  try simp only [Act.put, List.setIfInBounds_toArray, List.set_cons_zero, List.set_cons_succ]
  refine wpK.done (by kernel_rfl) ?_ _
  have HB5 := hid (Below.next HB4.out hym)
  have HX5 := hid (HBL.out.below HB5.out)
  clear c0 c1 c2 d0 d1 d2 hst hy4 hyk hym hH
  go_wp2_with fail
  refine (order_ParseReply lb _ _ HX5.out (by omega)).mono ?_
  rintro en w6 ⟨V, ok, rfl, hpr, hb6⟩
  have HB6 := hid (Below.next HB5.out hb6)
  have HX6 := hid (HX5.out.below hb6)
  cases ok with
  | false =>
    have hV : V = .agg #[.int .i64 0, .int .i64 0, .slice none 0 0] := by
      rcases hpr with ⟨-, -, h3⟩ | ⟨-, -, -, -, -, h2, -⟩
      · exact h3
      · simp at h2
    subst hV
    clear hb6 hpr HB5 HX5
    go_upto_region 9 with fail
    generalize hw7 : World.alloc w6 _ = w7
    obtain ⟨b7, hb7⟩ : ∃ b7, b7 = w6.heap.size := ⟨_, rfl⟩
    rw [← hb7]
    have hx7 : Below w6.heap.size w6 w7 := by rw [← hw7]; exact Below.new _ _
    have HB7 := hid (Below.next HB6.out hx7)
    have HP7 : Hid (Blk w7 b7 #[.int .i64 0, .int .i64 0, .slice none 0 0]) := hid (by rw [← hw7, hb7]; exact Blk.new _ _ _)
    clear hw7 hx7 hb7 HB6 HX6
    have d0 := fun y hy => (HP7.out.below (w' := y) hy).cells3.1
    have d1 := fun y hy => (HP7.out.below (w' := y) hy).cells3.2.1
    have d2 := fun y hy => (HP7.out.below (w' := y) hy).cells3.2.2.1
    have hy := (Below.refl w7.heap.size w7).drew
    have hf21 : replyL 21 0 [] = [42, 0, 0] := by
      unfold replyL encs
      rw [show zz 21 = 42 from rfl, show zz 0 = 0 from rfl, show zz (([] : List Int).length : Int) = 0 from rfl, enc_small 42 (by omega), enc_small 0 (by omega)]; rfl
    have HF := hid hf21
    clear hf21
    refine wp_region_kept [12] (fun y => Below w7.heap.size w7 y) (by kernel_rfl) (by assumption) (fun hH => ?_)
    refine wpK.take (i := 0) (v := _) (by simp only [List.getElem?_toArray, List.getElem?_cons_succ, List.getElem?_cons_zero]; rfl) (by kernel_rfl) (by kernel_rfl) (by kernel_rfl) (by kernel_rfl) (by kernel_rfl) (by exact fun _ _ _ h => h) (by first | exact Or.inl ⟨by rfl, by intro w hSw; go_simp; try with_reducible rfl⟩ | exact Or.inr ⟨by rfl, rfl⟩) hH ?_
    try simp only [Act.put, List.setIfInBounds_toArray, List.set_cons_zero, List.set_cons_succ]
    refine wpK.take (i := 1) (v := _) (by simp only [List.getElem?_toArray, List.getElem?_cons_succ, List.getElem?_cons_zero]; rfl) (by kernel_rfl) (by kernel_rfl) (by kernel_rfl) (by kernel_rfl) (by kernel_rfl) (by exact fun _ _ _ h => h) (by first | exact Or.inl ⟨by rfl, by intro w hSw; go_simp; try with_reducible rfl⟩ | exact Or.inr ⟨by rfl, rfl⟩) hH ?_
    try simp only [Act.put, List.setIfInBounds_toArray, List.set_cons_zero, List.set_cons_succ]
    refine wpK.inv (le := fun w w' => Below w.heap.size w w') (fun w => Below.refl _ w) (fun _ _ _ h k => Below.next h k) (m := 1) [2, 3, 4, 5, 6, 7, 8, 9, 10, 11] (fun i => match i with | 3 => [2] | 4 => [3] | 5 => [3, 4] | 6 => [3] | 7 => [3, 5, 6] | 8 => [3, 7] | 9 => [8] | 10 => [9] | 11 => [9, 10] | _ => []) (fun i => match i with | 2 => fun u w => u 2 = .bool true | 3 => fun u w => u 3 = .bool true | 4 => fun u w => ∃ a c, u 4 = .slice a 3 c ∧ SlB w (.slice a 3 c) [42, 0, 0] | 5 => fun u w => u 5 = .string ⟨#[42, 0, 0]⟩ | 6 => fun u w => u 6 = .string ⟨#[42, 0, 0]⟩ | 7 => fun u w => u 7 = .bool true | 8 => fun u w => u 8 = .bool true | 9 => fun u w => u 9 = .bool true | 10 => fun u w => u 10 = .bool true | 11 => fun u w => u 11 = .bool true | _ => fun _ _ => True) (by kernel_rfl) ⟨(fun _ _ _ _ h => h), (fun _ _ _ _ h => h), (fun u w w' hb h => by obtain ⟨a, c, h1, h2⟩ := h; exact ⟨a, c, h1, h2.below hb⟩), (fun _ _ _ _ h => h), (fun _ _ _ _ h => h), (fun _ _ _ _ h => h), (fun _ _ _ _ h => h), (fun _ _ _ _ h => h), (fun _ _ _ _ h => h), (fun _ _ _ _ h => h), trivial⟩ ⟨(by dsimp only; intro u j v w h1 h2 h; have e0 := upd_ne u v (Ne.symm h1); simp only [e0]; exact h), (by dsimp only; intro u j v w h1 h2 h; simp only [List.mem_cons, List.not_mem_nil, or_false, not_or] at h2; have e0 := upd_ne u v (Ne.symm h1); have e1 := upd_ne u v (Ne.symm h2); simp only [e0, e1]; exact h), (by dsimp only; intro u j v w h1 h2 h; simp only [List.mem_cons, List.not_mem_nil, or_false, not_or] at h2; have e0 := upd_ne u v (Ne.symm h1); have e1 := upd_ne u v (Ne.symm h2); simp only [e0, e1]; exact h), (by dsimp only; intro u j v w h1 h2 h; simp only [List.mem_cons, List.not_mem_nil, or_false, not_or] at h2; have e0 := upd_ne u v (Ne.symm h1); have e1 := upd_ne u v (Ne.symm h2.1); have e2 := upd_ne u v (Ne.symm h2.2); simp only [e0, e1, e2]; exact h), (by dsimp only; intro u j v w h1 h2 h; simp only [List.mem_cons, List.not_mem_nil, or_false, not_or] at h2; have e0 := upd_ne u v (Ne.symm h1); have e1 := upd_ne u v (Ne.symm h2); simp only [e0, e1]; exact h), (by dsimp only; intro u j v w h1 h2 h; simp only [List.mem_cons, List.not_mem_nil, or_false, not_or] at h2; have e0 := upd_ne u v (Ne.symm h1); have e1 := upd_ne u v (Ne.symm h2.1); have e2 := upd_ne u v (Ne.symm h2.2.1); have e3 := upd_ne u v (Ne.symm h2.2.2); simp only [e0, e1, e2, e3]; exact h), (by dsimp only; intro u j v w h1 h2 h; simp only [List.mem_cons, List.not_mem_nil, or_false, not_or] at h2; have e0 := upd_ne u v (Ne.symm h1); have e1 := upd_ne u v (Ne.symm h2.1); have e2 := upd_ne u v (Ne.symm h2.2); simp only [e0, e1, e2]; exact h), (by dsimp only; intro u j v w h1 h2 h; simp only [List.mem_cons, List.not_mem_nil, or_false, not_or] at h2; have e0 := upd_ne u v (Ne.symm h1); have e1 := upd_ne u v (Ne.symm h2); simp only [e0, e1]; exact h), (by dsimp only; intro u j v w h1 h2 h; simp only [List.mem_cons, List.not_mem_nil, or_false, not_or] at h2; have e0 := upd_ne u v (Ne.symm h1); have e1 := upd_ne u v (Ne.symm h2); simp only [e0, e1]; exact h), (by dsimp only; intro u j v w h1 h2 h; simp only [List.mem_cons, List.not_mem_nil, or_false, not_or] at h2; have e0 := upd_ne u v (Ne.symm h1); have e1 := upd_ne u v (Ne.symm h2.1); have e2 := upd_ne u v (Ne.symm h2.2); simp only [e0, e1, e2]; exact h), trivial⟩ (fun _ h => Below.next hH h) (fun u => ?_)
    generalize hacts : acts _ _ u _ = A_
    simp only [acts, dstOf, List.getElem?_toArray, List.getElem?_cons_succ, List.getElem?_cons_zero, Option.bind_some, Act.put, List.setIfInBounds_toArray, List.set_cons_succ, List.set_cons_zero] at hacts
    subst hacts
    refine ⟨⟨?_, ?_, ?_, ?_, ?_, ?_, ?_, ?_, ?_, ?_, trivial⟩, ?_⟩
    · intro wx hw h_
      clear h_
      apply wpOp_stepI (i := 2) (le := fun w w' => Below w.heap.size w w') (φ := fun v w' => (fun u w => u 2 = .bool true) (upd u 2 v) w')
      · simp only [List.getElem?_toArray, List.getElem?_cons_succ, List.getElem?_cons_zero]; rfl
      · rfl
      intro K hK
      go_simp
      refine (reply_Equal 0 0 0 0 [] [] _ _ _ (SlI.nil _) (SlI.nil _) true (hid (by simp))).mono ?_
      rintro en wk ⟨rfl, hbk⟩
      go_simp
      exact hK.out _ _ hbk rfl
    · intro wx hw h_
      have h_2 : (fun u w => u 2 = .bool true) u wx := h_.1
      try dsimp only at h_2
      clear h_
      apply wpOp_stepI (i := 3) (le := fun w w' => Below w.heap.size w w') (φ := fun v w' => (fun u w => u 3 = .bool true) (upd u 3 v) w')
      · simp only [List.getElem?_toArray, List.getElem?_cons_succ, List.getElem?_cons_zero]; rfl
      · rfl
      intro K hK
      simp only [h_2] at hK ⊢
      go_simp
      exact hK.out (.bool true) _ (Below.refl _ _) rfl
    · intro wx hw h_
      have h_3 : (fun u w => u 3 = .bool true) u wx := h_.1
      try dsimp only at h_3
      clear h_
      apply wpOp_stepI (i := 4) (le := fun w w' => Below w.heap.size w w') (φ := fun v w' => (fun u w => ∃ a c, u 4 = .slice a 3 c ∧ SlB w (.slice a 3 c) [42, 0, 0]) (upd u 4 v) w')
      · simp only [List.getElem?_toArray, List.getElem?_cons_succ, List.getElem?_cons_zero]; rfl
      · rfl
      intro K hK
      simp only [h_3] at hK ⊢
      go_simp
      refine (order_Full _ [42, 0, 0] (hid rfl)).mono ?_
      rintro en wk ⟨v2, rfl, ho2, hb2⟩
      have hs2 := ownsRow.slb ho2 (by decide)
      obtain ⟨a5, c5, rfl, -⟩ := ownsRow.slb ho2 (by decide)
      go_simp
      exact hK.out _ _ hb2 ⟨a5, c5, rfl, hs2⟩
    · intro wx hw h_
      have h_3 : (fun u w => u 3 = .bool true) u wx := h_.1
      try dsimp only at h_3
      have h_4 : (fun u w => ∃ a c, u 4 = .slice a 3 c ∧ SlB w (.slice a 3 c) [42, 0, 0]) u wx := h_.2.1
      try dsimp only at h_4
      clear h_
      apply wpOp_stepI (i := 5) (le := fun w w' => Below w.heap.size w w') (φ := fun v w' => (fun u w => u 5 = .string ⟨#[42, 0, 0]⟩) (upd u 5 v) w')
      · simp only [List.getElem?_toArray, List.getElem?_cons_succ, List.getElem?_cons_zero]; rfl
      · rfl
      intro K hK
      try simp only [h_3] at hK ⊢
      obtain ⟨a5, c5, e5, hs5⟩ := h_4
      simp only [e5] at hK ⊢
      have hst : (convert 28 9 (.slice a5 3 c5)).run Tryd.prog wx = .ok (.string ⟨#[42, 0, 0]⟩) wx := hs5.str wx (Below.refl _ _)
      go_simp
      exact hK.out (.string ⟨#[42, 0, 0]⟩) _ (Below.refl _ _) rfl
    · intro wx hw h_
      have h_3 : (fun u w => u 3 = .bool true) u wx := h_.1
      try dsimp only at h_3
      clear h_
      apply wpOp_stepI (i := 6) (le := fun w w' => Below w.heap.size w w') (φ := fun v w' => (fun u w => u 6 = .string ⟨#[42, 0, 0]⟩) (upd u 6 v) w')
      · simp only [List.getElem?_toArray, List.getElem?_cons_succ, List.getElem?_cons_zero]; rfl
      · rfl
      intro K hK
      simp only [h_3] at hK ⊢
      go_simp
      refine (ref_Reply 21 0 (hid (by omega)) (hid (by omega)) [] (hid (by simp)) none 0 (by simp) _ (Rd.nil _ _) [42, 0, 0] (hid HF.out.symm)).mono ?_
      rintro en wk ⟨rfl, hbk⟩
      go_simp
      exact hK.out _ _ hbk rfl
    · intro wx hw h_
      have h_3 : (fun u w => u 3 = .bool true) u wx := h_.1
      try dsimp only at h_3
      have h_5 : (fun u w => u 5 = .string ⟨#[42, 0, 0]⟩) u wx := h_.2.1
      try dsimp only at h_5
      have h_6 : (fun u w => u 6 = .string ⟨#[42, 0, 0]⟩) u wx := h_.2.2.1
      try dsimp only at h_6
      clear h_
      apply wpOp_stepI (i := 7) (le := fun w w' => Below w.heap.size w w') (φ := fun v w' => (fun u w => u 7 = .bool true) (upd u 7 v) w')
      · simp only [List.getElem?_toArray, List.getElem?_cons_succ, List.getElem?_cons_zero]; rfl
      · rfl
      intro K hK
      try simp only [h_3, h_5] at hK ⊢
      simp only [h_6] at hK ⊢
      go_simp
      exact hK.out (.bool true) _ (Below.refl _ _) rfl
    · intro wx hw h_
      have h_3 : (fun u w => u 3 = .bool true) u wx := h_.1
      try dsimp only at h_3
      have h_7 : (fun u w => u 7 = .bool true) u wx := h_.2.1
      try dsimp only at h_7
      clear h_
      apply wpOp_stepI (i := 8) (le := fun w w' => Below w.heap.size w w') (φ := fun v w' => (fun u w => u 8 = .bool true) (upd u 8 v) w')
      · simp only [List.getElem?_toArray, List.getElem?_cons_succ, List.getElem?_cons_zero]; rfl
      · rfl
      intro K hK
      try simp only [h_3, h_7] at hK ⊢
      go_simp
      exact hK.out (.bool true) _ (Below.refl _ _) rfl
    · intro wx hw h_
      have h_8 : (fun u w => u 8 = .bool true) u wx := h_.1
      try dsimp only at h_8
      clear h_
      apply wpOp_stepI (i := 9) (le := fun w w' => Below w.heap.size w w') (φ := fun v w' => (fun u w => u 9 = .bool true) (upd u 9 v) w')
      · simp only [List.getElem?_toArray, List.getElem?_cons_succ, List.getElem?_cons_zero]; rfl
      · rfl
      intro K hK
      try simp only [h_8] at hK ⊢
      go_simp
      exact hK.out (.bool true) _ (Below.refl _ _) rfl
    · intro wx hw h_
      have h_9 : (fun u w => u 9 = .bool true) u wx := h_.1
      try dsimp only at h_9
      clear h_
      apply wpOp_stepI (i := 10) (le := fun w w' => Below w.heap.size w w') (φ := fun v w' => (fun u w => u 10 = .bool true) (upd u 10 v) w')
      · simp only [List.getElem?_toArray, List.getElem?_cons_succ, List.getElem?_cons_zero]; rfl
      · rfl
      intro K hK
      simp only [h_9] at hK ⊢
      go_simp
      refine (law27_awake _).mono ?_
      rintro en wk ⟨rfl, hbk⟩
      go_simp
      exact hK.out _ _ hbk rfl
    · intro wx hw h_
      have h_9 : (fun u w => u 9 = .bool true) u wx := h_.1
      try dsimp only at h_9
      have h_10 : (fun u w => u 10 = .bool true) u wx := h_.2.1
      try dsimp only at h_10
      clear h_
      apply wpOp_stepI (i := 11) (le := fun w w' => Below w.heap.size w w') (φ := fun v w' => (fun u w => u 11 = .bool true) (upd u 11 v) w')
      · simp only [List.getElem?_toArray, List.getElem?_cons_succ, List.getElem?_cons_zero]; rfl
      · rfl
      intro K hK
      try simp only [h_9] at hK ⊢
      simp only [h_10] at hK ⊢
      go_simp
      exact hK.out (.bool true) _ (Below.refl _ _) rfl
    · intro wx hw h_
      have h_2 : (fun u w => u 2 = .bool true) u wx := h_.1
      try dsimp only at h_2
      have h_3 : (fun u w => u 3 = .bool true) u wx := h_.2.1
      try dsimp only at h_3
      have h_4 : (fun u w => ∃ a c, u 4 = .slice a 3 c ∧ SlB w (.slice a 3 c) [42, 0, 0]) u wx := h_.2.2.1
      try dsimp only at h_4
      have h_5 : (fun u w => u 5 = .string ⟨#[42, 0, 0]⟩) u wx := h_.2.2.2.1
      try dsimp only at h_5
      have h_6 : (fun u w => u 6 = .string ⟨#[42, 0, 0]⟩) u wx := h_.2.2.2.2.1
      try dsimp only at h_6
      have h_7 : (fun u w => u 7 = .bool true) u wx := h_.2.2.2.2.2.1
      try dsimp only at h_7
      have h_8 : (fun u w => u 8 = .bool true) u wx := h_.2.2.2.2.2.2.1
      try dsimp only at h_8
      have h_9 : (fun u w => u 9 = .bool true) u wx := h_.2.2.2.2.2.2.2.1
      try dsimp only at h_9
      have h_10 : (fun u w => u 10 = .bool true) u wx := h_.2.2.2.2.2.2.2.2.1
      try dsimp only at h_10
      have h_11 : (fun u w => u 11 = .bool true) u wx := h_.2.2.2.2.2.2.2.2.2.1
      try dsimp only at h_11
      clear h_
      simp only [h_11] at *
      refine wpK.late (i := 12) (by kernel_rfl) (by simp only [List.getElem?_toArray, List.getElem?_cons_succ, List.getElem?_cons_zero]; rfl) (by kernel_rfl) (fun K hK => ?_)
      go_simp
      refine hK.out _ _ ?_
      clear hK K
      try simp only [Act.put, List.setIfInBounds_toArray, List.set_cons_zero, List.set_cons_succ]
      refine wpK.done (by kernel_rfl) ?_ _
      have HBx := hid (Below.next HB7.out (Below.next hy hw))
      clear h_2 h_3 h_4 h_5 h_6 h_7 h_8 h_9 h_10 h_11 hw hH hy d0 d1 d2
      go_wp2_with fail
      go_ret
      exact ⟨rfl, HBx.out⟩
  | true =>
    obtain ⟨e2, n2, l2, v2, hpb, hV, ho6⟩ : ∃ e2 n2 l2 v2, parseR lb = some (e2, n2, l2) ∧ V = .agg #[.int .i64 e2, .int .i64 n2, v2] ∧ SlI w6 v2 l2 := by
      rcases hpr with ⟨-, h2, -⟩ | ⟨e', n', li', v', h1, h2, h3, h4⟩
      · simp at h2
      · exact ⟨e', n', li', v', h1, h3, sli_own h4⟩
    obtain ⟨hrl, he2, hn2, hbd2⟩ := parseR_sound lb e2 n2 l2 hpb
    have hl2 : l2.length ≤ 500 := by have := reply_len e2 n2 l2; rw [hrl] at this; omega
    have HRL := hid hrl.symm
    have HE2 := hid he2
    have HN2 := hid hn2
    have HD2 := hid hbd2
    have HL2 := hid hl2
    subst hV
    obtain ⟨a6, q6, rfl, hr6, -⟩ := ho6
    have HR6 := hid hr6
    clear hb6 hpr hpb hrl he2 hn2 hbd2 hl2 hr6 HB5 HX5
    go_upto_region 10 with fail
    generalize hw7 : World.alloc w6 _ = w7
    obtain ⟨b7, hb7⟩ : ∃ b7, b7 = w6.heap.size := ⟨_, rfl⟩
    rw [← hb7]
    have hx7 : Below w6.heap.size w6 w7 := by rw [← hw7]; exact Below.new _ _
    have HB7 := hid (Below.next HB6.out hx7)
    have HX7 := hid (HX6.out.below hx7)
    have HR7 := hid (HR6.out.below' hx7)
    have HP7 : Hid (Blk w7 b7 #[.int .i64 e2, .int .i64 n2, .slice a6 l2.length q6]) := hid (by rw [← hw7, hb7]; exact Blk.new _ _ _)
    clear hw7 hx7 hb7 HB6 HX6 HR6
    have hst := HX7.out.str
    have d0 := fun y hy => (HP7.out.below (w' := y) hy).cells3.1
    have d1 := fun y hy => (HP7.out.below (w' := y) hy).cells3.2.1
    have d2 := fun y hy => (HP7.out.below (w' := y) hy).cells3.2.2.1
    have hy7 := (Below.refl w7.heap.size w7).drew
    refine wp_region_kept [13] (fun y => Below w7.heap.size w7 y) (by kernel_rfl) (by assumption) (fun hH => ?_)
    refine wpK.take (i := 0) (v := _) (by simp only [List.getElem?_toArray, List.getElem?_cons_succ, List.getElem?_cons_zero]; rfl) (by kernel_rfl) (by kernel_rfl) (by kernel_rfl) (by kernel_rfl) (by kernel_rfl) (by exact fun _ _ _ h => h) (by first | exact Or.inl ⟨by rfl, by intro w hSw; go_simp; try with_reducible rfl⟩ | exact Or.inr ⟨by rfl, rfl⟩) hH ?_
    try simp only [Act.put, List.setIfInBounds_toArray, List.set_cons_zero, List.set_cons_succ]
    refine wpK.take (i := 1) (v := _) (by simp only [List.getElem?_toArray, List.getElem?_cons_succ, List.getElem?_cons_zero]; rfl) (by kernel_rfl) (by kernel_rfl) (by kernel_rfl) (by kernel_rfl) (by kernel_rfl) (by exact fun _ _ _ h => h) (by first | exact Or.inl ⟨by rfl, by intro w hSw; go_simp; try with_reducible rfl⟩ | exact Or.inr ⟨by rfl, rfl⟩) hH ?_
    try simp only [Act.put, List.setIfInBounds_toArray, List.set_cons_zero, List.set_cons_succ]
    refine wpK.take (i := 2) (v := _) (by simp only [List.getElem?_toArray, List.getElem?_cons_succ, List.getElem?_cons_zero]; rfl) (by kernel_rfl) (by kernel_rfl) (by kernel_rfl) (by kernel_rfl) (by kernel_rfl) (by exact fun _ _ _ h => h) (by first | exact Or.inl ⟨by rfl, by intro w hSw; go_simp; try with_reducible rfl⟩ | exact Or.inr ⟨by rfl, rfl⟩) hH ?_
    try simp only [Act.put, List.setIfInBounds_toArray, List.set_cons_zero, List.set_cons_succ]
    refine wpK.take (i := 3) (v := _) (by simp only [List.getElem?_toArray, List.getElem?_cons_succ, List.getElem?_cons_zero]; rfl) (by kernel_rfl) (by kernel_rfl) (by kernel_rfl) (by kernel_rfl) (by kernel_rfl) (by exact fun _ _ _ h => h) (by first | exact Or.inl ⟨by rfl, by intro w hSw; go_simp; try with_reducible rfl⟩ | exact Or.inr ⟨by rfl, rfl⟩) hH ?_
    try simp only [Act.put, List.setIfInBounds_toArray, List.set_cons_zero, List.set_cons_succ]
    refine wpK.take (i := 4) (v := _) (by simp only [List.getElem?_toArray, List.getElem?_cons_succ, List.getElem?_cons_zero]; rfl) (by kernel_rfl) (by kernel_rfl) (by kernel_rfl) (by kernel_rfl) (by kernel_rfl) (by exact fun _ _ _ h => h) (by first | exact Or.inl ⟨by rfl, by intro w hSw; go_simp; try with_reducible rfl⟩ | exact Or.inr ⟨by rfl, rfl⟩) hH ?_
    try simp only [Act.put, List.setIfInBounds_toArray, List.set_cons_zero, List.set_cons_succ]
    refine wpK.take (i := 5) (v := _) (by simp only [List.getElem?_toArray, List.getElem?_cons_succ, List.getElem?_cons_zero]; rfl) (by kernel_rfl) (by kernel_rfl) (by kernel_rfl) (by kernel_rfl) (by kernel_rfl) (by exact fun _ _ _ h => h) (by first | exact Or.inl ⟨by rfl, by intro w hSw; go_simp; try with_reducible rfl⟩ | exact Or.inr ⟨by rfl, rfl⟩) hH ?_
    try simp only [Act.put, List.setIfInBounds_toArray, List.set_cons_zero, List.set_cons_succ]
    refine wpK.take (i := 7) (v := _) (by simp only [List.getElem?_toArray, List.getElem?_cons_succ, List.getElem?_cons_zero]; rfl) (by kernel_rfl) (by kernel_rfl) (by kernel_rfl) (by kernel_rfl) (by kernel_rfl) (by exact fun _ _ _ h => h) (by first | exact Or.inl ⟨by rfl, by intro w hSw; go_simp; try with_reducible rfl⟩ | exact Or.inr ⟨by rfl, rfl⟩) hH ?_
    try simp only [Act.put, List.setIfInBounds_toArray, List.set_cons_zero, List.set_cons_succ]
    refine wpK.take (i := 8) (v := _) (by simp only [List.getElem?_toArray, List.getElem?_cons_succ, List.getElem?_cons_zero]; rfl) (by kernel_rfl) (by kernel_rfl) (by kernel_rfl) (by kernel_rfl) (by kernel_rfl) (by exact fun _ _ _ h => h) (by first | exact Or.inl ⟨by rfl, by intro w hSw; go_simp; try with_reducible rfl⟩ | exact Or.inr ⟨by rfl, rfl⟩) hH ?_
    try simp only [Act.put, List.setIfInBounds_toArray, List.set_cons_zero, List.set_cons_succ]
    refine wpK.step (i := 6) (by kernel_rfl) (by simp only [List.getElem?_toArray, List.getElem?_cons_succ, List.getElem?_cons_zero]; rfl) (fun K hK => ?_)
    go_simp
    (refine (ref_Reply e2 n2 HE2 HN2 l2 HD2 a6 q6 (by have := HL2.out; omega) _ (HR7.out.below' (by assumption)) lb HRL).mono ?_); rintro en wk ⟨rfl, hbk⟩; (have hyk := Below.next (by assumption) hbk); clear hbk; go_simp
    refine hK.out _ _ (by assumption) (fun hH => ?_)
    clear hK K
    try simp only [Act.put, List.setIfInBounds_toArray, List.set_cons_zero, List.set_cons_succ]
    refine wpK.take (i := 9) (v := _) (by simp only [List.getElem?_toArray, List.getElem?_cons_succ, List.getElem?_cons_zero]; rfl) (by kernel_rfl) (by kernel_rfl) (by kernel_rfl) (by kernel_rfl) (by kernel_rfl) (by exact fun _ _ _ h => h) (by first | exact Or.inl ⟨by rfl, by intro w hSw; go_simp; try with_reducible rfl⟩ | exact Or.inr ⟨by rfl, rfl⟩) hH ?_
    try simp only [Act.put, List.setIfInBounds_toArray, List.set_cons_zero, List.set_cons_succ]
    refine wpK.take (i := 10) (v := _) (by simp only [List.getElem?_toArray, List.getElem?_cons_succ, List.getElem?_cons_zero]; rfl) (by kernel_rfl) (by kernel_rfl) (by kernel_rfl) (by kernel_rfl) (by kernel_rfl) (by exact fun _ _ _ h => h) (by first | exact Or.inl ⟨by rfl, by intro w hSw; go_simp; try with_reducible rfl⟩ | exact Or.inr ⟨by rfl, rfl⟩) hH ?_
    try simp only [Act.put, List.setIfInBounds_toArray, List.set_cons_zero, List.set_cons_succ]
    refine wpK.step (i := 11) (by kernel_rfl) (by simp only [List.getElem?_toArray, List.getElem?_cons_succ, List.getElem?_cons_zero]; rfl) (fun K hK => ?_)
    go_simp
    (refine (law27_awake _).mono ?_); rintro en wm ⟨rfl, hbm⟩; (have hym := Below.next (by assumption) hbm); clear hbm; go_simp
    refine hK.out _ _ (by assumption) (fun hH => ?_)
    clear hK K
    try simp only [Act.put, List.setIfInBounds_toArray, List.set_cons_zero, List.set_cons_succ]
    refine wpK.take (i := 12) (v := _) (by simp only [List.getElem?_toArray, List.getElem?_cons_succ, List.getElem?_cons_zero]; rfl) (by kernel_rfl) (by kernel_rfl) (by kernel_rfl) (by kernel_rfl) (by kernel_rfl) (by exact fun _ _ _ h => h) (by first | exact Or.inl ⟨by rfl, by intro w hSw; go_simp; try with_reducible rfl⟩ | exact Or.inr ⟨by rfl, rfl⟩) hH ?_
    try simp only [Act.put, List.setIfInBounds_toArray, List.set_cons_zero, List.set_cons_succ]
    refine wpK.late (i := 13) (by kernel_rfl) (by simp only [List.getElem?_toArray, List.getElem?_cons_succ, List.getElem?_cons_zero]; rfl) (by kernel_rfl) (fun K hK => ?_)
    go_simp
    refine hK.out _ _ ?_
    clear hK K
    try simp only [Act.put, List.setIfInBounds_toArray, List.set_cons_zero, List.set_cons_succ]
    refine wpK.done (by kernel_rfl) ?_ _
    have HYN := hid hym
    clear d0 d1 d2 hst hy7 hyk hym
    go_wp2_with fail
    go_ret
    exact ⟨rfl, Below.next HB7.out HYN.out⟩
set_option maxRecDepth 100000 in
set_option maxHeartbeats 2000000 in
theorem OrderReplies_walk {H : Type} {enc : TypeId × Value → H} {b0 : Nat} {d0 : DataW H} {p0 : List MemPlace} (v0 : Value) (a1 : Option Addr) (len1 cap1 : Nat) (z1 : List Int) (w : World) (ok0 : Value.okWide Tryd.prog w .any b0 77 v0) (k0 : DataW.Trod enc Tryd.prog w 0 (fun _ => true) true 77 v0 d0 p0)
    (w1 : (a1 = none ∧ len1 = 0 ∧ cap1 = 0 ∧ z1 = []) ∨
      ∃ x, a1 = some x ∧ len1 ≤ cap1 ∧ cap1 ≤ maxLen ∧ z1.length = cap1 ∧ (∀ i, i < z1.length → w.cell? (x.add i) = some (.int .u8 (z1.getD i 0))) ∧ ∀ n ∈ z1, (Lit.int .u8 n).wf = true) :
    Calls Tryd.prog 10 #[v0, .slice a1 len1 cap1] w fun e w' => e = .returned (.bool true) ∧ Below w.heap.size w w' := by
  obtain ⟨e, n, v, li, rfl, hv, we, wn, wl⟩ := open_reply ok0 k0
  obtain ⟨lb, rfl, hb⟩ := slb_of_row w1
  have h63 : lb.length ≤ 9223372036854775807 := by obtain ⟨-, -, -, h, -⟩ := hb; exact h
  clear ok0 k0 w1
  have HK : Hid (∀ x, Below w.heap.size w (w.alloc x)) := hid fun x => Below.new w x
  by_cases h1 : li.length ≤ 100
  · by_cases h2 : lb.length ≤ 500
    · exact law27_Replies e n v li a1 cap1 lb w hv hb h1 h2 (hid (wf64 we)) (hid (wf64 wn)) (hid (fun x hx => wf64 (wl x hx)))
    · obtain ⟨a0, q0, rfl, -⟩ := hv
      have i1 : (li.length : Int) ≤ 100 := by omega
      have i2 : (500 : Int) < (lb.length : Int) := by omega
      clear hb we wn wl h1 h2
      go_enter Tryd.func10, Tryd.ntmps10
      go_wp2_with fail
      refine (law27_awake _).mono ?_
      rintro e w4 ⟨rfl, hb4⟩
      have HB4 := hid (Below.next (HK.out _) hb4)
      clear hb4
      go_wp2_with fail
      go_ret
      exact ⟨rfl, HB4.out⟩
  · obtain ⟨a0, q0, rfl, -, -, h3, -⟩ := hv
    have i1 : (100 : Int) < (li.length : Int) := by omega
    clear hb we wn wl h1
    go_enter Tryd.func10, Tryd.ntmps10
    go_wp2_with fail
    refine (law27_awake _).mono ?_
    rintro e w4 ⟨rfl, hb4⟩
    have HB4 := hid (Below.next (HK.out _) hb4)
    clear hb4
    go_wp2_with fail
    go_ret
    exact ⟨rfl, HB4.out⟩
end Go.Proofs.YtcjdlckfbkdibaaDoor
end
