/- Joined texts, in this order: Law14Co, LawRtreeCopies. Each one's first remark says what it proves; no condition beyond those that its theorems name. -/
import Derived.Test.YtjbnfppnmljbmaaJLawRtreeCopies28
import Derived.Test.YtjbnfppnmljbmaaJLawRtreeCopies29
import Derived.Test.YtjbnfppnmljbmaaRows
import Derived.WalkKit
import Derived.ProofKit
import Derived.OpenShut
import Derived.ShutString
import Derived.ChangeOld
import Derived.Below
section
/- Law 14: RtreeCopies. -/
namespace Go.Proofs.Ytjbnfppnmljbmaa
open Go.RowKit
open Go.Lib (hid)
set_option linter.unusedVariables false
attribute [local go_sem] Oper.semAt_some

/-- the first pair, and the copy with its list -/
def CoR (w : World) (s s2 n : Nat) (F : Nat → Prop) (vx : Value) (X : List Tg) (v8 v35 : Value) (wr : World) : Prop := ∃ (j : Nat) (Y : List Tg) (G : Nat → Prop), v35 = .int .i64 (j : Int) ∧ j ≤ n ∧ Hid (BothG wr s2 G v8 Y) ∧ Hid (BothG wr s F vx X) ∧ Hid (Y.length ≤ X.length + j ∧ (∀ k, G k → ¬ F k ∧ vx.ownBlock ≠ some k ∧ w.heap.size ≤ k) ∧ (∀ k, F k → k < wr.heap.size)) ∧ Hid (Below w.heap.size w wr)
set_option maxRecDepth 100000 in
set_option maxHeartbeats 4000000 in
theorem law14_Copies (L M : List OpG) (a am : Option Addr) (c cm : Nat) (w : World) (hl : SlE OpGE 7 w (.slice a L.length c) L) (hm : SlE OpGE 7 w (.slice am M.length cm) M) :
    Calls Try.prog 7 #[.slice a L.length c, .slice am M.length cm] w fun e w' => e = .returned (.bool true) ∧ Below w.heap.size w w' := by
  have HL := hid hl
  have HM := hid hm
  clear hl hm
  go_enter Try.func7, Try.ntmps7
  have HAW : Hid (Calls Try.prog 15 #[] w fun e w' => e = .returned (.bool true) ∧ Below w.heap.size w w') := hid (law14_awake w)
  by_cases h80 : L.length ≤ 80
  case neg =>
    have c1 : ¬ (L.length : Int) ≤ 80 := by omega
    have c2 : (80 : Int) < (L.length : Int) := by omega
    go_wp2_with fail
    refine HAW.out.mono ?_
    rintro e w2 ⟨rfl, hb⟩
    have HZ := hid hb
    clear hb
    go_wp2_with fail
    go_ret
    exact ⟨rfl, HZ.out⟩
  have c1 : ¬ (80 : Int) < (L.length : Int) := by omega
  by_cases m80 : M.length ≤ 80
  case neg =>
    have c3 : (80 : Int) < (M.length : Int) := by omega
    go_wp2_with fail
    refine HAW.out.mono ?_
    rintro e w2 ⟨rfl, hb⟩
    have HZ := hid hb
    clear hb
    go_wp2_with fail
    go_ret
    exact ⟨rfl, HZ.out⟩
  have c3 : ¬ (80 : Int) < (M.length : Int) := by omega
  have H80 := hid (And.intro h80 m80)
  clear h80 m80 HAW
  go_wp2_with fail
  refine (law14_played L a c w HL.out (by have := H80.out; omega)).mono ?_
  rintro e w1 ⟨s, F, vx, X, rfl, hbo, hX, hF, hb1⟩
  have HBO1 := hid hbo
  have HX : Hid (X.length ≤ 80) := hid (by have := H80.out; omega)
  have HFF := hid hF
  have HB1 := hid hb1
  clear hbo hX hF hb1
  go_wp2_with fail
  refine (rt_Copy w1 s F X HBO1.out.t).mono ?_
  rintro e w2 ⟨s2, rfl, ht2, hb2⟩
  have HP0 : Hid (CoR w s s2 M.length (fun k => F k ∧ k < w1.heap.size) vx X vx (.int .i64 0) w2) := hid (by
    have hbb := HBO1.out.below hb2
    have hbf : BothG w2 s (fun k => F k ∧ k < w1.heap.size) vx X := ⟨(HBO1.out.t.weaken (fun k q1 q2 => ⟨q1, q2⟩)).below hb2, hbb.l, fun k q1 q2 => hbb.apart k q1 q2.1, hbb.nd, hbb.low⟩
    refine ⟨0, X, _, rfl, by omega, hid ⟨ht2, hbb.l, fun k q1 q2 => ?_, hbb.nd, hbb.low⟩, hid hbf, hid ⟨by omega, fun k q => ⟨fun z => by omega, fun z => ?_, by have := HB1.out.size; omega⟩, fun k q => by have := hb2.size; have := q.2; omega⟩, hid (Below.next HB1.out hb2)⟩
    · have := HBO1.out.low k q1; omega
    · have := HBO1.out.low k z; omega)
  clear ht2 hb2
  go_wp2_with fail
  go_loopw [8, 35] (fun v8 v35 wr => CoR w s s2 M.length (fun k => F k ∧ k < w1.heap.size) vx X v8 v35 wr) (fun _ v35 _ => M.length - (intOf v35).toNat)
  case atStart => exact HP0.out
  case round =>
    clear HP0
    obtain ⟨G1, hG1⟩ : ∃ G1 : Nat → Prop, G1 = fun k => F k ∧ k < w1.heap.size := ⟨_, rfl⟩
    rw [← hG1] at hrel
    obtain ⟨j, Y, G, rfl, hj, HBY, HBX, HN, HB⟩ := hrel
    have HG1 := hid hG1
    clear hG1
    by_cases hlt : j < M.length
    · have j1 : (j : Int) < (M.length : Int) := by omega
      have j0 : (0 : Int) ≤ (j : Int) := by omega
      have j9 : (j : Int) < 120 := by have := H80.out; omega
      obtain ⟨o, hp⟩ : ∃ o, M[j]? = some o := ⟨_, List.getElem?_eq_getElem hlt⟩
      obtain ⟨bo, off, rfl, q0, q1, q2, q3, q4, q5, q6⟩ := HM.out.opG HB.out hp
      obtain ⟨ok, ov, oi, ⟨ox, oy, oa, ob⟩⟩ := o
      simp only at q0 q1 q2 q3 q4 q5 q6
      obtain ⟨Y', hY'⟩ : ∃ Y', stepG Y ⟨ok, ov, oi, (ox, oy, oa, ob)⟩ = Y' := ⟨_, rfl⟩
      have HYN := hid hY'
      have HLEN : Hid (Y'.length ≤ X.length + (j + 1)) := hid (by have := stepG_len Y ⟨ok, ov, oi, (ox, oy, oa, ob)⟩; rw [hY'] at this; have := HN.out.1; omega)
      clear hp hY'
      go_upto_region 13 with fail
      obtain ⟨w5, hw5⟩ : ∃ w5, w5 = wr.alloc (.cells #[.int .i64 ok, .int .i64 ov, .int .i64 oi, .int .i64 ox, .int .i64 oy, .int .i64 oa, .int .i64 ob] 41) := ⟨_, rfl⟩
      rw [← hw5]
      have hb5 : Below wr.heap.size wr w5 := by rw [hw5]; exact Below.new _ _
      obtain ⟨bb, hbb⟩ : ∃ bb, bb = wr.heap.size := ⟨_, rfl⟩
      rw [← hbb]
      have HO5 : Hid (Blk w5 bb #[.int .i64 ok, .int .i64 ov, .int .i64 oi, .int .i64 ox, .int .i64 oy, .int .i64 oa, .int .i64 ob]) := hid (by rw [hw5, hbb]; exact Blk.new _ _ _)
      have HBY5 := hid (HBY.out.below hb5)
      have HBX5 := hid (HBX.out.below hb5)
      have HB5 := hid (Below.next HB.out hb5)
      have HZ5 := hid hb5.size
      clear hw5 hb5 hbb q0 q1 q2 q3 q4 q5 q6
      have x0 : w5.cell? ⟨bb, 0, none⟩ = some (.int .i64 ok) := by rw [HO5.out.cell]; rfl
      have x1 : w5.cell? ⟨bb, 1, none⟩ = some (.int .i64 ov) := by rw [HO5.out.cell]; rfl
      have x2 : w5.cell? ⟨bb, 2, none⟩ = some (.int .i64 oi) := by rw [HO5.out.cell]; rfl
      have x3 : w5.cell? ⟨bb, 3, none⟩ = some (.int .i64 ox) := by rw [HO5.out.cell]; rfl
      have x4 : w5.cell? ⟨bb, 4, none⟩ = some (.int .i64 oy) := by rw [HO5.out.cell]; rfl
      have x5 : w5.cell? ⟨bb, 5, none⟩ = some (.int .i64 oa) := by rw [HO5.out.cell]; rfl
      have x6 : w5.cell? ⟨bb, 6, none⟩ = some (.int .i64 ob) := by rw [HO5.out.cell]; rfl
      go_wp2_with fail
      refine (law14_step ⟨ok, ov, oi, (ox, oy, oa, ob)⟩ s2 G _ Y w5 HBY5.out (by have := HN.out.1; have := HX.out; have := H80.out; omega)).mono ?_
      rintro e w6 ⟨G', v', rfl, hbo6, hu6, hG6, -⟩
      rw [HYN.out] at hbo6
      have HBY6 := hid hbo6
      have HBX6 : Hid (BothG w6 s G1 vx X) := hid ⟨HBX5.out.t.upd hu6 (fun k q => (HN.out.2.1 k q).1), HBX5.out.l.upd hu6 (fun k q1 q2 => (HN.out.2.1 k q2).2.1 q1), HBX5.out.apart, HBX5.out.nd, fun k q => Nat.lt_of_lt_of_le (HBX5.out.low k q) hu6.size⟩
      have HB6 := hid (HB5.out.trans (hu6.below HB5.out.size (fun k _ q => (HN.out.2.1 k q).2.2)))
      have HN6 : Hid (Y'.length ≤ X.length + (j + 1) ∧ (∀ k, G' k → ¬ G1 k ∧ vx.ownBlock ≠ some k ∧ w.heap.size ≤ k) ∧ (∀ k, G1 k → k < w6.heap.size)) := hid ⟨HLEN.out, fun k hk => by
        rcases hG6 k hk with q | q
        · exact HN.out.2.1 k q
        · refine ⟨fun z => ?_, fun z => ?_, ?_⟩
          · have h1 := HN.out.2.2 k z; have h2 := HZ5.out; omega
          · have := HBX5.out.low k z; omega
          · have := HB5.out.size; omega, fun k z => by have h1 := HN.out.2.2 k z; have h2 := HZ5.out; have h3 := hu6.size; omega⟩
      clear hbo6 hu6 hG6 x0 x1 x2 x3 x4 x5 x6
      go_wp2_with fail
      go_roundw
      case rel =>
        rw [← HG1.out]
        exact ⟨j + 1, Y', G', by go_num, by omega, HBY6, HBX6, HN6, HB6⟩
      case measure => simp [intOf]; omega
    · have j1 : ¬ (j : Int) < (M.length : Int) := by omega
      have HYL : Hid (Y.length ≤ 200) := hid (by have := HN.out.1; have := HX.out; have := H80.out; omega)
      go_wp2_with fail
      refine (rt_Check wr s _ X HBX.out.t (by have := HX.out; omega)).mono ?_
      rintro e w21 ⟨rfl, hb⟩
      have HXw21 := hid (HBX.out.below hb)
      have HYw21 := hid (HBY.out.below hb)
      have HQw21 := hid (Below.next HB.out hb)
      clear hb
      go_wp2_with fail
      refine (rt_Check w21 s2 _ Y HYw21.out.t (by have := HYL.out; omega)).mono ?_
      rintro e w22 ⟨rfl, hb⟩
      have HXw22 := hid (HXw21.out.below hb)
      have HYw22 := hid (HYw21.out.below hb)
      have HQw22 := hid (Below.next HQw21.out hb)
      clear hb
      go_wp2_with fail
      refine (rt_All w22 s).mono ?_
      rintro e w23 ⟨bT, bI, rfl, hT, hI, hb⟩
      have HTI := hid (And.intro hT hI)
      have HXw23 := hid (HXw22.out.below hb)
      have HYw23 := hid (HYw22.out.below hb)
      have HQw23 := hid (Below.next HQw22.out hb)
      clear hT hI hb
      go_wp2_with fail
      refine (law14_thingsL w23 bT bI s _ _ X _ _ rightR 0 HTI.out.1 HTI.out.2 HXw23.out.t (by have := HYL.out; have := HX.out; omega) (fun z _ => test_All _ _ z)).mono ?_
      rintro e w24 ⟨Z, hZp, hq⟩
      obtain ⟨v3, rfl, hs3, hb⟩ := hq.whole
      rw [flR_right HXw23.out.t] at hZp
      have HZ := hid (And.intro hZp hs3)
      have HXw24 := hid (HXw23.out.below hb)
      have HYw24 := hid (HYw23.out.below hb)
      have HQw24 := hid (Below.next HQw23.out hb)
      clear hZp hs3 hb hq
      go_wp2_with fail
      refine (ref14_Same w24 HZ.out.2 HXw24.out.l (by have := HYL.out; have := HX.out; rw [HZ.out.1.length_eq]; omega) HZ.out.1 (HZ.out.1.nodup_iff.2 HXw24.out.nd)).mono ?_
      rintro e w25 ⟨rfl, hb⟩
      have HXw25 := hid (HXw24.out.below hb)
      have HYw25 := hid (HYw24.out.below hb)
      have HQw25 := hid (Below.next HQw24.out hb)
      clear hb
      clear HTI HZ
      go_wp2_with fail
      refine (rt_All w25 s2).mono ?_
      rintro e w26 ⟨bT, bI, rfl, hT, hI, hb⟩
      have HTI := hid (And.intro hT hI)
      have HXw26 := hid (HXw25.out.below hb)
      have HYw26 := hid (HYw25.out.below hb)
      have HQw26 := hid (Below.next HQw25.out hb)
      clear hT hI hb
      go_wp2_with fail
      refine (law14_thingsL w26 bT bI s2 _ _ Y _ _ rightR 0 HTI.out.1 HTI.out.2 HYw26.out.t (by have := HYL.out; have := HX.out; omega) (fun z _ => test_All _ _ z)).mono ?_
      rintro e w27 ⟨Z, hZp, hq⟩
      obtain ⟨v3, rfl, hs3, hb⟩ := hq.whole
      rw [flR_right HYw26.out.t] at hZp
      have HZ := hid (And.intro hZp hs3)
      have HXw27 := hid (HXw26.out.below hb)
      have HYw27 := hid (HYw26.out.below hb)
      have HQw27 := hid (Below.next HQw26.out hb)
      clear hZp hs3 hb hq
      go_wp2_with fail
      refine (ref14_Same w27 HZ.out.2 HYw27.out.l (by have := HYL.out; have := HX.out; rw [HZ.out.1.length_eq]; omega) HZ.out.1 (HZ.out.1.nodup_iff.2 HYw27.out.nd)).mono ?_
      rintro e w28 ⟨rfl, hb⟩
      have HXw28 := hid (HXw27.out.below hb)
      have HYw28 := hid (HYw27.out.below hb)
      have HQw28 := hid (Below.next HQw27.out hb)
      clear hb
      clear HTI HZ
      go_wp2_with fail
      refine (law14_awake w28).mono ?_
      rintro e w29 ⟨rfl, hb⟩
      have HXw29 := hid (HXw28.out.below hb)
      have HYw29 := hid (HYw28.out.below hb)
      have HQw29 := hid (Below.next HQw28.out hb)
      clear hb
      go_wp2_with fail
      go_ret
      exact ⟨rfl, HQw29.out⟩
set_option maxRecDepth 100000 in
theorem RtreeCopies_walk {H : Type} {enc : TypeId × Value → H} {b0 b1 : Nat} {d0 d1 : DataW H} {p0 p1 : List MemPlace} (v0 v1 : Value) (w : World) (ok0 : Value.okWide Try.prog w .any b0 36 v0) (k0 : DataW.Trod enc Try.prog w 0 (fun _ => true) true 36 v0 d0 p0)
    (ok1 : Value.okWide Try.prog w .any b1 36 v1) (k1 : DataW.Trod enc Try.prog w 0 (fun _ => true) true 36 v1 d1 p1) :
    Calls Try.prog 7 #[v0, v1] w fun e w' => e = .returned (.bool true) ∧ Below w.heap.size w w' := by
  obtain ⟨L, hl⟩ := open_opsG ok0 k0
  obtain ⟨a, c, rfl, -⟩ := id hl
  obtain ⟨M, hm⟩ := open_opsG ok1 k1
  obtain ⟨am, cm, rfl, -⟩ := id hm
  exact law14_Copies L M a am c cm w hl hm
end Go.Proofs.Ytjbnfppnmljbmaa
end
section
/- The law RtreeCopies returns true for every input, and what it is handed reads behind the call as it read before: no condition. (The frame follows the kit's proof-skeleton.) -/
namespace Go.Proofs.Ytjbnfppnmljbmaa.rtreeCopies
open Go.ChangeShapes Go.WideShapes Go.ChangeAt Go.RowKit
open Go.ChangeMaps (open_string shut_string)
set_option linter.unusedVariables false

theorem own : ownKnob Try.prog.godebug = none := by kernel_rfl
theorem laidOut : laidOutB Try.prog = true := by kernel_rfl

/-! ### the row's step -/
set_option maxRecDepth 100000 in
theorem lifted (os : Os) (started : os.Started) (H : Type) (enc : TypeId × Value → H) :
    ReturnsInHanded {} Try.checked os 7 .any (Rows.rtreeCopiesSpec.pre6 enc Try.prog Try.f7 Rows.rtreeCopiesRow.domain false) (Rows.rtreeCopiesSpec.post enc Try.prog Try.f7 false true false false) := by
  refine returnsInHanded_of_change (C := Try.checked) own started (by kernel_rfl) Try.func7
    (ChangeSpec.witness6 (enc := enc) (C := Try.checked) false ⟨#[], #[.slice none 0 0, .slice none 0 0], []⟩ 8 (by kernel_rfl) (by kernel_rfl) (by kernel_rfl) (by kernel_rfl)) ?_
  intro W base args ds gs before hval0 hW hcnd _
  have hval : ∀ (j : Nat) t v, Try.f7.params[j]? = some t → args[j]? = some v → Value.okWide Try.prog W .any base t v := hval0
  have hW' := hW
  obtain ⟨p, q, hA0, hV, rfl, hfz, hnd⟩ := hW
  have hA : DataW.TrodAll enc Try.prog W 0 (fun _ => true) true Try.f7.params.toList args.toList ds p := hA0
  rw [Try.params7] at hA hval
  obtain ⟨v0, vs0, d0, ds0, p0, q0, hargs, rfl, rfl, h0, r0⟩ := trodAll_cons hA
  obtain ⟨v1, vs1, d1, ds1, p1, q1, rfl, rfl, rfl, h1, r1⟩ := trodAll_cons r0
  obtain ⟨rfl, rfl, rfl⟩ := trodAll_nil r1
  obtain rfl : args = #[v0, v1] := by cases args; simp_all
  obtain ⟨rfl, rfl⟩ := trodVars_none hV
  have k0 := h0
  have lt0 : ∀ x ∈ p0, x.block < W.heap.size := by obtain ⟨m, hm⟩ := k0; exact DataW.trod_lt m _ _ _ hm
  have ok0 := hval 0 36 v0 rfl rfl
  have k1 := h1
  have lt1 : ∀ x ∈ p1, x.block < W.heap.size := by obtain ⟨m, hm⟩ := k1; exact DataW.trod_lt m _ _ _ hm
  have ok1 := hval 1 36 v1 rfl rfl
  clear hA0 hval0
  refine (RtreeCopies_walk v0 v1 W ok0 k0 ok1 k1).mono fun e W' ⟨he, bel⟩ => ?_
  subst he
  exact ⟨_, rfl, _, _, _, [], _, [], hW', trodAll_mk1 (shut_bool Try.underlying4 _), (trodAll_cons_mk (Below.trod laidOut (by kernel_rfl) (of_decide_eq_true (by kernel_rfl)) k0 bel lt0) (trodAll_cons_mk (Below.trod laidOut (by kernel_rfl) (of_decide_eq_true (by kernel_rfl)) k1 bel lt1) trodAll_mk0)), rfl, bel.frame _, fun h => by cases h⟩

theorem over : Rows.rtreeCopiesRow.holds Try.pinned (OpenSpec.ofChange Rows.rtreeCopiesSpec) :=
  OpenClaim.holds_of_wide 7 Try.f7 rfl rfl rfl rfl rfl rfl rfl ⟨rfl, rfl, rfl, rfl, rfl⟩ rfl rfl rfl rfl rfl (by kernel_rfl) Try.func7 (by kernel_rfl)
    (of_decide_eq_true (by kernel_rfl)) (by unfold Func.isWrapper; first | (rw [if_pos (by decide +kernel)]; kernel_rfl) | (rw [if_neg (by decide +kernel)]; exact ⟨rfl, rfl⟩))
    (fun os started H enc _ => lifted os started H enc)

/-- the statement -/
theorem proved : Rows.RtreeCopiesSaid := over
#print axioms proved
end Go.Proofs.Ytjbnfppnmljbmaa.rtreeCopies
end
