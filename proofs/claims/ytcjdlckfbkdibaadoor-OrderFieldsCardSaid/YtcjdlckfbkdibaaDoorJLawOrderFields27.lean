/- Joined texts, in this order: OrdFieldsLaw, LawOrderFields. Each one's first remark says what it proves; no condition beyond those that its theorems name. -/
import Derived.Test.YtcjdlckfbkdibaaDoorJLawOrderFields26
import Derived.Test.YtcjdlckfbkdibaaDoorRows
import Derived.WalkKit
import Derived.ProofKit
import Derived.OpenShut
import Derived.ShutString
import Derived.ChangeOld
import Derived.Below
import Derived.Test.YtcjdlckfbkdibaaDoorCards
import Derived.Test.YtcjdlckfbkdibaaDoorTie
import Derived.LaidMore
import Derived.Lay
import Derived.Stop.Joined
import Derived.SevenTiedAt
section
/- The law OrderFields. -/
namespace Go.Proofs.YtcjdlckfbkdibaaDoor
open Go.RowKit
open Go.Lib (hid)
set_option linter.unusedVariables false

set_option maxRecDepth 100000 in
set_option maxHeartbeats 2000000 in
theorem OrderFields_walk (k : Int) (w : World) (wk : (Lit.int .i64 k).wf = true) : Calls Tryd.prog 9 #[.int .i64 k] w fun e w' => e = .returned (.bool true) ∧ Below w.heap.size w w' := by
  obtain ⟨n, hn⟩ : ∃ n, n = usesN k := ⟨_, rfl⟩
  obtain ⟨t, ht⟩ : ∃ t, t = usesT k := ⟨_, rfl⟩
  have HN := hid hn
  have HT := hid ht
  have h4 := usesN_le k
  rw [← hn] at h4
  obtain ⟨q, hq⟩ : ∃ q : ByteArray, q = ⟨(fieldsL k).toArray⟩ := ⟨_, rfl⟩
  have HQ := hid hq
  clear wk
  cases t with
  | true =>
    have hn0 : n = 0 := by rw [hn, usesT_N ht.symm]
    rw [fieldsL_T ht.symm] at hq
    clear hn ht
    subst hn0
    subst hq
    go_enter Tryd.func9, Tryd.ntmps9
    go_wp2_with fail
    refine (ref_Uses k w 0 true HN HT).mono ?_
    rintro e w1 ⟨rfl, rfl⟩
    go_wp2_with fail
    refine (order_Fields k _).mono ?_
    rintro e w2 ⟨rfl, hb2⟩
    rw [← HQ.out]
    have HB2 := hid hb2
    clear hb2
    go_wp2_with fail
    refine (law27_awake _).mono ?_
    rintro e w3 ⟨rfl, hb3⟩
    have HB3 := hid (Below.next HB2.out hb3)
    clear hb3
    go_wp2_with fail
    go_ret
    exact ⟨rfl, HB3.out⟩
  | false =>
    rw [fieldsL_N ht.symm, ← hn] at hq
    clear hn ht
    have h5 : n = 0 ∨ n = 1 ∨ n = 2 ∨ n = 3 ∨ n = 4 := by omega
    rcases h5 with rfl | rfl | rfl | rfl | rfl
    · simp only [List.take_zero, List.take_succ_cons, List.take_nil] at hq
      subst hq
      have hx : ByteArray.extract ⟨#[65, 66, 67, 68]⟩ 0 0 = ⟨#[]⟩ := by kernel_rfl
      go_enter Tryd.func9, Tryd.ntmps9
      go_wp2_with fail
      refine (ref_Uses k w 0 false HN HT).mono ?_
      rintro e w1 ⟨rfl, rfl⟩
      go_wp2_with fail
      refine (order_Fields k _).mono ?_
      rintro e w2 ⟨rfl, hb2⟩
      rw [← HQ.out]
      have HB2 := hid hb2
      clear hb2
      go_wp2_with fail
      refine (law27_awake _).mono ?_
      rintro e w3 ⟨rfl, hb3⟩
      have HB3 := hid (Below.next HB2.out hb3)
      clear hb3
      go_wp2_with fail
      go_ret
      exact ⟨rfl, HB3.out⟩
    · simp only [List.take_zero, List.take_succ_cons, List.take_nil] at hq
      subst hq
      have hx : ByteArray.extract ⟨#[65, 66, 67, 68]⟩ 0 1 = ⟨#[65]⟩ := by kernel_rfl
      go_enter Tryd.func9, Tryd.ntmps9
      go_wp2_with fail
      refine (ref_Uses k w 1 false HN HT).mono ?_
      rintro e w1 ⟨rfl, rfl⟩
      go_wp2_with fail
      refine (order_Fields k _).mono ?_
      rintro e w2 ⟨rfl, hb2⟩
      rw [← HQ.out]
      have HB2 := hid hb2
      clear hb2
      go_wp2_with fail
      refine (law27_awake _).mono ?_
      rintro e w3 ⟨rfl, hb3⟩
      have HB3 := hid (Below.next HB2.out hb3)
      clear hb3
      go_wp2_with fail
      go_ret
      exact ⟨rfl, HB3.out⟩
    · simp only [List.take_zero, List.take_succ_cons, List.take_nil] at hq
      subst hq
      have hx : ByteArray.extract ⟨#[65, 66, 67, 68]⟩ 0 2 = ⟨#[65, 66]⟩ := by kernel_rfl
      go_enter Tryd.func9, Tryd.ntmps9
      go_wp2_with fail
      refine (ref_Uses k w 2 false HN HT).mono ?_
      rintro e w1 ⟨rfl, rfl⟩
      go_wp2_with fail
      refine (order_Fields k _).mono ?_
      rintro e w2 ⟨rfl, hb2⟩
      rw [← HQ.out]
      have HB2 := hid hb2
      clear hb2
      go_wp2_with fail
      refine (law27_awake _).mono ?_
      rintro e w3 ⟨rfl, hb3⟩
      have HB3 := hid (Below.next HB2.out hb3)
      clear hb3
      go_wp2_with fail
      go_ret
      exact ⟨rfl, HB3.out⟩
    · simp only [List.take_zero, List.take_succ_cons, List.take_nil] at hq
      subst hq
      have hx : ByteArray.extract ⟨#[65, 66, 67, 68]⟩ 0 3 = ⟨#[65, 66, 67]⟩ := by kernel_rfl
      go_enter Tryd.func9, Tryd.ntmps9
      go_wp2_with fail
      refine (ref_Uses k w 3 false HN HT).mono ?_
      rintro e w1 ⟨rfl, rfl⟩
      go_wp2_with fail
      refine (order_Fields k _).mono ?_
      rintro e w2 ⟨rfl, hb2⟩
      rw [← HQ.out]
      have HB2 := hid hb2
      clear hb2
      go_wp2_with fail
      refine (law27_awake _).mono ?_
      rintro e w3 ⟨rfl, hb3⟩
      have HB3 := hid (Below.next HB2.out hb3)
      clear hb3
      go_wp2_with fail
      go_ret
      exact ⟨rfl, HB3.out⟩
    · simp only [List.take_zero, List.take_succ_cons, List.take_nil] at hq
      subst hq
      have hx : ByteArray.extract ⟨#[65, 66, 67, 68]⟩ 0 4 = ⟨#[65, 66, 67, 68]⟩ := by kernel_rfl
      go_enter Tryd.func9, Tryd.ntmps9
      go_wp2_with fail
      refine (ref_Uses k w 4 false HN HT).mono ?_
      rintro e w1 ⟨rfl, rfl⟩
      go_wp2_with fail
      refine (order_Fields k _).mono ?_
      rintro e w2 ⟨rfl, hb2⟩
      rw [← HQ.out]
      have HB2 := hid hb2
      clear hb2
      go_wp2_with fail
      refine (law27_awake _).mono ?_
      rintro e w3 ⟨rfl, hb3⟩
      have HB3 := hid (Below.next HB2.out hb3)
      clear hb3
      go_wp2_with fail
      go_ret
      exact ⟨rfl, HB3.out⟩
end Go.Proofs.YtcjdlckfbkdibaaDoor
end
section
/- The law OrderFields returns true for every input, and what it is handed reads behind the call as it read before: no condition. (The frame follows the kit's proof-skeleton.) -/
namespace Go.Proofs.YtcjdlckfbkdibaaDoor.orderFields
open Go.ChangeShapes Go.WideShapes Go.ChangeAt Go.RowKit
open Go.ChangeMaps (open_string shut_string)
set_option linter.unusedVariables false

theorem own : ownKnob Tryd.prog.godebug = none := by kernel_rfl
theorem laidOut : laidOutB Tryd.prog = true := by kernel_rfl

/-! ### the row's step -/
set_option maxRecDepth 100000 in
theorem lifted (os : Os) (started : os.Started) (H : Type) (enc : TypeId × Value → H) :
    ReturnsInHanded {} Tryd.checked os 9 .any (fun w args => (Rows.orderFieldsSpec.pre enc Tryd.prog Tryd.f9 [] false w args ∧ laidMetH Tryd.prog Rows.orderFieldsRow.laid w) ∧ sizedMet enc Tryd.prog Tryd.f9 (OpenSpec.ofChange Rows.orderFieldsSpec) false w args)
      (Rows.orderFieldsSpec.post enc Tryd.prog Tryd.f9 false true false false) := by
  refine returnsInHanded_of_change_and (C := Tryd.checked) (X := fun w _ => laidMetH Tryd.prog Rows.orderFieldsRow.laid w) (fun _ _ _ hh h => h.of_heap hh) own started (by kernel_rfl) Tryd.func9
    (ChangeSpec.witness_shaped (enc := enc) (C := Tryd.checked) (os := os) (X := fun w _ => laidMetH Tryd.prog Rows.orderFieldsRow.laid w) false (World.laidAll Tryd.prog os Rows.orderFieldsRow.laid) #[.int .i64 0] 8 (World.laidAll_os _ _ _)
      (World.shaped_of_ZipB (by kernel_rfl) (by kernel_rfl)) (by kernel_rfl) (by kernel_rfl) (by kernel_rfl)
      (by rw [MakeChecks.laidMetH_plain _ _ _ (by kernel_rfl)]; exact laidMet_laidAll _ (by kernel_rfl) (by kernel_rfl))) ?_
  intro W base args ds gs before hval0 hW _ _ hL _
  have hval : ∀ (j : Nat) t v, Tryd.f9.params[j]? = some t → args[j]? = some v → Value.okWide Tryd.prog W .any base t v := hval0
  have hW' := hW
  obtain ⟨p, q, hA0, hV, rfl, hfz, hnd⟩ := hW
  have hA : DataW.TrodAll enc Tryd.prog W 0 (fun _ => true) true Tryd.f9.params.toList args.toList ds p := hA0
  rw [Tryd.params9] at hA hval
  obtain ⟨v0, vs0, d0, ds0, p0, q0, hargs, rfl, rfl, h0, r0⟩ := trodAll_cons hA
  obtain ⟨rfl, rfl, rfl⟩ := trodAll_nil r0
  obtain rfl : args = #[v0] := by cases args; simp_all
  obtain ⟨rfl, rfl⟩ := trodVars_none hV
  obtain ⟨a0, rfl, rfl, rfl, w0⟩ := open_int Tryd.underlying3 (hval 0 3 v0 rfl rfl) h0
  clear hA0 hval0
  refine (OrderFields_walk a0 W w0).mono fun e W' ⟨he, bel⟩ => ?_
  subst he
  simp only [List.append_nil] at hW'
  exact ⟨_, rfl, _, _, _, [], _, [], hW', trodAll_mk1 (shut_bool Tryd.underlying4 _), (trodAll_cons_mk (shut_int Tryd.underlying3 w0) trodAll_mk0), rfl, bel.frame _, fun h => by cases h⟩

theorem over : Rows.orderFieldsRow.holds Tryd.pinned (OpenSpec.ofChange Rows.orderFieldsSpec) :=
  OpenClaim.holds_of_wide 9 Tryd.f9 rfl rfl rfl rfl rfl rfl rfl ⟨rfl, rfl, rfl, rfl, rfl⟩ rfl rfl rfl rfl rfl (by kernel_rfl) Tryd.func9 (by kernel_rfl)
    (of_decide_eq_true (by kernel_rfl)) (by unfold Func.isWrapper; first | (rw [if_pos (by decide +kernel)]; kernel_rfl) | (rw [if_neg (by decide +kernel)]; exact ⟨rfl, rfl⟩))
    (fun os started H enc _ => lifted os started H enc)

/-- the statement: the card -/
theorem proved : Rows.OrderFieldsCardSaid :=
  Claim7.holds_tied_plain_at .later [] [.data, .pinned] true (true, "95c5e0baea14d259fa08840643a51885dbcb859a6132a907c68469966bc0bf4b") false
    over (fun _ h => by cases h) (by kernel_rfl) (fun _ h => by cases h) orderFields_row_tie rfl ⟨rfl, rfl⟩ (by kernel_rfl) rfl
    (fun f fn hf hfn => by
      obtain rfl : f = 9 := Option.some.inj ((show Tryd.prog.funcNamed "deedhold/deedholdlaw27.OrderFields" = some 9 by kernel_rfl).symm.trans hf) |>.symm
      obtain rfl : fn = Tryd.f9 := (Option.some.inj (Tryd.func9.symm.trans hfn)).symm
      exact ⟨by kernel_rfl, fun j t ht => by
        rw [Tryd.params9] at ht
        have hm : t ∈ [3] := by simpa using Array.mem_of_getElem? ht
        have hall : ([3].all fun u => !Tryd.prog.wantsStandIn u) = true := by kernel_rfl
        exact (show Tryd.prog.wantsStandIn t = false by simpa using List.all_eq_true.1 hall t hm)⟩)
    (by kernel_rfl)
#print axioms proved
end Go.Proofs.YtcjdlckfbkdibaaDoor.orderFields
end
