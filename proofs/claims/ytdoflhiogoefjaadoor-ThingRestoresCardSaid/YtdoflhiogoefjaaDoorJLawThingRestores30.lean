/- Joined texts, in this order: ThingRestores, LawThingRestores. Each one's first remark says what it proves; no condition beyond those that its theorems name. -/
import Derived.Test.YtdoflhiogoefjaaDoorJLawThingRestores28
import Derived.Test.YtdoflhiogoefjaaDoorJLawThingRestores29
import Derived.Test.YtdoflhiogoefjaaDoorRows
import Derived.WalkKit
import Derived.ProofKit
import Derived.OpenShut
import Derived.ShutString
import Derived.ChangeOld
import Derived.Below
import Derived.Test.YtdoflhiogoefjaaDoorCards
import Derived.Test.YtdoflhiogoefjaaDoorTie
import Derived.LaidMore
import Derived.Lay
import Derived.Stop.Joined
import Derived.SevenTiedAt
section
/- Law ThingRestores. -/
namespace Go.Proofs.YtdoflhiogoefjaaDoor
open Go.RowKit
open Go.Lib (hid)
set_option linter.unusedVariables false

def RsR (w : World) (L : List Th) (v5 v18 : Value) (wr : World) : Prop :=
  ∃ j : Nat, v18 = .int .i64 (j : Int) ∧ j ≤ L.length ∧ Hid (wr.ownsRow w.heap.size 45 6 v5 (L.take j).length (svT (L.take j))) ∧ Hid (∀ x ∈ L.take j, x.nm.length ≤ 60) ∧ Hid (Below w.heap.size w wr)
theorem name_a : nameB [97] = true := by decide
set_option maxRecDepth 100000 in
set_option maxHeartbeats 8000000 in
theorem law21_Restores (L : List Th) (next : Int) (a : Option Addr) (c : Nat) (w : World) (hl : SlE ThE 6 w (.slice a L.length c) L) (h63 : L.length ≤ 9223372036854775807) :
    Calls Tryd.prog 6 #[.slice a L.length c, .int .i64 next] w fun e w' => e = .returned (.bool true) ∧ Below w.heap.size w w' := by
  have HL := hid hl
  clear hl
  by_cases h61 : 60 < L.length
  · have i6 : (60 : Int) < (L.length : Int) := by omega
    clear h61
    go_enter Tryd.func6, Tryd.ntmps6
    go_wp2_with fail
    refine (law21_awake w).mono ?_
    rintro e w3 ⟨rfl, hb3⟩
    have HB3 := hid hb3
    clear hb3
    go_wp2_with fail
    go_ret
    exact ⟨rfl, HB3.out⟩
  have h60 : L.length ≤ 60 := by omega
  have i6 : ¬ (60 : Int) < (L.length : Int) := by omega
  clear h63 h61
  go_enter Tryd.func6, Tryd.ntmps6
  go_wp2_with fail
  go_loopw [5, 18] (fun v5 v18 wr => RsR w L v5 v18 wr) (fun _ v18 _ => L.length - (intOf v18).toNat)
  case atStart => exact ⟨0, rfl, by omega, hid (by simpa [svT] using World.ownsRow_nil _ _ _ _), hid (by simp), hid (Below.refl _ _)⟩
  case round =>
    rename_i vo _
    obtain ⟨j, rfl, hj, hown, HNA, HB⟩ := hrel
    obtain ⟨wo, hwo⟩ : ∃ wo, wo = wr := ⟨_, rfl⟩
    subst hwo
    by_cases hlt : j < L.length
    · have j1 : (j : Int) < (L.length : Int) := by omega
      have j0 : (0 : Int) ≤ (j : Int) := by omega
      obtain ⟨x, hp⟩ : ∃ x, L[j]? = some x := ⟨_, List.getElem?_eq_getElem hlt⟩
      have HTK : Hid (L.take (j + 1) = L.take j ++ [x]) := hid (by
        obtain ⟨h1, h2⟩ := List.getElem?_eq_some_iff.1 hp
        rw [List.take_succ_eq_append_getElem h1, h2])
      obtain ⟨b0, off, rfl, q0, q1, q2, q3, q4, q5, -⟩ := HL.out.th HB.out hp
      obtain ⟨xi, xn, xo, xk, xh, xs⟩ := x
      simp only at q0 q1 q2 q3 q4 q5
      clear hp
      go_upto_region 7 with fail
      obtain ⟨w5, hw5⟩ : ∃ w5, w5 = wo.alloc (.cells #[.int .i64 xi, .string ⟨xn.toArray⟩, .int .i64 xo, .int .i64 xk, .int .i64 xh, .int .i64 xs] 48) := ⟨_, rfl⟩
      rw [← hw5]
      have hb5 : Below wo.heap.size wo w5 := by rw [hw5]; exact Below.new _ _
      obtain ⟨bb, hbb⟩ : ∃ bb, bb = wo.heap.size := ⟨_, rfl⟩
      rw [← hbb]
      have HO5 : Hid (Blk w5 bb #[.int .i64 xi, .string ⟨xn.toArray⟩, .int .i64 xo, .int .i64 xk, .int .i64 xh, .int .i64 xs]) := hid (by rw [hw5, hbb]; exact Blk.new _ _ _)
      have HW5 := hid (owns_below hown.out hb5)
      have HB5 := hid (Below.next HB.out hb5)
      clear hw5 hb5 hbb q0 q1 q2 q3 q4 q5
      have c0 : w5.cell? ⟨bb, 0, none⟩ = some (.int .i64 xi) := by rw [HO5.out.cell]; rfl
      have c1 : w5.cell? ⟨bb, 1, none⟩ = some (.string ⟨xn.toArray⟩) := by rw [HO5.out.cell]; rfl
      have c2 : w5.cell? ⟨bb, 2, none⟩ = some (.int .i64 xo) := by rw [HO5.out.cell]; rfl
      have c3 : w5.cell? ⟨bb, 3, none⟩ = some (.int .i64 xk) := by rw [HO5.out.cell]; rfl
      have c4 : w5.cell? ⟨bb, 4, none⟩ = some (.int .i64 xh) := by rw [HO5.out.cell]; rfl
      have c5 : w5.cell? ⟨bb, 5, none⟩ = some (.int .i64 xs) := by rw [HO5.out.cell]; rfl
      by_cases hn : xn.length ≤ 60
      · have h6 : ¬ (60 : Int) < (xn.length : Int) := by omega
        have HN60 : Hid (xn.length ≤ 60) := hid hn
        have hrf := law21_ref ⟨xi, xn, xo, (xk, xh, xs)⟩ w5
        simp only [thV, strV] at hrf
        have HRF := hid hrf
        clear hrf hn
        go_wp2_with fail
        refine HRF.out.mono ?_
        rintro e w6 ⟨rfl, hb6⟩
        have HW6 := hid (owns_below HW5.out hb6)
        have HB6 := hid (Below.next HB5.out hb6)
        clear hb6 c0 c1 c2 c3 c4 c5 h6
        have hsz := HB6.out.size
        go_wp2_with (at_builtin; refine wpList_append1w T_th21 _ rfl _ _ #[.int .i64 xi, .string ⟨xn.toArray⟩, .int .i64 xo, .int .i64 xk, .int .i64 xh, .int .i64 xs] rfl w.heap.size _ _ _ rfl HW6.out rfl rfl ?c1 ?c2 ?c3 ?_)
        case c1 => exact ⟨rfl, rfl, rfl, rfl, rfl, rfl⟩
        case c2 => rw [List.length_take]; omega
        try (case c3 => omega)
        intro v' w7 hown' hgrow hne hwh
        have HO : Hid (w7.ownsRow w.heap.size 45 6 v' (L.take (j + 1)).length (svT (L.take (j + 1)))) := hid (by
          have el : (L.take (j + 1)).length = j + 1 := by rw [List.length_take]; omega
          rw [el, HTK.out, svT_append]; exact hown')
        have HBZ : Hid (Below w.heap.size w w7) := hid (HB6.out.grown hgrow hsz (fun k hk => (HW6.out.lt k hk).1))
        clear hown' hgrow hwh hne
        go_wp2
        go_roundw
        case rel => exact ⟨j + 1, by go_num, by omega, HO, hid (fun y hy => by rw [HTK.out] at hy; rcases List.mem_append.1 hy with hy | hy; exact HNA.out y hy; simp only [List.mem_singleton] at hy; subst hy; exact HN60.out), HBZ⟩
        case measure => simp [intOf]; omega
      · have h6 : (60 : Int) < (xn.length : Int) := by omega
        go_wp2_with fail
        refine (law21_awake w5).mono ?_
        rintro e w6 ⟨rfl, hb6⟩
        have HB6 := hid (Below.next HB5.out hb6)
        clear hb6 c0 c1 c2 c3 c4 c5
        go_wp2_with fail
        go_ret
        exact ⟨rfl, HB6.out⟩
    · have j1 : ¬ (j : Int) < (L.length : Int) := by omega
      have e1 : L.take j = L := List.take_of_length_le (by omega)
      rw [e1] at hown HNA
      obtain ⟨av, cv, hv, -⟩ := ownsRow.rd hown.out
      subst hv
      have HRX : Hid (RefT wo av cv L) := hid ⟨SlTh.of_own hown.out, by omega⟩
      have HLW : Hid (∀ k, aB av k → k < wo.heap.size) := hid (fun k hk => (hown.out.lt k (own_aB hk)).2)
      obtain ⟨b, hb⟩ : ∃ b, wholeT L next = b := ⟨_, rfl⟩
      have HWB := hid hb
      clear hb e1
      go_wp2_with fail
      refine (thing_Restore L next a c wo (HL.out.below thKept HB.out) h60 HNA.out b HWB).mono ?_
      rintro e w5 (⟨rfl, s, rfl, hs5, hb5⟩ | ⟨rfl, rfl, hb5⟩)
      · have HNX : Hid (next ≤ 1099511627776) := hid (by have := HWB.out; unfold wholeT at this; simp only [Bool.and_eq_true, decide_eq_true_eq] at this; exact this.1.1.2)
        have HS5 := hid (hs5.weaken (G := fun k => wo.heap.size ≤ k ∧ k < w5.heap.size) (fun k q q2 => ⟨q, q2⟩))
        have HR5 := hid (HRX.out.below hb5)
        have HB5 := hid (Below.next HB.out hb5)
        have HZ5 := hid hb5.size
        clear hs5 hb5
        go_wp2_with fail
        refine (ref21_Whole L next av cv w5 HR5.out (fun x hx => by have := HNA.out x hx; omega) true HWB).mono ?_
        rintro e w6 ⟨rfl, hb6⟩
        have HBO : Hid (BothT w6 s (fun k => wo.heap.size ≤ k ∧ k < w5.heap.size) av cv ⟨L, next⟩) := hid ⟨HS5.out.below hb6, HR5.out.below hb6, fun k q => by have := hb6.size; omega, fun k q => by have := HLW.out k q; have := HZ5.out; have := hb6.size; omega, fun k q q2 => by have := HLW.out k q; omega⟩
        have HB6 := hid (Below.next HB5.out hb6)
        clear hb6
        go_wp2_with fail
        refine (law21_same w6 HBO.out (by show L.length ≤ 900; omega) (by show next ≤ _; have := HNX.out; omega)).mono ?_
        rintro e w7 ⟨rfl, hb7⟩
        have HS7 := hid (HBO.out.st.below hb7)
        have HB7 := hid (Below.next HB6.out hb7)
        have HE : Hid (makeE L [97] 1 = 0) := hid (by unfold makeE; rw [if_neg (by rw [name_a]; simp), if_neg (by omega), if_neg (by omega)])
        have hmk := thing_Make w7 HS7.out (by show L.length ≤ 900; omega) (by show next ≤ _; have := HNX.out; omega) [97] (by simp) 1 (by omega)
        rw [show makeI ⟨L, next⟩ [97] 1 = next by unfold makeI; simp only; rw [HE.out]; rfl, show makeE (ThX.mk L next).L [97] 1 = 0 from HE.out] at hmk
        have HMK := hid hmk
        have HG7 : Hid (∀ k, (wo.heap.size ≤ k ∧ k < w5.heap.size) → w.heap.size ≤ k) := hid (fun k q => by have := HB.out.size; omega)
        clear hb7 hmk
        go_wp2_with fail
        refine HMK.out.mono ?_
        rintro e w8 ⟨rfl, hs8, hu8⟩
        have HB8 := hid (HB7.out.trans (hu8.below HB7.out.size (fun k _ q => HG7.out k q)))
        clear hs8 hu8
        go_wp2_with fail
        refine (law21_awake w8).mono ?_
        rintro e w9 ⟨rfl, hb9⟩
        have HB9 := hid (Below.next HB8.out hb9)
        clear hb9
        go_wp2_with fail
        go_ret
        exact ⟨rfl, HB9.out⟩
      · have HR5 := hid (HRX.out.below hb5)
        have HB5 := hid (Below.next HB.out hb5)
        clear hb5
        go_wp2_with fail
        refine (ref21_Whole L next av cv w5 HR5.out (fun x hx => by have := HNA.out x hx; omega) false HWB).mono ?_
        rintro e w6 ⟨rfl, hb6⟩
        have HB6 := hid (Below.next HB5.out hb6)
        clear hb6
        go_wp2_with fail
        refine (law21_awake w6).mono ?_
        rintro e w9 ⟨rfl, hb9⟩
        have HB9 := hid (Below.next HB6.out hb9)
        clear hb9
        go_wp2_with fail
        go_ret
        exact ⟨rfl, HB9.out⟩
set_option maxRecDepth 100000 in
theorem ThingRestores_walk {H : Type} {enc : TypeId × Value → H} {b0 : Nat} {d0 : DataW H} {p0 : List MemPlace} (v0 : Value) (x1 : Int) (w : World) (ok0 : Value.okWide Tryd.prog w .any b0 58 v0) (k0 : DataW.Trod enc Tryd.prog w 0 (fun _ => true) true 58 v0 d0 p0) (w1 : (Lit.int .i64 x1).wf = true) :
    Calls Tryd.prog 6 #[v0, .int .i64 x1] w fun e w' => e = .returned (.bool true) ∧ Below w.heap.size w w' := by
  obtain ⟨L, hl⟩ := open_ths ok0 k0
  obtain ⟨a, c, rfl, h2, h3, -⟩ := id hl
  exact law21_Restores L x1 a c w hl (by omega)
end Go.Proofs.YtdoflhiogoefjaaDoor
end
section
/- The law ThingRestores returns true for every input, and what it is handed reads behind the call as it read before: no condition. (The frame follows the kit's proof-skeleton.) -/
namespace Go.Proofs.YtdoflhiogoefjaaDoor.thingRestores
open Go.ChangeShapes Go.WideShapes Go.ChangeAt Go.RowKit
open Go.ChangeMaps (open_string shut_string)
set_option linter.unusedVariables false

theorem own : ownKnob Tryd.prog.godebug = none := by kernel_rfl
theorem laidOut : laidOutB Tryd.prog = true := by kernel_rfl

/-! ### the row's step -/
set_option maxRecDepth 100000 in
theorem lifted (os : Os) (started : os.Started) (H : Type) (enc : TypeId × Value → H) :
    ReturnsInHanded {} Tryd.checked os 6 .any (fun w args => (Rows.thingRestoresSpec.pre enc Tryd.prog Tryd.f6 [] false w args ∧ laidMetH Tryd.prog Rows.thingRestoresRow.laid w) ∧ sizedMet enc Tryd.prog Tryd.f6 (OpenSpec.ofChange Rows.thingRestoresSpec) false w args)
      (Rows.thingRestoresSpec.post enc Tryd.prog Tryd.f6 false true false false) := by
  refine returnsInHanded_of_change_and (C := Tryd.checked) (X := fun w _ => laidMetH Tryd.prog Rows.thingRestoresRow.laid w) (fun _ _ _ hh h => h.of_heap hh) own started (by kernel_rfl) Tryd.func6
    (ChangeSpec.witness_shaped (enc := enc) (C := Tryd.checked) (os := os) (X := fun w _ => laidMetH Tryd.prog Rows.thingRestoresRow.laid w) false (World.laidAll Tryd.prog os Rows.thingRestoresRow.laid) #[.slice none 0 0, .int .i64 0] 8 (World.laidAll_os _ _ _)
      (World.shaped_of_ZipB (by kernel_rfl) (by kernel_rfl)) (by kernel_rfl) (by kernel_rfl) (by kernel_rfl)
      (by rw [MakeChecks.laidMetH_plain _ _ _ (by kernel_rfl)]; exact laidMet_laidAll _ (by kernel_rfl) (by kernel_rfl))) ?_
  intro W base args ds gs before hval0 hW _ _ hL _
  have hval : ∀ (j : Nat) t v, Tryd.f6.params[j]? = some t → args[j]? = some v → Value.okWide Tryd.prog W .any base t v := hval0
  have hW' := hW
  obtain ⟨p, q, hA0, hV, rfl, hfz, hnd⟩ := hW
  have hA : DataW.TrodAll enc Tryd.prog W 0 (fun _ => true) true Tryd.f6.params.toList args.toList ds p := hA0
  rw [Tryd.params6] at hA hval
  obtain ⟨v0, vs0, d0, ds0, p0, q0, hargs, rfl, rfl, h0, r0⟩ := trodAll_cons hA
  obtain ⟨v1, vs1, d1, ds1, p1, q1, rfl, rfl, rfl, h1, r1⟩ := trodAll_cons r0
  obtain ⟨rfl, rfl, rfl⟩ := trodAll_nil r1
  obtain rfl : args = #[v0, v1] := by cases args; simp_all
  obtain ⟨rfl, rfl⟩ := trodVars_none hV
  have k0 := h0
  have lt0 : ∀ x ∈ p0, x.block < W.heap.size := by obtain ⟨m, hm⟩ := k0; exact DataW.trod_lt m _ _ _ hm
  have ok0 := hval 0 58 v0 rfl rfl
  obtain ⟨a1, rfl, rfl, rfl, w1⟩ := open_int Tryd.underlying3 (hval 1 3 v1 rfl rfl) h1
  clear hA0 hval0
  refine (ThingRestores_walk v0 a1 W ok0 k0 w1).mono fun e W' ⟨he, bel⟩ => ?_
  subst he
  exact ⟨_, rfl, _, _, _, [], _, [], hW', trodAll_mk1 (shut_bool Tryd.underlying4 _), (trodAll_cons_mk (Below.trod laidOut (by kernel_rfl) (of_decide_eq_true (by kernel_rfl)) k0 bel lt0) (trodAll_cons_mk (shut_int Tryd.underlying3 w1) trodAll_mk0)), rfl, bel.frame _, fun h => by cases h⟩

theorem over : Rows.thingRestoresRow.holds Tryd.pinned (OpenSpec.ofChange Rows.thingRestoresSpec) :=
  OpenClaim.holds_of_wide 6 Tryd.f6 rfl rfl rfl rfl rfl rfl rfl ⟨rfl, rfl, rfl, rfl, rfl⟩ rfl rfl rfl rfl rfl (by kernel_rfl) Tryd.func6 (by kernel_rfl)
    (of_decide_eq_true (by kernel_rfl)) (by unfold Func.isWrapper; first | (rw [if_pos (by decide +kernel)]; kernel_rfl) | (rw [if_neg (by decide +kernel)]; exact ⟨rfl, rfl⟩))
    (fun os started H enc _ => lifted os started H enc)

/-- the statement: the card -/
theorem proved : Rows.ThingRestoresCardSaid :=
  Claim7.holds_tied_plain_at .later [] [.data, .pinned] true (true, "3eabfc7ec4ce52c70f28a4037542889e36783f9221e8ac1bc71760866ac72d24") true
    over (fun _ h => by cases h) (by kernel_rfl) (fun _ h => by cases h) thingRestores_row_tie rfl ⟨rfl, rfl⟩ (by kernel_rfl) rfl
    (fun f fn hf hfn => by
      obtain rfl : f = 6 := Option.some.inj ((show Tryd.prog.funcNamed "deedhold/deedholdlaw21.ThingRestores" = some 6 by kernel_rfl).symm.trans hf) |>.symm
      obtain rfl : fn = Tryd.f6 := (Option.some.inj (Tryd.func6.symm.trans hfn)).symm
      exact ⟨by kernel_rfl, fun j t ht => by
        rw [Tryd.params6] at ht
        have hm : t ∈ [58, 3] := by simpa using Array.mem_of_getElem? ht
        have hall : ([58, 3].all fun u => !Tryd.prog.wantsStandIn u) = true := by kernel_rfl
        exact (show Tryd.prog.wantsStandIn t = false by simpa using List.all_eq_true.1 hall t hm)⟩)
    (by kernel_rfl)
#print axioms proved
end Go.Proofs.YtdoflhiogoefjaaDoor.thingRestores
end
