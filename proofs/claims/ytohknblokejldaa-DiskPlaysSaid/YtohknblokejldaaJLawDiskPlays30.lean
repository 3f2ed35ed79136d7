/- Joined texts, in this order: DiskPlays, LawDiskPlays. Each one's first remark says what it proves; no condition beyond those that its theorems name. -/
import Derived.Test.YtohknblokejldaaJLawDiskPlays29
import Derived.Test.YtohknblokejldaaJLawDiskPlays09
import Derived.Test.YtohknblokejldaaRows
import Derived.WalkKit
import Derived.ProofKit
import Derived.OpenShut
import Derived.ShutString
import Derived.ChangeOld
import Derived.Below
section
/- The law DiskPlays, walked. -/
namespace Go.Proofs.Ytohknblokejldaa
open Go.RowKit
open Go.Lib (hid)
set_option linter.unusedVariables false

def PlL (w : World) (n : Nat) (g : Nat) (W : Nat → Prop) (p : RfP) (v24 : Value) (wr : World) : Prop :=
  ∃ (k : Nat) (s : Dk) (x : Rf) (R : Nat → Prop), v24 = .int .i64 k ∧ k ≤ n ∧ DSt wr g W R p s x k ∧ (∀ j, R j → w.heap.size ≤ j) ∧ Below w.heap.size w wr
def PlR (w : World) (g : Nat) (W : Nat → Prop) (p : RfP) (N : Nat) (v45 : Value) (wr : World) : Prop :=
  ∃ (k : Nat) (s : Dk) (x : Rf) (R : Nat → Prop), v45 = .int .i64 k ∧ k ≤ 6 ∧ DSt wr g W R p s x (N + k) ∧ (∀ j, R j → w.heap.size ≤ j) ∧ Below w.heap.size w wr
/-- what a new pair is -/
theorem DSt.made {w w1 w2 : World} {g : Nat} {W R : Nat → Prop} {p : RfP} (hd : DiskIs w1 g W R (dkNew 6 16)) (hb1 : Below w.heap.size w w1) (hr : RfIs w2 p (rfNew 6 16)) (hp : ∀ k, RfW p k → w1.heap.size ≤ k) (hb2 : Below w1.heap.size w1 w2) : DSt w2 g W R p (dkNew 6 16) (rfNew 6 16) 0 := by
  have hl : (∀ k, R k → k < w1.heap.size) ∧ (∀ k, W k → k < w1.heap.size) := by obtain ⟨b, dv, V, M, h⟩ := hd; exact ⟨h.rlt, h.wlt⟩
  exact ⟨hd.below hb2, dkNew_ok 6 16 (by omega) (by omega) (by omega) (by omega), RfRel.new 6 16, hr, fun k hk => ⟨fun q => by have := hp k hk; have := hl.2 k q; omega, fun q => by have := hp k hk; have := hl.1 k q; omega⟩, rfl, rfl, by simp [dkNew]⟩
set_option maxRecDepth 100000 in
set_option maxHeartbeats 8000000 in
theorem DiskPlays_walk {H : Type} {enc : TypeId × Value → H} {b0 : Nat} {d0 : DataW H} {p0 : List MemPlace} (v0 : Value) (w : World) (ok0 : Value.okWide Try.prog w .any b0 77 v0) (k0 : DataW.Trod enc Try.prog w 0 (fun _ => true) true 77 v0 d0 p0) :
    Calls Try.prog 11 #[v0] w fun e w' => e = .returned (.bool true) ∧ Below w.heap.size w w' := by
  obtain ⟨L, hL⟩ := open_ops05 ok0 k0
  clear ok0 k0
  have HL := hid hL
  obtain ⟨bb, hbb⟩ : ∃ bb, smallB L 60 = bb := ⟨_, rfl⟩
  have HBB := hid hbb
  obtain ⟨a, c, rfl, hlc, hcm, -⟩ := hL
  have hl63 : L.length ≤ 9223372036854775807 := by omega
  clear hlc hcm hbb
  go_enter Try.func11, Try.ntmps11
  go_wp2_with fail
  refine (disk_New 6 16 (by omega) (by omega) (by omega) (by omega) w).mono ?_
  rintro e w1 ⟨g, W, R, rfl, hd1, hW1, hR1, hb1⟩
  have HD1 := hid hd1
  have HWW := hid hW1
  have HR1 := hid hR1
  have HB1 := hid hb1
  clear hd1 hW1 hR1 hb1
  go_wp2_with fail
  refine (rf_New w1).mono ?_
  rintro e w2 ⟨p, rfl, hi2, hp2, hb2⟩
  have HP2 := hid (DSt.made HD1.out HB1.out hi2 hp2 hb2)
  have HPW : Hid (∀ j, RfW p j → w.heap.size ≤ j) := hid (fun j hj => Nat.le_trans HB1.out.size (hp2 j hj))
  have HB2 := hid (Below.next HB1.out hb2)
  clear hi2 hp2 hb2
  go_wp2_with fail
  refine (law05_small L 60 (by omega) _ w2 (HL.out.below opKept HB2.out) bb HBB).mono ?_
  rintro e w3 ⟨rfl, hb3⟩
  have HP3 := hid (HP2.out.below hb3)
  have HB3 := hid (Below.next HB2.out hb3)
  clear hb3
  cases bb with
  | false =>
    go_wp2_with fail
    refine (law05_awake w3).mono ?_
    rintro e w4 ⟨rfl, hb4⟩
    have HB4 := hid (Below.next HB3.out hb4)
    clear hb4
    go_wp2_with fail
    go_ret
    exact ⟨rfl, HB4.out⟩
  | true =>
    have hsm := HBB.out
    unfold smallB at hsm
    simp only [Bool.and_eq_true, decide_eq_true_eq] at hsm
    have hl60 := hsm.2
    have HALL := hid hsm.1
    have HDWO : Hid (∀ j, DW W p j → w.heap.size ≤ j) := hid (fun j hj => by
      rcases hj with q | q
      · exact HWW.out j q
      · exact HPW.out j q)
    clear hsm
    go_wp2_with fail
    go_loopw [24] (fun v24 wr => PlL w L.length g W p v24 wr) (fun v24 _ => L.length - (intOf v24).toNat)
    case atStart => exact ⟨0, _, _, R, rfl, by omega, HP3.out, HR1.out, HB3.out⟩
    case round =>
      clear HP2 HP3 HB2 HB3
      obtain ⟨k, s, x, R, rfl, hk, hp, hR, hb⟩ := hrel
      have HP := hid hp
      have HR := hid hR
      have HB := hid hb
      by_cases hlt : k < L.length
      · obtain ⟨o, ho⟩ : ∃ o, L[k]? = some o := ⟨_, List.getElem?_eq_getElem hlt⟩
        obtain ⟨b, off, da, dc, ka, kc, rfl, c0, c1, c2, c3, c4, c5, c6, hsd, hsk⟩ := HL.out.op05 hb ho
        have hok := List.all_eq_true.1 HALL.out o (List.mem_of_getElem? ho)
        unfold okOp at hok
        simp only [Bool.and_eq_true, decide_eq_true_eq] at hok
        obtain ⟨ob, hob⟩ : ∃ ob, ob = Obj.cells #[.int .i64 o.kind, .int .i64 o.sec, .int .i64 o.n, .slice da o.data.length dc, .slice ka o.keep.length kc, .int .i64 o.torn, .int .i64 o.cut] 81 := ⟨_, rfl⟩
        have hbn := Below.new wr ob
        have HSTEP := hid (law05_step o hok.1 hok.2 (.slice da o.data.length dc) (.slice ka o.keep.length kc) g W R p s x k (wr.alloc ob) (HP.out.below hbn) (hsd.below (Below.next hb hbn)) (hsk.below (Below.next hb hbn))
          (fun j hj => by
            by_cases he : o.data = []
            · exact .inl he
            · right
              intro q
              have h1 := HDWO.out j q
              obtain ⟨aa, cc, ee, -, hrd, -⟩ := hsd
              simp only [Value.slice.injEq, true_and] at ee
              obtain ⟨rfl, rfl⟩ := ee
              obtain ⟨b', o', z, hbz, hcz, -⟩ := hrd.byte 0 (List.length_pos_iff.2 he)
              subst hbz
              have e1 : b' = j := by simpa [Value.ownBlock] using hj
              have := World.block_lt_of_cell? w _ hcz
              simp only at this
              omega)
          (fun j hj => by
            rcases hsk.lt j hj with q | q
            · exact .inl q
            · exact .inr (fun z => by have := HDWO.out j z; omega)))
        have HOB := hid hob
        obtain ⟨kd, sc, nn, dl, kl, tn, ct⟩ := o
        simp only at c0 c1 c2 c3 c4 c5 c6 HSTEP HOB
        have e0 : (0 : Int) ≤ (k : Int) := by omega
        have e1 : (k : Int) < (L.length : Int) := by omega
        clear ho hsd hsk hok hob hbn hb hp hR
        go_wp2_with fail
        rw [← HOB.out]
        refine HSTEP.out.mono ?_
        rintro e w5 ⟨s', x', R', rfl, hp5, hr5, hu5⟩
        have HP5 := hid hp5
        have HR5 : Hid (∀ j, R' j → w.heap.size ≤ j) := hid (fun j hj => by
          rcases hr5 j hj with q | q
          · exact HR.out j q
          · have := HB.out.size; simp at q; omega)
        have HB5 : Hid (Below w.heap.size w w5) := hid ((Below.next HB.out (Below.new wr ob)).trans (hu5.below (by have := HB.out.size; simp; omega) (fun j _ q => HDWO.out j q)))
        clear hp5 hr5 hu5 c0 c1 c2 c3 c4 c5 c6
        go_wp2_with fail
        refine (law05_same g W R' p s' x' (k + 1) (by omega) w5 HP5.out).mono ?_
        rintro e w6 ⟨rfl, hb6⟩
        have HP6 := hid (HP5.out.below hb6)
        have HB6 := hid (Below.next HB5.out hb6)
        clear hb6
        go_wp2_with fail
        go_roundw
        case rel => exact ⟨k + 1, s', x', R', by go_num, by omega, HP6.out, HR5.out, HB6.out⟩
        case measure => simp [intOf]; omega
      · clear hp hR hb
        go_wp2_with fail
        refine (disk_Crash s HP.out.ok [] (-1) 0 (.slice none 0 0) g W R wr HP.out.disk (SlI.nil _) (fun j hj => .inl rfl)).mono ?_
        rintro e w5 ⟨R5, rfl, hd5, hr5, hu5⟩
        have HD5 := hid hd5
        have HR5 := hid hr5
        have HU5 := hid hu5
        obtain ⟨hxl, hx6, hxz, hxD, hxC⟩ := HP.out.len
        have HXL := hid hxl
        have HXD := hid hxD
        have HXC := hid hxC
        clear hd5 hr5 hu5 hxl hxD hxC
        go_wp2_with fail
        refine (rf_Crash p x HXL.out (by omega) (by omega) HXD.out HXC.out [] (-1) 0 (.slice none 0 0) w5 (HP.out.ref.upd HU5.out (fun k hk => (HP.out.far k hk).1)) (SlI.nil _) (fun j hj => .inl rfl)).mono ?_
        rintro e w6 ⟨rfl, hi6, hu6⟩
        obtain ⟨s', x', R', -, hp7, hr7, hu7⟩ := HP.out.next (e := .returned (.bool true)) HD5.out HR5.out HU5.out hi6 hu6 (HP.out.ok.crash [] (-1) 0) (HP.out.rel.crash HP.out.ok [] (-1) 0) (by show (mixF _ s.D s.C []).length = 6; rw [mixF_len]; exact HP.out.n6) HP.out.sz (by show ([] : List (Int × List UInt8)).length ≤ k + 1; simp) rfl
        have HP7 := hid hp7
        have HR7 : Hid (∀ j, R' j → w.heap.size ≤ j) := hid (fun j hj => by
          rcases hr7 j hj with q | q
          · exact HR.out j q
          · have := HB.out.size; omega)
        have HB7 : Hid (Below w.heap.size w w6) := hid (HB.out.trans (hu7.below HB.out.size (fun j _ q => HDWO.out j q)))
        clear hi6 hu6 hp7 hr7 hu7 hxz hx6
        go_wp2_with fail
        go_loopw [45] (fun v45 wr => PlR w g W p (k + 1) v45 wr) (fun v45 _ => 6 - (intOf v45).toNat)
        case atStart => exact ⟨0, _, _, R', rfl, by omega, HP7.out, HR7.out, HB7.out⟩
        case round =>
          clear HP7 HR7 HB7
          obtain ⟨j, s2, x2, R2, rfl, hj, hp2, hR2, hb2⟩ := hrel
          have HP2 := hid hp2
          have HR2 := hid hR2
          have HB2 := hid hb2
          clear hp2 hR2 hb2
          by_cases hj6 : j < 6
          · have j0 : (0 : Int) ≤ (j : Int) := by omega
            have j1 : (j : Int) < 6 := by omega
            have HSTEP := hid (law05_step ⟨3, (j : Int), 0, [], [], 0, 0⟩ (by simp) (by simp) (.slice none 0 0) (.slice none 0 0) g W R2 p s2 x2 (k + 1 + j) wr HP2.out ⟨none, 0, rfl, by simp, Rd.nil _ _, by simp, by omega, fun _ => rfl⟩ (SlI.nil _) (fun _ _ => .inl rfl) (fun _ _ => .inl rfl))
            go_wp2_with fail
            refine HSTEP.out.mono ?_
            rintro e w5 ⟨s', x', R', rfl, hp5, hr5, hu5⟩
            have HP5 := hid hp5
            have HR5 : Hid (∀ j, R' j → w.heap.size ≤ j) := hid (fun j hj => by
              rcases hr5 j hj with q | q
              · exact HR2.out j q
              · have := HB2.out.size; omega)
            have HB5 : Hid (Below w.heap.size w w5) := hid (HB2.out.trans (hu5.below HB2.out.size (fun j _ q => HDWO.out j q)))
            clear hp5 hr5 hu5
            go_wp2_with fail
            go_roundw
            case rel => exact ⟨j + 1, s', x', R', by go_num, by omega, HP5.out, HR5.out, HB5.out⟩
            case measure => simp [intOf]; omega
          · have j1 : ¬ (j : Int) < 6 := by omega
            go_wp2_with fail
            refine (law05_awake wr).mono ?_
            rintro e w4 ⟨rfl, hb4⟩
            have HB4 := hid (Below.next HB2.out hb4)
            clear hb4
            go_wp2_with fail
            go_ret
            exact ⟨rfl, HB4.out⟩
end Go.Proofs.Ytohknblokejldaa
end
section
/- The law DiskPlays returns true for every input, and what it is handed reads behind the call as it read before: no condition. (The frame follows the kit's proof-skeleton.) -/
namespace Go.Proofs.Ytohknblokejldaa.diskPlays
open Go.ChangeShapes Go.WideShapes Go.ChangeAt Go.RowKit
open Go.ChangeMaps (open_string shut_string)
set_option linter.unusedVariables false

theorem own : ownKnob Try.prog.godebug = none := by kernel_rfl
theorem laidOut : laidOutB Try.prog = true := by kernel_rfl

/-! ### the row's step -/
set_option maxRecDepth 100000 in
theorem lifted (os : Os) (started : os.Started) (H : Type) (enc : TypeId × Value → H) :
    ReturnsInHanded {} Try.checked os 11 .any (Rows.diskPlaysSpec.pre6 enc Try.prog Try.f11 Rows.diskPlaysRow.domain false) (Rows.diskPlaysSpec.post enc Try.prog Try.f11 false true false false) := by
  refine returnsInHanded_of_change (C := Try.checked) own started (by kernel_rfl) Try.func11
    (ChangeSpec.witness6 (enc := enc) (C := Try.checked) false ⟨#[], #[.slice none 0 0], []⟩ 8 (by kernel_rfl) (by kernel_rfl) (by kernel_rfl) (by kernel_rfl)) ?_
  intro W base args ds gs before hval0 hW hcnd _
  have hval : ∀ (j : Nat) t v, Try.f11.params[j]? = some t → args[j]? = some v → Value.okWide Try.prog W .any base t v := hval0
  have hW' := hW
  obtain ⟨p, q, hA0, hV, rfl, hfz, hnd⟩ := hW
  have hA : DataW.TrodAll enc Try.prog W 0 (fun _ => true) true Try.f11.params.toList args.toList ds p := hA0
  rw [Try.params11] at hA hval
  obtain ⟨v0, vs0, d0, ds0, p0, q0, hargs, rfl, rfl, h0, r0⟩ := trodAll_cons hA
  obtain ⟨rfl, rfl, rfl⟩ := trodAll_nil r0
  obtain rfl : args = #[v0] := by cases args; simp_all
  obtain ⟨rfl, rfl⟩ := trodVars_none hV
  have k0 := h0
  have lt0 : ∀ x ∈ p0, x.block < W.heap.size := by obtain ⟨m, hm⟩ := k0; exact DataW.trod_lt m _ _ _ hm
  have ok0 := hval 0 77 v0 rfl rfl
  clear hA0 hval0
  refine (DiskPlays_walk v0 W ok0 k0).mono fun e W' ⟨he, bel⟩ => ?_
  subst he
  exact ⟨_, rfl, _, _, _, [], _, [], hW', trodAll_mk1 (shut_bool Try.underlying4 _), (trodAll_cons_mk (Below.trod laidOut (by kernel_rfl) (of_decide_eq_true (by kernel_rfl)) k0 bel lt0) trodAll_mk0), rfl, bel.frame _, fun h => by cases h⟩

theorem over : Rows.diskPlaysRow.holds Try.pinned (OpenSpec.ofChange Rows.diskPlaysSpec) :=
  OpenClaim.holds_of_wide 11 Try.f11 rfl rfl rfl rfl rfl rfl rfl ⟨rfl, rfl, rfl, rfl, rfl⟩ rfl rfl rfl rfl rfl (by kernel_rfl) Try.func11 (by kernel_rfl)
    (of_decide_eq_true (by kernel_rfl)) (by unfold Func.isWrapper; first | (rw [if_pos (by decide +kernel)]; kernel_rfl) | (rw [if_neg (by decide +kernel)]; exact ⟨rfl, rfl⟩))
    (fun os started H enc _ => lifted os started H enc)

/-- the statement -/
theorem proved : Rows.DiskPlaysSaid := over
#print axioms proved
end Go.Proofs.Ytohknblokejldaa.diskPlays
end
