/- Joined texts, in this order: SlotsParsesLaw, LawSlotsParses. Each one's first remark says what it proves; no condition beyond those that its theorems name. -/
import Derived.Test.YtohknblokejldaaJLawSlotsParses27
import Derived.Test.YtohknblokejldaaJLawSlotsParses28
import Derived.Test.YtohknblokejldaaRows
import Derived.WalkKit
import Derived.ProofKit
import Derived.OpenShut
import Derived.ShutString
import Derived.ChangeOld
import Derived.Below
section
/- The law SlotsParses, walked. -/
namespace Go.Proofs.Ytohknblokejldaa
open Go.RowKit
open Go.Lib (hid)
set_option linter.unusedVariables false

set_option maxRecDepth 100000 in
set_option maxHeartbeats 4000000 in
theorem SlotsParses_walk (a0 : Option Addr) (len0 cap0 : Nat) (z0 : List Int) (w : World) (w0 : (a0 = none ∧ len0 = 0 ∧ cap0 = 0 ∧ z0 = []) ∨
      ∃ x, a0 = some x ∧ len0 ≤ cap0 ∧ cap0 ≤ maxLen ∧ z0.length = cap0 ∧ (∀ i, i < z0.length → w.cell? (x.add i) = some (.int .u8 (z0.getD i 0))) ∧ ∀ n ∈ z0, (Lit.int .u8 n).wf = true) :
    Calls Try.prog 4 #[.slice a0 len0 cap0] w fun e w' => e = .returned (.bool true) ∧ Below w.heap.size w w' := by
  obtain ⟨l, rfl, hl⟩ := slb_of_row w0
  have HL := hid hl
  have h63 : l.length ≤ 9223372036854775807 := by obtain ⟨-, -, -, h, -⟩ := hl; exact h
  clear w0 hl
  by_cases hbig : 2000 < l.length
  · have hb2 : (2000 : Int) < (l.length : Int) := by omega
    clear hbig
    go_enter Try.func4, Try.ntmps4
    go_wp2_with fail
    refine (law06_awake w).mono ?_
    rintro e w1 ⟨rfl, hb1⟩
    have HB := hid hb1
    clear hb1
    go_wp2_with fail
    go_ret
    exact ⟨rfl, HB.out⟩
  · have hb2 : ¬ (2000 : Int) < (l.length : Int) := by omega
    have hb3 : l.length ≤ 2000 := by omega
    obtain ⟨p, hp⟩ : ∃ p, parseR l = p := ⟨_, rfl⟩
    have HP := hid hp
    clear hbig hp
    go_enter Try.func4, Try.ntmps4
    go_wp2_with fail
    refine (slots_Parse l _ w HL.out (by omega) p HP).mono ?_
    rintro e w1 ⟨v1, rfl, hs1, hb1, -⟩
    obtain ⟨q1, d1, rfl, -⟩ := id hs1
    have HS1 := hid hs1
    have HB1 := hid hb1
    clear hs1 hb1
    obtain ⟨pe, pt, hpe⟩ : ∃ pe pt, p.getD (0, []) = (pe, pt) := ⟨_, _, rfl⟩
    rw [hpe] at HS1
    simp only [hpe]
    have HPE := hid hpe
    clear hpe
    go_upto_region 4 with fail
    obtain ⟨w2, hw2⟩ : ∃ w2, w2 = w1.alloc (.cells #[.int .i64 pe, .slice q1 pt.length d1] 24) := ⟨_, rfl⟩
    rw [← hw2]
    have hb2' : Below w1.heap.size w1 w2 := by rw [hw2]; exact Below.new _ _
    have hx2 : Blk w2 w1.heap.size #[.int .i64 pe, .slice q1 pt.length d1] := by rw [hw2]; exact Blk.new _ _ _
    have HX2 := hid hx2
    have HB2 := hid (Below.next HB1.out hb2')
    have HS2 := hid (HS1.out.below hb2')
    obtain ⟨hx0, hx1, -⟩ := hx2.c2
    clear hw2 hb2' hx2
    cases p with
    | none =>
      have h := HPE.out
      simp only [Option.getD_none, Prod.mk.injEq] at h
      obtain ⟨rfl, rfl⟩ := h
      go_wp2_with fail
      refine (slots_Equal 0 0 [] [] _ _ w2 HS2.out (SlI.nil _) true true rfl (hid rfl)).mono ?_
      rintro e w3 ⟨rfl, hb3'⟩
      have HB3 := hid (Below.next HB2.out hb3')
      clear hb3'
      go_wp2_with fail
      refine (law06_awake w3).mono ?_
      rintro e w4 ⟨rfl, hb4⟩
      have HB4 := hid (Below.next HB3.out hb4)
      clear hb4
      go_wp2_with fail
      go_ret
      exact ⟨rfl, HB4.out⟩
    | some r =>
      obtain rfl : r = (pe, pt) := HPE.out
      have hri := parse_right HP.out
      obtain ⟨g1, g2, g3, g4⟩ := right_bd hri.1
      simp only at hri g1 g2
      obtain ⟨n, rfl⟩ : ∃ n : Nat, pe = (n : Int) := ⟨pe.toNat, by omega⟩
      have HRI := hid hri
      clear hri g3 g4
      go_wp2_with fail
      refine (ref06_Bytes n pt _ (l.length : Int) w2 HS2.out (by omega) (by omega) HRI.out.1 (some l) (hid HRI.out.2)).mono ?_
      rintro e w3 ⟨v3, rfl, hown3, hb3'⟩
      simp only [Option.getD_some] at hown3
      have hsl3 := ownsRow.slb hown3 (by omega)
      obtain ⟨q3, d3, rfl, -⟩ := ownsRow.rd hown3
      have HSL3 := hid hsl3
      have HK3 := hid hb3'
      have HB3 := hid (Below.next HB2.out hb3')
      clear hx0 hx1
      obtain ⟨hx0, hx1, -⟩ := (HX2.out.below hb3').c2
      clear hb3' hown3 hsl3
      go_wp2_with fail
      refine (ref06_Right (n : Int) pt _ w3 (HS2.out.below HK3.out) true (hid HRI.out.1)).mono ?_
      rintro e w' ⟨rfl, rfl⟩
      have hst1 := HSL3.out.str w3 (Below.refl _ _)
      have hst2 := (HL.out.below HB3.out).str w3 (Below.refl _ _)
      clear hx0 hx1
      go_wp2_with fail
      refine (law06_awake w3).mono ?_
      rintro e w4 ⟨rfl, hb4⟩
      have HB4 := hid (Below.next HB3.out hb4)
      clear hb4 hst1 hst2
      go_wp2_with fail
      go_ret
      exact ⟨rfl, HB4.out⟩
end Go.Proofs.Ytohknblokejldaa
end
section
/- The law SlotsParses returns true for every input, and what it is handed reads behind the call as it read before: no condition. (The frame follows the kit's proof-skeleton.) -/
namespace Go.Proofs.Ytohknblokejldaa.slotsParses
open Go.ChangeShapes Go.WideShapes Go.ChangeAt Go.RowKit
open Go.ChangeMaps (open_string shut_string)
set_option linter.unusedVariables false

theorem own : ownKnob Try.prog.godebug = none := by kernel_rfl
theorem laidOut : laidOutB Try.prog = true := by kernel_rfl

/-! ### the row's step -/
set_option maxRecDepth 100000 in
theorem lifted (os : Os) (started : os.Started) (H : Type) (enc : TypeId × Value → H) :
    ReturnsInHanded {} Try.checked os 4 .any (Rows.slotsParsesSpec.pre6 enc Try.prog Try.f4 Rows.slotsParsesRow.domain false) (Rows.slotsParsesSpec.post enc Try.prog Try.f4 false true false false) := by
  refine returnsInHanded_of_change (C := Try.checked) own started (by kernel_rfl) Try.func4
    (ChangeSpec.witness6 (enc := enc) (C := Try.checked) false ⟨#[], #[.slice none 0 0], []⟩ 8 (by kernel_rfl) (by kernel_rfl) (by kernel_rfl) (by kernel_rfl)) ?_
  intro W base args ds gs before hval0 hW hcnd _
  have hval : ∀ (j : Nat) t v, Try.f4.params[j]? = some t → args[j]? = some v → Value.okWide Try.prog W .any base t v := hval0
  have hW' := hW
  obtain ⟨p, q, hA0, hV, rfl, hfz, hnd⟩ := hW
  have hA : DataW.TrodAll enc Try.prog W 0 (fun _ => true) true Try.f4.params.toList args.toList ds p := hA0
  rw [Try.params4] at hA hval
  obtain ⟨v0, vs0, d0, ds0, p0, q0, hargs, rfl, rfl, h0, r0⟩ := trodAll_cons hA
  obtain ⟨rfl, rfl, rfl⟩ := trodAll_nil r0
  obtain rfl : args = #[v0] := by cases args; simp_all
  obtain ⟨rfl, rfl⟩ := trodVars_none hV
  obtain ⟨a0, len0, cap0, rfl⟩ := okWide_slice Try.underlying27 (hval 0 27 v0 rfl rfl)
  have k0 := h0
  have lt0 : ∀ x ∈ p0, x.block < W.heap.size := by obtain ⟨m, hm⟩ := k0; exact DataW.trod_lt m _ _ _ hm
  obtain ⟨z0, w0⟩ : ∃ zs : List Int, (a0 = none ∧ len0 = 0 ∧ cap0 = 0 ∧ zs = []) ∨
      ∃ x, a0 = some x ∧ len0 ≤ cap0 ∧ cap0 ≤ maxLen ∧ zs.length = cap0 ∧ (∀ i, i < zs.length → W.cell? (x.add i) = some (.int .u8 (zs.getD i 0))) ∧ ∀ n ∈ zs, (Lit.int .u8 n).wf = true := by
    obtain ⟨fuel, hf⟩ := h0
    rcases open_ints Try.underlying27 Try.underlying5 (by kernel_rfl) hf with ⟨hcs, _⟩ | ⟨x, l, c, zs, hcs, _, hl, hm, hz, _, hcell, hwz⟩
    · simp [Value.cells] at hcs
      obtain ⟨rfl, rfl, rfl⟩ := hcs
      exact ⟨[], .inl ⟨rfl, rfl, rfl, rfl⟩⟩
    · simp [Value.cells] at hcs
      obtain ⟨rfl, rfl, rfl⟩ := hcs
      exact ⟨zs, .inr ⟨_, rfl, hl, hm, by simpa using hz, hcell, hwz⟩⟩
  clear hA0 hval0
  refine (SlotsParses_walk a0 len0 cap0 z0 W w0).mono fun e W' ⟨he, bel⟩ => ?_
  subst he
  exact ⟨_, rfl, _, _, _, [], _, [], hW', trodAll_mk1 (shut_bool Try.underlying4 _), (trodAll_cons_mk (Below.trod laidOut (by kernel_rfl) (of_decide_eq_true (by kernel_rfl)) k0 bel lt0) trodAll_mk0), rfl, bel.frame _, fun h => by cases h⟩

theorem over : Rows.slotsParsesRow.holds Try.pinned (OpenSpec.ofChange Rows.slotsParsesSpec) :=
  OpenClaim.holds_of_wide 4 Try.f4 rfl rfl rfl rfl rfl rfl rfl ⟨rfl, rfl, rfl, rfl, rfl⟩ rfl rfl rfl rfl rfl (by kernel_rfl) Try.func4 (by kernel_rfl)
    (of_decide_eq_true (by kernel_rfl)) (by unfold Func.isWrapper; first | (rw [if_pos (by decide +kernel)]; kernel_rfl) | (rw [if_neg (by decide +kernel)]; exact ⟨rfl, rfl⟩))
    (fun os started H enc _ => lifted os started H enc)

/-- the statement -/
theorem proved : Rows.SlotsParsesSaid := over
#print axioms proved
end Go.Proofs.Ytohknblokejldaa.slotsParses
end
