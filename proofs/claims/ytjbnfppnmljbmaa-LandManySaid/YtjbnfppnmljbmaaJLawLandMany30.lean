/- Joined texts, in this order: LandMany, LawLandMany. Each one's first remark says what it proves; no condition beyond those that its theorems name. -/
import Derived.Test.YtjbnfppnmljbmaaJLawLandMany29
import Derived.Test.YtjbnfppnmljbmaaRows
import Derived.WalkKit
import Derived.ProofKit
import Derived.OpenShut
import Derived.ShutString
import Derived.ChangeOld
import Derived.Below
section
/- Law LandMany. -/
namespace Go.Proofs.Ytjbnfppnmljbmaa
open Go.RowKit Go.Deep
open Go.Lib (hid)
set_option linter.unusedVariables false
attribute [local go_sem] Oper.semAt_some

def rectM (i : Nat) : R4 := (((i % 128 : Nat) : Int) * 2, ((i / 128 : Nat) : Int) * 2, 1, 1)
def plM (i : Nat) : Pl := ((i : Int) + 1, rectM i)
def PM (i : Nat) : List Pl := (List.range (min i 256)).map plM
theorem PM_len (i : Nat) : (PM i).length = min i 256 := by unfold PM; simp
theorem mem_PM {i : Nat} {p : Pl} (h : p ∈ PM i) : ∃ j, j < i ∧ j < 256 ∧ p = plM j := by
  unfold PM at h
  obtain ⟨j, hj, rfl⟩ := List.mem_map.1 h
  have : j < min i 256 := by simpa using hj
  exact ⟨j, by omega, by omega, rfl⟩
theorem insK_end {x : Pl} : ∀ (P : List Pl), (∀ p ∈ P, keyP p < keyP x) → insK keyP P x = P ++ [x]
  | [], _ => rfl
  | p :: P, h => by
    rw [insK_cons, if_pos (h p (by simp)), insK_end P (fun q hq => h q (List.mem_cons_of_mem _ hq))]
    rfl
theorem many_apart {i j : Nat} (hi : i < 300) (hj : j < i) : ¬ MeetsR (rectM j) (rectM i) := by
  rintro ⟨-, -, h3, h4, h5, h6⟩
  simp only [rectM] at h3 h4 h5 h6
  omega
theorem many_claim {i : Nat} (hi : i < 300) : claimE 256 [] (PM i) ((i : Int) + 1) (rectM i) = (if i < 256 then 0 else 12) ∧ claimP 256 [] (PM i) ((i : Int) + 1) (rectM i) = PM (i + 1) := by
  have hlk : (PM i).lookup ((i : Int) + 1) = none := by
    rw [lookup_none_iff]
    intro p hp
    obtain ⟨j, h1, h2, rfl⟩ := mem_PM hp
    show ((j : Int) + 1) ≠ _
    omega
  have hw : WithinR (rectM i) 256 := by
    unfold WithinR RightR rectM
    simp only
    omega
  have hn : nearX (PM i) (rectM i) = [] := by
    unfold nearX
    rw [List.map_eq_nil_iff, List.filter_eq_nil_iff]
    intro p hp q
    obtain ⟨j, h1, h2, rfl⟩ := mem_PM hp
    exact many_apart hi h1 (of_decide_eq_true q)
  have hE : claimE 256 [] (PM i) ((i : Int) + 1) (rectM i) = (if i < 256 then 0 else 12) := by
    unfold claimE mayX
    rw [if_neg (by omega), hlk, if_neg (by simp), if_neg, if_neg (by simp [blkX]), if_neg (by rw [hn]; simp), PM_len]
    · by_cases h : i < 256
      · rw [if_pos h, if_neg (by omega)]
      · rw [if_neg h, if_pos (by omega)]
    · rintro (z | z | z)
      · exact z hw
      · simp [rectM] at z
      · simp [rectM] at z
  refine ⟨hE, ?_⟩
  unfold claimP
  rw [hE]
  by_cases h : i < 256
  · rw [if_pos h, if_pos rfl, insK_end]
    · unfold PM
      rw [show min (i + 1) 256 = min i 256 + 1 by omega, List.range_succ, List.map_append, show min i 256 = i by omega]
      rfl
    · intro p hp
      obtain ⟨j, h1, h2, rfl⟩ := mem_PM hp
      show ((j : Int) + 1) < ((i : Int) + 1)
      omega
  · rw [if_neg h, if_neg (by omega)]
    unfold PM
    rw [show min (i + 1) 256 = min i 256 by omega]
theorem many_ok : okL 256 [] := ⟨⟨by decide +kernel, by decide⟩, by simp⟩
def ManyR (w : World) (l k n : Nat) (v27 : Value) (wr : World) : Prop := ∃ i : Nat, v27 = .int .i64 (i : Int) ∧ i ≤ n ∧ Hid (LandIs wr l (fun b => w.heap.size ≤ b) k [] (PM i)) ∧ Hid (Below w.heap.size w wr)
set_option maxRecDepth 100000 in
set_option maxHeartbeats 4000000 in
theorem LandMany_walk (a : Int) (w : World) (wf : (Lit.int .i64 a).wf = true) : Calls Try.prog 3 #[.int .i64 a] w fun e w' => e = .returned (.bool true) ∧ Below w.heap.size w w' := by
  clear wf
  go_enter Try.func3, Try.ntmps3
  have HAW : Hid (∀ z, Below w.heap.size w z → Calls Try.prog 10 #[] z fun e w' => e = .returned (.bool true) ∧ Below w.heap.size w w') := hid (fun z hz => (law19_awake z).mono (by
    rintro e w' ⟨h1, hb⟩
    exact ⟨h1, Below.next hz hb⟩))
  by_cases h0 : a < 0
  · go_wp2_with fail
    refine (HAW.out w (Below.refl _ _)).mono ?_
    rintro e w2 ⟨rfl, hb⟩
    have HZ := hid hb
    clear hb
    go_wp2_with fail
    go_ret
    exact ⟨rfl, HZ.out⟩
  by_cases h300 : 300 < a
  · go_wp2_with fail
    refine (HAW.out w (Below.refl _ _)).mono ?_
    rintro e w2 ⟨rfl, hb⟩
    have HZ := hid hb
    clear hb
    go_wp2_with fail
    go_ret
    exact ⟨rfl, HZ.out⟩
  obtain ⟨n, rfl⟩ : ∃ n : Nat, a = (n : Int) := ⟨a.toNat, by omega⟩
  have hn300 : n ≤ 300 := by omega
  have H300 := hid hn300
  clear hn300
  go_wp2_with fail
  refine (law19_made 256 _ [] w (SlR.nil w) (by simp)).mono ?_
  rintro e w1 ⟨lv, vs, E, rfl, hsv, hvo, hb1, hq⟩
  rcases hq with ⟨-, rfl, l, k, F, hS, rfl, hl, hF⟩ | ⟨hno, -⟩
  case inr => exact absurd many_ok hno
  obtain ⟨av, cv, hv, -⟩ := id hsv
  subst hv
  have HSD : Hid (sd k = 256) := hid hS.symm
  have HL1 : Hid (LandIs w1 l (fun b => w.heap.size ≤ b) k [] (PM 0)) := hid (hl.weaken (fun b y _ => (hF b y).1))
  have HB1 := hid hb1
  unfold xV
  clear hsv hvo hb1 hS hl hF
  go_upto_region 4 with fail
  obtain ⟨w2, hw2⟩ : ∃ w2, w2 = w1.alloc (.cells #[.int .i64 256, .slice av 0 cv, .slice none 0 0] 27) := ⟨_, rfl⟩
  try rw [← hw2]
  have hb2 : Below w1.heap.size w1 w2 := by rw [hw2]; exact Below.new _ _
  have HI0 : Hid (ManyR w l k n (.int .i64 0) w2) := hid ⟨0, rfl, by omega, hid (HL1.out.below hb2), hid (Below.next HB1.out hb2)⟩
  clear hw2 hb2
  go_wp2_with fail
  go_loopw [27] (fun v27 wr => ManyR w l k n v27 wr) (fun v27 _ => n - (intOf v27).toNat)
  case atStart => exact HI0.out
  case round =>
    clear HI0
    obtain ⟨i, rfl, hi, HL, HB⟩ := hrel
    by_cases hlt : i < n
    · have i1 : (i : Int) < (n : Int) := by omega
      have i0 : (0 : Int) ≤ (i : Int) := by omega
      have i9 : (i : Int) < 300 := by have := H300.out; omega
      have hmc := many_claim (i := i) (by omega)
      obtain ⟨x1, hx1⟩ : ∃ z : Int, ((i % 128 : Nat) : Int) = z := ⟨_, rfl⟩
      obtain ⟨y1, hy1⟩ : ∃ z : Int, ((i / 128 : Nat) : Int) = z := ⟨_, rfl⟩
      have htm : Int.tmod (i : Int) 128 = x1 := by rw [Int.tmod_eq_emod_of_nonneg (by omega)]; omega
      have htd : Int.tdiv (i : Int) 128 = y1 := by rw [Int.tdiv_eq_ediv_of_nonneg (by omega)]; omega
      have hx2 : 0 ≤ x1 ∧ x1 < 128 := by omega
      have hy2 : 0 ≤ y1 ∧ y1 < 3 := by omega
      obtain ⟨hx3, hx4⟩ := hx2
      obtain ⟨hy3, hy4⟩ := hy2
      have HCL : Hid (Calls Try.prog 12 #[.pointer (some ⟨l, 0, none⟩), .int .i64 ((i : Int) + 1), .agg #[.int .i64 (x1 * 2), .int .i64 (y1 * 2), .int .i64 1, .int .i64 1]] wr (LandPost wr l (fun b => w.heap.size ≤ b) k [] (PM (i + 1)) (if i < 256 then 0 else 12))) := hid (by
        have := land_Claim wr l _ k [] (PM i) ((i : Int) + 1) (x1 * 2) (y1 * 2) 1 1 HL.out
        have e : ((x1 * 2, y1 * 2, 1, 1) : R4) = rectM i := by unfold rectM; rw [hx1, hy1]
        rw [e, HSD.out, hmc.1, hmc.2] at this
        exact this)
      clear hmc hx1 hy1
      by_cases h256 : i < 256
      · have h257 : (i : Int) < 256 := by omega
        rw [if_pos h256] at HCL
        go_wp2_with fail
        refine HCL.out.mono ?_
        intro e w5 hq
        obtain ⟨h1, h2, h3⟩ := LandPost.chain hq HB.out
        subst h1
        have HL5 := hid h2
        have HB5 := hid h3
        clear hq h2 h3
        go_wp2_with fail
        go_roundw
        case rel => exact ⟨i + 1, by go_num, by omega, HL5, HB5⟩
        case measure => simp [intOf]; omega
      · have h257 : ¬ (i : Int) < 256 := by omega
        have h258 : (256 : Int) ≤ (i : Int) := by omega
        rw [if_neg h256] at HCL
        go_wp2_with fail
        refine HCL.out.mono ?_
        intro e w5 hq
        obtain ⟨h1, h2, h3⟩ := LandPost.chain hq HB.out
        subst h1
        have HL5 := hid h2
        have HB5 := hid h3
        clear hq h2 h3
        go_wp2_with fail
        go_roundw
        case rel => exact ⟨i + 1, by go_num, by omega, HL5, HB5⟩
        case measure => simp [intOf]; omega
    · obtain rfl : i = n := by omega
      have i1 : ¬ (i : Int) < (i : Int) := by omega
      have hln := land_Len wr l _ k [] (PM i) HL.out
      rw [PM_len] at hln
      have hmin : min (i : Int) 256 = ((min i 256 : Nat) : Int) := by omega
      obtain ⟨m, hm⟩ : ∃ m : Nat, min i 256 = m := ⟨_, rfl⟩
      rw [hm] at hln hmin
      have HLN := hid hln
      clear hln hm
      go_wp2_with fail
      refine HLN.out.mono ?_
      rintro e w7 ⟨rfl, h7⟩
      replace h7 := h7.symm
      subst h7
      go_wp2_with fail
      refine (HAW.out wr HB.out).mono ?_
      rintro e w8 ⟨rfl, hb⟩
      have HZ := hid hb
      clear hb
      go_wp2_with fail
      go_ret
      exact ⟨rfl, HZ.out⟩
end Go.Proofs.Ytjbnfppnmljbmaa
end
section
/- The law LandMany returns true for every input, and what it is handed reads behind the call as it read before: no condition. (The frame follows the kit's proof-skeleton.) -/
namespace Go.Proofs.Ytjbnfppnmljbmaa.landMany
open Go.ChangeShapes Go.WideShapes Go.ChangeAt Go.RowKit
open Go.ChangeMaps (open_string shut_string)
set_option linter.unusedVariables false

theorem own : ownKnob Try.prog.godebug = none := by kernel_rfl
theorem laidOut : laidOutB Try.prog = true := by kernel_rfl

/-! ### the row's step -/
set_option maxRecDepth 100000 in
theorem lifted (os : Os) (started : os.Started) (H : Type) (enc : TypeId × Value → H) :
    ReturnsInHanded {} Try.checked os 3 .any (Rows.landManySpec.pre6 enc Try.prog Try.f3 Rows.landManyRow.domain false) (Rows.landManySpec.post enc Try.prog Try.f3 false true false false) := by
  refine returnsInHanded_of_change (C := Try.checked) own started (by kernel_rfl) Try.func3
    (ChangeSpec.witness6 (enc := enc) (C := Try.checked) false ⟨#[], #[.int .i64 0], []⟩ 8 (by kernel_rfl) (by kernel_rfl) (by kernel_rfl) (by kernel_rfl)) ?_
  intro W base args ds gs before hval0 hW hcnd _
  have hval : ∀ (j : Nat) t v, Try.f3.params[j]? = some t → args[j]? = some v → Value.okWide Try.prog W .any base t v := hval0
  have hW' := hW
  obtain ⟨p, q, hA0, hV, rfl, hfz, hnd⟩ := hW
  have hA : DataW.TrodAll enc Try.prog W 0 (fun _ => true) true Try.f3.params.toList args.toList ds p := hA0
  rw [Try.params3] at hA hval
  obtain ⟨v0, vs0, d0, ds0, p0, q0, hargs, rfl, rfl, h0, r0⟩ := trodAll_cons hA
  obtain ⟨rfl, rfl, rfl⟩ := trodAll_nil r0
  obtain rfl : args = #[v0] := by cases args; simp_all
  obtain ⟨rfl, rfl⟩ := trodVars_none hV
  obtain ⟨a0, rfl, rfl, rfl, w0⟩ := open_int Try.underlying3 (hval 0 3 v0 rfl rfl) h0
  clear hA0 hval0
  refine (LandMany_walk a0 W w0).mono fun e W' ⟨he, bel⟩ => ?_
  subst he
  simp only [List.append_nil] at hW'
  exact ⟨_, rfl, _, _, _, [], _, [], hW', trodAll_mk1 (shut_bool Try.underlying4 _), (trodAll_cons_mk (shut_int Try.underlying3 w0) trodAll_mk0), rfl, bel.frame _, fun h => by cases h⟩

theorem over : Rows.landManyRow.holds Try.pinned (OpenSpec.ofChange Rows.landManySpec) :=
  OpenClaim.holds_of_wide 3 Try.f3 rfl rfl rfl rfl rfl rfl rfl ⟨rfl, rfl, rfl, rfl, rfl⟩ rfl rfl rfl rfl rfl (by kernel_rfl) Try.func3 (by kernel_rfl)
    (of_decide_eq_true (by kernel_rfl)) (by unfold Func.isWrapper; first | (rw [if_pos (by decide +kernel)]; kernel_rfl) | (rw [if_neg (by decide +kernel)]; exact ⟨rfl, rfl⟩))
    (fun os started H enc _ => lifted os started H enc)

/-- the statement -/
theorem proved : Rows.LandManySaid := over
#print axioms proved
end Go.Proofs.Ytjbnfppnmljbmaa.landMany
end
