/- Joined texts, in this order: ChestCopies. Each one's first remark says what it proves; no condition beyond those that its theorems name. -/
import Derived.Test.YtohknblokejldaaJLawChestCopies25
section
/- The law ChestCopies, walked. -/
namespace Go.Proofs.Ytohknblokejldaa
open Go.RowKit Go.ChangeShapes Go.WideShapes Go.Deep Go.Joins
open Go.Lib (hid)
set_option linter.unusedVariables false

theorem StepPost.next {w0 wr w2 : World} {g : Nat} {v : Value} {m : List (Int × List Int)} {X : List (Int × Int)} {F : Nat → Prop} {e : Ending} (hX : X.length ≤ 990) (hF : ∀ j, F j → w0.heap.size ≤ j) (hb : Below w0.heap.size w0 wr)
    (o : Obj) (h : StepPost (wr.alloc o) g F m v X e w2) : ∃ v' m' X' F', e = .returned (.tuple #[v', .bool true]) ∧ StepPre w2 g F' m' v' X' ∧ (ChInv m → ChInv m') ∧ X'.length ≤ X.length + 1 ∧ (∀ j, F' j → w0.heap.size ≤ j) ∧ Below w0.heap.size w0 w2 := by
  obtain ⟨v', m', X', F', he, hc, hF', hs, hf, hrel, hlen, hinv, hu⟩ := h
  have hsz : wr.heap.size + 1 = (wr.alloc o).heap.size := by simp
  have h0 := hb.size
  exact ⟨v', m', X', F', he, ⟨hc, fun j hj => (hF' j hj).2, hs, fun j hj => ⟨(hf j hj).1, (hf j hj).2.1⟩, hrel, by omega⟩, hinv, hlen, fun j hj => by
    rcases (hF' j hj).1 with q | q
    · exact hF j q
    · omega, (Below.next hb (Below.new' wr o)).trans (hu.below (B := w0.heap.size) (by omega) (fun j _ q => hF j q))⟩
def CopiesL (wB : World) (n N : Nat) (g : Nat) (v10 v53 : Value) (wr : World) : Prop :=
  ∃ (k : Nat) (m : List (Int × List Int)) (X : List (Int × Int)) (F : Nat → Prop), v53 = .int .i64 k ∧ k ≤ n ∧ X.length ≤ N + k ∧ StepPre wr g F m v10 X ∧ ChInv m ∧ (∀ j, F j → wB.heap.size ≤ j) ∧ Below wB.heap.size wB wr
set_option maxRecDepth 100000 in
set_option maxHeartbeats 8000000 in
theorem ChestCopies_walk {H : Type} {enc : TypeId × Value → H} {b0 b1 : Nat} {d0 d1 : DataW H} {p0 p1 : List MemPlace} (v0 v1 : Value) (w : World) (ok0 : Value.okWide Try.prog w .any b0 56 v0) (k0 : DataW.Trod enc Try.prog w 0 (fun _ => true) true 56 v0 d0 p0)
    (ok1 : Value.okWide Try.prog w .any b1 56 v1) (k1 : DataW.Trod enc Try.prog w 0 (fun _ => true) true 56 v1 d1 p1) :
    Calls Try.prog 9 #[v0, v1] w fun e w' => e = .returned (.bool true) ∧ Below w.heap.size w w' := by
  obtain ⟨L, hL⟩ := open_ops22 ok0 k0
  obtain ⟨K, hK⟩ := open_ops22 ok1 k1
  clear ok0 k0 ok1 k1
  have HL := hid hL
  have HKK := hid hK
  obtain ⟨a, c, rfl, hlc, hcm, -⟩ := hL
  obtain ⟨a2, c2, rfl, hlc2, hcm2, -⟩ := hK
  have hl63 : L.length ≤ 9223372036854775807 := by omega
  have hk63 : K.length ≤ 9223372036854775807 := by omega
  clear hlc hcm hlc2 hcm2
  have hsm : 60 < L.length ∨ (L.length ≤ 60 ∧ 60 < K.length) ∨ (L.length ≤ 60 ∧ K.length ≤ 60) := by omega
  rcases hsm with h1 | ⟨h1, h2⟩ | ⟨h1, h2⟩
  · have hbi : (60 : Int) < (L.length : Int) := by omega
    go_enter Try.func9, Try.ntmps9
    go_wp2_with (first | (go_at_call 26; (with_reducible refine (chest_New _).mono ?_); rintro e w1 ⟨g, rfl, hc, hb⟩) | (go_at_call 27; (with_reducible refine (law22_awake _).mono ?_); rintro e w2 ⟨rfl, hb2⟩))
    go_ret
    exact ⟨rfl, below_on hb hb2⟩
  · have hbi : ¬ (60 : Int) < (L.length : Int) := by omega
    have hbj : (60 : Int) < (K.length : Int) := by omega
    go_enter Try.func9, Try.ntmps9
    go_wp2_with (first | (go_at_call 26; (with_reducible refine (chest_New _).mono ?_); rintro e w1 ⟨g, rfl, hc, hb⟩) | (go_at_call 27; (with_reducible refine (law22_awake _).mono ?_); rintro e w2 ⟨rfl, hb2⟩))
    go_ret
    exact ⟨rfl, below_on hb hb2⟩
  have hbi : ¬ (60 : Int) < (L.length : Int) := by omega
  have hbj : ¬ (60 : Int) < (K.length : Int) := by omega
  go_enter Try.func9, Try.ntmps9
  go_wp2_with (go_at_call 26; (with_reducible refine (chest_New _).mono ?_); rintro e w1 ⟨g, rfl, hc, hb⟩)
  have HPL : Hid (PlayL w L g (.slice none 0 0) (.int .i64 0) w1) := hid ⟨0, [], [], _, rfl, by omega, by simp, ⟨hc.lt.weaken (F' := fun k => w.heap.size ≤ k ∧ k < w1.heap.size) (fun k hk => hk), fun j hj => hj.2, SlP.nil _, fun j hj => by simp [Value.ownBlock] at hj, ChRel.nil, by simp⟩, by intro p hp; simp at hp, fun j hj => hj.1, hb⟩
  clear hc hb
  go_loopw [6, 34] (fun v6 v34 wr => PlayL w L g v6 v34 wr) (fun _ v34 _ => L.length - (intOf v34).toNat)
  case atStart => exact HPL.out
  case round =>
    clear HPL
    obtain ⟨k, m, X, F, rfl, hk, hXk, hp, hi, hF, hb⟩ := hrel
    have HP := hid hp
    have HI := hid hi
    have HF := hid hF
    have HB := hid hb
    clear hp hi hF
    by_cases hlt : k < L.length
    · obtain ⟨r0, r1, r2, r3, b, off, rfl, c0, c1, c2, c3, ⟨w2n, w2x⟩, w1x⟩ := (HL.out.below hb).op22 hlt
      clear hb
      go_wp2_with fail
      refine (law_step r0 r1 r2 r3 g F m u6 X _ (HP.out.below (Below.new' wr _)) w2n w2x w1x).mono ?_
      rintro e w2 hpost
      obtain ⟨v', m', X', F', rfl, hp2, hi2, hx2, hF2, hb2⟩ := StepPost.next (by omega) HF.out HB.out _ hpost
      have HP2 := hid hp2
      have HI2 := hid (hi2 HI.out)
      have HF2 := hid hF2
      have HB2 := hid hb2
      have HX2 := hid hx2
      clear hpost hp2 hi2 hx2 hF2 hb2
      go_wp2_with fail
      go_roundw
      case rel => exact ⟨k + 1, m', X', F', by go_num, by omega, by have := HX2.out; omega, HP2.out, HI2.out, HF2.out, HB2.out⟩
      case measure => simp [intOf]; omega
    · have hXl : X.length ≤ 60 := by omega
      clear hb hk hXk
      have hof : ∀ k, (chOf m k).length ≤ 1000 := fun k => by have := liOf_le X k; rw [HP.out.rel k]; omega
      have HCP := hid (chest_Copy g F m wr HP.out.ch HI.out hof)
      obtain ⟨a6, c6, rfl, -⟩ := HP.out.sl
      clear hof
      go_wp2_with fail
      refine HCP.out.mono ?_
      rintro e w3 ⟨g', F', m', rfl, hc', hof', hi', hF', hb'⟩
      obtain ⟨wB, rfl⟩ : ∃ wB : World, wB = wr := ⟨_, rfl⟩
      have HPL2 : Hid (CopiesL wB K.length X.length g' (.slice a6 X.length c6) (.int .i64 0) w3) := hid ⟨0, m', X, _, rfl, by omega, by omega, ⟨hc'.lt, fun j hj => hj.2, HP.out.sl.below hb', fun j hj => ⟨fun q => by have := (HP.out.far j hj).2; have := hF' j q.1; omega, Nat.lt_of_lt_of_le (HP.out.far j hj).2 hb'.size⟩, fun h => by rw [hof' h]; exact HP.out.rel h, HP.out.len⟩, hi', fun j hj => hF' j hj.1, hb'⟩
      clear hc' hof' hi' hF' hb' HCP
      go_wp2_with fail
      go_loopw [10, 53] (fun v10 v53 wr => CopiesL wB K.length X.length g' v10 v53 wr) (fun _ v53 _ => K.length - (intOf v53).toNat)
      case atStart => exact HPL2.out
      case round =>
        clear HPL2
        obtain ⟨k, m2, Y, F2, rfl, hk, hYk, hp, hi2, hF2, hb⟩ := hrel
        have HP2 := hid hp
        have HI2 := hid hi2
        have HF2 := hid hF2
        have HB2 := hid hb
        clear hp hi2 hF2
        by_cases hlt : k < K.length
        · obtain ⟨r0, r1, r2, r3, b, off, rfl, c0, c1, c2, c3, ⟨w2n, w2x⟩, w1x⟩ := (HKK.out.below (Below.next HB.out hb)).op22 hlt
          clear hb
          go_wp2_with fail
          refine (law_step r0 r1 r2 r3 g' F2 m2 u10 Y _ (HP2.out.below (Below.new' wr _)) w2n w2x w1x).mono ?_
          rintro e w2 hpost
          obtain ⟨v', m', X', F', rfl, hp2, hi2, hx2, hF2, hb2⟩ := StepPost.next (by omega) HF2.out HB2.out _ hpost
          have HP3 := hid hp2
          have HI3 := hid (hi2 HI2.out)
          have HF3 := hid hF2
          have HB3 := hid hb2
          have HX3 := hid hx2
          clear hpost hp2 hi2 hx2 hF2 hb2
          go_wp2_with fail
          go_roundw
          case rel => exact ⟨k + 1, m', X', F', by go_num, by omega, by have := HX3.out; omega, HP3.out, HI3.out, HF3.out, HB3.out⟩
          case measure => simp [intOf]; omega
        · clear hb
          go_wp2_with fail
          refine (law22_same g F m _ X wr (HP.out.below HB2.out) HI.out).mono ?_
          rintro e w5 ⟨rfl, hb5⟩
          have HP5 := hid (HP2.out.below hb5)
          have HB5 := hid (Below.next (Below.next HB.out HB2.out) hb5)
          clear hb5
          go_wp2_with fail
          refine (law22_same g' F2 m2 _ Y w5 HP5.out HI2.out).mono ?_
          rintro e w6 ⟨rfl, hb6⟩
          have HB6 := hid (Below.next HB5.out hb6)
          clear hb6
          go_wp2_with fail
          refine (law22_awake w6).mono ?_
          rintro e w7 ⟨rfl, hb7⟩
          have HB7 := hid (Below.next HB6.out hb7)
          clear hb7
          go_wp2_with fail
          go_ret
          exact ⟨rfl, HB7.out⟩
end Go.Proofs.Ytohknblokejldaa
end
