/- Joined texts, in this order: ChestPlays. Each one's first remark says what it proves; no condition beyond those that its theorems name. -/
import Derived.Test.YtohknblokejldaaJLawChestPlays23
import Derived.Lib.SmallJoins
section
/- The law ChestPlays, walked. -/
namespace Go.Proofs.Ytohknblokejldaa
open Go.RowKit Go.ChangeShapes Go.WideShapes Go.Deep Go.Joins
open Go.Lib (hid)
set_option linter.unusedVariables false

theorem u64_int22 : Try.prog.underlying 3 = some (.int .i64) := Try.underlying3
set_option maxRecDepth 100000 in
theorem open_ops22 {H : Type} {enc : TypeId × Value → H} {w : World} {b0 : Nat} {d0 : DataW H} {p0 : List MemPlace} {v0 : Value} (ok0 : Value.okWide Try.prog w .any b0 56 v0) (k0 : DataW.Trod enc Try.prog w 0 (fun _ => true) true 56 v0 d0 p0) : ∃ L, SlS w v0 4 L :=
  open_istructs Try.underlying56 Try.underlying61 (by kernel_rfl) (by kernel_rfl) (by decide) (by intro f hf; simp at hf; rcases hf with rfl | rfl | rfl | rfl <;> exact u64_int22) ok0 k0
/-- an operation that comes in -/
theorem SlS.op22 {w : World} {a : Option Addr} {n c : Nat} {L : List (List Int)} (h : SlS w (.slice a n c) 4 L) {k : Nat} (hk : k < L.length) :
    ∃ r0 r1 r2 r3 b off, a = some ⟨b, off, none⟩ ∧ w.cell? ⟨b, off + k * 4, none⟩ = some (.int .i64 r0) ∧ w.cell? ⟨b, off + k * 4 + 1, none⟩ = some (.int .i64 r1) ∧ w.cell? ⟨b, off + k * 4 + 2, none⟩ = some (.int .i64 r2) ∧ w.cell? ⟨b, off + k * 4 + 3, none⟩ = some (.int .i64 r3) ∧
      (-9223372036854775808 ≤ r2 ∧ r2 ≤ 9223372036854775807) ∧ r1 ≤ 9223372036854775807 := by
  obtain ⟨a', c', e', -, -, -, hrows⟩ := h
  simp only [Value.slice.injEq] at e'
  obtain ⟨rfl, -, rfl⟩ := e'
  obtain ⟨r, hr⟩ : ∃ r, L[k]? = some r := ⟨_, List.getElem?_eq_getElem hk⟩
  obtain ⟨k1, k2, b, off, rfl, -, k3⟩ := hrows k r hr
  obtain ⟨r0, r1, r2, r3, rfl⟩ : ∃ r0 r1 r2 r3, r = [r0, r1, r2, r3] := by
    match r, k1 with
    | [r0, r1, r2, r3], _ => exact ⟨r0, r1, r2, r3, rfl⟩
  exact ⟨r0, r1, r2, r3, b, off, rfl, k3 0 r0 rfl, k3 1 r1 rfl, k3 2 r2 rfl, k3 3 r3 rfl, wf64 (k2 r2 (by simp)), (wf64 (k2 r1 (by simp))).2⟩
/-- behind k operations -/
def PlayL (w : World) (L : List (List Int)) (g : Nat) (v4 v23 : Value) (wr : World) : Prop :=
  ∃ (k : Nat) (m : List (Int × List Int)) (X : List (Int × Int)) (F : Nat → Prop), v23 = .int .i64 k ∧ k ≤ L.length ∧ X.length ≤ k ∧ StepPre wr g F m v4 X ∧ ChInv m ∧ (∀ j, F j → w.heap.size ≤ j) ∧ Below w.heap.size w wr
theorem PlayL.step {w wr w2 : World} {L : List (List Int)} {g k : Nat} {v4 : Value} {m : List (Int × List Int)} {X : List (Int × Int)} {F : Nat → Prop} {e : Ending} (hk : k < L.length) (hX : X.length ≤ k) (hi : ChInv m) (hF : ∀ j, F j → w.heap.size ≤ j) (hb : Below w.heap.size w wr) (hl : L.length ≤ 900)
    (o : Obj) (h : StepPost (wr.alloc o) g F m v4 X e w2) : ∃ v' m' X' F', e = .returned (.tuple #[v', .bool true]) ∧ StepPre w2 g F' m' v' X' ∧ ChInv m' ∧ X'.length ≤ k + 1 ∧ (∀ j, F' j → w.heap.size ≤ j) ∧ Below w.heap.size w w2 ∧ PlayL w L g v' (.int .i64 ((k + 1 : Nat) : Int)) w2 := by
  obtain ⟨v', m', X', F', he, hc, hF', hs, hf, hrel, hlen, hinv, hu⟩ := h
  have hsz : wr.heap.size + 1 = (wr.alloc o).heap.size := by simp
  have h0 := hb.size
  have hp : StepPre w2 g F' m' v' X' := ⟨hc, fun j hj => (hF' j hj).2, hs, fun j hj => ⟨(hf j hj).1, (hf j hj).2.1⟩, hrel, by omega⟩
  have h1 : ∀ j, F' j → w.heap.size ≤ j := fun j hj => by
    rcases (hF' j hj).1 with q | q
    · exact hF j q
    · omega
  have h2 : Below w.heap.size w w2 := (Below.next hb (Below.new' wr o)).trans (hu.below (B := w.heap.size) (by omega) (fun j _ q => hF j q))
  exact ⟨v', m', X', F', he, hp, hinv hi, by omega, h1, h2, ⟨k + 1, m', X', F', rfl, by omega, by omega, hp, hinv hi, h1, h2⟩⟩
set_option maxRecDepth 100000 in
set_option maxHeartbeats 4000000 in
theorem ChestPlays_walk {H : Type} {enc : TypeId × Value → H} {b0 : Nat} {d0 : DataW H} {p0 : List MemPlace} (v0 : Value) (w : World) (ok0 : Value.okWide Try.prog w .any b0 56 v0) (k0 : DataW.Trod enc Try.prog w 0 (fun _ => true) true 56 v0 d0 p0) :
    Calls Try.prog 7 #[v0] w fun e w' => e = .returned (.bool true) ∧ Below w.heap.size w w' := by
  obtain ⟨L, hL⟩ := open_ops22 ok0 k0
  clear ok0 k0
  have HL := hid hL
  obtain ⟨a, c, rfl, hlc, hcm, -⟩ := hL
  have hl63 : L.length ≤ 9223372036854775807 := by omega
  clear hlc hcm
  by_cases hbig : 80 < L.length
  · have hbi : (80 : Int) < (L.length : Int) := by omega
    go_enter Try.func7, Try.ntmps7
    go_wp2_with (first | (go_at_call 26; (with_reducible refine (chest_New _).mono ?_); rintro e w1 ⟨g, rfl, hc, hb⟩) | (go_at_call 27; (with_reducible refine (law22_awake _).mono ?_); rintro e w2 ⟨rfl, hb2⟩))
    go_ret
    exact ⟨rfl, below_on hb hb2⟩
  have hl80 : L.length ≤ 80 := by omega
  have hbi : ¬ (80 : Int) < (L.length : Int) := by omega
  go_enter Try.func7, Try.ntmps7
  go_wp2_with (go_at_call 26; (with_reducible refine (chest_New _).mono ?_); rintro e w1 ⟨g, rfl, hc, hb⟩)
  have HPL : Hid (PlayL w L g (.slice none 0 0) (.int .i64 0) w1) := hid ⟨0, [], [], _, rfl, by omega, by simp, ⟨hc.lt.weaken (F' := fun k => w.heap.size ≤ k ∧ k < w1.heap.size) (fun k hk => hk), fun j hj => hj.2, SlP.nil _, fun j hj => by simp [Value.ownBlock] at hj, ChRel.nil, by simp⟩, by intro p hp; simp at hp, fun j hj => hj.1, hb⟩
  clear hc hb hbi hbig
  go_loopw [4, 23] (fun v4 v23 wr => PlayL w L g v4 v23 wr) (fun _ v23 _ => L.length - (intOf v23).toNat)
  case atStart => exact HPL.out
  case round =>
    clear HPL
    obtain ⟨k, m, X, F, rfl, hk, hXk, hp, hi, hF, hb⟩ := hrel
    have HP := hid hp
    have HI := hid hi
    have HF := hid hF
    have HB := hid hb
    clear hp hi hF
    by_cases hlt : k < L.length
    · obtain ⟨r0, r1, r2, r3, b, off, rfl, c0, c1, c2, c3, ⟨w2n, w2x⟩, w1x⟩ := (HL.out.below hb).op22 hlt
      clear hb
      go_wp2_with fail
      refine (law_step r0 r1 r2 r3 g F m u4 X _ (HP.out.below (Below.new' wr _)) w2n w2x w1x).mono ?_
      rintro e w2 hpost
      obtain ⟨v', m', X', F', rfl, hp2, hi2, hx2, hF2, hb2, hpl⟩ := PlayL.step hlt hXk HI.out HF.out HB.out (by omega) _ hpost
      have HP2 := hid hp2
      have HI2 := hid hi2
      have HF2 := hid hF2
      have HB2 := hid hb2
      have HX2 := hid hx2
      clear hpost hp2 hi2 hx2 hF2 hb2 hpl
      go_wp2_with fail
      refine (law22_same g F' m' v' X' w2 HP2.out HI2.out).mono ?_
      rintro e w3 ⟨rfl, hb3⟩
      have HP3 := hid (HP2.out.below hb3)
      have HB3 := hid (Below.next HB2.out hb3)
      clear hb3
      go_wp2_with fail
      go_roundw
      case rel => exact ⟨k + 1, m', X', F', by go_num, by omega, HX2.out, HP3.out, HI2.out, HF2.out, HB3.out⟩
      case measure => simp [intOf]; omega
    · clear hb
      go_wp2_with fail
      refine (law22_awake wr).mono ?_
      rintro e w2 ⟨rfl, hb2⟩
      have HB2 := hid (Below.next HB.out hb2)
      clear hb2
      go_wp2_with fail
      go_ret
      exact ⟨rfl, HB2.out⟩
end Go.Proofs.Ytohknblokejldaa
end
