/- Joined texts, in this order: FolkMany. Each one's first remark says what it proves; no condition beyond those that its theorems name. -/
import Derived.Test.YtcjdlckfbkdibaaDoorJLawFolkMany16
section
/- The law FolkMany. -/
namespace Go.Proofs.YtcjdlckfbkdibaaDoor
open Go.RowKit
open Go.Lib (hid)
set_option linter.unusedVariables false

/-- the name of a number -/
def nmF (k : Nat) : List UInt8 := [97, UInt8.ofNat (97 + k % 26), UInt8.ofNat (97 + k / 26)]
theorem nmF_name (k : Nat) (h : k < 300) : nameB (nmF k) = true := by
  have h1 : (UInt8.ofNat (97 + k % 26)).toNat = 97 + k % 26 := by rw [UInt8.toNat_ofNat']; omega
  have h2 : (UInt8.ofNat (97 + k / 26)).toNat = 97 + k / 26 := by rw [UInt8.toNat_ofNat']; omega
  have f1 : isFirstB (UInt8.ofNat (97 + k % 26)) = true := by unfold isFirstB; rw [h1]; simp; omega
  have f2 : isFirstB (UInt8.ofNat (97 + k / 26)) = true := by unfold isFirstB; rw [h2]; simp; omega
  have g1 : isLetB (UInt8.ofNat (97 + k % 26)) = true := by unfold isLetB; rw [f1]; rfl
  have g2 : isLetB (UInt8.ofNat (97 + k / 26)) = true := by unfold isLetB; rw [f2]; rfl
  have g0 : isLetB 97 = true := by decide
  have f0 : isFirstB 97 = true := by decide
  unfold nameB nmF
  simp only [List.length_cons, List.length_nil, List.getD_cons_zero, List.all_cons, List.all_nil, g0, g1, g2, f0]
  rfl
theorem nmF_inj {j k : Nat} (hj : j < 300) (hk : k < 300) (h : nmF j = nmF k) : j = k := by
  unfold nmF at h
  simp only [List.cons.injEq, and_true, true_and] at h
  have h1 := congrArg UInt8.toNat h.1
  have h2 := congrArg UInt8.toNat h.2
  rw [UInt8.toNat_ofNat', UInt8.toNat_ofNat'] at h1 h2
  omega
def manyL (i : Nat) : List (List UInt8 × Int) := (List.range (min i 256)).map fun k => (nmF k, 0)
theorem manyL_len (i : Nat) : (manyL i).length = min i 256 := by unfold manyL; simp
theorem many_find (i : Nat) (hi : i < 300) : fkFind (manyL i) (nmF i) = 0 := by
  rw [fkFind_zero]
  intro p hp
  unfold manyL at hp
  obtain ⟨k, hk, rfl⟩ := List.mem_map.1 hp
  rw [List.mem_range] at hk
  intro e
  have := nmF_inj (by omega) hi e
  omega
theorem many_yes (i : Nat) (hi : i < 256) : addFE (manyL i) (nmF i) = 0 ∧ addFI (manyL i) (nmF i) = (i : Int) + 1 ∧ addFL (manyL i) (nmF i) = manyL (i + 1) := by
  have h1 : addFE (manyL i) (nmF i) = 0 := by
    unfold addFE
    rw [nmF_name i (by omega), many_find i (by omega), manyL_len]
    simp; omega
  refine ⟨h1, ?_, ?_⟩
  · unfold addFI; rw [if_pos h1, manyL_len]; omega
  · unfold addFL; rw [if_pos h1]
    unfold manyL
    rw [show min (i + 1) 256 = min i 256 + 1 by omega, List.range_succ, List.map_append, show min i 256 = i by omega]
    rfl
theorem many_no (i : Nat) (hi : i < 300) (h2 : 256 ≤ i) : addFE (manyL i) (nmF i) = 12 ∧ addFI (manyL i) (nmF i) = 0 ∧ addFL (manyL i) (nmF i) = manyL (i + 1) := by
  have h1 : addFE (manyL i) (nmF i) = 12 := by
    unfold addFE
    rw [nmF_name i hi, many_find i hi, manyL_len]
    simp; omega
  refine ⟨h1, ?_, ?_⟩
  · unfold addFI; rw [h1]; rfl
  · unfold addFL; rw [h1]
    unfold manyL
    rw [show min (i + 1) 256 = 256 by omega, show min i 256 = 256 by omega]
    rfl
def ManyR (w0 : World) (g b n : Nat) (v18 : Value) (wr : World) : Prop :=
  ∃ (i : Nat) (v : Value), v18 = .int .i64 (i : Int) ∧ i ≤ n ∧ Hid (FkIs wr g b v (manyL i) 0 0) ∧ Hid (Below w0.heap.size w0 wr ∧ ∀ k, v.ownBlock = some k → w0.heap.size ≤ k)
theorem slb_two {w : World} {g : Nat} {x y : UInt8} (h : Blk w g #[.int .u8 (x.toNat : Int), .int .u8 (y.toNat : Int)]) : SlB w (.slice (some ⟨g, 0, none⟩) 2 2) [x, y] :=
  ⟨_, 2, rfl, by simp, fun i hi => ⟨g, 0, rfl, by
    rw [Nat.zero_add, h.cell]
    have hi2 : i < 2 := by simpa [bv] using hi
    match i, hi2 with
    | 0, _ => rfl
    | 1, _ => rfl⟩, by simp, by omega, nofun⟩
theorem ba_app (l m : List UInt8) : (⟨l.toArray⟩ : ByteArray) ++ ⟨m.toArray⟩ = ⟨(l ++ m).toArray⟩ := by
  apply ByteArray.ext
  simp [ByteArray.data_append]
set_option maxRecDepth 100000 in
set_option maxHeartbeats 4000000 in
theorem FolkMany_walk (n : Int) (w : World) (wn : (Lit.int .i64 n).wf = true) : Calls Tryd.prog 3 #[.int .i64 n] w fun e w' => e = .returned (.bool true) ∧ Below w.heap.size w w' := by
  by_cases h0 : n < 0
  · clear wn
    go_enter Tryd.func3, Tryd.ntmps3
    go_wp2_with fail
    refine (law17_awake w).mono ?_
    rintro e w1 ⟨rfl, hb1⟩
    have HB := hid hb1
    clear hb1
    go_wp2_with fail
    go_ret
    exact ⟨rfl, HB.out⟩
  by_cases h3 : 300 < n
  · clear wn
    go_enter Tryd.func3, Tryd.ntmps3
    go_wp2_with fail
    refine (law17_awake w).mono ?_
    rintro e w1 ⟨rfl, hb1⟩
    have HB := hid hb1
    clear hb1
    go_wp2_with fail
    go_ret
    exact ⟨rfl, HB.out⟩
  obtain ⟨m, rfl⟩ : ∃ m : Nat, n = (m : Int) := ⟨n.toNat, by omega⟩
  have hm : m ≤ 300 := by omega
  have m1 : ¬ (300 : Int) < (m : Int) := by omega
  clear wn h0 h3
  go_enter Tryd.func3, Tryd.ntmps3
  go_wp2_with fail
  refine (folk_New w).mono ?_
  rintro e w1 ⟨g, b, rfl, h1, hg, hb, hb1⟩
  have H1 : Hid (FkIs w1 g b (.slice none 0 0) (manyL 0) 0 0) := hid h1
  have HG := hid (And.intro hg hb)
  have HB1 := hid hb1
  clear h1 hg hb hb1
  go_wp2_with fail
  go_loopw [18] (fun v18 wr => ManyR w g b m v18 wr) (fun v18 _ => m - (intOf v18).toNat)
  case atStart => exact ⟨0, _, rfl, by omega, H1, hid ⟨HB1.out, fun k hk => by simp [Value.ownBlock] at hk⟩⟩
  case round =>
    clear H1 HB1
    obtain ⟨i, v, rfl, hi, HF, HB⟩ := hrel
    by_cases hlt : i < m
    · have i1 : (i : Int) < (m : Int) := by omega
      have i0 : (0 : Int) ≤ (i : Int) := by omega
      have i3 : i < 300 := by omega
      obtain ⟨x, hx⟩ : ∃ x : UInt8, x = UInt8.ofNat (97 + i % 26) := ⟨_, rfl⟩
      obtain ⟨y, hy⟩ : ∃ y : UInt8, y = UInt8.ofNat (97 + i / 26) := ⟨_, rfl⟩
      have hxn : x.toNat = 97 + i % 26 := by rw [hx, UInt8.toNat_ofNat']; omega
      have hyn : y.toNat = 97 + i / 26 := by rw [hy, UInt8.toNat_ofNat']; omega
      have hnm : nmF i = [97] ++ [x, y] := by rw [hx, hy]; rfl
      have t1 : 97 + (i : Int) % 26 = (x.toNat : Int) := by omega
      have t2 : 97 + (i : Int) / 26 = (y.toNat : Int) := by omega
      have hst : (convert 28 9 (.slice (some ⟨wr.heap.size, 0, none⟩) 2 2)).run Tryd.prog (wr.alloc (.cells #[.int .u8 (97 + (i : Int) % 26), .int .u8 (97 + (i : Int) / 26)] 5)) = .ok (.string ⟨#[x, y]⟩) (wr.alloc (.cells #[.int .u8 (97 + (i : Int) % 26), .int .u8 (97 + (i : Int) / 26)] 5)) := by
        rw [t1, t2]
        exact (slb_two (Blk.new wr _ _)).str _ (Below.refl _ _)
      have hcat : (⟨#[97]⟩ : ByteArray) ++ ⟨#[x, y]⟩ = ⟨(nmF i).toArray⟩ := by rw [hnm]; exact ba_app [97] [x, y]
      have HI3 := hid i3
      have HF2 := hid (HF.out.below (Below.new wr (.cells #[.int .u8 (97 + (i : Int) % 26), .int .u8 (97 + (i : Int) / 26)] 5)))
      have HB2 : Hid (Below w.heap.size w (wr.alloc (.cells #[.int .u8 (97 + (i : Int) % 26), .int .u8 (97 + (i : Int) / 26)] 5))) := hid (Below.next HB.out.1 (Below.new _ _))
      clear hnm hxn hyn t1 t2 hx hy
      by_cases h256 : i < 256
      · obtain ⟨e1, e2, e3⟩ := many_yes i h256
        have E1 := hid e1
        have E2 := hid e2
        have E3 := hid e3
        have i2 : (i : Int) < 256 := by omega
        have i4 : ¬ (256 : Int) ≤ (i : Int) := by omega
        clear e1 e2 e3 h256
        go_wp2_with fail
        refine (folk_Add g b v (manyL i) 0 0 _ HF2.out (by rw [manyL_len]; omega) (nmF i) (by unfold nmF; simp)).mono ?_
        rintro e w3 ⟨v3, rfl, hf3, hs3⟩
        rw [E1.out, E2.out]
        rw [E3.out] at hf3
        have HB3 := hid (hs3.belowX HB2.out HG.out.1 HG.out.2 HB.out.2)
        have HF3 := hid hf3
        clear hf3 hs3 hst hcat
        go_wp2_with fail
        go_roundw
        case rel => exact ⟨i + 1, v3, by go_num, by omega, HF3, HB3⟩
        case measure => simp [intOf]; omega
      · obtain ⟨e1, e2, e3⟩ := many_no i i3 (by omega)
        have E1 := hid e1
        have E2 := hid e2
        have E3 := hid e3
        have i2 : ¬ (i : Int) < 256 := by omega
        have i4 : (256 : Int) ≤ (i : Int) := by omega
        clear e1 e2 e3 h256
        go_wp2_with fail
        refine (folk_Add g b v (manyL i) 0 0 _ HF2.out (by rw [manyL_len]; omega) (nmF i) (by unfold nmF; simp)).mono ?_
        rintro e w3 ⟨v3, rfl, hf3, hs3⟩
        rw [E1.out, E2.out]
        rw [E3.out] at hf3
        have HB3 := hid (hs3.belowX HB2.out HG.out.1 HG.out.2 HB.out.2)
        have HF3 := hid hf3
        clear hf3 hs3 hst hcat
        go_wp2_with fail
        go_roundw
        case rel => exact ⟨i + 1, v3, by go_num, by omega, HF3, HB3⟩
        case measure => simp [intOf]; omega
    · have j1 : ¬ (i : Int) < (m : Int) := by omega
      have him : i = m := by omega
      have hln : ((manyL i).length : Int) = min (m : Int) 256 := by rw [manyL_len]; omega
      clear him
      go_wp2_with fail
      trace_state
      refine (folk_Len g b v (manyL i) 0 0 wr HF.out).mono ?_
      rintro e w3 ⟨rfl, rfl⟩
      go_wp2_with fail
      refine (law17_awake wr).mono ?_
      rintro e w6 ⟨rfl, hb6⟩
      have HB6 := hid (Below.next HB.out.1 hb6)
      clear hb6
      go_wp2_with fail
      go_ret
      exact ⟨rfl, HB6.out⟩
end Go.Proofs.YtcjdlckfbkdibaaDoor
end
