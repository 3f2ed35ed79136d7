/- Contract: the reference's Fit. -/
import Derived.Test.YtopdcjekdmaopaaSealOpen
namespace Go.Proofs.Ytopdcjekdmaopaa
open Go.RowKit
open Go.Lib (hid)
set_option linter.unusedVariables false

/-- what is fitted, ahead of its sum -/
def fitL (l : List UInt8) (size : Nat) : List UInt8 := lowB l.length 2 ++ l ++ List.replicate (size - 6 - l.length) 0
theorem fitL_length (l : List UInt8) (size : Nat) (h : l.length + 6 ≤ size) : (fitL l size).length = size - 4 := by
  unfold fitL
  simp [lowB_length]; omega
def lenOf : Value → Nat
  | .slice _ n _ => n
  | _ => 0

attribute [local irreducible] crc lowB
set_option maxHeartbeats 800000 in
theorem ref_Fit (l : List UInt8) (u : Value) (w : World) (hl : SlB w u l) (size : Nat) (S : Int) (hS : S = (size : Int)) (h6 : l.length + 6 ≤ size) (hsz : size ≤ 65536) (f : List UInt8) (hf : Hid (f = fitL l size)) :
    Calls Try.prog 35 #[u, .int .i64 S] w fun e w' => ∃ v, e = .returned v ∧ w'.ownsRow w.heap.size 5 1 v (f ++ lowB (crc f) 4).length (bv (f ++ lowB (crc f) 4)) ∧ Below w.heap.size w w' := by
  subst hS
  have HL := hid hl
  obtain ⟨a, c, rfl, h1, h2, -, -, h5⟩ := hl
  have HR := hid h2
  have H5 := hid h5
  have hflen : f.length = size - 4 := by rw [hf.out]; exact fitL_length l size h6
  have HFL := hid hflen
  clear h2 h5 hflen
  go_enter Try.func35, Try.ntmps35
  go_wp2_with fail
  refine (ref_Low l.length 2 _ _ (by rfl) (by simp) (by omega) (by omega) _).mono ?_
  rintro e w1 ⟨v1, rfl, hown1, hb1⟩
  obtain ⟨a1, c1, rfl, -, -, hr1, hn1⟩ := ownsRow.rd hown1
  have HR1 := hid hr1
  have HN1 := hid hn1
  have HB1 := hid hb1
  have hown0 := World.ownsRow_nil w1 w.heap.size 5 1
  have HOWN0 := hid hown0
  have hsz1 := hb1.size
  clear hown1 hb1 hr1 hn1 hown0
  go_wp2_with (at_builtin; refine wpList_appendN T_bytes _ rfl _ _ rfl w.heap.size _ _ _ rfl HOWN0.out _ _ _ (bv (lowB l.length 2)) rfl ?c1 (fun _ h => HN1.out h) HR1.out (bv_oneCell _) ?c2 hsz1 ?_)
  case c1 => simp [bv_length, lowB_length]
  case c2 => omega
  intro v2 w2 hown2 hg2 hnil2
  have hb2 := HB1.out.grown hg2 hsz1 (fun k hk => by simp [Value.ownBlock] at hk)
  have HB2 := hid hb2
  have HOWN2 := hid hown2
  have HR2 := hid (HR.out.below' hb2)
  have hsz2 := hb2.size
  clear hown2 hg2 hnil2 hb2 hsz1
  go_wp2_with (at_builtin; refine wpList_appendN T_bytes _ rfl _ _ rfl w.heap.size _ _ _ rfl HOWN2.out _ _ _ (bv l) rfl ?c3 (fun _ h => H5.out h) HR2.out (bv_oneCell _) ?c4 hsz2 ?_)
  case c3 => simp [bv_length]
  case c4 => omega
  intro v3 w3 hown3 hg3 hnil3
  have hb3 := HB2.out.grown hg3 hsz2 (fun k hk => (HOWN2.out.lt k hk).1)
  have HB3 := hid hb3
  obtain ⟨p, hp⟩ : ∃ p, p = lowB l.length 2 ++ l := ⟨_, rfl⟩
  have hpl : p.length = 2 + l.length := by rw [hp]; simp [lowB_length]
  replace hown3 : w3.ownsRow w.heap.size 5 1 v3 p.length (bv p) := by rw [hp, bv_append, List.length_append, lowB_length]; simpa using hown3
  obtain ⟨a3, c3, rfl⟩ : ∃ a c, v3 = .slice a p.length c := by obtain ⟨a, c, e, -⟩ := ownsRow.rd hown3; exact ⟨a, c, e⟩
  have HOWN3 := hid hown3
  have HP := hid (show f = p ++ List.replicate (size - 6 - l.length) 0 by rw [hf.out, hp]; rfl)
  have HPL := hid hpl
  clear hown3 hg3 hnil3 hb3 hp hpl
  go_wp2_with fail
  go_loopw [5] (fun v5 wr => ∃ (j : Nat) (m : List UInt8) (a : Option Addr) (c : Nat), v5 = .slice a m.length c ∧ wr.ownsRow w.heap.size 5 1 (.slice a m.length c) m.length (bv m) ∧ Hid (m = p ++ List.replicate j 0) ∧ m.length ≤ size - 4 ∧ Hid (Below w.heap.size w wr)) (fun v5 _ => size - lenOf v5)
  case atStart => exact ⟨0, p, a3, c3, rfl, HOWN3.out, hid (by simp), by have := HPL.out; omega, HB3⟩
  case round =>
    obtain ⟨j, m, a5, c5, rfl, hown, hm, hml, hb⟩ := hrel
    by_cases hlt : m.length < size - 4
    · have hsz5 := hb.out.size
      have HO := hid hown
      clear hown
      go_wp2_with (at_builtin; refine wpList_append1 T_bytes _ rfl _ _ #[.int .u8 0] rfl w.heap.size _ _ _ rfl HO.out rfl rfl ?c5 ?c6 hsz5 ?_)
      case c5 => rfl
      case c6 => omega
      intro v' w4 hown4 hg4 hne4
      have HB4 := hid (hb.out.grown hg4 hsz5 (fun k hk => (HO.out.lt k hk).1))
      replace hown4 : w4.ownsRow w.heap.size 5 1 v' (m ++ [0]).length (bv (m ++ [0])) := by rw [bv_append, bv_one]; simpa using hown4
      obtain ⟨a6, c6, rfl⟩ : ∃ a c, v' = .slice a (m ++ [0]).length c := by obtain ⟨a, c, e, -⟩ := ownsRow.rd hown4; exact ⟨a, c, e⟩
      have HO4 := hid hown4
      clear hown4 hg4
      go_wp2_with fail
      go_roundw
      case rel => exact ⟨j + 1, m ++ [0], a6, c6, rfl, HO4.out, hid (by rw [hm.out, List.append_assoc, ← List.replicate_succ']), by simp; omega, HB4⟩
      case measure => simp [lenOf]; omega
    · have HM := hid (show m = f by
        have h1 := hm.out
        have h2 := HP.out
        have h3 := HPL.out
        have h4 := congrArg List.length h1
        rw [List.length_append, List.length_replicate] at h4
        rw [h1, h2, show j = size - 6 - l.length by omega])
      have HO := hid hown
      have HSL := hid (ownsRow.slb hown (by omega))
      have hsz5 := hb.out.size
      clear hown hm
      go_wp2_with fail
      refine (ref_Sum m _ wr HSL.out).mono ?_
      rintro e w' ⟨rfl, rfl⟩
      have hcrc : crc m < 4294967296 := by unfold crc; omega
      go_wp2_with fail
      refine (ref_Low (crc m) 4 _ _ (by rfl) (by simp) hcrc (by omega) _).mono ?_
      rintro e w4 ⟨v4, rfl, hown4, hb4⟩
      obtain ⟨a4, c4, rfl, -, -, hr4, hn4⟩ := ownsRow.rd hown4
      have HR4 := hid hr4
      have HN4 := hid hn4
      have HO4 := hid (ownsRow_below HO.out hb4)
      have HB4 := hid (Below.next hb.out hb4)
      have hsz4 := HB4.out.size
      clear hown4 hr4 hn4 hb4
      go_wp2_with (at_builtin; refine wpList_appendN T_bytes _ rfl _ _ rfl w.heap.size _ _ _ rfl HO4.out _ _ _ (bv (lowB (crc m) 4)) rfl ?c7 (fun _ h => HN4.out h) HR4.out (bv_oneCell _) ?c8 hsz4 ?_)
      case c7 => simp [bv_length, lowB_length]
      case c8 => omega
      intro v5 w5 hown5 hg5 hnil5
      have HB5 := hid (HB4.out.grown hg5 hsz4 (fun k hk => (HO4.out.lt k hk).1))
      have HO5 : Hid (w5.ownsRow w.heap.size 5 1 v5 (f ++ lowB (crc f) 4).length (bv (f ++ lowB (crc f) 4))) := hid (by rw [← HM.out, bv_append, List.length_append, lowB_length]; exact hown5)
      clear hown5 hg5 hnil5
      go_wp2_with fail
      go_ret
      exact ⟨_, rfl, HO5.out, HB5.out⟩
end Go.Proofs.Ytopdcjekdmaopaa
