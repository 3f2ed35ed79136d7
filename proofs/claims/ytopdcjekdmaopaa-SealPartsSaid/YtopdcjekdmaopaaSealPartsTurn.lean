/- The law SealParts, walked where its bytes are fitted ones and a bit is turned. -/
import Derived.Test.YtopdcjekdmaopaaSealTurn2
import Derived.Test.YtopdcjekdmaopaaSealFitsLaw
import Derived.StillTailTactics
namespace Go.Proofs.Ytopdcjekdmaopaa
open Go.RowKit
open Go.Lib (hid)
set_option linter.unusedVariables false

attribute [local irreducible] crc lowB

theorem Below.next3 {B : Nat} {w w1 w2 : World} (h : Below B w w1) (k : Below w1.heap.size w1 w2) (hB : B ≤ w1.heap.size) : Below B w w2 := h.trans (k.mono hB)
theorem turn_byte (z : UInt8) (j : Nat) (hj : j < 8) : ∃ y : UInt8, bits .xor .u8 (z.toNat : Int) (IntKind.u8.wrap (2 ^ j)) = (y.toNat : Int) ∧ z ≠ y := by
  have key : ∀ m : UInt8, m ≠ 0 → bits .xor .u8 (z.toNat : Int) (m.toNat : Int) = ((z ^^^ m).toNat : Int) ∧ z ≠ z ^^^ m := by
    intro m hm
    refine ⟨?_, fun h => hm ?_⟩
    · show IntKind.u8.wrap ((BitVec.ofInt 8 (z.toNat : Int) ^^^ BitVec.ofInt 8 (m.toNat : Int)).toNat : Int) = _
      have q0 : z.toNat < 256 := z.toNat_lt
      have q1 : m.toNat < 256 := m.toNat_lt
      rw [BitVec.ofInt_natCast, BitVec.ofInt_natCast, BitVec.toNat_xor, BitVec.toNat_ofNat, BitVec.toNat_ofNat, Nat.mod_eq_of_lt (by omega), Nat.mod_eq_of_lt (by omega), UInt8.toNat_xor]
      have q2 : z.toNat ^^^ m.toNat < 256 := Nat.xor_lt_two_pow (n := 8) q0 q1
      rw [IntKind.wrap_u8]
      omega
    · have : z ^^^ z = z ^^^ (z ^^^ m) := by rw [← h]
      rw [← UInt8.xor_assoc, UInt8.xor_self, UInt8.zero_xor] at this
      exact this.symm
  have pw : ∀ j, j < 8 → IntKind.u8.wrap (2 ^ j) = ((UInt8.ofNat (2 ^ j)).toNat : Int) ∧ UInt8.ofNat (2 ^ j) ≠ 0 := by decide
  rw [(pw j hj).1]
  exact ⟨_, key _ (pw j hj).2⟩

set_option maxRecDepth 100000 in
set_option maxHeartbeats 2000000 in
theorem SealParts_turn (l xx : List UInt8) (b off cap0 : Nat) (bit : Int) (w : World) (hl : SlB w (.slice (some ⟨b, off, none⟩) l.length cap0) l) (hbig : l.length ≤ 300) (h6 : 6 ≤ l.length) (s2 : bit ≤ 9223372036854775807) (hbit : 0 ≤ bit) (n : Nat) (HPN : Hid (partN l = n)) (hn : n + 6 ≤ l.length)
    (HXX : Hid (xx = (l.drop 2).take n)) (HRR : Hid (partL l = some xx)) (HF : Hid (fitL xx l.length ++ lowB (crc (fitL xx l.length)) 4 = l)) :
    Calls Try.prog 12 #[.slice (some ⟨b, off, none⟩) l.length cap0, .int .i64 bit] w fun e w' => e = .returned (.bool true) ∧ Below w.heap.size w w' := by
  have HL := hid hl
  obtain ⟨a, c, e0, q1, q2, q3, q4, q5⟩ := hl
  simp only [Value.slice.injEq] at e0
  obtain ⟨rfl, -, rfl⟩ := e0
  have HRD := hid q2
  clear q2 q5
  go_enter Try.func12, Try.ntmps12
  go_wp2_with fail
  refine (seal_Part l _ w HL.out (some xx) HRR).mono ?_
  rintro e w1 ⟨v1, rfl, hown1, hb1⟩
  obtain ⟨a1, c1, rfl⟩ := ownsRow_slice hown1
  have HB1 := hid hb1
  obtain ⟨b0, off0, y0, e0, hc0, hy0, -⟩ := (HRD.out.below' hb1).byte 0 (by omega)
  obtain ⟨b1, off1, y1, e1, hc1, hy1, -⟩ := (HRD.out.below' hb1).byte 1 (by omega)
  simp only [Option.some.injEq, Addr.mk.injEq, and_true] at e0 e1
  obtain ⟨rfl, rfl⟩ := e0
  obtain ⟨rfl, rfl⟩ := e1
  rw [Nat.add_zero] at hc0
  have hn64 : n = y0.toNat + 256 * y1.toNat := by
    rw [← HPN.out]; unfold partN; rw [List.getD_eq_getElem?_getD, List.getD_eq_getElem?_getD, hy0, hy1]; rfl
  have hval : wrap64 (wrap64 (y0.toNat : Int) + wrap64 (256 * wrap64 (y1.toNat : Int))) = (n : Int) := by
    have q0 : y0.toNat < 256 := y0.toNat_lt
    have q1 : y1.toNat < 256 := y1.toNat_lt
    unfold wrap64; omega
  simp only [Option.getD_some, Option.isSome_some]
  clear hown1 hb1 hy0 hy1 hn64
  go_wp2_with fail
  go_quiet (fail)
  rw [hval]
  have hb2 := Below.drawn w1 nq
  obtain ⟨w2, hw2⟩ : ∃ w2, w2 = w1.drewN nq := ⟨_, rfl⟩
  rw [← hw2] at hb2 ⊢
  have HB2 := hid (Below.next HB1.out hb2)
  clear hb2 hw2 hc0 hc1 hval
  have hd := (Below.refl w2.heap.size w2).drew
  have hwr : IntKind.i64.wrap ((l.length : Int) - 6) = (l.length : Int) - 6 := by rw [IntKind.wrap_i64]; omega
  have hwr2 : IntKind.i64.wrap (2 + (n : Int)) = 2 + (n : Int) := by rw [IntKind.wrap_i64]; omega
  have cn3 : (n : Int) ≤ (l.length : Int) - 6 := by omega
  have hxl : xx.length = n := by rw [HXX.out, List.length_take, List.length_drop]; omega
  have hdec : decide ((n : Int) ≤ (l.length : Int) - 6) = true := by simpa using cn3
  have stb := (HL.out.below HB2.out).str
  have hnlt : ((l.length : Int) - 6 < (n : Int)) = False := eq_false (by omega)
  have hif : (if (l.length : Int) - 6 < (n : Int) then (l.length : Int) - 6 else (n : Int)) = (n : Int) := if_neg (by omega)
  have hz1 : (0 : Int) ≤ 2 + (n : Int) := by omega
  have hz2 : 2 + (n : Int) ≤ (cap0 : Int) := by omega
  have hz3 : (2 : Int) ≤ 2 + (n : Int) := by omega
  have hmx : max (2 + (n : Int)) 0 = 2 + (n : Int) := by omega
  have htn : (2 + (n : Int)).toNat - 2 = n := by omega
  have hne : ¬ cap0 = 2 := by omega
  have hsub := (HRD.out.below' HB2.out).sub 2 n
  rw [bv_drop_take, ← HXX.out] at hsub
  have HSX : Hid (SlB w2 (.slice (some ⟨b, off + 2, none⟩) n (cap0 - 2)) xx) := hid ⟨_, _, by rw [hxl], by omega, hsub, by omega, by omega, nofun⟩
  have HXL := hid hxl
  clear hsub hxl
  go_wp2_with fail
  refine wp_region_held_drew (S := (fun w' => Below w2.heap.size w2 w')) (by kernel_rfl) (by first | assumption | exact Below.next (by assumption) hb3) (fun hH => ?_)
  refine wpAnyH_take (i := 0) (v := _) (by simp only [List.getElem?_toArray, List.getElem?_cons_succ, List.getElem?_cons_zero]; rfl) (by kernel_rfl) (by kernel_rfl) (by kernel_rfl) (by exact fun _ _ _ h => h) (by first | exact Or.inl ⟨by rfl, by intro w hSw; go_simp; try with_reducible rfl⟩ | exact Or.inr ⟨by rfl, rfl⟩) hH ?_
  try simp only [Act.put, List.setIfInBounds_toArray, List.set_cons_zero, List.set_cons_succ]
  refine wpAnyH_take (i := 1) (v := _) (by simp only [List.getElem?_toArray, List.getElem?_cons_succ, List.getElem?_cons_zero]; rfl) (by kernel_rfl) (by kernel_rfl) (by kernel_rfl) (by exact fun _ _ _ h => h) (by first | exact Or.inl ⟨by rfl, by intro w hSw; go_simp; try with_reducible rfl⟩ | exact Or.inr ⟨by rfl, rfl⟩) hH ?_
  try simp only [Act.put, List.setIfInBounds_toArray, List.set_cons_zero, List.set_cons_succ]
  refine wpAnyH_take (i := 2) (v := _) (by simp only [List.getElem?_toArray, List.getElem?_cons_succ, List.getElem?_cons_zero]; rfl) (by kernel_rfl) (by kernel_rfl) (by kernel_rfl) (by exact fun _ _ _ h => h) (by first | exact Or.inl ⟨by rfl, by intro w hSw; go_simp; try with_reducible rfl⟩ | exact Or.inr ⟨by rfl, rfl⟩) hH ?_
  try simp only [Act.put, List.setIfInBounds_toArray, List.set_cons_zero, List.set_cons_succ]
  refine wpAnyH_take (i := 3) (v := _) (by simp only [List.getElem?_toArray, List.getElem?_cons_succ, List.getElem?_cons_zero]; rfl) (by kernel_rfl) (by kernel_rfl) (by kernel_rfl) (by exact fun _ _ _ h => h) (by first | exact Or.inl ⟨by rfl, by intro w hSw; go_simp; try with_reducible rfl⟩ | exact Or.inr ⟨by rfl, rfl⟩) hH ?_
  try simp only [Act.put, List.setIfInBounds_toArray, List.set_cons_zero, List.set_cons_succ]
  refine wpAnyH_take (i := 4) (v := _) (by simp only [List.getElem?_toArray, List.getElem?_cons_succ, List.getElem?_cons_zero]; rfl) (by kernel_rfl) (by kernel_rfl) (by kernel_rfl) (by exact fun _ _ _ h => h) (by first | exact Or.inl ⟨by rfl, by intro w hSw; go_simp; try with_reducible rfl⟩ | exact Or.inr ⟨by rfl, rfl⟩) hH ?_
  try simp only [Act.put, List.setIfInBounds_toArray, List.set_cons_zero, List.set_cons_succ]
  refine wpAnyH_take (i := 5) (v := _) (by simp only [List.getElem?_toArray, List.getElem?_cons_succ, List.getElem?_cons_zero]; rfl) (by kernel_rfl) (by kernel_rfl) (by kernel_rfl) (by exact fun _ _ _ h => h) (by first | exact Or.inl ⟨by rfl, by intro w hSw; go_simp; try with_reducible rfl⟩ | exact Or.inr ⟨by rfl, rfl⟩) hH ?_
  try simp only [Act.put, List.setIfInBounds_toArray, List.set_cons_zero, List.set_cons_succ]
  refine wpAnyH_take (i := 6) (v := _) (by simp only [List.getElem?_toArray, List.getElem?_cons_succ, List.getElem?_cons_zero]; rfl) (by kernel_rfl) (by kernel_rfl) (by kernel_rfl) (by exact fun _ _ _ h => h) (by first | exact Or.inl ⟨by rfl, by intro w hSw; go_simp; try with_reducible rfl⟩ | exact Or.inr ⟨by rfl, rfl⟩) hH ?_
  try simp only [Act.put, List.setIfInBounds_toArray, List.set_cons_zero, List.set_cons_succ]
  refine wpAnyH_take (i := 7) (v := _) (by simp only [List.getElem?_toArray, List.getElem?_cons_succ, List.getElem?_cons_zero]; rfl) (by kernel_rfl) (by kernel_rfl) (by kernel_rfl) (by exact fun _ _ _ h => h) (by first | exact Or.inl ⟨by rfl, by intro w hSw; go_simp; try with_reducible rfl⟩ | exact Or.inr ⟨by rfl, rfl⟩) hH ?_
  try simp only [Act.put, List.setIfInBounds_toArray, List.set_cons_zero, List.set_cons_succ]
  refine wpAnyH_take (i := 8) (v := _) (by simp only [List.getElem?_toArray, List.getElem?_cons_succ, List.getElem?_cons_zero]; rfl) (by kernel_rfl) (by kernel_rfl) (by kernel_rfl) (by exact fun _ _ _ h => h) (by first | exact Or.inl ⟨by rfl, by intro w hSw; go_simp; try with_reducible rfl⟩ | exact Or.inr ⟨by rfl, rfl⟩) hH ?_
  try simp only [Act.put, List.setIfInBounds_toArray, List.set_cons_zero, List.set_cons_succ]
  refine wpAnyH_take (i := 9) (v := _) (by simp only [List.getElem?_toArray, List.getElem?_cons_succ, List.getElem?_cons_zero]; rfl) (by kernel_rfl) (by kernel_rfl) (by kernel_rfl) (by exact fun _ _ _ h => h) (by first | exact Or.inl ⟨by rfl, by intro w hSw; go_simp; try with_reducible rfl⟩ | exact Or.inr ⟨by rfl, rfl⟩) hH ?_
  try simp only [Act.put, List.setIfInBounds_toArray, List.set_cons_zero, List.set_cons_succ]
  refine wpAnyH_take (i := 10) (v := _) (by simp only [List.getElem?_toArray, List.getElem?_cons_succ, List.getElem?_cons_zero]; rfl) (by kernel_rfl) (by kernel_rfl) (by kernel_rfl) (by exact fun _ _ _ h => h) (by first | exact Or.inl ⟨by rfl, by intro w hSw; go_simp; try with_reducible rfl⟩ | exact Or.inr ⟨by rfl, rfl⟩) hH ?_
  try simp only [Act.put, List.setIfInBounds_toArray, List.set_cons_zero, List.set_cons_succ]
  refine wpAnyH_take (i := 11) (v := _) (by simp only [List.getElem?_toArray, List.getElem?_cons_succ, List.getElem?_cons_zero]; rfl) (by kernel_rfl) (by kernel_rfl) (by kernel_rfl) (by exact fun _ _ _ h => h) (by first | exact Or.inl ⟨by rfl, by intro w hSw; go_simp; try with_reducible rfl⟩ | exact Or.inr ⟨by rfl, rfl⟩) hH ?_
  try simp only [Act.put, List.setIfInBounds_toArray, List.set_cons_zero, List.set_cons_succ]
  refine wpAnyH_take (i := 12) (v := _) (by simp only [List.getElem?_toArray, List.getElem?_cons_succ, List.getElem?_cons_zero]; rfl) (by kernel_rfl) (by kernel_rfl) (by kernel_rfl) (by exact fun _ _ _ h => h) (by first | exact Or.inl ⟨by rfl, by intro w hSw; go_simp; try with_reducible rfl⟩ | exact Or.inr ⟨by rfl, rfl⟩) hH ?_
  try simp only [Act.put, List.setIfInBounds_toArray, List.set_cons_zero, List.set_cons_succ]
  refine wpAnyH_take (i := 13) (v := _) (by simp only [List.getElem?_toArray, List.getElem?_cons_succ, List.getElem?_cons_zero]; rfl) (by kernel_rfl) (by kernel_rfl) (by kernel_rfl) (by exact fun _ _ _ h => h) (by first | exact Or.inl ⟨by rfl, by intro w hSw; go_simp; try with_reducible rfl⟩ | exact Or.inr ⟨by rfl, rfl⟩) hH ?_
  try simp only [Act.put, List.setIfInBounds_toArray, List.set_cons_zero, List.set_cons_succ]
  refine wpAnyH_take (i := 14) (v := _) (by simp only [List.getElem?_toArray, List.getElem?_cons_succ, List.getElem?_cons_zero]; rfl) (by kernel_rfl) (by kernel_rfl) (by kernel_rfl) (by exact fun _ _ _ h => h) (by first | exact Or.inl ⟨by rfl, by intro w hSw; go_simp; try with_reducible rfl⟩ | exact Or.inr ⟨by rfl, rfl⟩) hH ?_
  try simp only [Act.put, List.setIfInBounds_toArray, List.set_cons_zero, List.set_cons_succ]
  refine wpAnyH_take (i := 15) (v := _) (by simp only [List.getElem?_toArray, List.getElem?_cons_succ, List.getElem?_cons_zero]; rfl) (by kernel_rfl) (by kernel_rfl) (by kernel_rfl) (by exact fun _ _ _ h => h) (by first | exact Or.inl ⟨by rfl, by intro w hSw; go_simp; try with_reducible rfl⟩ | exact Or.inr ⟨by rfl, rfl⟩) hH ?_
  try simp only [Act.put, List.setIfInBounds_toArray, List.set_cons_zero, List.set_cons_succ]
  refine wpAnyH_take (i := 18) (v := _) (by simp only [List.getElem?_toArray, List.getElem?_cons_succ, List.getElem?_cons_zero]; rfl) (by kernel_rfl) (by kernel_rfl) (by kernel_rfl) (by exact fun _ _ _ h => h) (by first | exact Or.inl ⟨by rfl, by intro w hSw; go_simp; try with_reducible rfl⟩ | exact Or.inr ⟨by rfl, rfl⟩) hH ?_
  try simp only [Act.put, List.setIfInBounds_toArray, List.set_cons_zero, List.set_cons_succ]
  refine wpAnyH_take (i := 19) (v := _) (by simp only [List.getElem?_toArray, List.getElem?_cons_succ, List.getElem?_cons_zero]; rfl) (by kernel_rfl) (by kernel_rfl) (by kernel_rfl) (by exact fun _ _ _ h => h) (by first | exact Or.inl ⟨by rfl, by intro w hSw; go_simp; try with_reducible rfl⟩ | exact Or.inr ⟨by rfl, rfl⟩) hH ?_
  try simp only [Act.put, List.setIfInBounds_toArray, List.set_cons_zero, List.set_cons_succ]
  refine wpAnyH_ready (rs := [16]) (by kernel_rfl) (by simp) ?_
  refine AllReadyH.cons rfl (fun K hK => ?_) AllReadyH.nil
  go_simp
  (refine (ref_Fit xx _ _ (HSX.out.below (by assumption)) l.length _ rfl (by have := HXL.out; omega) (by omega) (fitL xx l.length) (hid rfl)).mono ?_); rintro e w3 ⟨v3, rfl, hown3, hb3⟩; (rw [HF.out] at hown3); (have s3 := ownsRow.slb hown3 (by omega)); (have HS3 := hid s3); (obtain ⟨a3, c3, rfl⟩ := ownsRow_slice hown3); (have st4 := HS3.out.str w3 (Below.refl _ _)); clear hown3 s3; go_simp
  refine hK.out _ _ (by first | assumption | exact Below.next (by assumption) hb3) (fun hH => ?_)
  clear hK K
  try simp only [Act.put, List.setIfInBounds_toArray, List.set_cons_zero, List.set_cons_succ]
  refine wpAnyH_ready (rs := [17]) (by kernel_rfl) (by simp) ?_
  refine AllReadyH.cons rfl (fun K hK => ?_) AllReadyH.nil
  go_simp
  refine hK.out _ _ (by first | assumption | exact Below.next (by assumption) hb3) (fun hH => ?_)
  clear hK K
  try simp only [Act.put, List.setIfInBounds_toArray, List.set_cons_zero, List.set_cons_succ]
  refine wpAnyH_take (i := 20) (v := _) (by simp only [List.getElem?_toArray, List.getElem?_cons_succ, List.getElem?_cons_zero]; rfl) (by kernel_rfl) (by kernel_rfl) (by kernel_rfl) (by exact fun _ _ _ h => h) (by first | exact Or.inl ⟨by rfl, by intro w hSw; go_simp; try with_reducible rfl⟩ | exact Or.inr ⟨by rfl, rfl⟩) hH ?_
  try simp only [Act.put, List.setIfInBounds_toArray, List.set_cons_zero, List.set_cons_succ]
  refine wpAnyH_take (i := 21) (v := _) (by simp only [List.getElem?_toArray, List.getElem?_cons_succ, List.getElem?_cons_zero]; rfl) (by kernel_rfl) (by kernel_rfl) (by kernel_rfl) (by exact fun _ _ _ h => h) (by first | exact Or.inl ⟨by rfl, by intro w hSw; go_simp; try with_reducible rfl⟩ | exact Or.inr ⟨by rfl, rfl⟩) hH ?_
  try simp only [Act.put, List.setIfInBounds_toArray, List.set_cons_zero, List.set_cons_succ]
  refine wpAnyH_take (i := 22) (v := _) (by simp only [List.getElem?_toArray, List.getElem?_cons_succ, List.getElem?_cons_zero]; rfl) (by kernel_rfl) (by kernel_rfl) (by kernel_rfl) (by exact fun _ _ _ h => h) (by first | exact Or.inl ⟨by rfl, by intro w hSw; go_simp; try with_reducible rfl⟩ | exact Or.inr ⟨by rfl, rfl⟩) hH ?_
  try simp only [Act.put, List.setIfInBounds_toArray, List.set_cons_zero, List.set_cons_succ]
  refine wpAnyH_done (by kernel_rfl) ?_ _
  have HB3 := hid (Below.next HB2.out hH)
  have hbb : decide (bit < 0) = false := by simpa using hbit
  have hown0 : (w3.alloc (.cells #[] 5)).ownsRow w3.heap.size 5 1 (.slice (some ⟨w3.heap.size, 0, none⟩) 0 0) 0 [] := World.ownsRow_made w3 #[] 0 (Nat.le_refl _) (by omega) (by simp)
  have HOWN0 := hid hown0
  have HC3' := (HL.out.below HB3.out).below (Below.new w3 (.cells #[] 5))
  obtain ⟨a', c', e, -, hr0, -⟩ := HC3'
  simp only [Value.slice.injEq] at e
  obtain ⟨rfl, -, rfl⟩ := e
  have HR0 := hid hr0
  clear hown0 hr0 hH hd hb3 st4 hwr hwr2 cn3 hdec stb hnlt hif hz1 hz2 hz3 hmx htn
  go_wp2_with (at_builtin; refine wpList_appendN T_bytes _ rfl _ _ rfl w3.heap.size _ _ _ rfl HOWN0.out _ _ _ (bv l) rfl ?c1 (fun h _ => by omega) HR0.out (bv_oneCell l) ?c2 ?c3 ?_)
  case c1 => simp [bv_length]
  case c2 => omega
  case c3 => simp
  intro v4 w4 hown4 hg4 hnil4
  replace hown4 : w4.ownsRow w3.heap.size 5 1 v4 l.length (bv l) := by simpa using hown4
  obtain ⟨g4, c4, rfl⟩ := Joins.ownsRow_form hown4 (by omega)
  have HG4 := hid (show w3.heap.size ≤ g4 ∧ g4 < w4.heap.size from hown4.lt g4 rfl)
  have hb34 : Below w3.heap.size w3 w4 := (Below.new w3 _).grown hg4 (by simp) (fun k hk => by simp [Value.ownBlock] at hk; omega)
  have HB34 := hid hb34
  have HB4 := hid (Below.next HB3.out hb34)
  have HOWN4 := hid hown4
  have k0 : (0 : Int) ≤ bit / 8 % (l.length : Int) := Int.emod_nonneg _ (by omega)
  have k1 : bit / 8 % (l.length : Int) < (l.length : Int) := Int.emod_lt_of_pos _ (by omega)
  obtain ⟨k, hk⟩ := Int.eq_ofNat_of_zero_le k0
  have hkl : k < l.length := by omega
  have m0 : (0 : Int) ≤ bit % 8 := Int.emod_nonneg _ (by omega)
  have m1 : bit % 8 < 8 := Int.emod_lt_of_pos _ (by omega)
  obtain ⟨j, hj⟩ := Int.eq_ofNat_of_zero_le m0
  have hj8 : j < 8 := by omega
  have hd8 : (0 : Int) ≤ bit / 8 := by omega
  have hd8' : bit / 8 ≤ 9223372036854775807 := by omega
  obtain ⟨z, hz⟩ : ∃ z : UInt8, l[k]? = some z := ⟨_, List.getElem?_eq_getElem hkl⟩
  have hc0 : w4.cell? ⟨g4, k, none⟩ = some (.int .u8 (z.toNat : Int)) := by
    rw [hown4.cellAt k (by omega)]; unfold bv; rw [List.getElem?_map, hz]; rfl
  have hf0 : w4.frozen? ⟨g4, k, none⟩ = false := hown4.frozenAt k
  have HZ := hid hz
  clear hown4 hg4 hnil4 hb34 HR0 HOWN0 hz k0 k1 m0 m1
  go_wp2_with fail
  have hq : Int.tmod (Int.tdiv bit 8) (l.length : Int) = (k : Int) := by
    rw [Int.tdiv_eq_ediv_of_nonneg hbit, Int.tmod_eq_emod_of_nonneg hd8]; exact hk
  have hm8 : Int.tmod bit 8 = (j : Int) := by rw [Int.tmod_eq_emod_of_nonneg hbit]; exact hj
  have hkn : (0 : Int) ≤ (k : Int) := by omega
  have hkl' : (k : Int) < (l.length : Int) := by omega
  have hjn : (0 : Int) ≤ (j : Int) := by omega
  have hjl : (j : Int) < 8 := by omega
  have hqw : IntKind.i64.wrap (Int.tdiv bit 8) = Int.tdiv bit 8 := by rw [IntKind.wrap_i64, Int.tdiv_eq_ediv_of_nonneg hbit]; omega
  have hl0 : ¬ l = [] := by rintro rfl; simp at h6
  have HS4 : Hid (Below w4.heap.size w4 w4.drew) := hid ((Below.refl w4.heap.size w4).drew)
  go_still_tail 13, (by kernel_rfl)
  change wpList _ _ _ _ _ w4.drew
  have HB5 := hid (Below.next HB34.out (Below.drawn w4 1))
  have HOWN5 := hid (ownsRow_below HOWN4.out (Below.drawn w4 1))
  have hf5 : w4.drew.frozen? ⟨g4, k, none⟩ = false := hf0
  have hc5 : w4.drew.cell? ⟨g4, k, none⟩ = some (.int .u8 (z.toNat : Int)) := hc0
  clear HS4 hf0 hc0
  obtain ⟨y, hy, hzy⟩ := turn_byte z j hj8
  rw [hy]
  clear hy hq hm8 hkn hkl' hjn hjl hqw hl0 hk hj hj8 hd8 hd8'
  obtain ⟨w5, hw5⟩ : ∃ w5, w5 = w4.drew := ⟨_, rfl⟩
  have e5 : w4.drewN 1 = w5 := hw5.symm
  rw [e5] at HB5 HOWN5
  rw [← hw5] at hf5 hc5 ⊢
  clear hw5 e5
  obtain ⟨m, hm⟩ : ∃ m, m = l.set k y := ⟨_, rfl⟩
  have hml : m.length = l.length := by rw [hm, List.length_set]
  have HPN2 : Hid (partL m = none) := hid (by
    have e1 : l = l.take k ++ z :: l.drop (k + 1) := by
      have hkl := (List.getElem?_eq_some_iff.1 HZ.out)
      conv => lhs; rw [← List.take_append_drop k l, List.drop_eq_getElem_cons hkl.1, hkl.2]
    have e2 : m = l.take k ++ y :: l.drop (k + 1) := by rw [hm, List.set_eq_take_append_cons_drop, if_pos hkl]
    rw [e2]
    refine partL_turned _ _ z y xx ?_ hzy
    rw [← e1]; exact HRR.out)
  have hown6 := (HOWN5.out.stored k (.int .u8 (y.toNat : Int))).1
  have e6 : (bv l).set k (.int .u8 (y.toNat : Int)) = bv m := by unfold bv; rw [hm, List.map_set]
  rw [e6, ← hml] at hown6
  have HOWN6 := hid hown6
  have HML := hid hml
  have HS6 := hid (ownsRow.slb hown6 (by omega))
  have HB6 := hid (Below.next HB4.out (Below.drawn w4 1))
  clear hown6 e6 hm hml hzy
  go_wp2_with fail
  have HS6' : Hid (SlB (w5.setCell ⟨g4, k, none⟩ (.int .u8 (y.toNat : Int))) (.slice (some ⟨g4, 0, none⟩) l.length c4) m) := hid (by have := HS6.out; rwa [HML.out] at this)
  refine (seal_Part m _ _ HS6'.out none HPN2).mono ?_
  rintro e w7 ⟨v7, rfl, hown7, hb7⟩
  obtain ⟨a7, c7, rfl⟩ := ownsRow_slice hown7
  have HB7 := hid (Below.next HB3.out (Below.next3 (HB5.out.setCell (p := ⟨g4, k, none⟩) HG4.out.1 _) hb7 (by have := HB5.out.size; simpa using this)))
  clear hown7 hb7
  simp only [Option.isSome_none]
  go_wp2_with fail
  refine (seal_awake _).mono ?_
  rintro e w8 ⟨rfl, hb8⟩
  have HB8 := hid (Below.next HB7.out hb8)
  clear hb8
  go_wp2_with fail
  go_ret
  exact ⟨rfl, HB8.out⟩
end Go.Proofs.Ytopdcjekdmaopaa
