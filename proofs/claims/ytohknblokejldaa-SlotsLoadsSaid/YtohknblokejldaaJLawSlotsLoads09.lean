/- Joined texts, in this order: IntsEq, SealMath, SealHalves, Seal. Each one's first remark says what it proves; no condition beyond those that its theorems name. -/
import Derived.Test.YtohknblokejldaaJLawSlotsLoads07
import Derived.Test.YtohknblokejldaaJLawSlotsLoads08
import Derived.Test.YtohknblokejldaaJLawSlotsLoads03
import Derived.Test.YtohknblokejldaaJLawSlotsLoads01
import Derived.Test.YtohknblokejldaaProg
section
/- Contract: slices.Equal of numbers. -/
namespace Go.Proofs.Ytohknblokejldaa
open Go.RowKit
open Go.Lib (hid)
set_option linter.unusedVariables false

set_option maxRecDepth 100000 in
set_option maxHeartbeats 1000000 in
theorem sl_EqualI (l1 l2 : List Int) (v1 v2 : Value) (w : World) (h1 : SlI w v1 l1) (h2 : SlI w v2 l2) (b : Bool) (hb : Hid (decide (l1 = l2) = b)) :
    Calls Try.prog 51 #[v1, v2] w fun e w' => e = .returned (.bool b) ∧ Below w.heap.size w w' := by
  have H1 := hid h1
  have H2 := hid h2
  obtain ⟨a1, c1, rfl, -, q1, q2, -⟩ := h1
  obtain ⟨a2, c2, rfl, -, q3, q4, -⟩ := h2
  have hn1 : l1.length ≤ 9223372036854775807 := by omega
  have hn2 : l2.length ≤ 9223372036854775807 := by omega
  clear q1 q2 q3 q4
  by_cases hlen : l1.length = l2.length
  case neg =>
    have hq : ((l1.length : Int) != (l2.length : Int)) = true := by simp; omega
    have hne : ¬ l1 = l2 := fun q => hlen (by rw [q])
    have hb2 := hb.out
    rw [decide_eq_false hne] at hb2
    subst hb2
    have HB := hid (Below.refl w.heap.size w)
    clear hlen hne
    go_enter Try.func51, Try.ntmps51
    go_wp2
    go_ret
    exact ⟨rfl, HB.out⟩
  have hq : ((l1.length : Int) != (l2.length : Int)) = false := by simp; omega
  have HL := hid hlen
  clear hlen
  go_enter Try.func51, Try.ntmps51
  go_wp2
  go_loopw [5, 13] (fun v5 v13 wr => ∃ (k : Nat), v13 = .int .i64 k ∧ k ≤ l1.length ∧ Hid (decide (l1.drop k = l2.drop k) = b) ∧ Hid (Below w.heap.size w wr)) (fun _ v13 _ => l1.length - (intOf v13).toNat)
  case atStart => exact ⟨0, rfl, by omega, hb, hid (Below.refl _ _)⟩
  case round =>
    obtain ⟨k, rfl, hk, hs, HB⟩ := hrel
    by_cases hlt : k < l1.length
    · obtain ⟨a1', c1', e1, hr1, -⟩ := H1.out.below HB.out
      obtain ⟨a2', c2', e2, hr2, -⟩ := H2.out.below HB.out
      simp only [Value.slice.injEq] at e1 e2
      obtain ⟨rfl, -, rfl⟩ := e1
      obtain ⟨rfl, -, rfl⟩ := e2
      have hlt2 : k < l2.length := by have := HL.out; omega
      obtain ⟨b1, o1, y1, rfl, hc1, -, hd1, -, -⟩ := hr1.int k hlt
      obtain ⟨b2, o2, y2, rfl, hc2, -, hd2, -, -⟩ := hr2.int k hlt2
      have hw1 : ∀ x, Below wr.heap.size wr x → x.cell? ⟨b1, o1 + k, none⟩ = some (.int .i64 y1) := fun x hb => by rw [← hc1]; exact World.cell?_of_block (hb.block _ (World.block_lt_of_cell? wr _ hc1))
      have hw2 : ∀ x, Below wr.heap.size wr x → x.cell? ⟨b2, o2 + k, none⟩ = some (.int .i64 y2) := fun x hb => by rw [← hc2]; exact World.cell?_of_block (hb.block _ (World.block_lt_of_cell? wr _ hc2))
      have j0 : (k : Int) < (l2.length : Int) := by omega
      have h3 := hs.out
      rw [hd1, hd2] at h3
      have hk0 := (Below.refl wr.heap.size wr).drew
      by_cases hx : y1 = y2
      · have hxb : (y1 != y2) = false := by simpa using hx
        have h4 : decide (l1.drop (k + 1) = l2.drop (k + 1)) = b := by rw [← h3]; simp [hx]
        have H4 := hid h4
        have HB2 := hid (Below.next HB.out hk0)
        clear h3 h4 hx hd1 hd2 hr1 hr2 hc1 hc2
        go_wp2_with fail
        refine wp_region_kept [] (fun x => Below wr.heap.size wr x) (by kernel_rfl) (by assumption) (fun hH => ?_)
        refine wpK.take (i := 0) (v := _) (by simp only [List.getElem?_toArray, List.getElem?_cons_succ, List.getElem?_cons_zero]; rfl) (by kernel_rfl) (by kernel_rfl) (by kernel_rfl) (by kernel_rfl) (by kernel_rfl) (by exact fun _ _ _ h => h) (by first | exact Or.inl ⟨by rfl, by intro w hSw; go_simp; try with_reducible rfl⟩ | exact Or.inr ⟨by rfl, rfl⟩) hH ?_
        try simp only [Act.put, List.setIfInBounds_toArray, List.set_cons_zero, List.set_cons_succ]
        refine wpK.take (i := 1) (v := _) (by simp only [List.getElem?_toArray, List.getElem?_cons_succ, List.getElem?_cons_zero]; rfl) (by kernel_rfl) (by kernel_rfl) (by kernel_rfl) (by kernel_rfl) (by kernel_rfl) (by exact fun _ _ _ h => h) (by first | exact Or.inl ⟨by rfl, by intro w hSw; go_simp; try with_reducible rfl⟩ | exact Or.inr ⟨by rfl, rfl⟩) hH ?_
        try simp only [Act.put, List.setIfInBounds_toArray, List.set_cons_zero, List.set_cons_succ]
        refine wpK.take (i := 2) (v := _) (by simp only [List.getElem?_toArray, List.getElem?_cons_succ, List.getElem?_cons_zero]; rfl) (by kernel_rfl) (by kernel_rfl) (by kernel_rfl) (by kernel_rfl) (by kernel_rfl) (by exact fun _ _ _ h => h) (by first | exact Or.inl ⟨by rfl, by intro w hSw; go_simp; try with_reducible rfl⟩ | exact Or.inr ⟨by rfl, rfl⟩) hH ?_
        try simp only [Act.put, List.setIfInBounds_toArray, List.set_cons_zero, List.set_cons_succ]
        refine wpK.take (i := 3) (v := _) (by simp only [List.getElem?_toArray, List.getElem?_cons_succ, List.getElem?_cons_zero]; rfl) (by kernel_rfl) (by kernel_rfl) (by kernel_rfl) (by kernel_rfl) (by kernel_rfl) (by exact fun _ _ _ h => h) (by first | exact Or.inl ⟨by rfl, by intro w hSw; go_simp; try with_reducible rfl⟩ | exact Or.inr ⟨by rfl, rfl⟩) hH ?_
        try simp only [Act.put, List.setIfInBounds_toArray, List.set_cons_zero, List.set_cons_succ]
        refine wpK.take (i := 4) (v := _) (by simp only [List.getElem?_toArray, List.getElem?_cons_succ, List.getElem?_cons_zero]; rfl) (by kernel_rfl) (by kernel_rfl) (by kernel_rfl) (by kernel_rfl) (by kernel_rfl) (by exact fun _ _ _ h => h) (by first | exact Or.inl ⟨by rfl, by intro w hSw; go_simp; try with_reducible rfl⟩ | exact Or.inr ⟨by rfl, rfl⟩) hH ?_
        try simp only [Act.put, List.setIfInBounds_toArray, List.set_cons_zero, List.set_cons_succ]
        refine wpK.take (i := 5) (v := _) (by simp only [List.getElem?_toArray, List.getElem?_cons_succ, List.getElem?_cons_zero]; rfl) (by kernel_rfl) (by kernel_rfl) (by kernel_rfl) (by kernel_rfl) (by kernel_rfl) (by exact fun _ _ _ h => h) (by first | exact Or.inl ⟨by rfl, by intro w hSw; go_simp; try with_reducible rfl⟩ | exact Or.inr ⟨by rfl, rfl⟩) hH ?_
        try simp only [Act.put, List.setIfInBounds_toArray, List.set_cons_zero, List.set_cons_succ]
        refine wpK.take (i := 6) (v := _) (by simp only [List.getElem?_toArray, List.getElem?_cons_succ, List.getElem?_cons_zero]; rfl) (by kernel_rfl) (by kernel_rfl) (by kernel_rfl) (by kernel_rfl) (by kernel_rfl) (by exact fun _ _ _ h => h) (by first | exact Or.inl ⟨by rfl, by intro w hSw; go_simp; try with_reducible rfl⟩ | exact Or.inr ⟨by rfl, rfl⟩) hH ?_
        try simp only [Act.put, List.setIfInBounds_toArray, List.set_cons_zero, List.set_cons_succ]
        refine wpK.take (i := 7) (v := _) (by simp only [List.getElem?_toArray, List.getElem?_cons_succ, List.getElem?_cons_zero]; rfl) (by kernel_rfl) (by kernel_rfl) (by kernel_rfl) (by kernel_rfl) (by kernel_rfl) (by exact fun _ _ _ h => h) (by first | exact Or.inl ⟨by rfl, by intro w hSw; go_simp; try with_reducible rfl⟩ | exact Or.inr ⟨by rfl, rfl⟩) hH ?_
        try simp only [Act.put, List.setIfInBounds_toArray, List.set_cons_zero, List.set_cons_succ]
        refine wpK.take (i := 8) (v := _) (by simp only [List.getElem?_toArray, List.getElem?_cons_succ, List.getElem?_cons_zero]; rfl) (by kernel_rfl) (by kernel_rfl) (by kernel_rfl) (by kernel_rfl) (by kernel_rfl) (by exact fun _ _ _ h => h) (by first | exact Or.inl ⟨by rfl, by intro w hSw; go_simp; try with_reducible rfl⟩ | exact Or.inr ⟨by rfl, rfl⟩) hH ?_
        try simp only [Act.put, List.setIfInBounds_toArray, List.set_cons_zero, List.set_cons_succ]
        refine wpK.done (by kernel_rfl) ?_ _
        clear hw1 hw2 hH hk0
        go_wp2_with fail
        go_roundw
        case rel => exact ⟨k + 1, by go_num, by omega, H4, HB2⟩
        case measure => simp [intOf]; omega
      · have hxb : (y1 != y2) = true := by simpa using hx
        have h4 : false = b := by rw [← h3]; simp [hx]
        subst h4
        have HB2 := hid (Below.next HB.out hk0)
        clear h3 hx hd1 hd2 hr1 hr2 hc1 hc2
        go_wp2_with fail
        refine wp_region_kept [] (fun x => Below wr.heap.size wr x) (by kernel_rfl) (by assumption) (fun hH => ?_)
        refine wpK.take (i := 0) (v := _) (by simp only [List.getElem?_toArray, List.getElem?_cons_succ, List.getElem?_cons_zero]; rfl) (by kernel_rfl) (by kernel_rfl) (by kernel_rfl) (by kernel_rfl) (by kernel_rfl) (by exact fun _ _ _ h => h) (by first | exact Or.inl ⟨by rfl, by intro w hSw; go_simp; try with_reducible rfl⟩ | exact Or.inr ⟨by rfl, rfl⟩) hH ?_
        try simp only [Act.put, List.setIfInBounds_toArray, List.set_cons_zero, List.set_cons_succ]
        refine wpK.take (i := 1) (v := _) (by simp only [List.getElem?_toArray, List.getElem?_cons_succ, List.getElem?_cons_zero]; rfl) (by kernel_rfl) (by kernel_rfl) (by kernel_rfl) (by kernel_rfl) (by kernel_rfl) (by exact fun _ _ _ h => h) (by first | exact Or.inl ⟨by rfl, by intro w hSw; go_simp; try with_reducible rfl⟩ | exact Or.inr ⟨by rfl, rfl⟩) hH ?_
        try simp only [Act.put, List.setIfInBounds_toArray, List.set_cons_zero, List.set_cons_succ]
        refine wpK.take (i := 2) (v := _) (by simp only [List.getElem?_toArray, List.getElem?_cons_succ, List.getElem?_cons_zero]; rfl) (by kernel_rfl) (by kernel_rfl) (by kernel_rfl) (by kernel_rfl) (by kernel_rfl) (by exact fun _ _ _ h => h) (by first | exact Or.inl ⟨by rfl, by intro w hSw; go_simp; try with_reducible rfl⟩ | exact Or.inr ⟨by rfl, rfl⟩) hH ?_
        try simp only [Act.put, List.setIfInBounds_toArray, List.set_cons_zero, List.set_cons_succ]
        refine wpK.take (i := 3) (v := _) (by simp only [List.getElem?_toArray, List.getElem?_cons_succ, List.getElem?_cons_zero]; rfl) (by kernel_rfl) (by kernel_rfl) (by kernel_rfl) (by kernel_rfl) (by kernel_rfl) (by exact fun _ _ _ h => h) (by first | exact Or.inl ⟨by rfl, by intro w hSw; go_simp; try with_reducible rfl⟩ | exact Or.inr ⟨by rfl, rfl⟩) hH ?_
        try simp only [Act.put, List.setIfInBounds_toArray, List.set_cons_zero, List.set_cons_succ]
        refine wpK.take (i := 4) (v := _) (by simp only [List.getElem?_toArray, List.getElem?_cons_succ, List.getElem?_cons_zero]; rfl) (by kernel_rfl) (by kernel_rfl) (by kernel_rfl) (by kernel_rfl) (by kernel_rfl) (by exact fun _ _ _ h => h) (by first | exact Or.inl ⟨by rfl, by intro w hSw; go_simp; try with_reducible rfl⟩ | exact Or.inr ⟨by rfl, rfl⟩) hH ?_
        try simp only [Act.put, List.setIfInBounds_toArray, List.set_cons_zero, List.set_cons_succ]
        refine wpK.take (i := 5) (v := _) (by simp only [List.getElem?_toArray, List.getElem?_cons_succ, List.getElem?_cons_zero]; rfl) (by kernel_rfl) (by kernel_rfl) (by kernel_rfl) (by kernel_rfl) (by kernel_rfl) (by exact fun _ _ _ h => h) (by first | exact Or.inl ⟨by rfl, by intro w hSw; go_simp; try with_reducible rfl⟩ | exact Or.inr ⟨by rfl, rfl⟩) hH ?_
        try simp only [Act.put, List.setIfInBounds_toArray, List.set_cons_zero, List.set_cons_succ]
        refine wpK.take (i := 6) (v := _) (by simp only [List.getElem?_toArray, List.getElem?_cons_succ, List.getElem?_cons_zero]; rfl) (by kernel_rfl) (by kernel_rfl) (by kernel_rfl) (by kernel_rfl) (by kernel_rfl) (by exact fun _ _ _ h => h) (by first | exact Or.inl ⟨by rfl, by intro w hSw; go_simp; try with_reducible rfl⟩ | exact Or.inr ⟨by rfl, rfl⟩) hH ?_
        try simp only [Act.put, List.setIfInBounds_toArray, List.set_cons_zero, List.set_cons_succ]
        refine wpK.take (i := 7) (v := _) (by simp only [List.getElem?_toArray, List.getElem?_cons_succ, List.getElem?_cons_zero]; rfl) (by kernel_rfl) (by kernel_rfl) (by kernel_rfl) (by kernel_rfl) (by kernel_rfl) (by exact fun _ _ _ h => h) (by first | exact Or.inl ⟨by rfl, by intro w hSw; go_simp; try with_reducible rfl⟩ | exact Or.inr ⟨by rfl, rfl⟩) hH ?_
        try simp only [Act.put, List.setIfInBounds_toArray, List.set_cons_zero, List.set_cons_succ]
        refine wpK.take (i := 8) (v := _) (by simp only [List.getElem?_toArray, List.getElem?_cons_succ, List.getElem?_cons_zero]; rfl) (by kernel_rfl) (by kernel_rfl) (by kernel_rfl) (by kernel_rfl) (by kernel_rfl) (by exact fun _ _ _ h => h) (by first | exact Or.inl ⟨by rfl, by intro w hSw; go_simp; try with_reducible rfl⟩ | exact Or.inr ⟨by rfl, rfl⟩) hH ?_
        try simp only [Act.put, List.setIfInBounds_toArray, List.set_cons_zero, List.set_cons_succ]
        refine wpK.done (by kernel_rfl) ?_ _
        clear hw1 hw2 hH hk0
        go_wp2_with fail
        go_ret
        exact ⟨rfl, HB2.out⟩
    · have h1 := hs.out
      rw [List.drop_of_length_le (by omega), List.drop_of_length_le (by have := HL.out; omega)] at h1
      simp only [decide_true] at h1
      subst h1
      go_wp2_with fail
      go_ret
      exact ⟨rfl, HB.out⟩
end Go.Proofs.Ytohknblokejldaa
end
section
/- The sum of the package seal, as a plain function on numbers: by half bytes, and bit by bit: one and the same. No program in sight. -/
namespace Go.Proofs.Ytohknblokejldaa
open Go.RowKit
open Go.Lib (hid)
set_option linter.unusedVariables false

/-- one bit of the register -/
def bit1 (x : Nat) : Nat := if x % 2 = 1 then (x / 2) ^^^ 3988292384 else x / 2
/-- what half a byte does to the register -/
def tab (i : Nat) : Nat := bit1 (bit1 (bit1 (bit1 i)))
def nib (x : Nat) : Nat := (x / 16) ^^^ tab (x % 16)
def crcStep (x : Nat) (b : UInt8) : Nat := nib (nib (x ^^^ b.toNat))
def crcFrom (x : Nat) (l : List UInt8) : Nat := l.foldl crcStep x
def crc (l : List UInt8) : Nat := 4294967295 - crcFrom 4294967295 l

theorem div2_xor (x y : Nat) : (x ^^^ y) / 2 = (x / 2) ^^^ (y / 2) := by
  have := Nat.shiftRight_xor_distrib (a := x) (b := y) (i := 1)
  simpa [Nat.shiftRight_eq_div_pow] using this
theorem mod2_xor (x y : Nat) : (x ^^^ y) % 2 = (x % 2 + y % 2) % 2 := by
  have h := Nat.testBit_xor x y 0
  have h2 : x % 2 < 2 := Nat.mod_lt _ (by omega)
  have h3 : y % 2 < 2 := Nat.mod_lt _ (by omega)
  have h1 : (x ^^^ y) % 2 < 2 := Nat.mod_lt _ (by omega)
  rw [Nat.testBit_zero, Nat.testBit_zero, Nat.testBit_zero] at h
  rcases Nat.lt_or_ge (x % 2) 1 with a | a <;> rcases Nat.lt_or_ge (y % 2) 1 with b | b
  · have e1 : decide (x % 2 = 1) = false := by simp; omega
    have e2 : decide (y % 2 = 1) = false := by simp; omega
    rw [e1, e2] at h
    have := of_decide_eq_false h
    omega
  · have e1 : decide (x % 2 = 1) = false := by simp; omega
    have e2 : decide (y % 2 = 1) = true := by simp; omega
    rw [e1, e2] at h
    have := of_decide_eq_true h
    omega
  · have e1 : decide (x % 2 = 1) = true := by simp; omega
    have e2 : decide (y % 2 = 1) = false := by simp; omega
    rw [e1, e2] at h
    have := of_decide_eq_true h
    omega
  · have e1 : decide (x % 2 = 1) = true := by simp; omega
    have e2 : decide (y % 2 = 1) = true := by simp; omega
    rw [e1, e2] at h
    have := of_decide_eq_false h
    omega
theorem bit1_xor (x y : Nat) : bit1 (x ^^^ y) = bit1 x ^^^ bit1 y := by
  unfold bit1
  rw [div2_xor, mod2_xor]
  have h2 : x % 2 < 2 := Nat.mod_lt _ (by omega)
  have h3 : y % 2 < 2 := Nat.mod_lt _ (by omega)
  by_cases a : x % 2 = 1 <;> by_cases b : y % 2 = 1
  · rw [if_neg (by omega), if_pos a, if_pos b]
    rw [Nat.xor_assoc, ← Nat.xor_assoc 3988292384, Nat.xor_comm 3988292384 (y / 2), Nat.xor_assoc (y / 2), Nat.xor_self, Nat.xor_zero]
  · rw [if_pos (by omega), if_pos a, if_neg b, Nat.xor_assoc, Nat.xor_comm (y / 2), ← Nat.xor_assoc]
  · rw [if_pos (by omega), if_neg a, if_pos b, Nat.xor_assoc]
  · rw [if_neg (by omega), if_neg a, if_neg b]
theorem bit1_even (x : Nat) : bit1 (2 * x) = x := by unfold bit1; rw [if_neg (by omega)]; omega

/-- four bits are half a byte -/
theorem nib_bits (x : Nat) : nib x = bit1 (bit1 (bit1 (bit1 x))) := by
  have h : x = (2 * (2 * (2 * (2 * (x / 16))))) ^^^ (x % 16) := by
    have e : 2 * (2 * (2 * (2 * (x / 16)))) = 2 ^ 4 * (x / 16) := by omega
    have e2 : x = 2 ^ 4 * (x / 16) + x % 16 := by omega
    rw [e]
    apply Nat.eq_of_testBit_eq
    intro i
    rw [Nat.testBit_xor, Nat.testBit_two_pow_mul]
    conv => lhs; rw [e2, Nat.testBit_two_pow_mul_add _ (show x % 16 < 2 ^ 4 by omega)]
    by_cases hi : i < 4
    · simp [hi, show ¬ i ≥ 4 by omega]
    · have hr : (x % 16).testBit i = false := Nat.testBit_lt_two_pow (Nat.lt_of_lt_of_le (show x % 16 < 2 ^ 4 by omega) (Nat.pow_le_pow_right (by omega) (by omega)))
      simp [hi, show i ≥ 4 by omega, hr]
  conv => rhs; rw [h]
  rw [bit1_xor, bit1_xor, bit1_xor, bit1_xor, bit1_even, bit1_even, bit1_even, bit1_even]
  rfl
end Go.Proofs.Ytohknblokejldaa
end
section
/- The table of the package seal. -/
namespace Go.Proofs.Ytohknblokejldaa
open Go.RowKit
open Go.Lib (hid)
set_option linter.unusedVariables false

theorem seal_halves (w : World) : Calls Try.prog 113 #[] w fun e w' => e = .returned (.agg #[.int .u32 0, .int .u32 498536548, .int .u32 997073096, .int .u32 651767980, .int .u32 1994146192, .int .u32 1802195444, .int .u32 1303535960, .int .u32 1342533948, .int .u32 3988292384, .int .u32 4027552580, .int .u32 3604390888, .int .u32 3412177804, .int .u32 2607071920, .int .u32 2262029012, .int .u32 2685067896, .int .u32 3183342108]) ∧ Below w.heap.size w w' := by
  go_enter Try.func113, Try.ntmps113
  go_wp2
  go_returns
  exact ⟨rfl, by go_grown⟩

end Go.Proofs.Ytohknblokejldaa
end
section
/- Contracts of the package seal, and of its reference. -/
namespace Go.Proofs.Ytohknblokejldaa
open Go.RowKit
open Go.Lib (hid)
set_option linter.unusedVariables false

theorem u32_xor_c (x c : Nat) (hx : x < 4294967296) (hc : c < 256) : bits .xor .u32 (x : Int) (c : Int) = ((x ^^^ c : Nat) : Int) := u32_xor_nat x c hx (by omega)
theorem u32_and15 (x : Nat) (hx : x < 4294967296) : bits .and .u32 (x : Int) 15 = ((x % 16 : Nat) : Int) := by
  have := u32_and_nat x 15 hx (by omega)
  rw [show ((15 : Nat) : Int) = 15 from rfl] at this
  rw [this, show x &&& 15 = x % 2 ^ 4 from Nat.and_two_pow_sub_one_eq_mod x 4]

theorem xor_ones (x : Nat) (hx : x < 4294967296) : 4294967295 ^^^ x = 4294967295 - x := by
  have h := congrArg BitVec.toNat (BitVec.allOnes_xor (x := BitVec.ofNat 32 x))
  rw [BitVec.toNat_xor, BitVec.toNat_not, BitVec.toNat_allOnes, BitVec.toNat_ofNat, Nat.mod_eq_of_lt (by omega)] at h
  simpa using h
theorem u32_not (x : Nat) (hx : x < 4294967296) : bits .xor .u32 IntKind.u32.max (x : Int) = 4294967295 - (x : Int) := by
  have h := u32_xor_nat 4294967295 x (by omega) hx
  rw [xor_ones x hx] at h
  rw [show IntKind.u32.max = ((4294967295 : Nat) : Int) from rfl, h]
  omega

theorem bit1_lt (x : Nat) (hx : x < 4294967296) : bit1 x < 4294967296 := by
  unfold bit1
  split
  · exact Nat.xor_lt_two_pow (n := 32) (by omega) (by omega)
  · omega
theorem tab_lt (i : Nat) (hi : i < 16) : tab i < 4294967296 := bit1_lt _ (bit1_lt _ (bit1_lt _ (bit1_lt _ (by omega))))
theorem nib_lt (x : Nat) (hx : x < 4294967296) : nib x < 4294967296 := by
  unfold nib
  exact Nat.xor_lt_two_pow (n := 32) (by omega) (tab_lt _ (by omega))
theorem xor_lt (x c : Nat) (hx : x < 4294967296) (hc : c < 256) : x ^^^ c < 4294967296 := Nat.xor_lt_two_pow (n := 32) hx (by omega)
theorem crcStep_lt (x : Nat) (b : UInt8) (hx : x < 4294967296) : crcStep x b < 4294967296 := nib_lt _ (nib_lt _ (xor_lt _ _ hx b.toNat_lt))
theorem nib_eq (x : Nat) (hx : x < 4294967296) : bits .xor .u32 ((x : Int) / 16) ((tab (x % 16) : Nat) : Int) = ((nib x : Nat) : Int) := u32_xor_nat (x / 16) (tab (x % 16)) (by omega) (tab_lt _ (by omega))

theorem tab_cells (w : World) : ∀ i, i < 16 → (w.alloc (.cells #[.int .u32 0, .int .u32 498536548, .int .u32 997073096, .int .u32 651767980, .int .u32 1994146192, .int .u32 1802195444, .int .u32 1303535960, .int .u32 1342533948, .int .u32 3988292384, .int .u32 4027552580, .int .u32 3604390888, .int .u32 3412177804, .int .u32 2607071920, .int .u32 2262029012, .int .u32 2685067896, .int .u32 3183342108] 164)).cell? ⟨w.heap.size, i, none⟩ = some (.int .u32 ((tab i : Nat) : Int)) := by
  intro i hi
  rw [World.cell?_alloc_new]
  match i, hi with
  | 0, _ => rfl
  | 1, _ => rfl
  | 2, _ => rfl
  | 3, _ => rfl
  | 4, _ => rfl
  | 5, _ => rfl
  | 6, _ => rfl
  | 7, _ => rfl
  | 8, _ => rfl
  | 9, _ => rfl
  | 10, _ => rfl
  | 11, _ => rfl
  | 12, _ => rfl
  | 13, _ => rfl
  | 14, _ => rfl
  | 15, _ => rfl
  | n + 16, h => omega

theorem seal_Sum (ls : List (List UInt8)) (vs : List Value) (a : Option Addr) (n cap : Nat) (hn : Hid (n = ls.length)) (hm : n ≤ 9223372036854775807) (w : World) (hr : Rd w a vs) (hv : vs.length = n) (hvs : ∀ (i : Nat) (v : Value) (l : List UInt8), vs[i]? = some v → ls[i]? = some l → SlB w v l) :
   Calls Try.prog 92 #[.slice a n cap] w fun e w' => e = .returned (.int .u32 ((crc ls.flatten : Nat) : Int)) ∧ Below w.heap.size w w' := by
  have HVS := hid hvs
  clear hvs
  go_enter Try.func92, Try.ntmps92
  go_wp2_with (go_at_call 113; (with_reducible refine (seal_halves _).mono ?_); rintro e w1 ⟨rfl, hb⟩)
  obtain ⟨w2, hw2⟩ : ∃ w2, w2 = w1.alloc (.cells #[.int .u32 0, .int .u32 498536548, .int .u32 997073096, .int .u32 651767980, .int .u32 1994146192, .int .u32 1802195444, .int .u32 1303535960, .int .u32 1342533948, .int .u32 3988292384, .int .u32 4027552580, .int .u32 3604390888, .int .u32 3412177804, .int .u32 2607071920, .int .u32 2262029012, .int .u32 2685067896, .int .u32 3183342108] 164) := ⟨_, rfl⟩
  rw [← hw2]
  have htab : Hid (∀ i, i < 16 → w2.cell? ⟨w1.heap.size, i, none⟩ = some (.int .u32 ((tab i : Nat) : Int))) := by rw [hw2]; exact hid (tab_cells w1)
  have HB : Hid (Below w.heap.size w w2) := by rw [hw2]; exact hid (hb.alloc hb.size _)
  have hr2 : Rd w2 a vs := hr.below' HB.out
  obtain ⟨g, hg⟩ : ∃ g, g = w1.heap.size := ⟨_, rfl⟩
  rw [← hg] at htab ⊢
  clear hb hw2 hr hg
  go_loop [4, 12] (fun v4 v12 => ∃ k x : Nat, v4 = .int .u32 x ∧ v12 = .int .i64 k ∧ x < 4294967296 ∧ k ≤ n ∧ Hid (crcFrom x (ls.drop k).flatten = crcFrom 4294967295 ls.flatten)) (fun _ v12 => n - (intOf v12).toNat)
  case atStart => exact ⟨0, 4294967295, rfl, rfl, by omega, by omega, hid rfl⟩
  case round =>
    obtain ⟨k, x, rfl, rfl, hx, hk, hcrc⟩ := hrel
    by_cases hlt : k < n
    · obtain ⟨b, off, rfl, hc⟩ := hr2 k (by omega)
      obtain ⟨v, hvk⟩ : ∃ v, vs[k]? = some v := ⟨_, List.getElem?_eq_getElem (by omega)⟩
      obtain ⟨l, hlk⟩ : ∃ l, ls[k]? = some l := ⟨_, List.getElem?_eq_getElem (by have := hn.out; omega)⟩
      obtain ⟨al, capl, rfl, hll, hrl, -⟩ := HVS.out k v l hvk hlk
      have hrl2 := hrl.below' HB.out
      rw [hvk] at hc
      clear hvk hrl
      have HLK := hid hlk
      clear hlk
      go_wp2
      go_loop [4, 18] (fun v4 v18 => ∃ j y : Nat, v4 = .int .u32 y ∧ v18 = .int .i64 j ∧ y < 4294967296 ∧ j ≤ l.length ∧ Hid (crcFrom y (l.drop j) = crcFrom x l)) (fun _ v18 => l.length - (intOf v18).toNat)
      case atStart => exact ⟨0, x, rfl, rfl, by omega, by omega, hid rfl⟩
      case round =>
        obtain ⟨j, y, rfl, rfl, hy, hj, hcy⟩ := hrel
        by_cases hjl : j < l.length
        · obtain ⟨bb, oo, c, rfl, hcc, -, hd, -⟩ := hrl2.byte j hjl
          have HD := hid hd
          clear hd
          have hc1 := c.toNat_lt
          have e1 := u32_xor_c y c.toNat hy hc1
          obtain ⟨z, hz⟩ : ∃ z, z = y ^^^ c.toNat := ⟨_, rfl⟩
          have hz1 : z < 4294967296 := by rw [hz]; exact xor_lt _ _ hy hc1
          rw [← hz] at e1
          have e2 := u32_and15 z hz1
          have e3 := nib_eq z hz1
          have t1 := htab.out (z % 16) (by omega)
          have hz2 := nib_lt z hz1
          have e4 := u32_and15 (nib z) hz2
          have e5 := nib_eq (nib z) hz2
          have t2 := htab.out (nib z % 16) (by omega)
          have HZ := hid hz
          clear hz
          go_wp2
          go_round
          case rel => exact ⟨j + 1, nib (nib z), rfl, by go_num, nib_lt _ hz2, by omega, hid (by rw [← hcy.out, HD.out, HZ.out]; rfl)⟩
          case measure => simp [intOf]; omega
        · obtain rfl : j = l.length := by omega
          have hcy2 : y = crcFrom x l := by have := hcy.out; simpa [crcFrom] using this
          have hcrc2 : Hid (crcFrom y (ls.drop (k + 1)).flatten = crcFrom 4294967295 ls.flatten) := hid (by
            rw [← hcrc.out, hcy2]
            have hd : ls.drop k = l :: ls.drop (k + 1) := by
              have h := HLK.out
              obtain ⟨hk', hl'⟩ := List.getElem?_eq_some_iff.1 h
              rw [← hl']; exact List.drop_eq_getElem_cons hk'
            rw [hd, List.flatten_cons, crcFrom, crcFrom, crcFrom, List.foldl_append])
          clear hcy2
          go_wp2
          go_round
          case rel => exact ⟨k + 1, y, rfl, by go_num, hy, by omega, hcrc2⟩
          case measure => simp [intOf]; omega
    · obtain rfl : k = n := by omega
      have hx2 : x = crcFrom 4294967295 ls.flatten := by
        have := hcrc.out
        rw [List.drop_of_length_le (by have := hn.out; omega)] at this
        simpa [crcFrom] using this
      have hres : Hid (((crc ls.flatten : Nat) : Int) = 4294967295 - (x : Int)) := hid (by rw [crc, ← hx2]; omega)
      have hnot := u32_not x hx
      clear hx2
      go_wp2
      go_ret
      exact ⟨ret_int (by rw [hres.out]), HB.out⟩
end Go.Proofs.Ytohknblokejldaa
end
