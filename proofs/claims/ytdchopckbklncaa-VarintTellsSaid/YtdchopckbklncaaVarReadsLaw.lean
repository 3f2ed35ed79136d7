/- The law VarintReads, walked. -/
import Derived.Test.YtdchopckbklncaaVarInInts
import Derived.Test.YtdchopckbklncaaSlParts
namespace Go.Proofs.Ytdchopckbklncaa
open Go.RowKit
open Go.Lib (hid)
set_option linter.unusedVariables false

theorem refRead_in (m : List UInt8) (n : Int) (k : Nat) (h : refRead m = (n, k)) : inInt (some m) = if k = 0 then (0, none) else (n, some (m.drop k)) := by
  unfold refRead at h
  unfold inInt
  simp only [Option.getD_some]
  by_cases h0 : (readF m 0 0).1 = 0
  · rw [if_pos h0] at h ⊢
    simp only [Prod.mk.injEq] at h
    rw [if_pos h.2.symm]
  · rw [if_neg h0] at h ⊢
    simp only [Prod.mk.injEq] at h
    obtain ⟨rfl, rfl⟩ := h
    rw [if_neg h0]
    rcases readF_le m 0 0 with h1 | h1
    · exact absurd h1 h0
    · simp only [inTake]
      rw [if_neg (by omega)]
theorem refRead_le (m : List UInt8) (n : Int) (k : Nat) (h : refRead m = (n, k)) : k ≤ m.length ∧ (k = 0 → n = 0) ∧ -9223372036854775808 ≤ n ∧ n ≤ 9223372036854775807 := by
  have hb := inInt_bd (some m)
  have hi := refRead_in m n k h
  by_cases hk : k = 0
  · unfold refRead at h
    by_cases h0 : (readF m 0 0).1 = 0
    · rw [if_pos h0] at h; simp only [Prod.mk.injEq] at h; omega
    · rw [if_neg h0] at h; simp only [Prod.mk.injEq] at h; omega
  · rw [if_neg hk] at hi
    rw [hi] at hb
    refine ⟨?_, fun h => absurd h hk, hb.1, hb.2⟩
    unfold refRead at h
    rcases readF_le m 0 0 with h1 | h1
    · rw [if_pos h1] at h; simp only [Prod.mk.injEq] at h; omega
    · rw [if_neg (by omega)] at h; simp only [Prod.mk.injEq] at h; omega
/-- an In that has nothing to do with a slice -/
theorem slb_upd {w w' : World} {g : Nat} {a : Option Addr} {n c : Nat} {l : List UInt8} (h : SlB w (.slice a n c) l) (hu : Upd (fun k => k = g) w w') (hg : ∀ b off, a = some ⟨b, off, none⟩ → b ≠ g) : SlB w' (.slice a n c) l :=
  hu.slb h (fun b off ha e => hg b off ha e)
theorem below_upd {w w1 w2 : World} {g : Nat} (h : Below w.heap.size w w1) (hu : Upd (fun k => k = g) w1 w2) (hg : w.heap.size ≤ g) : Below w.heap.size w w2 :=
  h.trans (hu.below (B := w.heap.size) h.size (fun k _ e => by omega))
theorem ownsRow_len0 {w : World} {base : Nat} {e : TypeId} {v : Value} {n : Nat} {xs : List Value} {size : Nat} (h : w.ownsRow base e size v n xs) : ∃ a c, v = .slice a n c := by
  rcases h.2 with ⟨rfl, rfl⟩ | ⟨g, cap, cur, rfl, -⟩
  · exact ⟨_, _, rfl⟩
  · exact ⟨_, _, rfl⟩
theorem inInt_none : inInt none = (0, none) := rfl
theorem inBool_none : inBool none = (false, none) := rfl
theorem inBytes_none : inBytes 9 none = ([], none) := rfl
theorem inInts_none : inInts 9 none = ([], none) := rfl
theorem inDone_none : inDone none = false := rfl

set_option maxHeartbeats 800000 in
theorem VarintReads_walk (a0 : Option Addr) (len0 cap0 : Nat) (z0 : List Int) (w : World) (w0 : (a0 = none ∧ len0 = 0 ∧ cap0 = 0 ∧ z0 = []) ∨
      ∃ x, a0 = some x ∧ len0 ≤ cap0 ∧ cap0 ≤ maxLen ∧ z0.length = cap0 ∧ (∀ i, i < z0.length → w.cell? (x.add i) = some (.int .u8 (z0.getD i 0))) ∧ ∀ n ∈ z0, (Lit.int .u8 n).wf = true) :
    Calls Try.prog 6 #[.slice a0 len0 cap0] w fun e w' => e = .returned (.bool true) ∧ Below w.heap.size w w' := by
  obtain ⟨l, rfl, hl⟩ := slb_of_row w0
  clear w0
  by_cases hbig : 60 < l.length
  · go_enter Try.func6, Try.ntmps6
    go_wp2_with (go_at_call 22; (with_reducible refine (var_awake _).mono ?_); rintro e w1 ⟨rfl, hb1⟩)
    go_ret
    exact ⟨rfl, hb1⟩
  · have HL := hid hl
    go_enter Try.func6, Try.ntmps6
    go_wp2_with fail
    refine (var_NewIn l _ w HL.out (by omega)).mono ?_
    rintro e w1 ⟨g, D, rfl, hi1, hg, hD, hb1⟩
    have HI1 := hid hi1
    have HB1 := hid hb1
    have HG := hid hg
    clear hl hi1 hb1 hD hg
    go_wp2_with fail
    go_loopw [4] (fun v4 wr => ∃ j : Nat, v4 = .int .i64 j ∧ j ≤ l.length ∧ Hid (InIs wr g D (some (l.drop j))) ∧ Hid (Below w.heap.size w wr)) (fun v4 _ => l.length - (intOf v4).toNat)
    case atStart => exact ⟨0, rfl, by omega, HI1, HB1⟩
    case round =>
      obtain ⟨j, rfl, hj, hi, hb⟩ := hrel
      by_cases hjl : j < l.length
      · have hsl := HL.out.below hb.out
        rw [← List.take_append_drop j l] at hsl
        obtain ⟨b, off, c, e, hp1, hp2, hp3, hp4, hp5⟩ := hsl.parts (by simp; omega)
        have hlt : (l.take j).length = j := by rw [List.length_take]; omega
        have hld : (l.drop j).length = l.length - j := by rw [List.length_drop]
        rw [hlt, hld] at e hp1 hp3
        rw [hlt] at hp5
        rw [hld] at hp5
        have hjj : j + (l.length - j) = l.length := by omega
        rw [hjj] at e hp1 hp3
        have eSub : ((l.length - j : Nat) : Int) = (l.length : Int) - j := by omega
        obtain ⟨rfl, -, rfl⟩ : a0 = some ⟨b, off, none⟩ ∧ (l.take j ++ l.drop j).length = l.length ∧ cap0 = c := by
          simp only [Value.slice.injEq] at e
          exact ⟨e.1, by simp, e.2.2⟩
        have HP5 := hid hp5
        obtain ⟨n, k, hr⟩ : ∃ n k, refRead (l.drop j) = (n, k) := ⟨_, _, rfl⟩
        have HR := hid hr
        obtain ⟨hk, hk0, hn1, hn2⟩ := refRead_le _ n k hr
        have HIN := hid (refRead_in _ n k hr)
        rw [hld] at hk
        clear hsl hp4 hp5 hr e hlt hld hjj
        go_wp2_with fail
        refine (ref_Read (l.drop j) _ wr HP5.out n k HR).mono ?_
        rintro e w2 ⟨rfl, hb2⟩
        have HI2 := hid (hi.out.below hb2)
        have HB2 := hid (Below.next hb.out hb2)
        clear hb2
        by_cases hk00 : k = 0
        · subst hk00
          obtain rfl := hk0 rfl
          have HIN2 : Hid (inInt (some (l.drop j)) = (0, none)) := hid (by rw [HIN.out, if_pos rfl])
          clear hk0
          go_wp2_with fail
          refine (in_Int (some (l.drop j)) g D _ HI2.out 0 none HIN2).mono ?_
          rintro e w3 ⟨rfl, hi3, hu3⟩
          have HB3 := hid (below_upd HB2.out hu3 HG.out)
          clear hu3
          go_wp2_with (first | (go_at_call 25; (with_reducible refine (in_Bad none g D _ hi3).mono ?_); rintro e w' ⟨rfl, rfl⟩) | (go_at_call 21; (with_reducible refine (in_Done none g D _ hi3).mono ?_); rintro e w' ⟨rfl, rfl⟩))
          refine (in_Int none g D _ hi3 0 none (hid rfl)).mono ?_
          rintro e w4 ⟨rfl, hi4, hu4⟩
          have HB4 := hid (below_upd HB3.out hu4 HG.out)
          clear hu4 hi3
          go_wp2_with fail
          refine (in_Bool none g D _ hi4 false none (hid rfl)).mono ?_
          rintro e w5 ⟨rfl, hi5, hu5⟩
          have HB5 := hid (below_upd HB4.out hu5 HG.out)
          clear hu5 hi4
          go_wp2_with fail
          refine (in_Text 9 none g D _ hi5 (by simp) [] none (hid rfl) (by simp)).mono ?_
          rintro e w6 ⟨rfl, hi6, hu6⟩
          have HB6 := hid (below_upd HB5.out hu6 HG.out)
          clear hu6 hi5
          go_wp2_with fail
          refine (in_Ints 9 none g D _ hi6 (by simp) [] none (hid rfl)).mono ?_
          rintro e w7 ⟨v7, rfl, hown7, hi7, hu7⟩
          have HB7 := hid (below_upd HB6.out hu7 HG.out)
          have hlen0 := ownsRow_len0 hown7
          obtain ⟨a7, c7, rfl⟩ := hlen0
          clear hu7 hi6 hown7
          go_wp2_with fail
          refine (var_awake _).mono ?_
          rintro e w8 ⟨rfl, hb8⟩
          have HB8 := hid (Below.next HB7.out hb8)
          clear hb8
          go_wp2_with fail
          go_ret
          exact ⟨rfl, HB8.out⟩
        · have HIN2 : Hid (inInt (some (l.drop j)) = (n, some (l.drop (j + k)))) := hid (by rw [HIN.out, if_neg hk00, List.drop_drop])
          clear hk0
          go_wp2_with fail
          refine (in_Int (some (l.drop j)) g D _ HI2.out n _ HIN2).mono ?_
          rintro e w3 ⟨rfl, hi3, hu3⟩
          have HB3 := hid (below_upd HB2.out hu3 HG.out)
          clear hu3
          by_cases hend : j + k = l.length
          · have hdone : inDone (some (l.drop (j + k))) = true := by rw [hend, List.drop_length]; rfl
            have hendb : (((j : Int) + (k : Int)) == (l.length : Int)) = true := by simp; omega
            go_wp2_with (first | (go_at_call 25; (with_reducible refine (in_Bad (some (l.drop (j + k))) g D _ hi3).mono ?_); rintro e w' ⟨rfl, rfl⟩) | (go_at_call 21; (with_reducible refine (in_Done (some (l.drop (j + k))) g D _ hi3).mono ?_); rintro e w' ⟨rfl, rfl⟩))
            go_roundw
            case rel => exact ⟨j + k, by go_num, by omega, hid hi3, HB3⟩
            case measure => simp [intOf]; omega
          · have hdone : inDone (some (l.drop (j + k))) = false := by
              have : 0 < (l.drop (j + k)).length := by rw [List.length_drop]; omega
              cases hq : l.drop (j + k) with
              | nil => simp [hq] at this
              | cons => rfl
            have hendb : (((j : Int) + (k : Int)) == (l.length : Int)) = false := by simp; omega
            go_wp2_with (first | (go_at_call 25; (with_reducible refine (in_Bad (some (l.drop (j + k))) g D _ hi3).mono ?_); rintro e w' ⟨rfl, rfl⟩) | (go_at_call 21; (with_reducible refine (in_Done (some (l.drop (j + k))) g D _ hi3).mono ?_); rintro e w' ⟨rfl, rfl⟩))
            go_roundw
            case rel => exact ⟨j + k, by go_num, by omega, hid hi3, HB3⟩
            case measure => simp [intOf]; omega
      · go_wp2_with fail
        refine (var_awake _).mono ?_
        rintro e w8 ⟨rfl, hb8⟩
        have HB8 := hid (Below.next hb.out hb8)
        clear hb8
        go_wp2_with fail
        go_ret
        exact ⟨rfl, HB8.out⟩
end Go.Proofs.Ytdchopckbklncaa
