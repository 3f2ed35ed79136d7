/- Joined texts, in this order: SlotsMath, SlotsLoadMath, SlotsAwake, SlotsRef. Each one's first remark says what it proves; no condition beyond those that its theorems name. -/
import Derived.Test.YtohknblokejldaaJLawSlotsLoads22
import Derived.Test.YtohknblokejldaaJLawSlotsLoads12
import Derived.Test.YtohknblokejldaaJLawSlotsLoads10
section
/- The plain laws of slots. -/
namespace Go.Proofs.Ytohknblokejldaa
open Go.RowKit
open Go.Lib (hid)
set_option linter.unusedVariables false

theorem bytesR_form {e : Int} {l : List Int} {size : Int} {b : List UInt8} (hb : bytesR e l size = some b) : 14 ≤ size ∧ size ≤ 65544 ∧ (plainR e l).length + 14 ≤ size.toNat ∧ b = fitted (plainR e l) (size.toNat - 8) ++ be8 e ∧ b.length = size.toNat := by
  unfold bytesR at hb
  split at hb
  · cases hb
  · simp only [Option.some.injEq] at hb
    have e1 : (size - 8).toNat = size.toNat - 8 := by omega
    rw [e1] at hb
    refine ⟨by omega, by omega, by omega, hb.symm, ?_⟩
    rw [← hb, List.length_append, be8_len]
    unfold fitted
    rw [List.length_append, lowB_length, fitL_length _ _ (by omega)]
    omega
theorem parse_bytes {e : Int} {l : List Int} {size : Int} {b : List UInt8} (hr : rightR e l = true) (hb : bytesR e l size = some b) : parseR b = some (e, l) ∧ (b.length : Int) = size := by
  obtain ⟨h1, h2, h3, h4, h5⟩ := bytesR_form hb
  obtain ⟨q1, q2, q3, q4⟩ := right_bd hr
  have hlen : (b.length : Int) = size := by omega
  refine ⟨?_, hlen⟩
  unfold parseR
  rw [if_neg (by omega)]
  have ht : b.take (b.length - 8) = fitted (plainR e l) (size.toNat - 8) := by
    have : b.length - 8 = (fitted (plainR e l) (size.toNat - 8)).length := by
      have := congrArg List.length h4
      rw [List.length_append, be8_len] at this
      omega
    rw [this, h4, List.take_left]
  rw [ht, partL_fitted _ _ (by omega) (by omega), Option.bind_some]
  have hi : inInt (some (plainR e l)) = (e, some (enc (zz (l.length : Int)) ++ encs l)) := by
    unfold plainR
    rw [List.append_assoc]
    exact inInt_enc e (by omega) (by omega) _
  have hii : inInts 64 (some (enc (zz (l.length : Int)) ++ encs l)) = (l, some []) := inInts_enc 64 l (fun x hx => by have := q4 x hx; omega) (by omega) (by omega)
  rw [parseI_eq hi hii, hlen, if_pos ⟨rfl, hr, hb⟩]
theorem set_mix (D : List (List UInt8)) (k : Nat) (b : List UInt8) : mixF (fun _ b _ => b) D (aput [] (k : Int) b) [] = D.set k b := by
  apply List.ext_getElem?
  intro i
  rw [mixF_at, List.getElem?_set]
  by_cases hik : k = i
  · subst hik
    rw [if_pos rfl]
    cases hd : D[k]? with
    | none => simp [List.getElem?_eq_none_iff.1 hd]
    | some d =>
      have := (List.getElem?_eq_some_iff.1 hd).1
      simp [this, aput, adel]
  · rw [if_neg hik]
    have h2 : ((i : Int) == (k : Int)) = false := by simp; omega
    cases hd : D[i]? with
    | none => rfl
    | some d => simp [aput, adel, List.lookup, h2]
/-- a root is saved on a disk whose cache is empty, and whose power stays -/
theorem save_plain (s : Dk) (hok : s.Ok) (hd : s.down = false) (ha : s.armed = false) (hC : s.C = []) (h2 : 2 ≤ s.D.length) {e : Int} {l : List Int} {b : List UInt8} (hr : rightR e l = true) (hb : bytesR e l (s.size : Int) = some b) :
    ∃ d, dkSave s e l = (0, { s with D := s.D.set (e % 2).toNat b, C := [], done := d }) := by
  obtain ⟨q1, q2, -, -⟩ := right_bd hr
  have hbl := (bytesR_form hb).2.2.2.2
  have hbl2 : b.length = s.size := by omega
  have ho : outB e l (s.size : Int) = (b, 0) := by unfold outB; rw [if_pos hr, hb]
  have hck : dkCheck s (e % 2) = 0 := by unfold dkCheck; rw [hd, if_neg (by simp), if_neg (by omega)]
  unfold dkSave
  rw [ho]
  simp only [ne_eq, not_true_eq_false, if_false]
  rw [if_neg (by omega)]
  obtain ⟨k, hk⟩ : ∃ k : Nat, e % 2 = (k : Int) := ⟨(e % 2).toNat, by omega⟩
  have hw : dkWrite s (e % 2) b = (0, { s with C := aput [] (k : Int) b, done := wrap64 (s.done + 1) }) := by
    unfold dkWrite
    rw [hck]
    simp [hbl2, dkCommand, ha, hC, hk]
  rw [hw]
  simp only [ne_eq, not_true_eq_false, if_false]
  refine ⟨wrap64 (wrap64 (s.done + 1) + 1), ?_⟩
  unfold dkFlush
  simp only [hd, Bool.false_eq_true, if_false]
  simp only [dkCommand, ha, Bool.false_eq_true, if_false, ne_eq, not_true_eq_false]
  rw [flushD, hk, Int.toNat_natCast]
  simp only
  rw [set_mix]

theorem Dk.Ok.setD {s : Dk} (h : s.Ok) (k : Nat) {b : List UInt8} (hb : b.length = s.size) (d : Int) : Dk.Ok { s with D := s.D.set k b, C := [], done := d } := by
  refine ⟨fun p hp => by simp at hp, fun x hx => ?_, by simpa using h.pos, by simpa using h.le, h.sz, h.sz0⟩
  rcases List.mem_or_eq_of_mem_set hx with h1 | h1
  · exact h.sec x h1
  · rw [h1]; exact hb
theorem dkNew_ok (n size : Nat) (h1 : 1 ≤ n) (h2 : n ≤ 4096) (h3 : 16 ≤ size) (h4 : size ≤ 4096) : (dkNew n size).Ok := by
  refine ⟨fun p hp => by simp [dkNew] at hp, fun x hx => ?_, by simp [dkNew]; omega, by simp [dkNew]; omega, h4, h3⟩
  simp [dkNew] at hx
  rw [hx.2]; simp [dkNew]
theorem small_bytes (e x : Int) (he1 : 1 ≤ e) (he : e ≤ 63) (hx0 : 0 ≤ x) (hx : x ≤ 63) (size : Int) (h1 : 20 ≤ size) (h2 : size ≤ 65544) : rightR e [x] = true ∧ ∃ b, bytesR e [x] size = some b := by
  have hl : (plainR e [x]).length = 3 := by
    have z1 : zz e < 128 := by unfold zz; split <;> omega
    have z2 : zz x < 128 := by unfold zz; split <;> omega
    have z3 : zz (([x] : List Int).length : Int) < 128 := by show zz 1 < 128; decide
    unfold plainR
    rw [encs, encs, enc_small _ z1, enc_small _ z2, enc_small _ z3]
    rfl
  refine ⟨?_, ?_⟩
  · unfold rightR badN
    simp; omega
  · unfold bytesR
    rw [hl, if_neg (by omega)]
    exact ⟨_, rfl⟩
/-- two roots, one behind the other, on a new disk -/
theorem awake06 : ∃ s1 s2 : Dk, dkSave (dkNew 3 64) 1 [5] = (0, s1) ∧ s1.Ok ∧ dkSave s1 2 [6] = (0, s2) ∧ s2.Ok ∧ dkLoad s2 = ((2, [6]), 0) ∧ dkSave s2 0 [] = (10, s2) := by
  obtain ⟨r1, b1, hb1⟩ := small_bytes 1 5 (by omega) (by omega) (by omega) (by omega) 64 (by omega) (by omega)
  obtain ⟨r2, b2, hb2⟩ := small_bytes 2 6 (by omega) (by omega) (by omega) (by omega) 64 (by omega) (by omega)
  have l1 : b1.length = 64 := (bytesR_form hb1).2.2.2.2
  have l2 : b2.length = 64 := (bytesR_form hb2).2.2.2.2
  have ok0 := dkNew_ok 3 64 (by omega) (by omega) (by omega) (by omega)
  obtain ⟨d1, h1⟩ := save_plain (dkNew 3 64) ok0 rfl rfl rfl (by simp [dkNew]) r1 hb1
  have ok1 := ok0.setD (1 % 2 : Int).toNat (b := b1) l1 d1
  obtain ⟨d2, h2⟩ := save_plain _ ok1 rfl rfl rfl (by simp [dkNew]) r2 hb2
  have ok2 := ok1.setD (2 % 2 : Int).toNat (b := b2) l2 d2
  refine ⟨_, _, h1, ok1, h2, ok2, ?_, ?_⟩
  · have p1 := (parse_bytes r1 hb1).1
    have p2 := (parse_bytes r2 hb2).1
    unfold dkLoad
    simp [dkNew, loadN, dkSector, pickB, p1, p2, List.lookup]
  · unfold dkSave
    have : outB 0 [] 64 = ([], 10) := by unfold outB; rw [if_neg]; decide
    simp [dkNew, this]
end Go.Proofs.Ytohknblokejldaa
end
section
/- Plain: what Load finds on a disk of two written sectors. -/
namespace Go.Proofs.Ytohknblokejldaa
open Go.RowKit
open Go.Lib (hid)
set_option linter.unusedVariables false

def z256 : List UInt8 := List.replicate 256 0
theorem z256_len : z256.length = 256 := List.length_replicate
theorem new4 : dkNew 4 256 = ⟨256, [z256, z256, z256, z256], [], false, 0, false, 0⟩ := rfl
/-- a sector of the law -/
def secR (e : Int) (l : List Int) : List UInt8 := if rightR e l = true then (bytesR e l 256).getD z256 else z256
theorem secR_len (e : Int) (l : List Int) : (secR e l).length = 256 := by
  unfold secR
  split
  · cases h : bytesR e l 256 with
    | none => simpa using z256_len
    | some b => simpa using (bytesR_form h).2.2.2.2
  · exact z256_len
/-- one bit is turned -/
def flipB (p : List UInt8 × List UInt8) (n : Int) : List UInt8 × List UInt8 :=
  if n < 0 then p else if n % 2 = 0 then (p.1.modify (n / 2 % 256).toNat (· ^^^ 1), p.2) else (p.1, p.2.modify (n / 2 % 256).toNat (· ^^^ 1))
def bendsB : List Int → List UInt8 × List UInt8 → List UInt8 × List UInt8
  | [], p => p
  | n :: t, p => bendsB t (flipB p n)
theorem flipB_len {p : List UInt8 × List UInt8} {n : Int} (h : p.1.length = 256 ∧ p.2.length = 256) : (flipB p n).1.length = 256 ∧ (flipB p n).2.length = 256 := by
  unfold flipB
  split
  · exact h
  · split
    · exact ⟨by simpa using h.1, h.2⟩
    · exact ⟨h.1, by simpa using h.2⟩
theorem bendsB_len : ∀ (l : List Int) {p : List UInt8 × List UInt8}, p.1.length = 256 ∧ p.2.length = 256 → (bendsB l p).1.length = 256 ∧ (bendsB l p).2.length = 256
  | [], _, h => h
  | n :: t, _, h => bendsB_len t (flipB_len h)
def best2 (l0 l1 : List UInt8) : Int × List Int := pickB (pickB (0, []) 0 l0) 1 l1
theorem pickB_zero {best : Int × List Int} {i : Int} {b : List UInt8} (h : 0 ≤ best.1) (h0 : best.1 = 0 → best = (0, [])) : 0 ≤ (pickB best i b).1 ∧ ((pickB best i b).1 = 0 → pickB best i b = (0, [])) := by
  unfold pickB
  split
  · split
    · rename_i r _ hr
      exact ⟨by omega, fun q => by omega⟩
    · exact ⟨h, h0⟩
  · exact ⟨h, h0⟩
theorem best2_zero (l0 l1 : List UInt8) : 0 ≤ (best2 l0 l1).1 ∧ ((best2 l0 l1).1 = 0 → best2 l0 l1 = (0, [])) := by
  have h := pickB_zero (best := (0, [])) (i := 0) (b := l0) (by simp) (fun _ => rfl)
  exact pickB_zero h.1 h.2
theorem loads07 {l0 l1 : List UInt8} (h0 : l0.length = 256) (h1 : l1.length = 256) :
    ∃ s1 s2 : Dk, dkWrite (dkNew 4 256) 0 l0 = (0, s1) ∧ dkWrite s1 1 l1 = (0, s2) ∧ s2.Ok ∧ dkLoad s2 = (best2 l0 l1, if (best2 l0 l1).1 = 0 then 14 else 0) := by
  have ok0 := dkNew_ok 4 256 (by omega) (by omega) (by omega) (by omega)
  have hw0 : dkWrite (dkNew 4 256) 0 l0 = (0, ⟨256, [z256, z256, z256, z256], [(0, l0)], false, 0, false, 1⟩) := by
    rw [new4]; simp [dkWrite, dkCheck, h0, aput, adel, dkCommand, wrap64]
  have hw1 : dkWrite ⟨256, [z256, z256, z256, z256], [(0, l0)], false, 0, false, 1⟩ 1 l1 = (0, ⟨256, [z256, z256, z256, z256], aput [(0, l0)] 1 l1, false, 0, false, 2⟩) := by
    simp [dkWrite, dkCheck, h1, dkCommand, wrap64]
  have ok1 : Dk.Ok { dkNew 4 256 with C := aput (dkNew 4 256).C 0 l0 } := ok0.put 0 l0 (by omega) (by rw [new4]; simp) (by rw [new4]; exact h0)
  have ok2 := ok1.put 1 l1 (by omega) (by rw [new4]; simp) (by rw [new4]; exact h1)
  refine ⟨_, _, hw0, hw1, ok2.of_same (by rw [new4]) (by rw [new4]; simp [aput, adel]) (by rw [new4]), ?_⟩
  have hl : loadN ⟨256, [z256, z256, z256, z256], aput [(0, l0)] 1 l1, false, 0, false, 2⟩ 2 = best2 l0 l1 := by
    simp [loadN, dkSector, best2, aput, adel, List.lookup]
  have hz := (best2_zero l0 l1).2
  unfold dkLoad
  simp only [List.length_cons, List.length_nil, Bool.false_eq_true, if_false, show min 2 (0 + 1 + 1 + 1 + 1) = 2 from rfl, hl]
  split
  · rename_i h; rw [hz h]
  · rfl
end Go.Proofs.Ytohknblokejldaa
end
section
/- The fixed answer of the laws of slots. -/
namespace Go.Proofs.Ytohknblokejldaa
open Go.RowKit
open Go.Lib (hid)
set_option linter.unusedVariables false

theorem sli_one {w : World} {g : Nat} {x : Int} (h : Blk w g #[.int .i64 x]) : SlI w (.slice (some ⟨g, 0, none⟩) 1 1) [x] :=
  ⟨_, 1, rfl, fun i hi => ⟨g, 0, rfl, by
    obtain rfl : i = 0 := by simp at hi; omega
    rw [Nat.zero_add, h.cell]; rfl⟩, by simp, by omega, nofun⟩
set_option maxRecDepth 100000 in
set_option maxHeartbeats 2000000 in
theorem law06_awake (w : World) : Calls Try.prog 13 #[] w fun e w' => e = .returned (.bool true) ∧ Below w.heap.size w w' := by
  obtain ⟨s1, s2, h1, ok1, h2, ok2, h3, h4⟩ := awake06
  have ok0 := dkNew_ok 3 64 (by omega) (by omega) (by omega) (by omega)
  have H1 := hid h1
  have H2 := hid h2
  have H3 := hid h3
  have H4 := hid h4
  have K0 := hid ok0
  have K1 := hid ok1
  have K2 := hid ok2
  clear h1 h2 h3 h4 ok0 ok1 ok2
  go_enter Try.func13, Try.ntmps13
  go_wp2_with fail
  refine (disk_New 3 64 (by omega) (by omega) (by omega) (by omega) w).mono ?_
  rintro e w1 ⟨g, W, R, rfl, hi1, hw1, hr1, hb1⟩
  have HI1 := hid hi1
  have HW1 := hid hw1
  have HB1 := hid hb1
  clear hi1 hw1 hr1 hb1
  go_wp2_with fail
  have hb2 : Below w1.heap.size w1 (w1.alloc (.cells #[.int .i64 5] 3)) := Below.new _ _
  refine (slots_Save (dkNew 3 64) K0.out 1 [5] _ g W R _ (HI1.out.below hb2) (sli_one (Blk.new w1 _ _)) 0 s1 H1).mono ?_
  rintro e w2 ⟨R2, rfl, hi2, -, hu2⟩
  have HI2 := hid hi2
  have HB2 : Hid (Below w.heap.size w w2) := hid ((Below.next HB1.out hb2).trans (hu2.below (Below.next HB1.out hb2).size (fun k _ hk => HW1.out k hk)))
  clear hi2 hu2 hb2
  go_wp2_with fail
  have hb3 : Below w2.heap.size w2 (w2.alloc (.cells #[.int .i64 6] 3)) := Below.new _ _
  refine (slots_Save s1 K1.out 2 [6] _ g W R2 _ (HI2.out.below hb3) (sli_one (Blk.new w2 _ _)) 0 s2 H2).mono ?_
  rintro e w3 ⟨R3, rfl, hi3, -, hu3⟩
  have HI3 := hid hi3
  have HB3 : Hid (Below w.heap.size w w3) := hid ((Below.next HB2.out hb3).trans (hu3.below (Below.next HB2.out hb3).size (fun k _ hk => HW1.out k hk)))
  clear hi3 hu3 hb3
  go_wp2_with fail
  refine (slots_Load s2 K2.out g W R3 w3 HI3.out (2, [6]) 0 H3).mono ?_
  rintro e w4 ⟨v4, rfl, hs4, hb4⟩
  obtain ⟨q4, d4, rfl, hrd, hc4, hd4, -⟩ := hs4
  obtain ⟨b4, o4, x4, rfl, hcell, hx4, -, -, -⟩ := hrd.int 0 (by simp)
  simp only [List.getElem?_cons_zero, Option.some.injEq] at hx4
  subst hx4
  rw [Nat.add_zero] at hcell
  have HI4 := hid (HI3.out.below hb4)
  have HB4 := hid (Below.next HB3.out hb4)
  clear hrd hb4 hc4
  go_upto_region 5 with fail
  obtain ⟨w5, hw5⟩ : ∃ w5, w5 = w4.alloc (.cells #[.int .i64 2, .slice (some ⟨b4, o4, none⟩) 1 d4] 24) := ⟨_, rfl⟩
  rw [← hw5]
  have hb5 : Below w4.heap.size w4 w5 := by rw [hw5]; exact Below.new _ _
  have hx5 : Blk w5 w4.heap.size #[.int .i64 2, .slice (some ⟨b4, o4, none⟩) 1 d4] := by rw [hw5]; exact Blk.new _ _ _
  have hcell5 : w5.cell? ⟨b4, o4, none⟩ = some (.int .i64 6) := by rw [← hcell]; exact World.cell?_of_block (hb5.block _ (World.block_lt_of_cell? w4 _ hcell))
  obtain ⟨hy0, hy1, -⟩ := hx5.c2
  have HI5 := hid (HI4.out.below hb5)
  have HB5 := hid (Below.next HB4.out hb5)
  clear hw5 hb5 hx5 hcell
  go_wp2_with fail
  refine (slots_Save s2 K2.out 0 [] _ g W R3 w5 HI5.out (SlI.nil _) 10 s2 H4).mono ?_
  rintro e w6 ⟨R6, rfl, -, -, hu6⟩
  have HB6 : Hid (Below w.heap.size w w6) := hid (HB5.out.trans (hu6.below HB5.out.size (fun k _ hk => HW1.out k hk)))
  clear hu6 hy0 hy1 hcell5
  go_wp2_with fail
  go_ret
  exact ⟨rfl, HB6.out⟩
end Go.Proofs.Ytohknblokejldaa
end
section
/- Contracts: the document's answer for slots. -/
namespace Go.Proofs.Ytohknblokejldaa
open Go.RowKit
open Go.Lib (hid)
set_option linter.unusedVariables false

set_option maxRecDepth 100000 in
theorem ref06_Right (e : Int) (l : List Int) (v : Value) (w : World) (hs : SlI w v l) (b : Bool) (hb : Hid (rightR e l = b)) :
    Calls Try.prog 14 #[.int .i64 e, v] w fun en w' => en = .returned (.bool b) ∧ w = w' := by
  obtain ⟨a, c, rfl, hrd, g1, g2, -⟩ := hs
  have h64 : l.length ≤ 9223372036854775807 := by omega
  have h := hb.out
  unfold rightR at h
  clear g1 g2 hb
  by_cases h1 : e < 1
  · have d1 : decide (1 ≤ e) = false := decide_eq_false (by omega)
    simp only [d1, Bool.false_and] at h
    subst h
    go_enter Try.func14, Try.ntmps14
    go_wp2
    go_ret
    exact ⟨rfl, rfl⟩
  by_cases h2 : 1099511627776 < e
  · have d2 : decide (e ≤ 1099511627776) = false := decide_eq_false (by omega)
    simp only [d2, Bool.and_false, Bool.false_and] at h
    subst h
    clear d2
    go_enter Try.func14, Try.ntmps14
    go_wp2
    go_ret
    exact ⟨rfl, rfl⟩
  by_cases h3 : 64 < l.length
  · have d3 : decide (l.length ≤ 64) = false := decide_eq_false (by omega)
    simp only [d3, Bool.and_false, Bool.false_and] at h
    subst h
    have h4 : (64 : Int) < (l.length : Int) := by omega
    clear d3
    go_enter Try.func14, Try.ntmps14
    go_wp2
    go_ret
    exact ⟨rfl, rfl⟩
  have d1 : decide (1 ≤ e) = true := decide_eq_true (by omega)
  have d2 : decide (e ≤ 1099511627776) = true := decide_eq_true (by omega)
  have d3 : decide (l.length ≤ 64) = true := decide_eq_true (by omega)
  simp only [d1, d2, d3, Bool.true_and, Bool.and_self] at h
  have H := hid h
  have h4 : ¬ (64 : Int) < (l.length : Int) := by omega
  clear d1 d2 d3 h h3
  go_enter Try.func14, Try.ntmps14
  go_wp2
  go_loop [5] (fun v5 => ∃ (k : Nat), v5 = .int .i64 k ∧ k ≤ l.length ∧ Hid ((!(l.drop k).any badN) = b)) (fun v5 => l.length - (intOf v5).toNat)
  case atStart => exact ⟨0, rfl, by omega, H⟩
  case round =>
    obtain ⟨k, rfl, hk, hsum⟩ := hrel
    by_cases hlt : k < l.length
    · obtain ⟨bb, off, y, rfl, hc, -, hd, -, -⟩ := hrd.int k hlt
      have h1 := hsum.out
      rw [hd, List.any_cons] at h1
      unfold badN at h1
      clear hd
      by_cases hy : y < 0
      · simp only [hy, decide_true, Bool.true_or, Bool.not_true] at h1
        subst h1
        go_wp2
        go_ret
        exact ⟨rfl, rfl⟩
      · by_cases hy2 : 4095 < y
        · have d : decide (4096 ≤ y) = true := decide_eq_true (by omega)
          simp only [d, Bool.true_or, Bool.or_true, Bool.not_true] at h1
          subst h1
          clear d
          go_wp2
          go_ret
          exact ⟨rfl, rfl⟩
        · have d : decide (4096 ≤ y) = false := decide_eq_false (by omega)
          have d0 : decide (y < 0) = false := decide_eq_false hy
          simp only [d, d0, Bool.false_or] at h1
          have H1 : Hid ((!(l.drop (k + 1)).any badN) = b) := hid h1
          clear d d0 h1
          go_wp2
          go_round
          case rel => exact ⟨k + 1, by go_num, by omega, H1⟩
          case measure => simp [intOf]; omega
    · have h1 := hsum.out
      rw [List.drop_of_length_le (by omega)] at h1
      simp only [List.any_nil, Bool.not_false] at h1
      subst h1
      go_wp2
      go_ret
      exact ⟨rfl, rfl⟩
set_option maxRecDepth 100000 in
set_option maxHeartbeats 1000000 in
theorem ref06_Plain (e : Int) (l : List Int) (v : Value) (w : World) (hs : SlI w v l) (he1 : -9223372036854775808 ≤ e) (he2 : e ≤ 9223372036854775807) (hbd : Hid (∀ x ∈ l, -9223372036854775808 ≤ x ∧ x ≤ 9223372036854775807)) (hl : l.length ≤ 10000) (p : List UInt8) (hp : Hid (plainR e l = p)) :
    Calls Try.prog 52 #[.int .i64 e, v] w fun en w' => ∃ u, en = .returned u ∧ w'.ownsRow w.heap.size 5 1 u p.length (bv p) ∧ Below w.heap.size w w' := by
  have HS := hid hs
  obtain ⟨a, c, rfl, -⟩ := hs
  have HE := hid (enc_len10 (zz e) (zz_lt e (by omega) (by omega)))
  have HE2 := hid (enc_len10 (zz (l.length : Int)) (zz_lt _ (by omega) (by omega)))
  have HES := hid (encs_le l hbd.out)
  obtain ⟨x, hx⟩ : ∃ x, enc (zz e) = x := ⟨_, rfl⟩
  obtain ⟨y, hy⟩ : ∃ y, enc (zz (l.length : Int)) ++ encs l = y := ⟨_, rfl⟩
  have HX := hid hx
  have HY := hid hy
  have hpx : p = x ++ y := by rw [← hp.out, plainR, List.append_assoc, hx, hy]
  have hxl : x.length ≤ 10 := by rw [← hx]; exact HE.out
  have hyl : y.length ≤ 200000 := by rw [← hy]; have := HE2.out; have := HES.out; simp; omega
  have HPX := hid hpx
  clear hx hy hpx hp
  go_enter Try.func52, Try.ntmps52
  go_wp2_with fail
  refine (ref_Int e he1 he2 w).mono ?_
  rintro en w1 ⟨v1, rfl, hown1, hb1⟩
  rw [HX.out] at hown1
  have HO1 := hid hown1
  have HB1 := hid hb1
  clear hown1 hb1
  go_wp2_with fail
  have hrd : Rd w1 a (iv l) := by
    obtain ⟨a', c', e1, h1, -⟩ := HS.out.below HB1.out
    simp only [Value.slice.injEq] at e1
    obtain ⟨rfl, -, rfl⟩ := e1
    exact h1
  refine (ref_Ints l hbd a _ c rfl (by omega) w1 hrd y (hid HY.out.symm)).mono ?_
  rintro en w2 ⟨v2, rfl, hown2, hb2⟩
  have HO12 := hid (owns_below HO1.out hb2)
  have HB2 := hid (Below.next HB1.out hb2)
  obtain ⟨a2, c2, rfl, q1, q2, hr2, hn2⟩ := ownsRow.rd hown2
  have HR2 := hid hr2
  have HN2 := hid hn2
  have hby : (x.length + y.length) * 1 ≤ 140737488355328 := by omega
  have hsz := HB2.out.size
  have hvl : (bv y).length = y.length * 1 := by rw [bv_length]; omega
  have HVL := hid hvl
  clear hown2 hb2 hr2 hn2 q1 q2 hrd hvl
  go_wp2_with (at_builtin; refine wpList_appendNw T_bytes _ rfl _ _ rfl w.heap.size _ _ _ rfl HO12.out a2 y.length c2 (bv y) rfl HVL.out (fun _ h => HN2.out h) HR2.out (bv_oneCell y) hby hsz ?_)
  intro v' w3 hown3 hgrow hnil hwh
  have HO3 : Hid (w3.ownsRow w.heap.size 5 1 v' p.length (bv p)) := hid (by rw [HPX.out, bv_append, List.length_append]; exact hown3)
  have HB3 := hid (HB2.out.grown hgrow hsz (fun j hj => (HO12.out.lt j hj).1))
  clear hown3 hgrow hnil hwh
  go_wp2_with fail
  go_ret
  exact ⟨_, rfl, HO3.out, HB3.out⟩
end Go.Proofs.Ytohknblokejldaa
end
