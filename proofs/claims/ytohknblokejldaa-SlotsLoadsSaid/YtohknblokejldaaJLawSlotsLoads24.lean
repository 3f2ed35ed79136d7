/- Joined texts, in this order: SlotsRef2, OpenE. Each one's first remark says what it proves; no condition beyond those that its theorems name. -/
import Derived.Test.YtohknblokejldaaJLawSlotsLoads23
import Derived.Test.YtohknblokejldaaJLawSlotsLoads02
import Derived.Test.YtohknblokejldaaJLawSlotsLoads03
import Derived.Deep.Slices
import Derived.Deep.Fields
import Derived.ChangeSame
import Derived.OpenShut
section
/- Contract: the document's bytes of a root. -/
namespace Go.Proofs.Ytohknblokejldaa
open Go.RowKit
open Go.Lib (hid)
set_option linter.unusedVariables false

theorem lowB_split (n : Nat) : lowB n 8 = lowB (n % 4294967296) 4 ++ lowB (n / 4294967296) 4 := by
  simp only [lowB, List.cons_append, List.nil_append, Nat.div_div_eq_div_mul]
  have e0 : n % 4294967296 % 256 = n % 256 := by omega
  have e1 : n % 4294967296 / 256 % 256 = n / 256 % 256 := by omega
  have e2 : n % 4294967296 / (256 * 256) % 256 = n / (256 * 256) % 256 := by omega
  have e3 : n % 4294967296 / (256 * (256 * 256)) % 256 = n / (256 * (256 * 256)) % 256 := by omega
  simp only [← Nat.mul_assoc] at e2 e3 ⊢
  simp only [e0, e1, e2, e3]
theorem be8_split (n : Nat) : be8 (n : Int) = (lowB (n / 4294967296) 4).reverse ++ (lowB (n % 4294967296) 4).reverse := by
  rw [be8, Int.toNat_natCast, lowB_split, List.reverse_append]
/-- a counter that goes down from 3 -/
def Cnt (v : Value) (k : Nat) : Prop := (k = 0 ∧ v = .int .i64 3) ∨ (k = 1 ∧ v = .int .i64 2) ∨ (k = 2 ∧ v = .int .i64 1) ∨ (k = 3 ∧ v = .int .i64 0) ∨ (k = 4 ∧ v = .int .i64 (-1))
theorem own_app4 {w : World} {B : Nat} {v : Value} {f acc q : List UInt8} {y : UInt8} (k : Nat) (hacc : acc = f ++ q.reverse.take k) (h : w.ownsRow B 5 1 v (acc.length + 1) (bv acc ++ [Value.int .u8 ((y : UInt8).toNat : Int)])) (hq : q.length = 4) (hk : k < 4) (hy : q[3 - k]? = some y) :
    w.ownsRow B 5 1 v (f ++ q.reverse.take (k + 1)).length (bv (f ++ q.reverse.take (k + 1))) := by
  have e1 : q.reverse[k]? = some y := by
    rw [List.getElem?_reverse (by omega), ← hy, hq]
  have e2 : q.reverse.take (k + 1) = q.reverse.take k ++ [y] := by
    rw [List.take_add_one, e1]; rfl
  rw [e2, ← List.append_assoc, ← hacc, bv_append, bv_one, List.length_append]
  exact h
set_option maxRecDepth 100000 in
set_option maxHeartbeats 4000000 in
theorem ref06_Bytes (n : Nat) (l : List Int) (v : Value) (size : Int) (w : World) (hs : SlI w v l) (hz1 : -9223372036854775808 ≤ size) (hz2 : size ≤ 9223372036854775807) (hri : rightR (n : Int) l = true) (r : Option (List UInt8)) (hr : Hid (bytesR (n : Int) l size = r)) :
    Calls Try.prog 18 #[.int .i64 (n : Int), v, .int .i64 size] w fun en w' => ∃ u, en = .returned (.tuple #[u, .bool r.isSome]) ∧ w'.ownsRow w.heap.size 5 1 u (r.getD []).length (bv (r.getD [])) ∧ Below w.heap.size w w' := by
  have HS := hid hs
  obtain ⟨a, c, rfl, -⟩ := hs
  obtain ⟨p, hp⟩ : ∃ p, plainR (n : Int) l = p := ⟨_, rfl⟩
  have HP := hid hp
  have hpl : p.length ≤ 700 := by rw [← hp]; exact plain_len hri
  have h := hr.out
  unfold bytesR at h
  rw [hp] at h
  obtain ⟨q1, q2, q3, q4⟩ := right_bd hri
  have HBD : Hid (∀ x ∈ l, -9223372036854775808 ≤ x ∧ x ≤ 9223372036854775807) := hid (fun x hx => by have := q4 x hx; omega)
  have hn : n ≤ 1099511627776 := by omega
  have hl64 : l.length ≤ 64 := q3
  clear hp q1 q2 q3 q4 hri hr
  by_cases g1 : size < 14
  · rw [if_pos (.inl g1)] at h; subst h
    go_enter Try.func18, Try.ntmps18
    go_wp2_with fail
    refine (ref06_Plain (n : Int) l _ w HS.out (by omega) (by omega) HBD (by omega) p HP).mono ?_
    rintro en w1 ⟨v1, rfl, hown1, hb1⟩
    have HB1 := hid hb1
    clear hown1 hb1
    go_wp2_with fail
    go_ret2
    exact ⟨_, rfl, World.ownsRow_nil _ _ _ _, HB1.out⟩
  by_cases g2 : 65544 < size
  · rw [if_pos (.inr (.inl g2))] at h; subst h
    go_enter Try.func18, Try.ntmps18
    go_wp2_with fail
    refine (ref06_Plain (n : Int) l _ w HS.out (by omega) (by omega) HBD (by omega) p HP).mono ?_
    rintro en w1 ⟨v1, rfl, hown1, hb1⟩
    have HB1 := hid hb1
    clear hown1 hb1
    go_wp2_with fail
    go_ret2
    exact ⟨_, rfl, World.ownsRow_nil _ _ _ _, HB1.out⟩
  by_cases g3 : size < (p.length : Int) + 14
  · rw [if_pos (.inr (.inr g3))] at h; subst h
    have g4 : size - 14 < (p.length : Int) := by omega
    go_enter Try.func18, Try.ntmps18
    go_wp2_with fail
    refine (ref06_Plain (n : Int) l _ w HS.out (by omega) (by omega) HBD (by omega) p HP).mono ?_
    rintro en w1 ⟨v1, rfl, hown1, hb1⟩
    obtain ⟨a1, c1, rfl, -⟩ := ownsRow.rd hown1
    have HB1 := hid hb1
    clear hown1 hb1
    go_wp2_with fail
    go_ret2
    exact ⟨_, rfl, World.ownsRow_nil _ _ _ _, HB1.out⟩
  rw [if_neg (by omega)] at h
  have g4 : ¬ size - 14 < (p.length : Int) := by omega
  have g5 : (size - 8) = (((size - 8).toNat : Nat) : Int) := by omega
  have G5 := hid g5
  obtain ⟨f, hf⟩ : ∃ f, fitted p (size - 8).toNat = f := ⟨_, rfl⟩
  have hfl : f.length ≤ 65536 := by
    rw [← hf]; unfold fitted
    rw [List.length_append, fitL_length _ _ (by omega), lowB_length]; omega
  obtain ⟨hi, hhi⟩ : ∃ hi, lowB (n / 4294967296) 4 = hi := ⟨_, rfl⟩
  obtain ⟨lo, hlo⟩ : ∃ lo, lowB (n % 4294967296) 4 = lo := ⟨_, rfl⟩
  have h2 : r = some (f ++ hi.reverse ++ lo.reverse) := by rw [← h, hf, be8_split, hhi, hlo, List.append_assoc]
  have hhl : hi.length = 4 := by rw [← hhi, lowB_length]
  have hll : lo.length = 4 := by rw [← hlo, lowB_length]
  have HF := hid hf
  have HHI := hid hhi
  have HLO := hid hlo
  have HRR := hid h2
  have HHL := hid hhl
  have HLL := hid hll
  have HFL := hid hfl
  clear h g5 hf hhi hlo h2 hhl hll hfl
  go_enter Try.func18, Try.ntmps18
  go_wp2_with fail
  refine (ref06_Plain (n : Int) l _ w HS.out (by omega) (by omega) HBD (by omega) p HP).mono ?_
  rintro en w1 ⟨v1, rfl, hown1, hb1⟩
  have HV1 := hid (ownsRow.slb hown1 (by omega))
  obtain ⟨a1, c1, rfl, -⟩ := ownsRow.rd hown1
  have HB1 := hid hb1
  clear hown1 hb1
  go_wp2_with fail
  refine (ref_Fit p _ w1 HV1.out (size - 8).toNat _ G5.out (by omega) (by omega) _ (hid rfl)).mono ?_
  rintro en w2 ⟨v2, rfl, hown2, hb2⟩
  have hown2' : w2.ownsRow w1.heap.size 5 1 v2 f.length (bv f) := by rw [← HF.out]; exact hown2
  have HO2 := hid hown2'
  have HB2 := hid (Below.next HB1.out hb2)
  have HB12 := hid HB1.out.size
  clear hown2 hown2' hb2
  go_wp2_with fail
  refine (ref_Low (n % 4294967296) 4 _ _ (by omega) rfl (by omega) (by omega) w2).mono ?_
  rintro en w3 ⟨v3, rfl, hown3, hb3⟩
  rw [HLO.out] at hown3
  obtain ⟨a3, c3, rfl, -, -, hr3, -⟩ := ownsRow.rd hown3
  have HRD3 := hid hr3
  have HO3 := hid (owns_below HO2.out hb3)
  have HS23 := hid hb3.size
  have HB3 := hid (Below.next HB2.out hb3)
  have HA3 : Hid (∀ b off, a3 = some ⟨b, off, none⟩ → w2.heap.size ≤ b ∧ b < w3.heap.size) := hid (fun b off e => hown3.lt b (by rw [e]; rfl))
  clear hown3 hr3 hb3
  go_wp2_with fail
  refine (ref_Low (n / 4294967296) 4 _ _ (by omega) rfl (by omega) (by omega) w3).mono ?_
  rintro en w4 ⟨v4, rfl, hown4, hb4⟩
  rw [HHI.out] at hown4
  obtain ⟨a4, c4, rfl, -, -, hr4, -⟩ := ownsRow.rd hown4
  have HRD4 := hid hr4
  have HRD3' := hid (HRD3.out.below' hb4)
  have HO4 := hid (ownsRow_base (owns_below HO3.out hb4) HB12.out)
  have HB4 := hid (Below.next HB3.out hb4)
  have HA4 : Hid (∀ b off, a4 = some ⟨b, off, none⟩ → w3.heap.size ≤ b ∧ b < w4.heap.size) := hid (fun b off e => hown4.lt b (by rw [e]; rfl))
  have HS34 := hid hb4.size
  clear hown4 hr4 hb4
  go_wp2_with fail
  go_loopw [9, 12] (fun v9 vc wr => ∃ (k : Nat) (acc : List UInt8), Cnt vc k ∧ Hid (acc = f ++ hi.reverse.take k) ∧ Hid (wr.ownsRow w.heap.size 5 1 v9 acc.length (bv acc)) ∧ Hid (Below w.heap.size w wr) ∧ Hid (Rd wr a4 (bv hi)) ∧ Hid (Rd wr a3 (bv lo)) ∧ Hid (∀ k, v9.ownBlock = some k → k < w2.heap.size ∨ w4.heap.size ≤ k) ∧ Hid (w4.heap.size ≤ wr.heap.size)) (fun _ vc _ => (intOf vc + 1).toNat)
  case atStart => exact ⟨0, f, .inl ⟨rfl, rfl⟩, hid (by simp), HO4, HB4, HRD4, HRD3', hid (fun k hk => .inl ((HO2.out.lt k hk).2)), hid (Nat.le_refl _)⟩
  case round =>
    obtain ⟨k, acc, hcnt, HAC, HO, HB, HR4, HR3, HV9, HW4⟩ := hrel
    have hsz := HB.out.size
    have hby : (acc.length + 1) * 1 ≤ 140737488355328 := by
      have := HAC.out
      have h1 := HFL.out
      have h2 := HHL.out
      have h3 := HLL.out
      rw [this]; simp; omega
    rcases hcnt with ⟨rfl, rfl⟩ | ⟨rfl, rfl⟩ | ⟨rfl, rfl⟩ | ⟨rfl, rfl⟩ | ⟨rfl, rfl⟩
    · obtain ⟨bq, oq, y, rfl, hc, hyq, -, -⟩ := HR4.out.byte 3 (by have := HHL.out; omega)
      have HYQ := hid hyq
      have HAB := hid (HA4.out _ _ rfl)
      clear hyq
      go_wp2_with (at_builtin; refine wpList_append1w T_bytes _ rfl _ _ #[.int .u8 ((y : UInt8).toNat : Int)] rfl w.heap.size _ _ _ rfl HO.out rfl rfl (oneU8 _) hby hsz ?_)
      intro v' w5 hown5 hgrow hne hwh
      have hU := Upd.of_grown hgrow
      have HO5 := hid (own_app4 0 HAC.out hown5 HHL.out (by omega) HYQ.out)
      have HB5 := hid (HB.out.grown hgrow hsz (fun j hj => (HO.out.lt j hj).1))
      have HR45 := hid (hU.rd HR4.out (fun b off e h => by have h1 := HA4.out b off e; have h2 := HV9.out b h; have := HS23.out; have := HS34.out; omega))
      have HR35 := hid (hU.rd HR3.out (fun b off e h => by have h1 := HA3.out b off e; have h2 := HV9.out b h; have := HS23.out; have := HS34.out; omega))
      have HV95 : Hid (∀ k, v'.ownBlock = some k → k < w2.heap.size ∨ w4.heap.size ≤ k) := hid (fun k hk => by rcases hwh k hk with h | h; exact HV9.out k h; exact .inr (Nat.le_trans HW4.out h))
      have HW45 := hid (Nat.le_trans HW4.out hU.size)
      clear hown5 hgrow hne hwh hU hby hc hsz
      go_wp2_with fail
      go_roundw
      case rel => exact ⟨_, _, .inr (.inl ⟨rfl, rfl⟩), hid rfl, HO5, HB5, HR45, HR35, HV95, HW45⟩
      case measure => simp [intOf]
    · obtain ⟨bq, oq, y, rfl, hc, hyq, -, -⟩ := HR4.out.byte 2 (by have := HHL.out; omega)
      have HYQ := hid hyq
      have HAB := hid (HA4.out _ _ rfl)
      clear hyq
      go_wp2_with (at_builtin; refine wpList_append1w T_bytes _ rfl _ _ #[.int .u8 ((y : UInt8).toNat : Int)] rfl w.heap.size _ _ _ rfl HO.out rfl rfl (oneU8 _) hby hsz ?_)
      intro v' w5 hown5 hgrow hne hwh
      have hU := Upd.of_grown hgrow
      have HO5 := hid (own_app4 1 HAC.out hown5 HHL.out (by omega) HYQ.out)
      have HB5 := hid (HB.out.grown hgrow hsz (fun j hj => (HO.out.lt j hj).1))
      have HR45 := hid (hU.rd HR4.out (fun b off e h => by have h1 := HA4.out b off e; have h2 := HV9.out b h; have := HS23.out; have := HS34.out; omega))
      have HR35 := hid (hU.rd HR3.out (fun b off e h => by have h1 := HA3.out b off e; have h2 := HV9.out b h; have := HS23.out; have := HS34.out; omega))
      have HV95 : Hid (∀ k, v'.ownBlock = some k → k < w2.heap.size ∨ w4.heap.size ≤ k) := hid (fun k hk => by rcases hwh k hk with h | h; exact HV9.out k h; exact .inr (Nat.le_trans HW4.out h))
      have HW45 := hid (Nat.le_trans HW4.out hU.size)
      clear hown5 hgrow hne hwh hU hby hc hsz
      go_wp2_with fail
      go_roundw
      case rel => exact ⟨_, _, .inr (.inr (.inl ⟨rfl, rfl⟩)), hid rfl, HO5, HB5, HR45, HR35, HV95, HW45⟩
      case measure => simp [intOf]
    · obtain ⟨bq, oq, y, rfl, hc, hyq, -, -⟩ := HR4.out.byte 1 (by have := HHL.out; omega)
      have HYQ := hid hyq
      have HAB := hid (HA4.out _ _ rfl)
      clear hyq
      go_wp2_with (at_builtin; refine wpList_append1w T_bytes _ rfl _ _ #[.int .u8 ((y : UInt8).toNat : Int)] rfl w.heap.size _ _ _ rfl HO.out rfl rfl (oneU8 _) hby hsz ?_)
      intro v' w5 hown5 hgrow hne hwh
      have hU := Upd.of_grown hgrow
      have HO5 := hid (own_app4 2 HAC.out hown5 HHL.out (by omega) HYQ.out)
      have HB5 := hid (HB.out.grown hgrow hsz (fun j hj => (HO.out.lt j hj).1))
      have HR45 := hid (hU.rd HR4.out (fun b off e h => by have h1 := HA4.out b off e; have h2 := HV9.out b h; have := HS23.out; have := HS34.out; omega))
      have HR35 := hid (hU.rd HR3.out (fun b off e h => by have h1 := HA3.out b off e; have h2 := HV9.out b h; have := HS23.out; have := HS34.out; omega))
      have HV95 : Hid (∀ k, v'.ownBlock = some k → k < w2.heap.size ∨ w4.heap.size ≤ k) := hid (fun k hk => by rcases hwh k hk with h | h; exact HV9.out k h; exact .inr (Nat.le_trans HW4.out h))
      have HW45 := hid (Nat.le_trans HW4.out hU.size)
      clear hown5 hgrow hne hwh hU hby hc hsz
      go_wp2_with fail
      go_roundw
      case rel => exact ⟨_, _, .inr (.inr (.inr (.inl ⟨rfl, rfl⟩))), hid rfl, HO5, HB5, HR45, HR35, HV95, HW45⟩
      case measure => simp [intOf]
    · obtain ⟨bq, oq, y, rfl, hc, hyq, -, -⟩ := HR4.out.byte 0 (by have := HHL.out; omega)
      rw [Nat.add_zero] at hc
      have HYQ := hid hyq
      have HAB := hid (HA4.out _ _ rfl)
      clear hyq
      go_wp2_with (at_builtin; refine wpList_append1w T_bytes _ rfl _ _ #[.int .u8 ((y : UInt8).toNat : Int)] rfl w.heap.size _ _ _ rfl HO.out rfl rfl (oneU8 _) hby hsz ?_)
      intro v' w5 hown5 hgrow hne hwh
      have hU := Upd.of_grown hgrow
      have HO5 := hid (own_app4 3 HAC.out hown5 HHL.out (by omega) HYQ.out)
      have HB5 := hid (HB.out.grown hgrow hsz (fun j hj => (HO.out.lt j hj).1))
      have HR45 := hid (hU.rd HR4.out (fun b off e h => by have h1 := HA4.out b off e; have h2 := HV9.out b h; have := HS23.out; have := HS34.out; omega))
      have HR35 := hid (hU.rd HR3.out (fun b off e h => by have h1 := HA3.out b off e; have h2 := HV9.out b h; have := HS23.out; have := HS34.out; omega))
      have HV95 : Hid (∀ k, v'.ownBlock = some k → k < w2.heap.size ∨ w4.heap.size ≤ k) := hid (fun k hk => by rcases hwh k hk with h | h; exact HV9.out k h; exact .inr (Nat.le_trans HW4.out h))
      have HW45 := hid (Nat.le_trans HW4.out hU.size)
      clear hown5 hgrow hne hwh hU hby hc hsz
      go_wp2_with fail
      go_roundw
      case rel => exact ⟨_, _, .inr (.inr (.inr (.inr ⟨rfl, rfl⟩))), hid rfl, HO5, HB5, HR45, HR35, HV95, HW45⟩
      case measure => simp [intOf]
    · skip
      have hfin : acc = f ++ hi.reverse := by
        have h1 := HAC.out
        rw [h1, List.take_of_length_le (by rw [List.length_reverse]; have := HHL.out; omega)]
      obtain ⟨acc1, rfl⟩ : ∃ acc1, acc1 = acc := ⟨_, rfl⟩
      have HA1 := hid hfin
      have HO1 := HO
      have HB1w := HB
      have HR41 := HR4
      have HR31 := HR3
      have HV91 := HV9
      have HW41 := HW4
      clear hfin hby HO HB HR4 HR3 HV9 HW4 HAC hsz
      go_wp2_with fail
      go_loopw [9, 13] (fun v9 vc wr => ∃ (k : Nat) (acc : List UInt8), Cnt vc k ∧ Hid (acc = acc1 ++ lo.reverse.take k) ∧ Hid (wr.ownsRow w.heap.size 5 1 v9 acc.length (bv acc)) ∧ Hid (Below w.heap.size w wr) ∧ Hid (Rd wr a4 (bv hi)) ∧ Hid (Rd wr a3 (bv lo)) ∧ Hid (∀ k, v9.ownBlock = some k → k < w2.heap.size ∨ w4.heap.size ≤ k) ∧ Hid (w4.heap.size ≤ wr.heap.size)) (fun _ vc _ => (intOf vc + 1).toNat)
      case atStart => exact ⟨0, acc1, .inl ⟨rfl, rfl⟩, hid (by simp), HO1, HB1w, HR41, HR31, HV91, HW41⟩
      case round =>
        obtain ⟨k, acc, hcnt, HAC, HO, HB, HR4, HR3, HV9, HW4⟩ := hrel
        have hsz := HB.out.size
        have hby : (acc.length + 1) * 1 ≤ 140737488355328 := by
          have := HAC.out
          have h1 := HFL.out
          have h2 := HHL.out
          have h3 := HLL.out
          rw [this, HA1.out]; simp; omega
        rcases hcnt with ⟨rfl, rfl⟩ | ⟨rfl, rfl⟩ | ⟨rfl, rfl⟩ | ⟨rfl, rfl⟩ | ⟨rfl, rfl⟩
        · obtain ⟨bq, oq, y, rfl, hc, hyq, -, -⟩ := HR3.out.byte 3 (by have := HLL.out; omega)
          have HYQ := hid hyq
          have HAB := hid (HA3.out _ _ rfl)
          clear hyq
          go_wp2_with (at_builtin; refine wpList_append1w T_bytes _ rfl _ _ #[.int .u8 ((y : UInt8).toNat : Int)] rfl w.heap.size _ _ _ rfl HO.out rfl rfl (oneU8 _) hby hsz ?_)
          intro v' w5 hown5 hgrow hne hwh
          have hU := Upd.of_grown hgrow
          have HO5 := hid (own_app4 0 HAC.out hown5 HLL.out (by omega) HYQ.out)
          have HB5 := hid (HB.out.grown hgrow hsz (fun j hj => (HO.out.lt j hj).1))
          have HR45 := hid (hU.rd HR4.out (fun b off e h => by have h1 := HA4.out b off e; have h2 := HV9.out b h; have := HS23.out; have := HS34.out; omega))
          have HR35 := hid (hU.rd HR3.out (fun b off e h => by have h1 := HA3.out b off e; have h2 := HV9.out b h; have := HS23.out; have := HS34.out; omega))
          have HV95 : Hid (∀ k, v'.ownBlock = some k → k < w2.heap.size ∨ w4.heap.size ≤ k) := hid (fun k hk => by rcases hwh k hk with h | h; exact HV9.out k h; exact .inr (Nat.le_trans HW4.out h))
          have HW45 := hid (Nat.le_trans HW4.out hU.size)
          clear hown5 hgrow hne hwh hU hby hc hsz
          go_wp2_with fail
          go_roundw
          case rel => exact ⟨_, _, .inr (.inl ⟨rfl, rfl⟩), hid rfl, HO5, HB5, HR45, HR35, HV95, HW45⟩
          case measure => simp [intOf]
        · obtain ⟨bq, oq, y, rfl, hc, hyq, -, -⟩ := HR3.out.byte 2 (by have := HLL.out; omega)
          have HYQ := hid hyq
          have HAB := hid (HA3.out _ _ rfl)
          clear hyq
          go_wp2_with (at_builtin; refine wpList_append1w T_bytes _ rfl _ _ #[.int .u8 ((y : UInt8).toNat : Int)] rfl w.heap.size _ _ _ rfl HO.out rfl rfl (oneU8 _) hby hsz ?_)
          intro v' w5 hown5 hgrow hne hwh
          have hU := Upd.of_grown hgrow
          have HO5 := hid (own_app4 1 HAC.out hown5 HLL.out (by omega) HYQ.out)
          have HB5 := hid (HB.out.grown hgrow hsz (fun j hj => (HO.out.lt j hj).1))
          have HR45 := hid (hU.rd HR4.out (fun b off e h => by have h1 := HA4.out b off e; have h2 := HV9.out b h; have := HS23.out; have := HS34.out; omega))
          have HR35 := hid (hU.rd HR3.out (fun b off e h => by have h1 := HA3.out b off e; have h2 := HV9.out b h; have := HS23.out; have := HS34.out; omega))
          have HV95 : Hid (∀ k, v'.ownBlock = some k → k < w2.heap.size ∨ w4.heap.size ≤ k) := hid (fun k hk => by rcases hwh k hk with h | h; exact HV9.out k h; exact .inr (Nat.le_trans HW4.out h))
          have HW45 := hid (Nat.le_trans HW4.out hU.size)
          clear hown5 hgrow hne hwh hU hby hc hsz
          go_wp2_with fail
          go_roundw
          case rel => exact ⟨_, _, .inr (.inr (.inl ⟨rfl, rfl⟩)), hid rfl, HO5, HB5, HR45, HR35, HV95, HW45⟩
          case measure => simp [intOf]
        · obtain ⟨bq, oq, y, rfl, hc, hyq, -, -⟩ := HR3.out.byte 1 (by have := HLL.out; omega)
          have HYQ := hid hyq
          have HAB := hid (HA3.out _ _ rfl)
          clear hyq
          go_wp2_with (at_builtin; refine wpList_append1w T_bytes _ rfl _ _ #[.int .u8 ((y : UInt8).toNat : Int)] rfl w.heap.size _ _ _ rfl HO.out rfl rfl (oneU8 _) hby hsz ?_)
          intro v' w5 hown5 hgrow hne hwh
          have hU := Upd.of_grown hgrow
          have HO5 := hid (own_app4 2 HAC.out hown5 HLL.out (by omega) HYQ.out)
          have HB5 := hid (HB.out.grown hgrow hsz (fun j hj => (HO.out.lt j hj).1))
          have HR45 := hid (hU.rd HR4.out (fun b off e h => by have h1 := HA4.out b off e; have h2 := HV9.out b h; have := HS23.out; have := HS34.out; omega))
          have HR35 := hid (hU.rd HR3.out (fun b off e h => by have h1 := HA3.out b off e; have h2 := HV9.out b h; have := HS23.out; have := HS34.out; omega))
          have HV95 : Hid (∀ k, v'.ownBlock = some k → k < w2.heap.size ∨ w4.heap.size ≤ k) := hid (fun k hk => by rcases hwh k hk with h | h; exact HV9.out k h; exact .inr (Nat.le_trans HW4.out h))
          have HW45 := hid (Nat.le_trans HW4.out hU.size)
          clear hown5 hgrow hne hwh hU hby hc hsz
          go_wp2_with fail
          go_roundw
          case rel => exact ⟨_, _, .inr (.inr (.inr (.inl ⟨rfl, rfl⟩))), hid rfl, HO5, HB5, HR45, HR35, HV95, HW45⟩
          case measure => simp [intOf]
        · obtain ⟨bq, oq, y, rfl, hc, hyq, -, -⟩ := HR3.out.byte 0 (by have := HLL.out; omega)
          rw [Nat.add_zero] at hc
          have HYQ := hid hyq
          have HAB := hid (HA3.out _ _ rfl)
          clear hyq
          go_wp2_with (at_builtin; refine wpList_append1w T_bytes _ rfl _ _ #[.int .u8 ((y : UInt8).toNat : Int)] rfl w.heap.size _ _ _ rfl HO.out rfl rfl (oneU8 _) hby hsz ?_)
          intro v' w5 hown5 hgrow hne hwh
          have hU := Upd.of_grown hgrow
          have HO5 := hid (own_app4 3 HAC.out hown5 HLL.out (by omega) HYQ.out)
          have HB5 := hid (HB.out.grown hgrow hsz (fun j hj => (HO.out.lt j hj).1))
          have HR45 := hid (hU.rd HR4.out (fun b off e h => by have h1 := HA4.out b off e; have h2 := HV9.out b h; have := HS23.out; have := HS34.out; omega))
          have HR35 := hid (hU.rd HR3.out (fun b off e h => by have h1 := HA3.out b off e; have h2 := HV9.out b h; have := HS23.out; have := HS34.out; omega))
          have HV95 : Hid (∀ k, v'.ownBlock = some k → k < w2.heap.size ∨ w4.heap.size ≤ k) := hid (fun k hk => by rcases hwh k hk with h | h; exact HV9.out k h; exact .inr (Nat.le_trans HW4.out h))
          have HW45 := hid (Nat.le_trans HW4.out hU.size)
          clear hown5 hgrow hne hwh hU hby hc hsz
          go_wp2_with fail
          go_roundw
          case rel => exact ⟨_, _, .inr (.inr (.inr (.inr ⟨rfl, rfl⟩))), hid rfl, HO5, HB5, HR45, HR35, HV95, HW45⟩
          case measure => simp [intOf]
        · skip
          have hfin : acc = f ++ hi.reverse ++ lo.reverse := by
            have h1 := HAC.out
            rw [h1, List.take_of_length_le (by rw [List.length_reverse]; have := HLL.out; omega), HA1.out]
          have HPOST : Hid (wr.ownsRow w.heap.size 5 1 u9 (r.getD []).length (bv (r.getD []))) := hid (by rw [HRR.out, Option.getD_some, ← hfin]; exact HO.out)
          have HISS : Hid (r.isSome = true) := hid (by rw [HRR.out]; rfl)
          clear hfin hby
          go_wp2_with fail
          go_ret2
          exact ⟨_, by rw [HISS.out]; rfl, HPOST.out, HB.out⟩
end Go.Proofs.Ytohknblokejldaa
end
section
/- What comes in, opened: a slice of elements of k cells, each of which reads as E says. No program in sight. -/
namespace Go.Proofs.Ytohknblokejldaa
open Go.RowKit Go.ChangeShapes Go.WideShapes Go.Deep
open Go.Lib (hid)
set_option linter.unusedVariables false

/-- a slice whose elements of k cells read as E says -/
def SlE {α : Type} (E : World → (Nat → Option Value) → α → Prop) (k : Nat) (w : World) (v : Value) (L : List α) : Prop :=
  ∃ a c, v = .slice a L.length c ∧ L.length ≤ c ∧ c ≤ 9223372036854775807 ∧ (a = none → c = 0) ∧
    ∀ i x, L[i]? = some x → ∃ b off, a = some ⟨b, off, none⟩ ∧ b < w.heap.size ∧ E w (fun j => w.cell? ⟨b, off + i * k + j, none⟩) x
/-- what a reading of an element keeps -/
structure Kept {α : Type} (E : World → (Nat → Option Value) → α → Prop) (k : Nat) : Prop where
  keep : ∀ {w w' : World} {f g : Nat → Option Value} {x : α}, Below w.heap.size w w' → (∀ j u, j < k → f j = some u → g j = some u) → E w f x → E w' g x
  zero : ∀ {w : World} {f : Nat → Option Value} {x : α}, E w f x → ∃ u, f 0 = some u
theorem SlE.below {α : Type} {E : World → (Nat → Option Value) → α → Prop} {k : Nat} (K : Kept E k) {w w' : World} {v : Value} {L : List α} (h : SlE E k w v L) (hb : Below w.heap.size w w') : SlE E k w' v L := by
  obtain ⟨a, c, h1, h2, h3, h4, h5⟩ := h
  refine ⟨a, c, h1, h2, h3, h4, fun i x hx => ?_⟩
  obtain ⟨b, off, k1, k2, k3⟩ := h5 i x hx
  exact ⟨b, off, k1, Nat.lt_of_lt_of_le k2 hb.size, K.keep hb (fun j u _ hu => by rw [← hu]; exact World.cell?_of_block (hb.block b k2)) k3⟩
theorem open_slE {α : Type} [Inhabited α] {E : World → (Nat → Option Value) → α → Prop} {k : Nat} (K : Kept E k) {H : Type} {enc : TypeId × Value → H} {P : Program} {t e : TypeId} {w : World} {r0 : Reach} {b0 : Nat} {v : Value} {d : DataW H} {p : List MemPlace}
    (ht : P.underlying t = some (.slice e)) (hk : P.cellsOf e = k) (elem : ∀ (n : Nat) (cs : List Value) (x : DataW H × List MemPlace), DataW.trod enc P w 0 (fun _ => true) true n e cs = some x → ∃ t, E w (fun j => cs[j]?) t)
    (hok : Value.okWide P w r0 b0 t v) (h : DataW.Trod enc P w 0 (fun _ => true) true t v d p) : ∃ L, SlE E k w v L := by
  obtain ⟨a0, len0, cap0, rfl⟩ := okWide_slice ht hok
  obtain ⟨fuel, hf⟩ := h
  rcases open_slice ht hf with ⟨hcs, -⟩ | ⟨a, len, cap, m, n, D, Pl, hcs, hb, hl, hm, hmm, hx, hi⟩
  · simp [Value.cells] at hcs
    obtain ⟨rfl, rfl, rfl⟩ := hcs
    exact ⟨[], none, 0, rfl, by simp, by omega, fun _ => rfl, fun i r hr => by simp at hr⟩
  · simp [Value.cells] at hcs
    obtain ⟨rfl, rfl, rfl⟩ := hcs
    simp only [if_true] at hmm
    obtain rfl : cap0 = m := hmm.symm
    have key : ∀ i, i < cap0 → ∃ q : α, E w (fun j => w.cell? (a.add (i * k + j))) q := by
      intro i hic
      obtain ⟨cs', hc, ht'⟩ := hi i hic
      rw [hk] at hc
      obtain ⟨t, ht⟩ := elem _ _ _ ht'
      obtain ⟨-, hcl, hat⟩ := World.cells?_some hc
      exact ⟨t, K.keep (Below.refl _ _) (fun j u hj hu => by rw [← Go.Deep.add_add, hat j hj]; exact hu) ht⟩
    obtain ⟨f, hfun⟩ := choose_lt key
    have hlen : ((List.range len0).map f).length = len0 := by simp
    refine ⟨(List.range len0).map f, some a, cap0, by rw [hlen], by rw [hlen]; exact hl, by unfold maxLen at hm; omega, nofun, ?_⟩
    intro i r hr
    rw [List.getElem?_map] at hr
    by_cases hil : i < len0
    · rw [List.getElem?_range hil] at hr
      simp at hr
      subst hr
      have q := hfun i (by omega)
      obtain ⟨b, off, spot⟩ := a
      obtain ⟨u0, p0⟩ := K.zero (hfun 0 (by omega))
      have hspot : spot = none := by simpa [Addr.add] using World.cell?_spot p0
      subst hspot
      obtain ⟨u1, q0⟩ := K.zero q
      simp only [Addr.add_lit] at q0
      refine ⟨b, off, rfl, World.block_lt_of_cell? w _ q0, K.keep (Below.refl _ _) (fun j u hj hu => ?_) q⟩
      rw [Addr.add_lit] at hu
      rw [Nat.add_assoc]; exact hu
    · rw [List.getElem?_eq_none (by simp; omega)] at hr; simp at hr
theorem structE_fields {H : Type} {enc : TypeId × Value → H} {P : Program} {w : World} {base : Nat} {spare : Nat → Bool} {held : Bool} {t : TypeId} {fs : Array Field} {n : Nat} {cs : List Value} {x : DataW H × List MemPlace} (ht : P.underlying t = some (.struct fs)) (hone : oneCellFields P fs = true)
    (h : DataW.trod enc P w base spare held n t cs = some x) : cs.length = P.cellsOf t ∧ ∃ (ys : List (DataW H × List MemPlace)) (n' : Nat), ys.length = fs.size ∧ ∀ (j : Nat) (f : Field), fs[j]? = some f → DataW.trod enc P w base spare held n' f.type ((cs.drop j).take 1) = ys[j]? := by
  obtain ⟨ys, n', hn', hy, hlen, hyl, hf⟩ := DataW.trod_struct ht h
  refine ⟨hlen, ys, n', hyl, fun j f hj => ?_⟩
  obtain ⟨ho, hk⟩ := hone_of hone j f hj
  have := hf j f hj
  rwa [ho, hk] at this
theorem listOf2 {α : Type} : ∀ {l : List α}, l.length = 2 → ∃ a b, l = [a, b]
  | [a, b], _ => ⟨a, b, rfl⟩
theorem listOf3 {α : Type} : ∀ {l : List α}, l.length = 3 → ∃ a b c, l = [a, b, c]
  | [a, b, c], _ => ⟨a, b, c, rfl⟩
theorem listOf4 {α : Type} : ∀ {l : List α}, l.length = 4 → ∃ a b c d, l = [a, b, c, d]
  | [a, b, c, d], _ => ⟨a, b, c, d, rfl⟩
theorem listOf5 {α : Type} : ∀ {l : List α}, l.length = 5 → ∃ a b c d e, l = [a, b, c, d, e]
  | [a, b, c, d, e], _ => ⟨a, b, c, d, e, rfl⟩
theorem listOf6 {α : Type} : ∀ {l : List α}, l.length = 6 → ∃ a b c d e f, l = [a, b, c, d, e, f]
  | [a, b, c, d, e, f], _ => ⟨a, b, c, d, e, f, rfl⟩
end Go.Proofs.Ytohknblokejldaa
end
