/- Joined texts, in this order: SlotsRef2. Each one's first remark says what it proves; no condition beyond those that its theorems name. -/
import Derived.Test.YtohknblokejldaaJLawSlotsCrashes23
section
/- Contract: the document's bytes of a root. -/
namespace Go.Proofs.Ytohknblokejldaa
open Go.RowKit
open Go.Lib (hid)
set_option linter.unusedVariables false

theorem lowB_split (n : Nat) : lowB n 8 = lowB (n % 4294967296) 4 ++ lowB (n / 4294967296) 4 := by
  simp only [lowB, List.cons_append, List.nil_append, Nat.div_div_eq_div_mul]
  have e0 : n % 4294967296 % 256 = n % 256 := by omega
  have e1 : n % 4294967296 / 256 % 256 = n / 256 % 256 := by omega
  have e2 : n % 4294967296 / (256 * 256) % 256 = n / (256 * 256) % 256 := by omega
  have e3 : n % 4294967296 / (256 * (256 * 256)) % 256 = n / (256 * (256 * 256)) % 256 := by omega
  simp only [← Nat.mul_assoc] at e2 e3 ⊢
  simp only [e0, e1, e2, e3]
theorem be8_split (n : Nat) : be8 (n : Int) = (lowB (n / 4294967296) 4).reverse ++ (lowB (n % 4294967296) 4).reverse := by
  rw [be8, Int.toNat_natCast, lowB_split, List.reverse_append]
/-- a counter that goes down from 3 -/
def Cnt (v : Value) (k : Nat) : Prop := (k = 0 ∧ v = .int .i64 3) ∨ (k = 1 ∧ v = .int .i64 2) ∨ (k = 2 ∧ v = .int .i64 1) ∨ (k = 3 ∧ v = .int .i64 0) ∨ (k = 4 ∧ v = .int .i64 (-1))
theorem own_app4 {w : World} {B : Nat} {v : Value} {f acc q : List UInt8} {y : UInt8} (k : Nat) (hacc : acc = f ++ q.reverse.take k) (h : w.ownsRow B 5 1 v (acc.length + 1) (bv acc ++ [Value.int .u8 ((y : UInt8).toNat : Int)])) (hq : q.length = 4) (hk : k < 4) (hy : q[3 - k]? = some y) :
    w.ownsRow B 5 1 v (f ++ q.reverse.take (k + 1)).length (bv (f ++ q.reverse.take (k + 1))) := by
  have e1 : q.reverse[k]? = some y := by
    rw [List.getElem?_reverse (by omega), ← hy, hq]
  have e2 : q.reverse.take (k + 1) = q.reverse.take k ++ [y] := by
    rw [List.take_add_one, e1]; rfl
  rw [e2, ← List.append_assoc, ← hacc, bv_append, bv_one, List.length_append]
  exact h
set_option maxRecDepth 100000 in
set_option maxHeartbeats 4000000 in
theorem ref06_Bytes (n : Nat) (l : List Int) (v : Value) (size : Int) (w : World) (hs : SlI w v l) (hz1 : -9223372036854775808 ≤ size) (hz2 : size ≤ 9223372036854775807) (hri : rightR (n : Int) l = true) (r : Option (List UInt8)) (hr : Hid (bytesR (n : Int) l size = r)) :
    Calls Try.prog 18 #[.int .i64 (n : Int), v, .int .i64 size] w fun en w' => ∃ u, en = .returned (.tuple #[u, .bool r.isSome]) ∧ w'.ownsRow w.heap.size 5 1 u (r.getD []).length (bv (r.getD [])) ∧ Below w.heap.size w w' := by
  have HS := hid hs
  obtain ⟨a, c, rfl, -⟩ := hs
  obtain ⟨p, hp⟩ : ∃ p, plainR (n : Int) l = p := ⟨_, rfl⟩
  have HP := hid hp
  have hpl : p.length ≤ 700 := by rw [← hp]; exact plain_len hri
  have h := hr.out
  unfold bytesR at h
  rw [hp] at h
  obtain ⟨q1, q2, q3, q4⟩ := right_bd hri
  have HBD : Hid (∀ x ∈ l, -9223372036854775808 ≤ x ∧ x ≤ 9223372036854775807) := hid (fun x hx => by have := q4 x hx; omega)
  have hn : n ≤ 1099511627776 := by omega
  have hl64 : l.length ≤ 64 := q3
  clear hp q1 q2 q3 q4 hri hr
  by_cases g1 : size < 14
  · rw [if_pos (.inl g1)] at h; subst h
    go_enter Try.func18, Try.ntmps18
    go_wp2_with fail
    refine (ref06_Plain (n : Int) l _ w HS.out (by omega) (by omega) HBD (by omega) p HP).mono ?_
    rintro en w1 ⟨v1, rfl, hown1, hb1⟩
    have HB1 := hid hb1
    clear hown1 hb1
    go_wp2_with fail
    go_ret2
    exact ⟨_, rfl, World.ownsRow_nil _ _ _ _, HB1.out⟩
  by_cases g2 : 65544 < size
  · rw [if_pos (.inr (.inl g2))] at h; subst h
    go_enter Try.func18, Try.ntmps18
    go_wp2_with fail
    refine (ref06_Plain (n : Int) l _ w HS.out (by omega) (by omega) HBD (by omega) p HP).mono ?_
    rintro en w1 ⟨v1, rfl, hown1, hb1⟩
    have HB1 := hid hb1
    clear hown1 hb1
    go_wp2_with fail
    go_ret2
    exact ⟨_, rfl, World.ownsRow_nil _ _ _ _, HB1.out⟩
  by_cases g3 : size < (p.length : Int) + 14
  · rw [if_pos (.inr (.inr g3))] at h; subst h
    have g4 : size - 14 < (p.length : Int) := by omega
    go_enter Try.func18, Try.ntmps18
    go_wp2_with fail
    refine (ref06_Plain (n : Int) l _ w HS.out (by omega) (by omega) HBD (by omega) p HP).mono ?_
    rintro en w1 ⟨v1, rfl, hown1, hb1⟩
    obtain ⟨a1, c1, rfl, -⟩ := ownsRow.rd hown1
    have HB1 := hid hb1
    clear hown1 hb1
    go_wp2_with fail
    go_ret2
    exact ⟨_, rfl, World.ownsRow_nil _ _ _ _, HB1.out⟩
  rw [if_neg (by omega)] at h
  have g4 : ¬ size - 14 < (p.length : Int) := by omega
  have g5 : (size - 8) = (((size - 8).toNat : Nat) : Int) := by omega
  have G5 := hid g5
  obtain ⟨f, hf⟩ : ∃ f, fitted p (size - 8).toNat = f := ⟨_, rfl⟩
  have hfl : f.length ≤ 65536 := by
    rw [← hf]; unfold fitted
    rw [List.length_append, fitL_length _ _ (by omega), lowB_length]; omega
  obtain ⟨hi, hhi⟩ : ∃ hi, lowB (n / 4294967296) 4 = hi := ⟨_, rfl⟩
  obtain ⟨lo, hlo⟩ : ∃ lo, lowB (n % 4294967296) 4 = lo := ⟨_, rfl⟩
  have h2 : r = some (f ++ hi.reverse ++ lo.reverse) := by rw [← h, hf, be8_split, hhi, hlo, List.append_assoc]
  have hhl : hi.length = 4 := by rw [← hhi, lowB_length]
  have hll : lo.length = 4 := by rw [← hlo, lowB_length]
  have HF := hid hf
  have HHI := hid hhi
  have HLO := hid hlo
  have HRR := hid h2
  have HHL := hid hhl
  have HLL := hid hll
  have HFL := hid hfl
  clear h g5 hf hhi hlo h2 hhl hll hfl
  go_enter Try.func18, Try.ntmps18
  go_wp2_with fail
  refine (ref06_Plain (n : Int) l _ w HS.out (by omega) (by omega) HBD (by omega) p HP).mono ?_
  rintro en w1 ⟨v1, rfl, hown1, hb1⟩
  have HV1 := hid (ownsRow.slb hown1 (by omega))
  obtain ⟨a1, c1, rfl, -⟩ := ownsRow.rd hown1
  have HB1 := hid hb1
  clear hown1 hb1
  go_wp2_with fail
  refine (ref_Fit p _ w1 HV1.out (size - 8).toNat _ G5.out (by omega) (by omega) _ (hid rfl)).mono ?_
  rintro en w2 ⟨v2, rfl, hown2, hb2⟩
  have hown2' : w2.ownsRow w1.heap.size 5 1 v2 f.length (bv f) := by rw [← HF.out]; exact hown2
  have HO2 := hid hown2'
  have HB2 := hid (Below.next HB1.out hb2)
  have HB12 := hid HB1.out.size
  clear hown2 hown2' hb2
  go_wp2_with fail
  refine (ref_Low (n % 4294967296) 4 _ _ (by omega) rfl (by omega) (by omega) w2).mono ?_
  rintro en w3 ⟨v3, rfl, hown3, hb3⟩
  rw [HLO.out] at hown3
  obtain ⟨a3, c3, rfl, -, -, hr3, -⟩ := ownsRow.rd hown3
  have HRD3 := hid hr3
  have HO3 := hid (owns_below HO2.out hb3)
  have HS23 := hid hb3.size
  have HB3 := hid (Below.next HB2.out hb3)
  have HA3 : Hid (∀ b off, a3 = some ⟨b, off, none⟩ → w2.heap.size ≤ b ∧ b < w3.heap.size) := hid (fun b off e => hown3.lt b (by rw [e]; rfl))
  clear hown3 hr3 hb3
  go_wp2_with fail
  refine (ref_Low (n / 4294967296) 4 _ _ (by omega) rfl (by omega) (by omega) w3).mono ?_
  rintro en w4 ⟨v4, rfl, hown4, hb4⟩
  rw [HHI.out] at hown4
  obtain ⟨a4, c4, rfl, -, -, hr4, -⟩ := ownsRow.rd hown4
  have HRD4 := hid hr4
  have HRD3' := hid (HRD3.out.below' hb4)
  have HO4 := hid (ownsRow_base (owns_below HO3.out hb4) HB12.out)
  have HB4 := hid (Below.next HB3.out hb4)
  have HA4 : Hid (∀ b off, a4 = some ⟨b, off, none⟩ → w3.heap.size ≤ b ∧ b < w4.heap.size) := hid (fun b off e => hown4.lt b (by rw [e]; rfl))
  have HS34 := hid hb4.size
  clear hown4 hr4 hb4
  go_wp2_with fail
  go_loopw [9, 12] (fun v9 vc wr => ∃ (k : Nat) (acc : List UInt8), Cnt vc k ∧ Hid (acc = f ++ hi.reverse.take k) ∧ Hid (wr.ownsRow w.heap.size 5 1 v9 acc.length (bv acc)) ∧ Hid (Below w.heap.size w wr) ∧ Hid (Rd wr a4 (bv hi)) ∧ Hid (Rd wr a3 (bv lo)) ∧ Hid (∀ k, v9.ownBlock = some k → k < w2.heap.size ∨ w4.heap.size ≤ k) ∧ Hid (w4.heap.size ≤ wr.heap.size)) (fun _ vc _ => (intOf vc + 1).toNat)
  case atStart => exact ⟨0, f, .inl ⟨rfl, rfl⟩, hid (by simp), HO4, HB4, HRD4, HRD3', hid (fun k hk => .inl ((HO2.out.lt k hk).2)), hid (Nat.le_refl _)⟩
  case round =>
    obtain ⟨k, acc, hcnt, HAC, HO, HB, HR4, HR3, HV9, HW4⟩ := hrel
    have hsz := HB.out.size
    have hby : (acc.length + 1) * 1 ≤ 140737488355328 := by
      have := HAC.out
      have h1 := HFL.out
      have h2 := HHL.out
      have h3 := HLL.out
      rw [this]; simp; omega
    rcases hcnt with ⟨rfl, rfl⟩ | ⟨rfl, rfl⟩ | ⟨rfl, rfl⟩ | ⟨rfl, rfl⟩ | ⟨rfl, rfl⟩
    · obtain ⟨bq, oq, y, rfl, hc, hyq, -, -⟩ := HR4.out.byte 3 (by have := HHL.out; omega)
      have HYQ := hid hyq
      have HAB := hid (HA4.out _ _ rfl)
      clear hyq
      go_wp2_with (at_builtin; refine wpList_append1w T_bytes _ rfl _ _ #[.int .u8 ((y : UInt8).toNat : Int)] rfl w.heap.size _ _ _ rfl HO.out rfl rfl (oneU8 _) hby hsz ?_)
      intro v' w5 hown5 hgrow hne hwh
      have hU := Upd.of_grown hgrow
      have HO5 := hid (own_app4 0 HAC.out hown5 HHL.out (by omega) HYQ.out)
      have HB5 := hid (HB.out.grown hgrow hsz (fun j hj => (HO.out.lt j hj).1))
      have HR45 := hid (hU.rd HR4.out (fun b off e h => by have h1 := HA4.out b off e; have h2 := HV9.out b h; have := HS23.out; have := HS34.out; omega))
      have HR35 := hid (hU.rd HR3.out (fun b off e h => by have h1 := HA3.out b off e; have h2 := HV9.out b h; have := HS23.out; have := HS34.out; omega))
      have HV95 : Hid (∀ k, v'.ownBlock = some k → k < w2.heap.size ∨ w4.heap.size ≤ k) := hid (fun k hk => by rcases hwh k hk with h | h; exact HV9.out k h; exact .inr (Nat.le_trans HW4.out h))
      have HW45 := hid (Nat.le_trans HW4.out hU.size)
      clear hown5 hgrow hne hwh hU hby hc hsz
      go_wp2_with fail
      go_roundw
      case rel => exact ⟨_, _, .inr (.inl ⟨rfl, rfl⟩), hid rfl, HO5, HB5, HR45, HR35, HV95, HW45⟩
      case measure => simp [intOf]
    · obtain ⟨bq, oq, y, rfl, hc, hyq, -, -⟩ := HR4.out.byte 2 (by have := HHL.out; omega)
      have HYQ := hid hyq
      have HAB := hid (HA4.out _ _ rfl)
      clear hyq
      go_wp2_with (at_builtin; refine wpList_append1w T_bytes _ rfl _ _ #[.int .u8 ((y : UInt8).toNat : Int)] rfl w.heap.size _ _ _ rfl HO.out rfl rfl (oneU8 _) hby hsz ?_)
      intro v' w5 hown5 hgrow hne hwh
      have hU := Upd.of_grown hgrow
      have HO5 := hid (own_app4 1 HAC.out hown5 HHL.out (by omega) HYQ.out)
      have HB5 := hid (HB.out.grown hgrow hsz (fun j hj => (HO.out.lt j hj).1))
      have HR45 := hid (hU.rd HR4.out (fun b off e h => by have h1 := HA4.out b off e; have h2 := HV9.out b h; have := HS23.out; have := HS34.out; omega))
      have HR35 := hid (hU.rd HR3.out (fun b off e h => by have h1 := HA3.out b off e; have h2 := HV9.out b h; have := HS23.out; have := HS34.out; omega))
      have HV95 : Hid (∀ k, v'.ownBlock = some k → k < w2.heap.size ∨ w4.heap.size ≤ k) := hid (fun k hk => by rcases hwh k hk with h | h; exact HV9.out k h; exact .inr (Nat.le_trans HW4.out h))
      have HW45 := hid (Nat.le_trans HW4.out hU.size)
      clear hown5 hgrow hne hwh hU hby hc hsz
      go_wp2_with fail
      go_roundw
      case rel => exact ⟨_, _, .inr (.inr (.inl ⟨rfl, rfl⟩)), hid rfl, HO5, HB5, HR45, HR35, HV95, HW45⟩
      case measure => simp [intOf]
    · obtain ⟨bq, oq, y, rfl, hc, hyq, -, -⟩ := HR4.out.byte 1 (by have := HHL.out; omega)
      have HYQ := hid hyq
      have HAB := hid (HA4.out _ _ rfl)
      clear hyq
      go_wp2_with (at_builtin; refine wpList_append1w T_bytes _ rfl _ _ #[.int .u8 ((y : UInt8).toNat : Int)] rfl w.heap.size _ _ _ rfl HO.out rfl rfl (oneU8 _) hby hsz ?_)
      intro v' w5 hown5 hgrow hne hwh
      have hU := Upd.of_grown hgrow
      have HO5 := hid (own_app4 2 HAC.out hown5 HHL.out (by omega) HYQ.out)
      have HB5 := hid (HB.out.grown hgrow hsz (fun j hj => (HO.out.lt j hj).1))
      have HR45 := hid (hU.rd HR4.out (fun b off e h => by have h1 := HA4.out b off e; have h2 := HV9.out b h; have := HS23.out; have := HS34.out; omega))
      have HR35 := hid (hU.rd HR3.out (fun b off e h => by have h1 := HA3.out b off e; have h2 := HV9.out b h; have := HS23.out; have := HS34.out; omega))
      have HV95 : Hid (∀ k, v'.ownBlock = some k → k < w2.heap.size ∨ w4.heap.size ≤ k) := hid (fun k hk => by rcases hwh k hk with h | h; exact HV9.out k h; exact .inr (Nat.le_trans HW4.out h))
      have HW45 := hid (Nat.le_trans HW4.out hU.size)
      clear hown5 hgrow hne hwh hU hby hc hsz
      go_wp2_with fail
      go_roundw
      case rel => exact ⟨_, _, .inr (.inr (.inr (.inl ⟨rfl, rfl⟩))), hid rfl, HO5, HB5, HR45, HR35, HV95, HW45⟩
      case measure => simp [intOf]
    · obtain ⟨bq, oq, y, rfl, hc, hyq, -, -⟩ := HR4.out.byte 0 (by have := HHL.out; omega)
      rw [Nat.add_zero] at hc
      have HYQ := hid hyq
      have HAB := hid (HA4.out _ _ rfl)
      clear hyq
      go_wp2_with (at_builtin; refine wpList_append1w T_bytes _ rfl _ _ #[.int .u8 ((y : UInt8).toNat : Int)] rfl w.heap.size _ _ _ rfl HO.out rfl rfl (oneU8 _) hby hsz ?_)
      intro v' w5 hown5 hgrow hne hwh
      have hU := Upd.of_grown hgrow
      have HO5 := hid (own_app4 3 HAC.out hown5 HHL.out (by omega) HYQ.out)
      have HB5 := hid (HB.out.grown hgrow hsz (fun j hj => (HO.out.lt j hj).1))
      have HR45 := hid (hU.rd HR4.out (fun b off e h => by have h1 := HA4.out b off e; have h2 := HV9.out b h; have := HS23.out; have := HS34.out; omega))
      have HR35 := hid (hU.rd HR3.out (fun b off e h => by have h1 := HA3.out b off e; have h2 := HV9.out b h; have := HS23.out; have := HS34.out; omega))
      have HV95 : Hid (∀ k, v'.ownBlock = some k → k < w2.heap.size ∨ w4.heap.size ≤ k) := hid (fun k hk => by rcases hwh k hk with h | h; exact HV9.out k h; exact .inr (Nat.le_trans HW4.out h))
      have HW45 := hid (Nat.le_trans HW4.out hU.size)
      clear hown5 hgrow hne hwh hU hby hc hsz
      go_wp2_with fail
      go_roundw
      case rel => exact ⟨_, _, .inr (.inr (.inr (.inr ⟨rfl, rfl⟩))), hid rfl, HO5, HB5, HR45, HR35, HV95, HW45⟩
      case measure => simp [intOf]
    · skip
      have hfin : acc = f ++ hi.reverse := by
        have h1 := HAC.out
        rw [h1, List.take_of_length_le (by rw [List.length_reverse]; have := HHL.out; omega)]
      obtain ⟨acc1, rfl⟩ : ∃ acc1, acc1 = acc := ⟨_, rfl⟩
      have HA1 := hid hfin
      have HO1 := HO
      have HB1w := HB
      have HR41 := HR4
      have HR31 := HR3
      have HV91 := HV9
      have HW41 := HW4
      clear hfin hby HO HB HR4 HR3 HV9 HW4 HAC hsz
      go_wp2_with fail
      go_loopw [9, 13] (fun v9 vc wr => ∃ (k : Nat) (acc : List UInt8), Cnt vc k ∧ Hid (acc = acc1 ++ lo.reverse.take k) ∧ Hid (wr.ownsRow w.heap.size 5 1 v9 acc.length (bv acc)) ∧ Hid (Below w.heap.size w wr) ∧ Hid (Rd wr a4 (bv hi)) ∧ Hid (Rd wr a3 (bv lo)) ∧ Hid (∀ k, v9.ownBlock = some k → k < w2.heap.size ∨ w4.heap.size ≤ k) ∧ Hid (w4.heap.size ≤ wr.heap.size)) (fun _ vc _ => (intOf vc + 1).toNat)
      case atStart => exact ⟨0, acc1, .inl ⟨rfl, rfl⟩, hid (by simp), HO1, HB1w, HR41, HR31, HV91, HW41⟩
      case round =>
        obtain ⟨k, acc, hcnt, HAC, HO, HB, HR4, HR3, HV9, HW4⟩ := hrel
        have hsz := HB.out.size
        have hby : (acc.length + 1) * 1 ≤ 140737488355328 := by
          have := HAC.out
          have h1 := HFL.out
          have h2 := HHL.out
          have h3 := HLL.out
          rw [this, HA1.out]; simp; omega
        rcases hcnt with ⟨rfl, rfl⟩ | ⟨rfl, rfl⟩ | ⟨rfl, rfl⟩ | ⟨rfl, rfl⟩ | ⟨rfl, rfl⟩
        · obtain ⟨bq, oq, y, rfl, hc, hyq, -, -⟩ := HR3.out.byte 3 (by have := HLL.out; omega)
          have HYQ := hid hyq
          have HAB := hid (HA3.out _ _ rfl)
          clear hyq
          go_wp2_with (at_builtin; refine wpList_append1w T_bytes _ rfl _ _ #[.int .u8 ((y : UInt8).toNat : Int)] rfl w.heap.size _ _ _ rfl HO.out rfl rfl (oneU8 _) hby hsz ?_)
          intro v' w5 hown5 hgrow hne hwh
          have hU := Upd.of_grown hgrow
          have HO5 := hid (own_app4 0 HAC.out hown5 HLL.out (by omega) HYQ.out)
          have HB5 := hid (HB.out.grown hgrow hsz (fun j hj => (HO.out.lt j hj).1))
          have HR45 := hid (hU.rd HR4.out (fun b off e h => by have h1 := HA4.out b off e; have h2 := HV9.out b h; have := HS23.out; have := HS34.out; omega))
          have HR35 := hid (hU.rd HR3.out (fun b off e h => by have h1 := HA3.out b off e; have h2 := HV9.out b h; have := HS23.out; have := HS34.out; omega))
          have HV95 : Hid (∀ k, v'.ownBlock = some k → k < w2.heap.size ∨ w4.heap.size ≤ k) := hid (fun k hk => by rcases hwh k hk with h | h; exact HV9.out k h; exact .inr (Nat.le_trans HW4.out h))
          have HW45 := hid (Nat.le_trans HW4.out hU.size)
          clear hown5 hgrow hne hwh hU hby hc hsz
          go_wp2_with fail
          go_roundw
          case rel => exact ⟨_, _, .inr (.inl ⟨rfl, rfl⟩), hid rfl, HO5, HB5, HR45, HR35, HV95, HW45⟩
          case measure => simp [intOf]
        · obtain ⟨bq, oq, y, rfl, hc, hyq, -, -⟩ := HR3.out.byte 2 (by have := HLL.out; omega)
          have HYQ := hid hyq
          have HAB := hid (HA3.out _ _ rfl)
          clear hyq
          go_wp2_with (at_builtin; refine wpList_append1w T_bytes _ rfl _ _ #[.int .u8 ((y : UInt8).toNat : Int)] rfl w.heap.size _ _ _ rfl HO.out rfl rfl (oneU8 _) hby hsz ?_)
          intro v' w5 hown5 hgrow hne hwh
          have hU := Upd.of_grown hgrow
          have HO5 := hid (own_app4 1 HAC.out hown5 HLL.out (by omega) HYQ.out)
          have HB5 := hid (HB.out.grown hgrow hsz (fun j hj => (HO.out.lt j hj).1))
          have HR45 := hid (hU.rd HR4.out (fun b off e h => by have h1 := HA4.out b off e; have h2 := HV9.out b h; have := HS23.out; have := HS34.out; omega))
          have HR35 := hid (hU.rd HR3.out (fun b off e h => by have h1 := HA3.out b off e; have h2 := HV9.out b h; have := HS23.out; have := HS34.out; omega))
          have HV95 : Hid (∀ k, v'.ownBlock = some k → k < w2.heap.size ∨ w4.heap.size ≤ k) := hid (fun k hk => by rcases hwh k hk with h | h; exact HV9.out k h; exact .inr (Nat.le_trans HW4.out h))
          have HW45 := hid (Nat.le_trans HW4.out hU.size)
          clear hown5 hgrow hne hwh hU hby hc hsz
          go_wp2_with fail
          go_roundw
          case rel => exact ⟨_, _, .inr (.inr (.inl ⟨rfl, rfl⟩)), hid rfl, HO5, HB5, HR45, HR35, HV95, HW45⟩
          case measure => simp [intOf]
        · obtain ⟨bq, oq, y, rfl, hc, hyq, -, -⟩ := HR3.out.byte 1 (by have := HLL.out; omega)
          have HYQ := hid hyq
          have HAB := hid (HA3.out _ _ rfl)
          clear hyq
          go_wp2_with (at_builtin; refine wpList_append1w T_bytes _ rfl _ _ #[.int .u8 ((y : UInt8).toNat : Int)] rfl w.heap.size _ _ _ rfl HO.out rfl rfl (oneU8 _) hby hsz ?_)
          intro v' w5 hown5 hgrow hne hwh
          have hU := Upd.of_grown hgrow
          have HO5 := hid (own_app4 2 HAC.out hown5 HLL.out (by omega) HYQ.out)
          have HB5 := hid (HB.out.grown hgrow hsz (fun j hj => (HO.out.lt j hj).1))
          have HR45 := hid (hU.rd HR4.out (fun b off e h => by have h1 := HA4.out b off e; have h2 := HV9.out b h; have := HS23.out; have := HS34.out; omega))
          have HR35 := hid (hU.rd HR3.out (fun b off e h => by have h1 := HA3.out b off e; have h2 := HV9.out b h; have := HS23.out; have := HS34.out; omega))
          have HV95 : Hid (∀ k, v'.ownBlock = some k → k < w2.heap.size ∨ w4.heap.size ≤ k) := hid (fun k hk => by rcases hwh k hk with h | h; exact HV9.out k h; exact .inr (Nat.le_trans HW4.out h))
          have HW45 := hid (Nat.le_trans HW4.out hU.size)
          clear hown5 hgrow hne hwh hU hby hc hsz
          go_wp2_with fail
          go_roundw
          case rel => exact ⟨_, _, .inr (.inr (.inr (.inl ⟨rfl, rfl⟩))), hid rfl, HO5, HB5, HR45, HR35, HV95, HW45⟩
          case measure => simp [intOf]
        · obtain ⟨bq, oq, y, rfl, hc, hyq, -, -⟩ := HR3.out.byte 0 (by have := HLL.out; omega)
          rw [Nat.add_zero] at hc
          have HYQ := hid hyq
          have HAB := hid (HA3.out _ _ rfl)
          clear hyq
          go_wp2_with (at_builtin; refine wpList_append1w T_bytes _ rfl _ _ #[.int .u8 ((y : UInt8).toNat : Int)] rfl w.heap.size _ _ _ rfl HO.out rfl rfl (oneU8 _) hby hsz ?_)
          intro v' w5 hown5 hgrow hne hwh
          have hU := Upd.of_grown hgrow
          have HO5 := hid (own_app4 3 HAC.out hown5 HLL.out (by omega) HYQ.out)
          have HB5 := hid (HB.out.grown hgrow hsz (fun j hj => (HO.out.lt j hj).1))
          have HR45 := hid (hU.rd HR4.out (fun b off e h => by have h1 := HA4.out b off e; have h2 := HV9.out b h; have := HS23.out; have := HS34.out; omega))
          have HR35 := hid (hU.rd HR3.out (fun b off e h => by have h1 := HA3.out b off e; have h2 := HV9.out b h; have := HS23.out; have := HS34.out; omega))
          have HV95 : Hid (∀ k, v'.ownBlock = some k → k < w2.heap.size ∨ w4.heap.size ≤ k) := hid (fun k hk => by rcases hwh k hk with h | h; exact HV9.out k h; exact .inr (Nat.le_trans HW4.out h))
          have HW45 := hid (Nat.le_trans HW4.out hU.size)
          clear hown5 hgrow hne hwh hU hby hc hsz
          go_wp2_with fail
          go_roundw
          case rel => exact ⟨_, _, .inr (.inr (.inr (.inr ⟨rfl, rfl⟩))), hid rfl, HO5, HB5, HR45, HR35, HV95, HW45⟩
          case measure => simp [intOf]
        · skip
          have hfin : acc = f ++ hi.reverse ++ lo.reverse := by
            have h1 := HAC.out
            rw [h1, List.take_of_length_le (by rw [List.length_reverse]; have := HLL.out; omega), HA1.out]
          have HPOST : Hid (wr.ownsRow w.heap.size 5 1 u9 (r.getD []).length (bv (r.getD []))) := hid (by rw [HRR.out, Option.getD_some, ← hfin]; exact HO.out)
          have HISS : Hid (r.isSome = true) := hid (by rw [HRR.out]; rfl)
          clear hfin hby
          go_wp2_with fail
          go_ret2
          exact ⟨_, by rw [HISS.out]; rfl, HPOST.out, HB.out⟩
end Go.Proofs.Ytohknblokejldaa
end
