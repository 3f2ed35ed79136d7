/- Joined texts, in this order: Slots3. Each one's first remark says what it proves; no condition beyond those that its theorems name. -/
import Derived.Test.YtohknblokejldaaJLawDiskCopies15
import Derived.Test.YtohknblokejldaaJLawDiskCopies11
section
/- Contract of the package slots: Parse. -/
namespace Go.Proofs.Ytohknblokejldaa
open Go.RowKit
open Go.Lib (hid)
set_option linter.unusedVariables false

/-- what Parse tells -/
def parseI (part : List UInt8) (b : List UInt8) : Option (Int × List Int) :=
  if inDone (inInts 64 (inInt (some part)).2).2 = true ∧ rightR (inInt (some part)).1 (inInts 64 (inInt (some part)).2).1 = true ∧ bytesR (inInt (some part)).1 (inInts 64 (inInt (some part)).2).1 (b.length : Int) = some b then some ((inInt (some part)).1, (inInts 64 (inInt (some part)).2).1) else none
def parseR (b : List UInt8) : Option (Int × List Int) := if b.length < 8 then none else (partL (b.take (b.length - 8))).bind fun part => parseI part b
theorem SlB.takeP {w : World} {a : Option Addr} {len c : Nat} {l : List UInt8} (h : SlB w (.slice a len c) l) (n : Nat) (hn : n ≤ l.length) : SlB w (.slice a n c) (l.take n) := by
  obtain ⟨a', c', e, h1, h2, h3, h4, h5⟩ := h
  simp only [Value.slice.injEq] at e
  obtain ⟨rfl, rfl, rfl⟩ := e
  have hl : (l.take n).length = n := by rw [List.length_take]; omega
  refine ⟨a, c, by rw [hl], by omega, fun i hi => ?_, by omega, h4, h5⟩
  rw [bv_length, hl] at hi
  obtain ⟨b, off, ha, hc⟩ := h2 i (by rw [bv_length]; omega)
  refine ⟨b, off, ha, ?_⟩
  rw [hc]
  unfold bv
  rw [List.map_take, List.getElem?_take, if_pos hi]
theorem partL_len {l p : List UInt8} (h : partL l = some p) : p.length ≤ 65536 := by
  unfold partL at h
  split at h
  · rename_i hc
    simp only [Option.some.injEq] at h
    rw [← h]
    have := hc.2.1
    simp
    omega
  · cases h
theorem InIs.reD {w : World} {g D : Nat} {s : Option (List UInt8)} (h : InIs w g D s) (h0 : 0 < g) : ∃ D', D' < w.heap.size ∧ InIs w g D' s := by
  by_cases hd : D < w.heap.size
  · exact ⟨D, hd, h⟩
  · obtain ⟨⟨a, n, cap, hb, hs, ha⟩, hne⟩ := h
    exact ⟨0, by have := hb.lt; omega, ⟨a, n, cap, hb, hs, fun b off e => by have := ha b off e; omega⟩, by omega⟩
theorem parseI_eq {part b : List UInt8} {n : Int} {s1 s2 : Option (List UInt8)} {t : List Int} (h1 : inInt (some part) = (n, s1)) (h2 : inInts 64 s1 = (t, s2)) : parseI part b = if inDone s2 = true ∧ rightR n t = true ∧ bytesR n t (b.length : Int) = some b then some (n, t) else none := by
  unfold parseI
  rw [h1]
  simp only
  rw [h2]
set_option maxRecDepth 100000 in
set_option maxHeartbeats 4000000 in
theorem slots_Parse (l : List UInt8) (u : Value) (w : World) (hl : SlB w u l) (hlen : l.length ≤ 1000000) (r : Option (Int × List Int)) (hr : Hid (parseR l = r)) :
    Calls Try.prog 19 #[u] w fun en w' => ∃ v, en = .returned (.tuple #[.agg #[.int .i64 (r.getD (0, [])).1, v], .bool r.isSome]) ∧ SlI w' v (r.getD (0, [])).2 ∧ Below w.heap.size w w' ∧ (∀ k, v.ownBlock = some k → w.heap.size < k) := by
  have HL0 := hid hl
  obtain ⟨a, c, rfl, -⟩ := hl
  obtain ⟨wa, hwa⟩ : ∃ wa, wa = w.alloc (.cells #[.int .i64 0, .slice none 0 0] 24) := ⟨_, rfl⟩
  have HWA := hid hwa
  have HKA : Hid (Below w.heap.size w wa) := hid (by rw [hwa]; exact Below.new _ _)
  have HRX : Hid (Blk wa w.heap.size #[.int .i64 0, .slice none 0 0]) := hid (by rw [hwa]; exact Blk.new _ _ _)
  have HL := hid (HL0.out.below HKA.out)
  clear hwa
  have h := hr.out
  unfold parseR at h
  -- the ends that tell none
  have HEND : Hid (r = none → ∀ x, Below wa.heap.size wa x → ∃ wf, wf = (x.setCell ⟨w.heap.size, 0, none⟩ (.int .i64 0)).setCell ⟨w.heap.size, 1, none⟩ (.slice none 0 0) ∧ Blk wf w.heap.size #[.int .i64 0, .slice none 0 0] ∧
      ∃ v, Ending.returned (.tuple #[.agg #[.int .i64 0, .slice none 0 0], .bool false]) = .returned (.tuple #[.agg #[.int .i64 (r.getD (0, [])).1, v], .bool r.isSome]) ∧ SlI wf v (r.getD (0, [])).2 ∧ Below w.heap.size w wf ∧ (∀ k, v.ownBlock = some k → w.heap.size < k)) := hid (fun hrn x hx => by
    subst hrn
    obtain ⟨wf, hwf, hb, hu⟩ := set2_of (HRX.out.below hx) (.int .i64 0) (.slice none 0 0)
    exact ⟨wf, hwf, hb, _, rfl, SlI.nil _, (Below.next HKA.out hx).trans (hu.below (Below.next HKA.out hx).size (fun k _ e => by omega)), fun k hk => by cases hk⟩)
  have HENDx : Hid (r = none → ∃ v, Ending.returned (.tuple #[.agg #[.int .i64 0, .slice none 0 0], .bool false]) = .returned (.tuple #[.agg #[.int .i64 (r.getD (0, [])).1, v], .bool r.isSome]) ∧ SlI wa v (r.getD (0, [])).2 ∧ Below w.heap.size w wa ∧ (∀ k, v.ownBlock = some k → w.heap.size < k)) := hid (fun hrn => by
    subst hrn
    exact ⟨_, rfl, SlI.nil _, HKA.out, fun k hk => by cases hk⟩)
  have i0 : (0 : Int) ≤ (l.length : Int) := by omega
  have i1 : (l.length : Int) ≤ 1000000 := by omega
  obtain ⟨hy0, hy1, hz0, hz1⟩ := HRX.out.c2
  by_cases h8 : l.length < 8
  · rw [if_pos h8] at h
    have h8' : (l.length : Int) < 8 := by omega
    have HN : Hid (r = none) := hid h.symm
    clear h h8
    go_enter Try.func19, Try.ntmps19
    go_wp2_with fail
    rw [← HWA.out]
    (try simp only [Exit.inBlock, Exit.then])
    refine bodyPost_ret (results_cell_tmp rfl _ _ _ rfl (by go_simp; rfl)) rfl ?_
    exact HENDx.out HN.out
  · rw [if_neg h8] at h
    have h8' : 8 ≤ l.length := by omega
    have h8i : ¬ (l.length : Int) < 8 := by omega
    have hc : l.length ≤ c := by obtain ⟨a', c', e, -, -, h3, -⟩ := HL.out; simp only [Value.slice.injEq] at e; omega
    have hc63 : c ≤ 9223372036854775807 := by obtain ⟨a', c', e, -, -, h3, h4, -⟩ := HL.out; simp only [Value.slice.injEq] at e; omega
    have hsp : Hid (SlB wa (.slice a (l.length - 8) c) (l.take (l.length - 8))) := hid (HL.out.takeP _ (by omega))
    obtain ⟨pr, hpr⟩ : ∃ pr, partL (l.take (l.length - 8)) = pr := ⟨_, rfl⟩
    have HPR := hid hpr
    rw [hpr] at h
    have HH := hid h
    clear hpr h h8
    go_enter Try.func19, Try.ntmps19
    go_wp2_with fail
    rw [← HWA.out]
    refine (seal_Part (l.take (l.length - 8)) _ wa hsp.out pr HPR).mono ?_
    rintro en w1 ⟨v1, rfl, hown1, hb1⟩
    have HB1 := hid hb1
    clear hy0 hy1 hz0 hz1
    obtain ⟨hy0, hy1, hz0, hz1⟩ := (HRX.out.below hb1).c2
    clear hb1
    cases pr with
    | none =>
      have HN : Hid (r = none) := hid HH.out.symm
      clear hown1
      go_wp2_with fail
      obtain ⟨wf, hwf, hblkF, hpost⟩ := HEND.out HN.out w1 HB1.out
      rw [← hwf]
      obtain ⟨hF0, hF1, -⟩ := hblkF.c2
      clear hwf hblkF
      (try simp only [Exit.inBlock, Exit.then])
      refine bodyPost_ret (results_cell_tmp rfl _ _ _ rfl (by go_simp; rfl)) rfl ?_
      exact hpost
    | some part =>
      have HPL := hid (partL_len HPR.out)
      have HV1 : Hid (SlB w1 v1 part) := hid (ownsRow.slb (ownsRow_base hown1 (Nat.zero_le _)) (by have := HPL.out; simp; omega))
      obtain ⟨q1, d1, rfl, -⟩ := ownsRow.rd hown1
      clear hown1
      have h := HH.out
      simp only [Option.bind_some] at h
      obtain ⟨n, s1, hn⟩ : ∃ n s1, inInt (some part) = (n, s1) := ⟨_, _, rfl⟩
      obtain ⟨t, s2, ht⟩ : ∃ t s2, inInts 64 s1 = (t, s2) := ⟨_, _, rfl⟩
      rw [parseI_eq hn ht] at h
      have HN := hid hn
      have HT := hid ht
      have H := hid h
      have hnb := inInt_bd (some part)
      rw [hn] at hnb
      simp only at hnb
      clear h hn ht
      go_wp2_with fail
      refine (var_NewIn part _ w1 HV1.out (by have := HPL.out; omega)).mono ?_
      rintro en w2 ⟨g, D0, rfl, hi2, hg2, hD2, hb2⟩
      obtain ⟨D, hD, hi2⟩ := hi2.reD (by have := HRX.out.lt; have := HB1.out.size; omega)
      have HI2 := hid hi2
      have HG2 := hid hg2
      have HD2 := hid hD
      have HB2 := hid (Below.next HB1.out hb2)
      clear hi2 hg2 hD2 hD hb2 hy0 hy1 hz0 hz1
      go_wp2_with fail
      refine (in_Int (some part) g D w2 HI2.out n s1 HN).mono ?_
      rintro en w3 ⟨rfl, hi3, hu3⟩
      have HI3 := hid hi3
      have HB3 : Hid (Below wa.heap.size wa w3) := hid (HB2.out.trans (hu3.below HB2.out.size (fun k _ e => by have := HG2.out; have := HB1.out.size; omega)))
      have HS23 := hid hu3.size
      clear hi3 hu3
      go_upto_region 8 with fail
      obtain ⟨w4, hw4⟩ : ∃ w4, w4 = w3.alloc (.cells #[.int .i64 n, .slice none 0 0] 24) := ⟨_, rfl⟩
      rw [← hw4]
      have HB4 : Hid (Below w3.heap.size w3 w4) := hid (by rw [hw4]; exact Below.new _ _)
      have HX4 : Hid (Blk w4 w3.heap.size #[.int .i64 n, .slice none 0 0]) := hid (by rw [hw4]; exact Blk.new _ _ _)
      have HI4 := hid (HI3.out.below HB4.out)
      clear hw4
      have hs1len : (s1.getD []).length ≤ 65536 := by
        have hp := HPL.out
        cases hq : s1 with
        | none => simp
        | some x =>
          have := inInt_less (some part) x (by rw [HN.out]; exact hq)
          simp at this ⊢
          omega
      have HL1 := hid hs1len
      have HG23 : Hid (g < w3.heap.size ∧ D < w3.heap.size) := hid ⟨HI3.out.lt, Nat.lt_of_lt_of_le HD2.out HS23.out⟩
      clear hs1len
      go_wp2_with fail
      refine (in_Ints 64 s1 g D w4 HI4.out (by have := HL1.out; omega) t s2 HT).mono ?_
      rintro en w5 ⟨v5, rfl, hown5, hi5, hu5⟩
      obtain ⟨q5, d5, rfl, -⟩ := ownsRow.rd hown5
      have hx5 := HX4.out.upd hu5 (fun e => by have := HG23.out; omega)
      obtain ⟨hy0, hy1, hz0, hz1⟩ := hx5.c2
      go_upto_region 9 with fail
      obtain ⟨w6, hw6⟩ : ∃ w6, w6 = w5.setCell ⟨w3.heap.size, 1, none⟩ (.slice q5 t.length d5) := ⟨_, rfl⟩
      rw [← hw6]
      have hS6 : Upd (fun k => k = w3.heap.size) w5 w6 := by rw [hw6]; exact Upd.setCell _ _ _ _
      have HX6 : Hid (Blk w6 w3.heap.size #[.int .i64 n, .slice q5 t.length d5]) := hid (by rw [hw6]; simpa using hx5.set 1 (.slice q5 t.length d5))
      have hB5 : Below wa.heap.size wa w5 := (Below.next HB3.out HB4.out).trans (hu5.below (Below.next HB3.out HB4.out).size (fun k _ e => by have := HG2.out; have := HB1.out.size; omega))
      have HB6 : Hid (Below wa.heap.size wa w6) := hid (hB5.trans (hS6.below hB5.size (fun k _ e => by have := HB3.out.size; omega)))
      have HI6 : Hid (InIs w6 g D s2) := hid (hi5.upd hS6 (fun e => by have := HG23.out; omega) (fun _ e => by have := HG23.out; omega))
      have HT6 : Hid (SlI w6 (.slice q5 t.length d5) t) := hid ((SlI.of_own hown5).upd hS6 (fun k hk e => by have := (hown5.lt k hk).1; have := HB4.out.size; have := HX4.out.lt; omega))
      have HKO : Hid (∀ k, (Value.slice q5 t.length d5).ownBlock = some k → w.heap.size < k) := hid (fun k hk => by have := (hown5.lt k hk).1; have := HB4.out.size; have := HB3.out.size; have := HRX.out.lt; omega)
      clear hw6 hS6 hB5 hi5 hown5 hx5 hu5 hy0 hy1 hz0 hz1
      go_wp2_with fail
      refine (in_Done s2 g D w6 HI6.out).mono ?_
      rintro en w' ⟨rfl, rfl⟩
      obtain ⟨hx0, hx1, -⟩ := HX6.out.c2
      obtain ⟨hy0, hy1, hz0, hz1⟩ := (HRX.out.below HB6.out).c2
      obtain ⟨b1, hb1⟩ : ∃ b1, inDone s2 = b1 := ⟨_, rfl⟩
      rw [hb1]
      have h := H.out
      rw [hb1] at h
      have H1 := hid h
      clear h hb1
      cases b1 with
      | false =>
        have HNN : Hid (r = none) := hid (by rw [← H1.out, if_neg (by simp)])
        go_wp2_with fail
        obtain ⟨wf, hwf, hblkF, hpost⟩ := HEND.out HNN.out w6 HB6.out
        rw [← hwf]
        obtain ⟨hF0, hF1, -⟩ := hblkF.c2
        clear hwf hblkF
        (try simp only [Exit.inBlock, Exit.then])
        refine bodyPost_ret (results_cell_tmp rfl _ _ _ rfl (by go_simp; rfl)) rfl ?_
        exact hpost
      | true =>
        obtain ⟨b2, hb2⟩ : ∃ b2, rightR n t = b2 := ⟨_, rfl⟩
        have h := H1.out
        rw [hb2] at h
        have H2 := hid h
        have HB2' := hid hb2
        clear h hb2
        go_wp2_with fail
        refine (slots_Right n t _ w6 HT6.out b2 HB2').mono ?_
        rintro en w7 ⟨rfl, hb7⟩
        have HK7 := hid hb7
        have HB7 := hid (Below.next HB6.out hb7)
        clear hx0 hx1 hy0 hy1 hz0 hz1
        obtain ⟨hx0, hx1, -⟩ := (HX6.out.below hb7).c2
        obtain ⟨hy0, hy1, hz0, hz1⟩ := (HRX.out.below HB7.out).c2
        clear hb7
        cases b2 with
        | false =>
          have HNN : Hid (r = none) := hid (by rw [← H2.out, if_neg (by simp)])
          go_wp2_with fail
          obtain ⟨wf, hwf, hblkF, hpost⟩ := HEND.out HNN.out w7 HB7.out
          rw [← hwf]
          obtain ⟨hF0, hF1, -⟩ := hblkF.c2
          clear hwf hblkF
          (try simp only [Exit.inBlock, Exit.then])
          refine bodyPost_ret (results_cell_tmp rfl _ _ _ rfl (by go_simp; rfl)) rfl ?_
          exact hpost
        | true =>
          obtain ⟨own, er, ho⟩ : ∃ own er, outB n t (l.length : Int) = (own, er) := ⟨_, _, rfl⟩
          have HO := hid ho
          have hown : (own == l) = decide (bytesR n t (l.length : Int) = some l) := by
            unfold outB at ho
            rw [if_pos HB2'.out] at ho
            cases hbr : bytesR n t (l.length : Int) with
            | none =>
              rw [hbr] at ho
              simp only [Prod.mk.injEq] at ho
              rw [← ho.1]
              cases hl0 : l with
              | nil => rw [hl0] at h8'; simp at h8'
              | cons x y => simp
            | some bb =>
              rw [hbr] at ho
              simp only [Prod.mk.injEq] at ho
              rw [← ho.1]
              by_cases hbl : bb = l
              · simp [hbl]
              · simp [hbl]
          have hol : own.length ≤ 70000 := by
            unfold outB at ho
            rw [if_pos HB2'.out] at ho
            unfold bytesR at ho
            split at ho
            · simp only [Prod.mk.injEq] at ho
              rw [← ho.1]; simp
            · rename_i bb hbb
              split at hbb
              · cases hbb
              · simp only [Option.some.injEq] at hbb
                simp only [Prod.mk.injEq] at ho
                rw [← ho.1, ← hbb, List.length_append, be8_len]
                unfold fitted
                rw [List.length_append, lowB_length, fitL_length _ _ (by omega)]
                omega
          have HOWN := hid hown
          have HOL := hid hol
          clear ho hown hol
          go_wp2_with fail
          refine (slots_Bytes n t _ (l.length : Int) w7 (HT6.out.below HK7.out) (by omega) (by omega) own er HO).mono ?_
          rintro en w8 ⟨v8, rfl, hown8, hb8⟩
          have HB8 := hid (Below.next HB7.out hb8)
          have HK8 := hid (Below.next HK7.out hb8)
          have HV8 := hid (ownsRow.slb hown8 (by have := HOL.out; omega))
          clear hx0 hx1 hy0 hy1 hz0 hz1
          obtain ⟨hx0, hx1, -⟩ := (HX6.out.below HK8.out).c2
          obtain ⟨hy0, hy1, hz0, hz1⟩ := (HRX.out.below HB8.out).c2
          clear hb8 hown8
          go_wp2_with fail
          refine (bytes_Equal own l _ _ w8 HV8.out (HL.out.below HB8.out)).mono ?_
          rintro en w' ⟨rfl, rfl⟩
          obtain ⟨b3, hb3⟩ : ∃ b3, (own == l) = b3 := ⟨_, rfl⟩
          rw [hb3]
          have HB3' := hid hb3
          clear hb3
          cases b3 with
          | false =>
            have HNN : Hid (r = none) := hid (by
              have q := HOWN.out
              rw [HB3'.out] at q
              rw [← H2.out, if_neg]
              rintro ⟨-, -, q2⟩
              rw [q2] at q; simp at q)
            go_wp2_with fail
            obtain ⟨wf, hwf, hblkF, hpost⟩ := HEND.out HNN.out w8 HB8.out
            rw [← hwf]
            obtain ⟨hF0, hF1, -⟩ := hblkF.c2
            clear hwf hblkF
            (try simp only [Exit.inBlock, Exit.then])
            refine bodyPost_ret (results_cell_tmp rfl _ _ _ rfl (by go_simp; rfl)) rfl ?_
            exact hpost
          | true =>
            have HRS : Hid (r = some (n, t)) := hid (by
              have q := HOWN.out
              rw [HB3'.out] at q
              rw [← H2.out]; simp [of_decide_eq_true q.symm])
            go_wp2_with fail
            obtain ⟨wf, hwf, hblkF, huF⟩ := set2_of (HRX.out.below HB8.out) (.int .i64 n) (.slice q5 t.length d5)
            rw [← hwf]
            have hpost : ∃ v, Ending.returned (.tuple #[.agg #[.int .i64 n, .slice q5 t.length d5], .bool true]) = .returned (.tuple #[.agg #[.int .i64 (r.getD (0, [])).1, v], .bool r.isSome]) ∧ SlI wf v (r.getD (0, [])).2 ∧ Below w.heap.size w wf ∧ (∀ k, v.ownBlock = some k → w.heap.size < k) := by
              rw [HRS.out]
              refine ⟨_, rfl, (HT6.out.below HK8.out).upd huF (fun k hk e => ?_), (Below.next HKA.out HB8.out).trans (huF.below (Below.next HKA.out HB8.out).size (fun k _ e => by omega)), HKO.out⟩
              have := HKO.out k hk
              omega
            have HPOST := hid hpost
            obtain ⟨hF0, hF1, -⟩ := hblkF.c2
            clear hwf hblkF huF hpost
            (try simp only [Exit.inBlock, Exit.then])
            refine bodyPost_ret (results_cell_tmp rfl _ _ _ rfl (by go_simp; rfl)) rfl ?_
            exact HPOST.out
end Go.Proofs.Ytohknblokejldaa
end
