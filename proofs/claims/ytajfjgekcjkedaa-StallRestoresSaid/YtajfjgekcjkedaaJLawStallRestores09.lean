/- Joined texts, in this order: StallOps2. Each one's first remark says what it proves; no condition beyond those that its theorems name. -/
import Derived.Test.YtajfjgekcjkedaaJLawStallRestores08
section
/- Contracts of the package stall: Take, Put, Sell, Collect, Goods. -/
namespace Go.Proofs.Ytajfjgekcjkedaa
open Go.RowKit
open Go.Lib (hid)
set_option linter.unusedVariables false

theorem atV_del (A : List (Int × Int)) (t : Int) : atV (adel A t) = adel (atV A) t := adel_map (Value.int .i64) A t
theorem atV_put (A : List (Int × Int)) (t k : Int) : atV (aput A t k) = aput (atV A) t (.int .i64 k) := aput_map (Value.int .i64) A t k
theorem RowAt.upd0 {w w' : World} {r : RowG} (h : RowAt w r) (hb : Below w.heap.size w w') : RowAt w' r := h.upd (S := fun _ => False) (Upd.of_below hb) (fun _ _ q => q)
/-- new goods in a row -/
theorem RowAt.put {w w2 : World} {r : RowG} (h : RowAt w r) (hu : Upd (fun k => r.v.ownBlock = some k) w w2) {v' : Value} {gs' : List (Int × Int)} (ho : OwnG w2 v' gs') (hg : GoesTo w r.v v') :
    RowAt (w2.setCell ⟨r.p, 2, none⟩ v') ⟨r.h, r.p, v', r.till, gs'⟩ ∧ Upd (Feet r) w (w2.setCell ⟨r.p, 2, none⟩ v') := by
  have hk := h.blk.upd hu h.ne
  have hne : v'.ownBlock ≠ some r.p := fun e => by
    rcases hg _ e with q | q
    · exact h.ne q
    · have := h.blk.lt; omega
  have hs := Upd.setCell w2 r.p 2 v'
  refine ⟨⟨by simpa using hk.set 2 v', hs.owns ho (fun k hk q => hne (by rw [← q]; exact hk)), hne⟩, ?_⟩
  exact (hu.mono (fun k _ q => (.inr q : Feet r k))).trans hs (fun k _ q => .inl q)
theorem takeE_none {X : StX} {t : Int} (h : fdX X.goods t = none) : takeE X t = 14 := by unfold takeE; rw [h]; rfl
theorem takeE_some {X : StX} {t : Int} {g : Int × Int × Int} (h : fdX X.goods t = some g) : takeE X t = 0 := by unfold takeE; rw [h]; rfl
set_option maxRecDepth 100000 in
set_option maxHeartbeats 1000000 in
theorem stall_Take {s : Nat} {F : Nat → Prop} {X : StX} (w : World) (h : StallIs w s F X) (t : Int) :
    Calls Try.prog 11 #[.pointer (some ⟨s, 0, none⟩), .int .i64 t] w (StPost w s F (if takeE X t = 0 then takeX X t else X) (.int .i64 (takeE X t))) := by
  have H := hid h
  obtain ⟨b1, b2, R, A, hp, hr, hi⟩ := h
  have HP := hid hp
  cases hf : fdX X.goods t with
  | none =>
    rw [takeE_none hf, if_neg (by omega)]
    have HA := hid (show A.lookup t = none by rw [hr.r2, hf]; rfl)
    clear hp hr hi hf
    go_enter Try.func11, Try.ntmps11
    go_wp2_with fail
    refine (stall_findNo w HP.out t HA.out).mono ?_
    rintro e w1 ⟨rfl, rfl⟩
    go_wp2_with fail
    go_ret
    exact StPost.same H.out
  | some g =>
    have hgt := ((fdX_some hi.g1).1 hf).2
    obtain ⟨k, t', p⟩ := g
    simp only at hgt
    subst hgt
    rw [takeE_some hf, if_pos rfl]
    obtain ⟨R1, r, R2, i, e, hrk, htill, hgs, hA, hs, hl, hpos, hat⟩ := hp.find hr hi hf
    have HF := hid (stall_findYes w hp e t' (by rw [hrk]; exact hA) hs hl i (hid hpos))
    have HRW := hid (hp.row r (by rw [e]; simp))
    have hil : i < r.gs.length := (List.getElem?_eq_some_iff.1 hat).1
    have HREL : Hid (∀ v : Value, StRel ((R1 ++ (⟨r.h, r.p, v, r.till, r.gs.take i ++ r.gs.drop (i + 1)⟩ : RowG) :: R2).map RowG.core) (adel A t') (takeX X t')) := hid (by
      intro v
      have h1 := hr
      rw [e, List.map_append, List.map_cons] at h1
      have hn : ((R1.map RowG.core ++ (k, r.till, r.gs) :: R2.map RowG.core).map (·.1)).Nodup := by
        have := hp.nodup
        rw [← core_keys, e, List.map_append, List.map_cons] at this
        have e2 : r.core = (k, r.till, r.gs) := by unfold RowG.core; rw [hrk]
        rw [e2] at this; exact this
      have e2 : r.core = (k, r.till, r.gs) := by unfold RowG.core; rw [hrk]
      rw [e2] at h1
      have h2 := (h1.take hn hi hf).2.2.2
      have h3 : r.gs.take i ++ r.gs.drop (i + 1) = r.gs.filter (fun q => !decide (q.1 = t')) := by
        rw [← hpos]
        have := erase_posK (fun p : Int × Int => p.1) hs (List.mem_of_getElem? hat)
        exact this
      rw [List.map_append, List.map_cons]
      show StRel (R1.map RowG.core ++ (r.h, r.till, r.gs.take i ++ r.gs.drop (i + 1)) :: R2.map RowG.core) _ _
      rw [h3, hrk]; exact h2)
    have HIN := hid (hi.take t')
    have HE := hid e
    have HL : Hid (i < r.gs.length ∧ r.gs.length ≤ 16) := hid ⟨hil, hl⟩
    have hi1 : (i : Int) ≤ 16 := by omega
    have hi0 : (0 : Int) ≤ (i : Int) := by omega
    clear hp hr hi hf hrk htill hgs hA hs hl hpos hat e hil
    go_enter Try.func11, Try.ntmps11
    go_wp2_with fail
    refine HF.out.mono ?_
    rintro e w1 ⟨rfl, hb⟩
    have HB := hid hb
    have HP1 := hid (HP.out.below hb)
    have HRW1 := hid (HRW.out.upd0 hb)
    obtain ⟨-, -, d2⟩ := (HRW.out.upd0 hb).cells
    clear hb
    go_wp2_with fail
    refine (sl_DelG r.gs r.v w1 HRW1.out.own (by have := HL.out.2; omega) i HL.out.1 ((i : Int) + 1) rfl).mono ?_
    rintro e w2 ⟨v', rfl, ho, hu, hg⟩
    obtain ⟨a', c', hv', -⟩ := ownsRow.rd ho
    obtain ⟨N, hN⟩ : ∃ N, N = (r.gs.take i ++ r.gs.drop (i + 1)).length := ⟨_, rfl⟩
    rw [← hN] at hv'
    subst hv'
    clear hN
    have hk2 := HRW1.out.blk.upd hu HRW1.out.ne
    have f2 : w2.frozen? ⟨r.p, 2, none⟩ = false := hk2.unfrozen 2
    have d2' : w2.cell? ⟨r.p, 2, none⟩ = some r.v := by rw [hk2.cell]; rfl
    have HPUT := hid (HRW1.out.put hu ho hg)
    have HG := hid hg
    clear ho hu hg hk2 d2
    go_upto_region 5 with fail
    generalize World.setCell w2 _ _ = w3 at HPUT
    have HP3 := hid (StParts.turn (r := r) (r' := ⟨r.h, r.p, .slice a' N c', r.till, r.gs.take i ++ r.gs.drop (i + 1)⟩) (by have := HP1.out; rw [HE.out] at this; exact this) HPUT.out.2 rfl rfl HPUT.out.1 HG.out)
    obtain ⟨-, c1⟩ := HP3.out.cells
    clear f2 d2'
    go_wp2_with (at_delete; refine wpList_delE _ rfl _ _ rfl Try.underlying65 Try.underlying3 rfl HP3.out.m2 t' rfl ?_; intro w4 hm4 hu4 hz4)
    have HQ : Hid (StPost w s F (takeX X t') (.int .i64 0) (.returned (.int .i64 0)) w4) := hid (by
      rw [← atV_del] at hm4
      have hz := HB.out.size
      refine ⟨rfl, ⟨b1, b2, _, _, (HP3.out.turnA hu4 hm4).weaken (fun j q _ => ?_), HREL.out _, HIN.out⟩, ?_⟩
      · rcases q with q | q
        · exact .inl q
        · exact .inr (by omega)
      · have u1 : Upd F w w1 := Upd.of_below HB.out
        have u2 : Upd F w w3 := u1.trans HPUT.out.2 (fun j _ q => (HP.out.feet r (by rw [HE.out]; simp) j q).1)
        exact u2.trans hu4 (fun j _ q => by rw [q]; exact HP.out.f2))
    clear hm4 hu4 hz4
    go_wp2
    go_ret
    exact HQ.out

theorem look_getD (A : List (Int × Int)) (t : Int) : ∃ v2 : Int, ((atV A).lookup t).getD (.int .i64 0) = .int .i64 v2 := by
  rw [lookA]
  cases A.lookup t with
  | none => exact ⟨0, rfl⟩
  | some y => exact ⟨y, rfl⟩
theorem putE_none {X : StX} {k t p : Int} (h : X.tills.lookup k = none) : putE X k t p = 14 := by unfold putE; rw [h]; rfl
theorem putE_some {X : StX} {k t p g : Int} (h : X.tills.lookup k = some g) : putE X k t p = if t < 1 then 10 else if p < 1 ∨ 1099511627776 < p then 11 else if (fdX X.goods t).isSome then 13 else if 16 ≤ (ofX X.goods k).length then 12 else 0 := by unfold putE; rw [h]; rfl
theorem putX_no {X : StX} {k t p : Int} (h : putE X k t p ≠ 0) : putX X k t p = X := by unfold putX; rw [if_neg h]
theorem putX_yes {X : StX} {k t p : Int} (h : putE X k t p = 0) : putX X k t p = ⟨X.tills, insK kG X.goods (k, t, p)⟩ := by unfold putX; rw [if_pos h]
theorem lit_good (t p : Int) (W : World) : (Instr.buildSlice 35 1 #[(0, .agg #[.int .i64 t, .int .i64 p])]).run Try.prog W = .ok (.slice (some ⟨W.heap.size, 0, none⟩) 1 1) (W.alloc (.cells #[.int .i64 t, .int .i64 p] 51)) := by kernel_rfl
theorem owns_blk1 {w : World} {g : Nat} {a b : Value} (h : w.ownsRow g 51 2 (.slice (some ⟨g, 0, none⟩) 1 1) 1 [a, b]) : Blk w g #[a, b] := by
  rcases h.2 with ⟨q, -⟩ | ⟨g', cap, cur, q, -, hg, -, -, hc, ht⟩
  · simp at q
  · simp only [Value.slice.injEq, Option.some.injEq, Addr.mk.injEq, and_true, true_and] at q
    obtain ⟨rfl, rfl⟩ := q
    have h2 : cur.toList = [a, b] := by rw [← ht, List.take_of_length_le (by simp; omega)]
    have h3 : cur = #[a, b] := by apply Array.ext'; simpa using h2
    rw [h3] at hg
    exact ⟨_, hg⟩
set_option maxRecDepth 100000 in
set_option maxHeartbeats 2000000 in
theorem stall_PutNo {s : Nat} {F : Nat → Prop} {X : StX} (w : World) (h : StallIs w s F X) (k t p E : Int) (hE : Hid (putE X k t p = E)) (h0 : E ≠ 0) :
    Calls Try.prog 10 #[.pointer (some ⟨s, 0, none⟩), .int .i64 k, .int .i64 t, .int .i64 p] w fun e w' => e = .returned (.int .i64 E) ∧ w = w' := by
  obtain ⟨b1, b2, R, A, hp, hr, hi⟩ := h
  obtain ⟨c0, c1⟩ := hp.cells
  have HM1 := hid hp.m1
  have HM2 := hid hp.m2
  obtain ⟨v2, hv2⟩ := look_getD A t
  have H2 := hid hv2
  clear hv2
  cases ht : X.tills.lookup k with
  | none =>
    have hE2 : E = 14 := by rw [← hE.out]; exact putE_none ht
    subst hE2
    have H1 : Hid (((R.map RowG.ptr).lookup k).getD (.pointer none) = .pointer none) := hid (by rw [hp.no hr ht]; rfl)
    obtain ⟨tw, htw⟩ : ∃ tw, ((atV A).lookup t).isSome = tw := ⟨_, rfl⟩
    have H3 := hid htw
    clear hp hr hi ht htw h0
    go_enter Try.func10, Try.ntmps10
    go_wp2_with (first | (at_lookup; refine wpList_look2 _ rfl _ _ rfl Try.underlying65 Try.underlying3 (.int .i64 0) zero_int23 rfl HM2.out t rfl _ H2 _ H3 ?_) | (at_lookup; refine wpList_look1 _ rfl _ _ rfl Try.underlying64 Try.underlying3 _ zero_rowp rfl HM1.out k rfl _ H1 ?_))
    go_ret
    exact ⟨rfl, rfl⟩
  | some g =>
    obtain ⟨R1, r, R2, e, hrk, htill, hgs⟩ := hp.at hr ht
    have hE2 := hE.out
    rw [putE_some ht, ← hgs] at hE2
    have hrow := hp.row r (by rw [e]; simp)
    obtain ⟨-, -, d2⟩ := hrow.cells
    obtain ⟨a, c, hv, -⟩ := ownsRow.rd hrow.own
    rw [hv] at d2
    have H1 : Hid (((R.map RowG.ptr).lookup k).getD (.pointer none) = .pointer (some ⟨r.p, 0, none⟩)) := hid (by rw [← hrk, hp.look e]; rfl)
    have hf3 : ((atV A).lookup t).isSome = (fdX X.goods t).isSome := by rw [lookA, hr.r2, Option.isSome_map, Option.isSome_map]
    have HF3 := hid hf3
    clear hp hr hi ht e hrk htill hgs hrow hv hf3
    by_cases h1 : t < 1
    · have e1 : E = 10 := by rw [← hE2, if_pos h1]
      subst e1
      obtain ⟨tw, htw⟩ : ∃ tw, ((atV A).lookup t).isSome = tw := ⟨_, rfl⟩
      have H3 := hid htw
      clear htw hE2 h0
      go_enter Try.func10, Try.ntmps10
      go_wp2_with (first | (at_lookup; refine wpList_look2 _ rfl _ _ rfl Try.underlying65 Try.underlying3 (.int .i64 0) zero_int23 rfl HM2.out t rfl _ H2 _ H3 ?_) | (at_lookup; refine wpList_look1 _ rfl _ _ rfl Try.underlying64 Try.underlying3 _ zero_rowp rfl HM1.out k rfl _ H1 ?_))
      go_ret
      exact ⟨rfl, rfl⟩
    rw [if_neg h1] at hE2
    by_cases h2 : p < 1
    · have e1 : E = 11 := by rw [← hE2, if_pos (.inl h2)]
      subst e1
      obtain ⟨tw, htw⟩ : ∃ tw, ((atV A).lookup t).isSome = tw := ⟨_, rfl⟩
      have H3 := hid htw
      clear htw hE2 h0
      go_enter Try.func10, Try.ntmps10
      go_wp2_with (first | (at_lookup; refine wpList_look2 _ rfl _ _ rfl Try.underlying65 Try.underlying3 (.int .i64 0) zero_int23 rfl HM2.out t rfl _ H2 _ H3 ?_) | (at_lookup; refine wpList_look1 _ rfl _ _ rfl Try.underlying64 Try.underlying3 _ zero_rowp rfl HM1.out k rfl _ H1 ?_))
      go_ret
      exact ⟨rfl, rfl⟩
    by_cases h3 : 1099511627776 < p
    · have e1 : E = 11 := by rw [← hE2, if_pos (.inr h3)]
      subst e1
      have hgr := goldR_false (n := p) (by omega)
      obtain ⟨tw, htw⟩ : ∃ tw, ((atV A).lookup t).isSome = tw := ⟨_, rfl⟩
      have H3 := hid htw
      have HGR := hid hgr
      clear htw hE2 hgr h0
      go_enter Try.func10, Try.ntmps10
      go_wp2_with (first | (at_lookup; refine wpList_look2 _ rfl _ _ rfl Try.underlying65 Try.underlying3 (.int .i64 0) zero_int23 rfl HM2.out t rfl _ H2 _ H3 ?_) | (at_lookup; refine wpList_look1 _ rfl _ _ rfl Try.underlying64 Try.underlying3 _ zero_rowp rfl HM1.out k rfl _ H1 ?_))
      refine (gold_Right p w).mono ?_
      rintro e w1 ⟨rfl, rfl⟩
      rw [HGR.out]
      go_wp2_with fail
      go_ret
      exact ⟨rfl, rfl⟩
    rw [if_neg (by omega)] at hE2
    have HGR := hid (goldR_true (n := p) (by omega))
    cases hfs : (fdX X.goods t).isSome with
    | true =>
      have e1 : E = 13 := by rw [← hE2, if_pos hfs]
      subst e1
      have H3 : Hid (((atV A).lookup t).isSome = true) := hid (by rw [HF3.out, hfs])
      clear hE2 hfs h0
      go_enter Try.func10, Try.ntmps10
      go_wp2_with (first | (at_lookup; refine wpList_look2 _ rfl _ _ rfl Try.underlying65 Try.underlying3 (.int .i64 0) zero_int23 rfl HM2.out t rfl _ H2 _ H3 ?_) | (at_lookup; refine wpList_look1 _ rfl _ _ rfl Try.underlying64 Try.underlying3 _ zero_rowp rfl HM1.out k rfl _ H1 ?_))
      refine (gold_Right p w).mono ?_
      rintro e w1 ⟨rfl, rfl⟩
      rw [HGR.out]
      go_wp2_with fail
      go_ret
      exact ⟨rfl, rfl⟩
    | false =>
      rw [hfs, if_neg (by simp)] at hE2
      have H3 : Hid (((atV A).lookup t).isSome = false) := hid (by rw [HF3.out, hfs])
      by_cases h16 : 16 ≤ r.gs.length
      · have e1 : E = 12 := by rw [← hE2, if_pos h16]
        subst e1
        have h16i : (16 : Int) ≤ (r.gs.length : Int) := by omega
        clear hE2 hfs h0 h16
        go_enter Try.func10, Try.ntmps10
        go_wp2_with (first | (at_lookup; refine wpList_look2 _ rfl _ _ rfl Try.underlying65 Try.underlying3 (.int .i64 0) zero_int23 rfl HM2.out t rfl _ H2 _ H3 ?_) | (at_lookup; refine wpList_look1 _ rfl _ _ rfl Try.underlying64 Try.underlying3 _ zero_rowp rfl HM1.out k rfl _ H1 ?_))
        refine (gold_Right p w).mono ?_
        rintro e w1 ⟨rfl, rfl⟩
        rw [HGR.out]
        go_wp2_with fail
        go_ret
        exact ⟨rfl, rfl⟩
      · rw [if_neg h16] at hE2
        exact absurd hE2.symm h0
end Go.Proofs.Ytajfjgekcjkedaa
end
