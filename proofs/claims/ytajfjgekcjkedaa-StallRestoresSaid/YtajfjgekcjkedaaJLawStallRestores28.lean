/- Joined texts, in this order: StallCopy, StallCopies, StallRes2. Each one's first remark says what it proves; no condition beyond those that its theorems name. -/
import Derived.Test.YtajfjgekcjkedaaJLawStallRestores17
import Derived.Test.YtajfjgekcjkedaaJLawStallRestores27
import Derived.Test.YtajfjgekcjkedaaJLawStallRestores25
section
/- Contract of stall.Copy. -/
namespace Go.Proofs.Ytajfjgekcjkedaa
open Go.RowKit Go.ChangeShapes Go.WideShapes Go.Deep Go.Joins
open Go.Lib (hid)
set_option linter.unusedVariables false

theorem StParts.swap {w w4 : World} {s : Nat} {F : Nat → Prop} {b1 b2 : Nat} {R : List RowG} {A A' : List (Int × Int)} (h : StParts w s F b1 b2 R A) (hm : MapE w4 w.heap.size (atV A')) (hb : Below w.heap.size w w4) :
    StParts (w4.setCell ⟨s, 1, none⟩ (.map (some w.heap.size))) s (fun k => F k ∨ w.heap.size ≤ k) b1 w.heap.size R A' := by
  have h4 := h.below hb
  have hu := Upd.setCell w4 s 1 (.map (some w.heap.size))
  have z := h.blk.lt
  have z1 := h.m1.lt
  refine ⟨by simpa using h4.blk.set 1 (.map (some w.heap.size)), h4.m1.upd hu (fun q => h.n1 q.symm), hm.upd hu (fun q => by omega), .inl h.fs, .inl h.f1, .inr (Nat.le_refl _), h.n1, by omega, by omega, fun r hr => (h4.row r hr).upd hu (fun k hk q => (h.feet r hr k hk).2.1 q), fun r hr k hk => ?_, h.far⟩
  have t := h.feet r hr k hk
  have := (h.row r hr).lt k hk
  exact ⟨.inl t.1, t.2.1, t.2.2.1, by omega⟩
theorem look_nil {α : Type} {l : List (Int × α)} (h : ∀ k, l.lookup k = none) : l = [] := by
  cases l with
  | nil => rfl
  | cons p l => have := h p.1; rw [List.lookup_cons] at this; simp at this
def CopyS (w : World) (s1 r b c1 c2 : Nat) (R : List RowG) (vs : List (Int × Value)) (wr : World) : Prop :=
  ∃ (left : List (Int × Value)) (R' : List RowG), RangeE wr r b vs left ∧ StParts wr s1 (fun k => w.heap.size ≤ k ∧ k ≠ r) c1 c2 R' [] ∧ (∀ h, (R'.map RowG.core).lookup h = if h ∈ left.map (·.1) then none else (R.map RowG.core).lookup h) ∧ Below w.heap.size w wr
def StCopyPost (w : World) (X : StX) (e : Ending) (w' : World) : Prop :=
  ∃ s' F', e = .returned (.pointer (some ⟨s', 0, none⟩)) ∧ StallIs w' s' F' X ∧ (∀ k, F' k → w.heap.size ≤ k) ∧ Below w.heap.size w w'
set_option maxRecDepth 100000 in
set_option maxHeartbeats 2000000 in
theorem stall_Copy {s : Nat} {F : Nat → Prop} {X : StX} (w : World) (h : StallIs w s F X) :
    Calls Try.prog 28 #[.pointer (some ⟨s, 0, none⟩)] w (StCopyPost w X) := by
  obtain ⟨b1, b2, R, A, hp, hr, hi⟩ := h
  have HP := hid hp
  have HRL := hid hr
  have HI := hid hi
  obtain ⟨vs, hvs⟩ : ∃ vs, vs = R.map RowG.ptr := ⟨_, rfl⟩
  have hmap := hp.m1
  rw [← hvs] at hmap
  have HBW : Hid (b1 < w.heap.size) := hid hmap.lt
  have HMAP := hid hmap
  have HFORM : Hid (∀ (k : Int) (v : Value), vs.lookup k = some v → ∃ q ∈ R, v = .pointer (some ⟨q.p, 0, none⟩) ∧ k = q.h) := hid (fun k v hk => by
    rw [hvs] at hk
    obtain ⟨q, hm, e⟩ := List.mem_map.1 (lookup_mem hk)
    obtain ⟨rfl, rfl⟩ := Prod.mk.inj e
    exact ⟨q, hm, rfl, rfl⟩)
  have HSTART : Hid (∀ h, ((([] : List RowG).map RowG.core).lookup h : Option (Int × List (Int × Int))) = if h ∈ vs.map (·.1) then none else (R.map RowG.core).lookup h) := hid (by
    intro h
    by_cases hk : h ∈ vs.map (·.1)
    · rw [if_pos hk]; rfl
    · rw [if_neg hk]
      symm
      refine lookup_none_iff.2 (fun p hpm e => hk ?_)
      rw [hvs, ptr_keys, ← core_keys, ← e]
      exact List.mem_map_of_mem (f := fun x : Int × Int × List (Int × Int) => x.1) hpm)
  clear hp hr hi hvs hmap
  go_enter Try.func28, Try.ntmps28
  go_wp2_with fail
  refine (stall_New w).mono ?_
  rintro e w1 ⟨s1, rfl, h1, hb1⟩
  obtain ⟨c1, c2, R0, A0, hp1, hr1, -⟩ := h1
  have hR0 : R0.map RowG.core = [] := look_nil (fun k => by rw [hr1.r1]; rfl)
  have hA0 : A0 = [] := look_nil (fun k => by rw [hr1.r2]; rfl)
  obtain rfl : R0 = [] := by simpa using hR0
  subst hA0
  have HP1 := hid hp1
  have HB1 := hid hb1
  have HM1 := hid (HMAP.out.below hb1)
  obtain ⟨d0, -⟩ := (HP.out.below hb1).cells
  clear hp1 hr1 hb1 hR0
  go_wp2_with (at_range; refine wpList_rangeE _ rfl _ rfl Try.underlying64 rfl HM1.out ?_; intro w2 hr2 hb2 hs2)
  go_frame
  have HR2 := hid hr2
  have HB2 := hid (Below.next HB1.out hb2)
  have HP2 : Hid (StParts w2 s1 (fun k => w.heap.size ≤ k ∧ k ≠ w1.heap.size) c1 c2 [] []) := hid ((HP1.out.weaken (fun k q q2 => ⟨q, by omega⟩)).below hb2)
  have HRW : Hid (w.heap.size ≤ w1.heap.size) := hid HB1.out.size
  clear hr2 hb2 hs2 d0
  obtain ⟨r, hr⟩ : ∃ r, r = w1.heap.size := ⟨_, rfl⟩
  rw [← hr] at HR2 HP2 HRW ⊢
  clear hr
  go_loopw [4, 5] (fun _ _ wr => CopyS w s1 r b1 c1 c2 R vs wr) (fun _ _ wr => rangeN wr r b1)
  case atStart => exact ⟨vs, [], HR2.out, HP2.out, HSTART.out, HB2.out⟩
  case round =>
    clear HR2 HP2 HB2 HSTART
    obtain ⟨left, R', hrg, hpc, hof, hbr⟩ := hrel
    have HR := hid hrg
    have HPC := hid hpc
    have HOF := hid hof
    have HB := hid hbr
    have HLEN := hid hrg.len
    clear hrg hpc hof hbr
    by_cases hl0 : left = []
    · subst hl0
      obtain ⟨-, e1⟩ := (HP.out.below HB.out).cells
      obtain ⟨es, clock, hmh, hst, hes⟩ := (HP.out.below HB.out).m2
      have HES := hid (And.intro hst hes)
      have HMC := hid (AnyW.maps_Clone (Try.lays_SlLaysW_n5_46) b2 es clock wr hmh)
      clear hmh hst hes
      go_wp2_with (at_next; refine wpList_nextE _ rfl _ rfl rfl HR.out (fun _ => ?_) (fun k v w' hin => absurd hin (by simp)))
      refine HMC.out.mono ?_
      rintro e w4 ⟨rfl, hw4⟩
      have hb4 : Below wr.heap.size wr w4 := by rw [hw4]; exact Below.new _ _
      have HME : Hid (MapE w4 wr.heap.size (atV A)) := hid ⟨es, clock, by rw [hw4]; exact heap_alloc_new wr _, HES.out.1, HES.out.2⟩
      have HPOST : Hid (StCopyPost w X (.returned (.pointer (some ⟨s1, 0, none⟩))) (w4.setCell ⟨s1, 1, none⟩ (.map (some wr.heap.size)))) := hid (by
        refine ⟨s1, _, rfl, ⟨c1, wr.heap.size, R', A, HPC.out.swap HME.out hb4, ⟨fun h => ?_, HRL.out.r2⟩, HI.out⟩, fun k q => ?_, ?_⟩
        · have := HOF.out h
          simp only [List.map_nil, List.not_mem_nil, if_false] at this
          rw [this]; exact HRL.out.r1 h
        · rcases q with q | q
          · exact q.1
          · have := HB.out.size; omega
        · exact (Below.next HB.out hb4).trans ((Upd.setCell w4 s1 1 _).below (Nat.le_trans HB.out.size hb4.size) (fun j _ q => by have := HPC.out.fs.1; omega)))
      have HX4 := hid (HPC.out.blk.below hb4)
      have f1 := HX4.out.unfrozen 1
      have q1 : w4.cell? ⟨s1, 1, none⟩ = some (.map (some c2)) := by rw [HX4.out.cell]; rfl
      clear hw4 hb4 e1
      go_wp2_with fail
      go_ret
      exact HPOST.out
    · have HEX : Hid (∀ q ∈ R, ∀ w', Upd (fun k => k = r) wr w' → ∃ a2 c2, q.v = .slice a2 q.gs.length c2 ∧ SlP w' (.slice a2 q.gs.length c2) q.gs ∧ w'.cell? ⟨q.p, 0, none⟩ = some (.int .i64 q.h) ∧ w'.cell? ⟨q.p, 1, none⟩ = some (.int .i64 q.till) ∧ w'.cell? ⟨q.p, 2, none⟩ = some (.slice a2 q.gs.length c2) ∧ q.gs.length ≤ 100000) := hid (fun q hm w' hu => by
        have hrow : RowAt w' q := ((HP.out.row q hm).upd (S := fun _ => False) (Upd.of_below HB.out) (fun _ _ z => z)).upd hu (fun k hk z => by have := (HP.out.row q hm).lt k hk; have := HRW.out; omega)
        obtain ⟨a2, c2, hv, z⟩ := hrow.own.slp
        obtain ⟨d0, d1, d2⟩ := hrow.cells
        refine ⟨a2, c2, hv, by rw [← hv]; exact hrow.own.slp, d0, d1, by rw [← hv]; exact d2, ?_⟩
        have h1 : (R.map RowG.core).lookup q.h = some (q.till, q.gs) := (lookup_mem_iff (by rw [core_keys]; exact HP.out.nodup)).2 (List.mem_map_of_mem (f := RowG.core) hm)
        rw [HRL.out.r1] at h1
        cases hl : X.tills.lookup q.h with
        | none => rw [hl] at h1; simp at h1
        | some g =>
          rw [hl] at h1
          simp only [Option.map_some, Option.some.injEq, Prod.mk.injEq] at h1
          have := HI.out.g3 q.h
          rw [← h1.2]; omega)
      go_wp2_with (at_next; refine wpList_nextE _ rfl _ rfl rfl HR.out (fun h0 => absurd h0 hl0) (fun k v w' hin hlk hr' hu' hs' hen => ?_); (obtain ⟨q, hm, rfl, rfl⟩ := HFORM.out k v hlk); (have HIN := hid hin); (have HR3 := hid hr'); (have HU3 := hid hu'); (obtain ⟨a2, c2_, hv, hsl, d0, d1, d2, hq16⟩ := HEX.out q hm w' hu'); (have HSL := hid hsl); (have HQ16 := hid hq16); (have HM := hid hm); clear hin hlk hr' hu' hs' hsl hq16 hv hm)
      have HBr : Hid (Below w.heap.size w w') := hid (HB.out.trans (HU3.out.below HB.out.size (fun j _ q => by have := HRW.out; omega)))
      have HPr := hid (HPC.out.upd HU3.out (fun j q hj => hj.2 q))
      refine (stall_copied w' q.h q.till q.gs HSL.out HQ16.out).mono ?_
      rintro e w6 ⟨a', c', rfl, hown6, hb6⟩
      obtain ⟨G, hG⟩ : ∃ G, G = q.gs.length := ⟨_, rfl⟩
      have HG := hid hG
      have HO6 := hid hown6
      have HB6 := hid hb6
      rw [← hG]
      clear hown6 hb6 hG d0 d1 d2
      go_upto_region 6 with fail
      obtain ⟨w7, hw7⟩ : ∃ w7, w7 = w6.alloc (.cells #[.int .i64 q.h, .int .i64 q.till, .slice a' G c'] 37) := ⟨_, rfl⟩
      rw [← hw7]
      obtain ⟨p7, hp7⟩ : ∃ b, b = w6.heap.size := ⟨_, rfl⟩
      rw [← hp7]
      have hb7 : Below w6.heap.size w6 w7 := by rw [hw7]; exact Below.new _ _
      have HX7 := hid (show Blk w7 p7 #[.int .i64 q.h, .int .i64 q.till, .slice a' G c'] by rw [hw7, hp7]; exact Blk.new w6 _ _)
      have HB67 := hid (Below.next HB6.out hb7)
      have HO7 := hid (owns_below HO6.out hb7)
      have HP7 := hid hp7
      have HZ7 := hid hb7.size
      clear hw7 hp7 hb7
      obtain ⟨g0, -⟩ := (HPr.out.below HB67.out).cells
      have HM7 := hid (HPr.out.below HB67.out).m1
      go_wp2_with (with_reducible refine wpList_putE _ rfl (.tmp 25) (.tmp 26) (.tmp 6) rfl Try.underlying64 Try.underlying3 rfl HM7.out q.h rfl (.pointer (some ⟨p7, 0, none⟩)) rfl ?_; intro w8 hm8 hu8 hz8)
      have hnone : (R'.map RowG.ptr).lookup q.h = none := by
        have h1 := HOF.out q.h
        rw [if_pos (List.mem_map_of_mem (f := fun x : Int × Value => x.1) HIN.out), lookup_none_iff] at h1
        refine lookup_none_iff.2 (fun p hpm => ?_)
        obtain ⟨z, hz, rfl⟩ := List.mem_map.1 hpm
        exact h1 z.core (List.mem_map_of_mem hz)
      have hput : aput (R'.map RowG.ptr) q.h (.pointer (some ⟨p7, 0, none⟩)) = (R' ++ [(⟨q.h, p7, .slice a' q.gs.length c', q.till, q.gs⟩ : RowG)]).map RowG.ptr := by
        unfold aput
        rw [hnone, List.map_append]
        rfl
      rw [hput] at hm8
      have hne : ∀ k, (Value.slice a' q.gs.length c').ownBlock = some k → w'.heap.size ≤ k ∧ k < w6.heap.size := fun k hk => HO6.out.lt k hk
      have hc1 : c1 < w'.heap.size := HPr.out.m1.lt
      have hz6 := HB6.out.size
      have hp7 := HP7.out
      have hrow : RowAt w8 ⟨q.h, p7, .slice a' q.gs.length c', q.till, q.gs⟩ := ⟨by have := HX7.out.upd hu8 (fun z => by omega); rw [HG.out] at this; exact this, hu8.owns (ownsRow_base HO7.out (Nat.zero_le _)) (fun k hk z => by have := hne k hk; omega), fun z => by have := hne p7 z; omega⟩
      have hmore := HPr.out.more ((Upd.of_below (S := fun k => k = c1) HB67.out).trans hu8 (fun _ _ z => z)) hm8 hrow (fun k hk => by
        rcases hk with hk | hk
        · rw [hk]; show _ ≤ p7; omega
        · exact (hne k hk).1)
      have hrl := HR3.out.lt
      have HP8 : Hid (StParts w8 s1 (fun k => w.heap.size ≤ k ∧ k ≠ r) c1 c2 (R' ++ [(⟨q.h, p7, .slice a' q.gs.length c', q.till, q.gs⟩ : RowG)]) []) := hid (hmore.weaken (fun j hj _ => by
        rcases hj with hj | hj
        · exact hj
        · have := HBr.out.size; exact ⟨by omega, by omega⟩))
      have hfb := HPC.out.f1
      have HR8 : Hid (RangeE w8 r b1 vs (adel left q.h)) := hid ((HR3.out.upd (S := fun _ => False) (Upd.of_below HB67.out) (fun z => z) (fun z => z)).upd hu8 (fun z => hfb.2 z.symm) (fun z => by have := HBW.out; have := hfb.1; omega))
      have HB8 : Hid (Below w.heap.size w w8) := hid ((Below.next HBr.out HB67.out).trans (hu8.below (Nat.le_trans HBr.out.size HB67.out.size) (fun j _ z => by have := hfb.1; omega)))
      have HOF8 : Hid (∀ h, ((R' ++ [(⟨q.h, p7, .slice a' q.gs.length c', q.till, q.gs⟩ : RowG)]).map RowG.core).lookup h = if h ∈ (adel left q.h).map (·.1) then none else (R.map RowG.core).lookup h) := hid (by
        intro h
        have hn2 : (R'.map RowG.core).lookup q.h = none := by rw [HOF.out, if_pos (List.mem_map_of_mem (f := fun x : Int × Value => x.1) HIN.out)]
        have e2 : (R' ++ [(⟨q.h, p7, .slice a' q.gs.length c', q.till, q.gs⟩ : RowG)]).map RowG.core = R'.map RowG.core ++ [(q.h, (q.till, q.gs))] := by rw [List.map_append]; rfl
        rw [e2, look_snoc hn2]
        by_cases e : h = q.h
        · subst e
          rw [if_pos rfl, if_neg (by rw [keys_adel]; exact fun z => z.2 rfl)]
          exact ((lookup_mem_iff (by rw [core_keys]; exact HP.out.nodup)).2 (List.mem_map_of_mem (f := RowG.core) HM.out)).symm
        · rw [if_neg e, HOF.out h]
          by_cases z : h ∈ left.map (·.1)
          · rw [if_pos z, if_pos (by rw [keys_adel]; exact ⟨z, e⟩)]
          · rw [if_neg z, if_neg (by rw [keys_adel]; exact fun y => z y.1)])
      clear hm8 hu8 hz8 hnone hput hne hc1 hz6 hp7 hrow hmore hrl hfb g0
      go_wp2
      go_simp
      go_roundw
      case rel => exact ⟨adel left q.h, _, HR8.out, HP8.out, HOF8.out, HB8.out⟩
      case measure => rw [HR8.out.len, HLEN.out]; exact adel_len HIN.out
end Go.Proofs.Ytajfjgekcjkedaa
end
section
/- Law StallCopies. -/
namespace Go.Proofs.Ytajfjgekcjkedaa
open Go.RowKit
open Go.Lib (hid)
set_option linter.unusedVariables false

def PlaysO (w : World) (s bX n m : Nat) (v26 : Value) (wr : World) : Prop :=
  ∃ (j : Nat) (X : StX) (F : Nat → Prop) (at_ : Option Addr) (ct : Nat) (ag : Option Addr) (cg : Nat), v26 = .int .i64 (j : Int) ∧ j ≤ n ∧ Hid (Both wr s F at_ ct ag cg X) ∧ Hid (Blk wr bX #[.slice at_ X.tills.length ct, .slice ag X.goods.length cg]) ∧ Hid (¬ F bX ∧ (∀ k, (aB at_ k ∨ aB ag k) → k ≠ bX) ∧ X.tills.length ≤ m + j ∧ X.goods.length ≤ m + j ∧ (∀ k, F k → w.heap.size ≤ k)) ∧ Hid (Below w.heap.size w wr)
theorem sumB {w : World} {s : Nat} {F : Nat → Prop} {X : StX} (h : StallIs w s F X) (hl : X.tills.length ≤ 1000) : sumT X.tills ≤ 4611686018427387904 := by
  have h1 := sumT_le23 (T := X.tills) (fun p hp => (h.inv.t2 p hp).2.2.2)
  omega
set_option maxRecDepth 100000 in
set_option maxHeartbeats 8000000 in
theorem law23_Copies (L : List OpS) (a : Option Addr) (c : Nat) (M : List OpS) (am : Option Addr) (cm : Nat) (w : World) (hl : SlE OpSE 4 w (.slice a L.length c) L) (hm : SlE OpSE 4 w (.slice am M.length cm) M) (h60 : L.length ≤ 60) (h60m : M.length ≤ 60) :
    Calls Try.prog 6 #[.slice a L.length c, .slice am M.length cm] w fun e w' => e = .returned (.bool true) ∧ Below w.heap.size w w' := by
  have HL := hid hl
  have HMM := hid hm
  have i2 : ¬ (60 : Int) < (L.length : Int) := by omega
  have i3 : ¬ (60 : Int) < (M.length : Int) := by omega
  clear hl hm
  go_enter Try.func6, Try.ntmps6
  go_wp2_with fail
  refine (stall_New w).mono ?_
  rintro e w1 ⟨s, rfl, h1, hb1⟩
  have H1 := hid h1
  have HB1 := hid hb1
  clear h1 hb1
  go_upto_region 5 with fail
  obtain ⟨w2, hw2⟩ : ∃ w2, w2 = w1.alloc (.cells #[.slice none 0 0, .slice none 0 0] 46) := ⟨_, rfl⟩
  rw [← hw2]
  obtain ⟨bX, hbX⟩ : ∃ b, b = w1.heap.size := ⟨_, rfl⟩
  rw [← hbX]
  have hb2 : Below w1.heap.size w1 w2 := by rw [hw2]; exact Below.new _ _
  have HX2 := hid (show Blk w2 bX #[.slice none 0 0, .slice none 0 0] by rw [hw2, hbX]; exact Blk.new w1 _ _)
  have HB2 := hid (Below.next HB1.out hb2)
  have HBO : Hid (Both w2 s (fun k => w.heap.size ≤ k ∧ k < w1.heap.size) none 0 none 0 ⟨[], []⟩) := hid ⟨(H1.out.weaken (fun k q q2 => ⟨q, q2⟩)).below hb2, ⟨SlP.nil _, Sl3.nil _, by simp, by simp⟩, fun k q => by have := hb2.size; omega, fun k q => by simp [aB, Value.ownBlock] at q, fun k q => by simp [aB, Value.ownBlock] at q⟩
  have HN : Hid (¬ (w.heap.size ≤ bX ∧ bX < w1.heap.size) ∧ (∀ k, (aB none k ∨ aB none k) → k ≠ bX) ∧ (0 : Nat) ≤ 0 + 0 ∧ (0 : Nat) ≤ 0 + 0 ∧ (∀ k, (w.heap.size ≤ k ∧ k < w1.heap.size) → w.heap.size ≤ k)) := hid ⟨by omega, fun k q => by simp [aB, Value.ownBlock] at q, Nat.le_refl _, Nat.le_refl _, fun k q => q.1⟩
  have HGE : Hid (w.heap.size ≤ bX) := hid (by rw [hbX]; exact HB1.out.size)
  clear hw2 hbX hb2
  go_wp2_with fail
  go_loopw [34] (fun v34 wr => PlaysO w s bX L.length 0 v34 wr) (fun v34 _ => L.length - (intOf v34).toNat)
  case atStart => exact ⟨0, _, _, _, _, _, _, rfl, by omega, HBO, HX2, HN, HB2⟩
  case round =>
    clear H1 HB1 HX2 HBO HN HB2
    obtain ⟨j, X, F, at_, ct, ag, cg, rfl, hj, HBO, HBX, HN, HB⟩ := hrel
    by_cases hlt : j < L.length
    · have j1 : (j : Int) < (L.length : Int) := by omega
      have j0 : (0 : Int) ≤ (j : Int) := by omega
      obtain ⟨o, hp⟩ : ∃ o, L[j]? = some o := ⟨_, List.getElem?_eq_getElem hlt⟩
      obtain ⟨bo, off, rfl, q0, q1, q2, q3, hh63, ht63, -⟩ := HL.out.opS HB.out hp
      obtain ⟨ok, oh, ot, op⟩ := o
      simp only at q0 q1 q2 q3 hh63 ht63
      obtain ⟨X', hX'⟩ : ∃ X', stepX X ⟨ok, oh, ot, op⟩ = X' := ⟨_, rfl⟩
      have HXN := hid hX'
      have HLEN := hid (show X'.tills.length ≤ X.tills.length + 1 ∧ X'.goods.length ≤ X.goods.length + 1 by rw [← hX']; exact stepX_len X _)
      have HH63 := hid hh63
      have HT63 := hid ht63
      clear hp hX' hh63 ht63
      go_upto_region 8 with fail
      obtain ⟨w5, hw5⟩ : ∃ w5, w5 = wr.alloc (.cells #[.int .i64 ok, .int .i64 oh, .int .i64 ot, .int .i64 op] 27) := ⟨_, rfl⟩
      rw [← hw5]
      have hb5 : Below wr.heap.size wr w5 := by rw [hw5]; exact Below.new _ _
      obtain ⟨bb, hbb⟩ : ∃ bb, bb = wr.heap.size := ⟨_, rfl⟩
      rw [← hbb]
      have HO5 : Hid (Blk w5 bb #[.int .i64 ok, .int .i64 oh, .int .i64 ot, .int .i64 op]) := hid (by rw [hw5, hbb]; exact Blk.new _ _ _)
      have HX5 := hid (HBX.out.below hb5)
      have HBO5 : Hid (Both w5 s F at_ ct ag cg X) := hid ⟨HBO.out.st.below hb5, HBO.out.rx.below hb5, fun k q => by have := HBO.out.fl k q; have := hb5.size; omega, fun k q => by have := HBO.out.low k q; have := hb5.size; omega, HBO.out.far⟩
      have HB5 := hid (Below.next HB.out hb5)
      have HZ : Hid (¬ F bb ∧ bX ≠ bb ∧ wr.heap.size = bb) := hid ⟨fun q => by have := HBO.out.fl _ q; omega, by have := HBX.out.lt; omega, hbb.symm⟩
      clear hw5 hb5 hbb q0 q1 q2 q3
      have x0 : w5.cell? ⟨bX, 0, none⟩ = some (.slice at_ X.tills.length ct) := by rw [HX5.out.cell]; rfl
      have x1 : w5.cell? ⟨bX, 1, none⟩ = some (.slice ag X.goods.length cg) := by rw [HX5.out.cell]; rfl
      have cx0 : w5.cell? ⟨bb, 0, none⟩ = some (.int .i64 ok) := by rw [HO5.out.cell]; rfl
      have cx1 : w5.cell? ⟨bb, 1, none⟩ = some (.int .i64 oh) := by rw [HO5.out.cell]; rfl
      have cx2 : w5.cell? ⟨bb, 2, none⟩ = some (.int .i64 ot) := by rw [HO5.out.cell]; rfl
      have cx3 : w5.cell? ⟨bb, 3, none⟩ = some (.int .i64 op) := by rw [HO5.out.cell]; rfl
      go_wp2_with fail
      refine (law23_step w5 HBO5.out (by have := HN.out.2.2.1; omega) (by have := HN.out.2.2.2.1; omega) ⟨ok, oh, ot, op⟩ HH63.out HT63.out HXN.out).mono ?_
      rintro e w6 ⟨F', at', ct', ag', cg', rfl, hbo6, hu6, hF6, hr6⟩
      have HBO6 := hid hbo6
      have HX6 := hid (HX5.out.upd hu6 HN.out.1)
      have HR6 := hid hr6
      have HF6 := hid hF6
      have HB6 := hid (HB5.out.trans (hu6.below HB5.out.size (fun k _ q => HN.out.2.2.2.2 k q)))
      clear hbo6 hu6 hF6 hr6 x0 x1 cx0 cx1 cx2 cx3
      have x0 : w6.cell? ⟨bX, 0, none⟩ = some (.slice at_ X.tills.length ct) := by rw [HX6.out.cell]; rfl
      have x1 : w6.cell? ⟨bX, 1, none⟩ = some (.slice ag X.goods.length cg) := by rw [HX6.out.cell]; rfl
      have f0 : w6.frozen? ⟨bX, 0, none⟩ = false := HX6.out.unfrozen 0
      have f1 : w6.frozen? ⟨bX, 1, none⟩ = false := HX6.out.unfrozen 1
      go_upto_region 9 with fail
      have HX7 : Hid (Blk ((w6.setCell ⟨bX, 0, none⟩ (.slice at' X'.tills.length ct')).setCell ⟨bX, 1, none⟩ (.slice ag' X'.goods.length cg')) bX #[.slice at' X'.tills.length ct', .slice ag' X'.goods.length cg']) := hid (by simpa using (HX6.out.set 0 (.slice at' X'.tills.length ct')).set 1 (.slice ag' X'.goods.length cg'))
      have HU7 := hid ((Upd.setCell w6 bX 0 (.slice at' X'.tills.length ct')).trans (Upd.setCell _ bX 1 (.slice ag' X'.goods.length cg')) (fun _ _ q => q))
      generalize World.setCell (World.setCell w6 _ _) _ _ = w7 at HX7 HU7
      have HNF : Hid (¬ F' bX ∧ (∀ k, (aB at' k ∨ aB ag' k) → k ≠ bX) ∧ X'.tills.length ≤ 0 + (j + 1) ∧ X'.goods.length ≤ 0 + (j + 1) ∧ (∀ k, F' k → w.heap.size ≤ k)) := hid ⟨fun q => by
        rcases HF6.out _ q with q | q
        · exact HN.out.1 q
        · have := HX5.out.lt; omega, fun k hk q => by
        rcases HR6.out k hk with q2 | q2
        · exact HN.out.2.1 k q2 q
        · have := HX5.out.lt; omega, by have := HLEN.out.1; have := HN.out.2.2.1; omega, by have := HLEN.out.2; have := HN.out.2.2.2.1; omega, fun k hk => by
        rcases HF6.out _ hk with q | q
        · exact HN.out.2.2.2.2 k q
        · have := HB5.out.size; omega⟩
      have HBO7 : Hid (Both w7 s F' at' ct' ag' cg' X') := hid ⟨HBO6.out.st.upd HU7.out (fun k q hk => by subst q; exact HNF.out.1 hk), HBO6.out.rx.upd HU7.out (fun k hk q => HNF.out.2.1 k hk q), fun k q => by have := HBO6.out.fl k q; have := HU7.out.size; omega, fun k q => by have := HBO6.out.low k q; have := HU7.out.size; omega, HBO6.out.far⟩
      have HB7 := hid (HB6.out.trans (HU7.out.below HB6.out.size (fun k _ q => by have := HGE.out; omega)))
      clear x0 x1 f0 f1
      go_wp2_with fail
      go_roundw
      case rel => exact ⟨j + 1, _, _, _, _, _, _, by go_num, by omega, HBO7, HX7, HNF, HB7⟩
      case measure => simp [intOf]; omega
    · have j1 : ¬ (j : Int) < (L.length : Int) := by omega
      obtain ⟨w0, hw0⟩ : ∃ w0, w0 = wr := ⟨_, rfl⟩
      subst hw0
      have HBX0 := HBX
      have HBO0 := HBO
      have HB0 := HB
      have HN0 := HN
      have HJ := hid hj
      go_wp2_with fail
      refine (stall_Copy w0 HBO0.out.st).mono ?_
      rintro e wC ⟨s', G, rfl, hsC, hG, hbC⟩
      have HSC := hid (hsC.weaken (G := fun k => w0.heap.size ≤ k ∧ k < wC.heap.size) (fun k q q2 => ⟨hG k q, q2⟩))
      have HBC := hid hbC
      have HXC := hid (HBX0.out.below hbC)
      clear hsC hG hbC
      have x0 : wC.cell? ⟨bX, 0, none⟩ = some (.slice at_ X.tills.length ct) := by rw [HXC.out.cell]; rfl
      have x1 : wC.cell? ⟨bX, 1, none⟩ = some (.slice ag X.goods.length cg) := by rw [HXC.out.cell]; rfl
      go_upto_region 14 with fail
      clear x0 x1
      obtain ⟨w2, hw2⟩ : ∃ w2, w2 = wC.alloc (.cells #[.slice at_ X.tills.length ct, .slice ag X.goods.length cg] 46) := ⟨_, rfl⟩
      rw [← hw2]
      obtain ⟨bY, hbY⟩ : ∃ b, b = wC.heap.size := ⟨_, rfl⟩
      rw [← hbY]
      have hb2 : Below wC.heap.size wC w2 := by rw [hw2]; exact Below.new _ _
      have HX2 := hid (show Blk w2 bY #[.slice at_ X.tills.length ct, .slice ag X.goods.length cg] by rw [hw2, hbY]; exact Blk.new wC _ _)
      have HB2 := hid (Below.next HBC.out hb2)
      have HBY : Hid (Both w2 s' (fun k => w0.heap.size ≤ k ∧ k < wC.heap.size) at_ ct ag cg X) := hid ⟨HSC.out.below hb2, (HBO0.out.rx.below HBC.out).below hb2, fun k q => by have := hb2.size; omega, fun k q => by have := HBO0.out.low k q; have := HB2.out.size; omega, fun k q z => by have := HBO0.out.low k q; omega⟩
      have HNY : Hid (¬ (w0.heap.size ≤ bY ∧ bY < wC.heap.size) ∧ (∀ k, (aB at_ k ∨ aB ag k) → k ≠ bY) ∧ X.tills.length ≤ 60 + 0 ∧ X.goods.length ≤ 60 + 0 ∧ (∀ k, (w0.heap.size ≤ k ∧ k < wC.heap.size) → w0.heap.size ≤ k)) := hid ⟨by omega, fun k q => by have := HBO0.out.low k q; have := HBC.out.size; omega, by have := HN0.out.2.2.1; have := HJ.out; omega, by have := HN0.out.2.2.2.1; have := HJ.out; omega, fun k q => q.1⟩
      have HGY : Hid (w0.heap.size ≤ bY) := hid (by rw [hbY]; exact HBC.out.size)
      clear hw2 hbY hb2 HBO HBX HN HB HGE hj j1
      have HGE := HGY
      obtain ⟨X0, hX0⟩ : ∃ X0, X0 = X := ⟨_, rfl⟩
      go_wp2_with fail
      go_loopw [53] (fun v53 wr => PlaysO w0 s' bY M.length 60 v53 wr) (fun v53 _ => M.length - (intOf v53).toNat)
      case atStart => exact ⟨0, _, _, _, _, _, _, rfl, by omega, HBY, HX2, HNY, HB2⟩
      case round =>
        clear HX2 HBY HNY HB2
        obtain ⟨i, Y, FY, aty, cty, agy, cgy, rfl, hi, HBO, HBX, HN, HB⟩ := hrel
        by_cases hlt : i < M.length
        · have i1 : (i : Int) < (M.length : Int) := by omega
          have i0 : (0 : Int) ≤ (i : Int) := by omega
          obtain ⟨o, hp⟩ : ∃ o, M[i]? = some o := ⟨_, List.getElem?_eq_getElem hlt⟩
          obtain ⟨bo, off, rfl, q0, q1, q2, q3, hh63, ht63, -⟩ := HMM.out.opS (Below.next HB0.out HB.out) hp
          obtain ⟨ok, oh, ot, op⟩ := o
          simp only at q0 q1 q2 q3 hh63 ht63
          obtain ⟨Y', hY'⟩ : ∃ Y', stepX Y ⟨ok, oh, ot, op⟩ = Y' := ⟨_, rfl⟩
          have HXN := hid hY'
          have HLEN := hid (show Y'.tills.length ≤ Y.tills.length + 1 ∧ Y'.goods.length ≤ Y.goods.length + 1 by rw [← hY']; exact stepX_len Y _)
          have HH63 := hid hh63
          have HT63 := hid ht63
          clear hp hY' hh63 ht63
          go_upto_region 17 with fail
          obtain ⟨w5, hw5⟩ : ∃ w5, w5 = wr.alloc (.cells #[.int .i64 ok, .int .i64 oh, .int .i64 ot, .int .i64 op] 27) := ⟨_, rfl⟩
          rw [← hw5]
          have hb5 : Below wr.heap.size wr w5 := by rw [hw5]; exact Below.new _ _
          obtain ⟨bb, hbb⟩ : ∃ bb, bb = wr.heap.size := ⟨_, rfl⟩
          rw [← hbb]
          have HO5 : Hid (Blk w5 bb #[.int .i64 ok, .int .i64 oh, .int .i64 ot, .int .i64 op]) := hid (by rw [hw5, hbb]; exact Blk.new _ _ _)
          have HX5 := hid (HBX.out.below hb5)
          have HBO5 : Hid (Both w5 s' FY aty cty agy cgy Y) := hid ⟨HBO.out.st.below hb5, HBO.out.rx.below hb5, fun k q => by have := HBO.out.fl k q; have := hb5.size; omega, fun k q => by have := HBO.out.low k q; have := hb5.size; omega, HBO.out.far⟩
          have HB5 := hid (Below.next HB.out hb5)
          have HZ : Hid (¬ FY bb ∧ bY ≠ bb ∧ wr.heap.size = bb) := hid ⟨fun q => by have := HBO.out.fl _ q; omega, by have := HBX.out.lt; omega, hbb.symm⟩
          clear hw5 hb5 hbb q0 q1 q2 q3
          have x0 : w5.cell? ⟨bY, 0, none⟩ = some (.slice aty Y.tills.length cty) := by rw [HX5.out.cell]; rfl
          have x1 : w5.cell? ⟨bY, 1, none⟩ = some (.slice agy Y.goods.length cgy) := by rw [HX5.out.cell]; rfl
          have cx0 : w5.cell? ⟨bb, 0, none⟩ = some (.int .i64 ok) := by rw [HO5.out.cell]; rfl
          have cx1 : w5.cell? ⟨bb, 1, none⟩ = some (.int .i64 oh) := by rw [HO5.out.cell]; rfl
          have cx2 : w5.cell? ⟨bb, 2, none⟩ = some (.int .i64 ot) := by rw [HO5.out.cell]; rfl
          have cx3 : w5.cell? ⟨bb, 3, none⟩ = some (.int .i64 op) := by rw [HO5.out.cell]; rfl
          go_wp2_with fail
          refine (law23_step w5 HBO5.out (by have := HN.out.2.2.1; omega) (by have := HN.out.2.2.2.1; omega) ⟨ok, oh, ot, op⟩ HH63.out HT63.out HXN.out).mono ?_
          rintro e w6 ⟨FY', at', cty', agy', cgy', rfl, hbo6, hu6, hF6, hr6⟩
          have HBO6 := hid hbo6
          have HX6 := hid (HX5.out.upd hu6 HN.out.1)
          have HR6 := hid hr6
          have HF6 := hid hF6
          have HB6 := hid (HB5.out.trans (hu6.below HB5.out.size (fun k _ q => HN.out.2.2.2.2 k q)))
          clear hbo6 hu6 hF6 hr6 x0 x1 cx0 cx1 cx2 cx3
          have x0 : w6.cell? ⟨bY, 0, none⟩ = some (.slice aty Y.tills.length cty) := by rw [HX6.out.cell]; rfl
          have x1 : w6.cell? ⟨bY, 1, none⟩ = some (.slice agy Y.goods.length cgy) := by rw [HX6.out.cell]; rfl
          have f0 : w6.frozen? ⟨bY, 0, none⟩ = false := HX6.out.unfrozen 0
          have f1 : w6.frozen? ⟨bY, 1, none⟩ = false := HX6.out.unfrozen 1
          go_upto_region 19 with fail
          have HX7 : Hid (Blk ((w6.setCell ⟨bY, 0, none⟩ (.slice at' Y'.tills.length cty')).setCell ⟨bY, 1, none⟩ (.slice agy' Y'.goods.length cgy')) bY #[.slice at' Y'.tills.length cty', .slice agy' Y'.goods.length cgy']) := hid (by simpa using (HX6.out.set 0 (.slice at' Y'.tills.length cty')).set 1 (.slice agy' Y'.goods.length cgy'))
          have HU7 := hid ((Upd.setCell w6 bY 0 (.slice at' Y'.tills.length cty')).trans (Upd.setCell _ bY 1 (.slice agy' Y'.goods.length cgy')) (fun _ _ q => q))
          generalize World.setCell (World.setCell w6 _ _) _ _ = w7 at HX7 HU7
          have HNF : Hid (¬ FY' bY ∧ (∀ k, (aB at' k ∨ aB agy' k) → k ≠ bY) ∧ Y'.tills.length ≤ 60 + (i + 1) ∧ Y'.goods.length ≤ 60 + (i + 1) ∧ (∀ k, FY' k → w0.heap.size ≤ k)) := hid ⟨fun q => by
            rcases HF6.out _ q with q | q
            · exact HN.out.1 q
            · have := HX5.out.lt; omega, fun k hk q => by
            rcases HR6.out k hk with q2 | q2
            · exact HN.out.2.1 k q2 q
            · have := HX5.out.lt; omega, by have := HLEN.out.1; have := HN.out.2.2.1; omega, by have := HLEN.out.2; have := HN.out.2.2.2.1; omega, fun k hk => by
            rcases HF6.out _ hk with q | q
            · exact HN.out.2.2.2.2 k q
            · have := HB5.out.size; omega⟩
          have HBO7 : Hid (Both w7 s' FY' at' cty' agy' cgy' Y') := hid ⟨HBO6.out.st.upd HU7.out (fun k q hk => by subst q; exact HNF.out.1 hk), HBO6.out.rx.upd HU7.out (fun k hk q => HNF.out.2.1 k hk q), fun k q => by have := HBO6.out.fl k q; have := HU7.out.size; omega, fun k q => by have := HBO6.out.low k q; have := HU7.out.size; omega, HBO6.out.far⟩
          have HB7 := hid (HB6.out.trans (HU7.out.below HB6.out.size (fun k _ q => by have := HGE.out; omega)))
          clear x0 x1 f0 f1
          go_wp2_with fail
          go_roundw
          case rel => exact ⟨i + 1, _, _, _, _, _, _, by go_num, by omega, HBO7, HX7, HNF, HB7⟩
          case measure => simp [intOf]; omega
        · have i1 : ¬ (i : Int) < (M.length : Int) := by omega
          have HXR := hid (HBX0.out.below HB.out)
          have HSR := hid (HBO0.out.st.below HB.out)
          have HRR := hid (HBO0.out.rx.below HB.out)
          have HSX : Hid (sumT X.tills ≤ 4611686018427387904) := hid (sumB HSR.out (by have := HN0.out.2.2.1; have := HJ.out; omega))
          have HSY : Hid (sumT Y.tills ≤ 4611686018427387904) := hid (sumB HBO.out.st (by have := HN.out.2.2.1; omega))
          have x0 : wr.cell? ⟨bX, 0, none⟩ = some (.slice at_ X.tills.length ct) := by rw [HXR.out.cell]; rfl
          have x1 : wr.cell? ⟨bX, 1, none⟩ = some (.slice ag X.goods.length cg) := by rw [HXR.out.cell]; rfl
          go_wp2_with fail
          refine (law23_same wr HSR.out HRR.out HSX.out).mono ?_
          rintro e w8 ⟨rfl, hb8⟩
          have HX8 := hid (HBX.out.below hb8)
          have HS8 := hid (HBO.out.st.below hb8)
          have HR8 := hid (HBO.out.rx.below hb8)
          have HB8 := hid (Below.next HB.out hb8)
          clear hb8 x0 x1
          have x0 : w8.cell? ⟨bY, 0, none⟩ = some (.slice aty Y.tills.length cty) := by rw [HX8.out.cell]; rfl
          have x1 : w8.cell? ⟨bY, 1, none⟩ = some (.slice agy Y.goods.length cgy) := by rw [HX8.out.cell]; rfl
          go_wp2_with fail
          refine (law23_same w8 HS8.out HR8.out HSY.out).mono ?_
          rintro e w9 ⟨rfl, hb9⟩
          have HB9 := hid (Below.next HB8.out hb9)
          clear hb9 x0 x1
          go_wp2_with fail
          refine (law23_awake w9).mono ?_
          rintro e wE ⟨rfl, hbE⟩
          have HBE := hid (Below.next HB0.out (Below.next HB9.out hbE))
          clear hbE
          go_wp2_with fail
          go_ret
          exact ⟨rfl, HBE.out⟩
set_option maxRecDepth 100000 in
set_option maxHeartbeats 1000000 in
theorem law23_CopiesFar (L : List OpS) (a : Option Addr) (c : Nat) (M : List OpS) (am : Option Addr) (cm : Nat) (w : World) (h63 : L.length ≤ 9223372036854775807) (h63m : M.length ≤ 9223372036854775807) (h : 60 < L.length ∨ 60 < M.length) :
    Calls Try.prog 6 #[.slice a L.length c, .slice am M.length cm] w fun e w' => e = .returned (.bool true) ∧ Below w.heap.size w w' := by
  by_cases h1 : 60 < L.length
  · have i2 : (60 : Int) < (L.length : Int) := by omega
    clear h h1
    go_enter Try.func6, Try.ntmps6
    go_wp2_with fail
    refine (stall_New w).mono ?_
    rintro e w1 ⟨s, rfl, h1, hb1⟩
    have HB1 := hid hb1
    clear h1 hb1
    go_wp2_with fail
    refine (law23_awake w1).mono ?_
    rintro e w7 ⟨rfl, hb7⟩
    have HB7 := hid (Below.next HB1.out hb7)
    clear hb7
    go_wp2_with fail
    go_ret
    exact ⟨rfl, HB7.out⟩
  · have i2 : ¬ (60 : Int) < (L.length : Int) := by omega
    have i3 : (60 : Int) < (M.length : Int) := by omega
    clear h h1
    go_enter Try.func6, Try.ntmps6
    go_wp2_with fail
    refine (stall_New w).mono ?_
    rintro e w1 ⟨s, rfl, h1, hb1⟩
    have HB1 := hid hb1
    clear h1 hb1
    go_wp2_with fail
    refine (law23_awake w1).mono ?_
    rintro e w7 ⟨rfl, hb7⟩
    have HB7 := hid (Below.next HB1.out hb7)
    clear hb7
    go_wp2_with fail
    go_ret
    exact ⟨rfl, HB7.out⟩
set_option maxRecDepth 100000 in
theorem StallCopies_walk {H : Type} {enc : TypeId × Value → H} {b0 b1 : Nat} {d0 d1 : DataW H} {p0 p1 : List MemPlace} (v0 v1 : Value) (w : World) (ok0 : Value.okWide Try.prog w .any b0 22 v0) (k0 : DataW.Trod enc Try.prog w 0 (fun _ => true) true 22 v0 d0 p0)
    (ok1 : Value.okWide Try.prog w .any b1 22 v1) (k1 : DataW.Trod enc Try.prog w 0 (fun _ => true) true 22 v1 d1 p1) :
    Calls Try.prog 6 #[v0, v1] w fun e w' => e = .returned (.bool true) ∧ Below w.heap.size w w' := by
  obtain ⟨L, hL⟩ := open_ops23 ok0 k0
  obtain ⟨M, hM⟩ := open_ops23 ok1 k1
  clear ok0 k0 ok1 k1
  have HL := hid hL
  have HM := hid hM
  obtain ⟨a, c, rfl, hlc, hcm, -⟩ := hL
  obtain ⟨am, cm, rfl, hlc2, hcm2, -⟩ := hM
  by_cases h : L.length ≤ 60 ∧ M.length ≤ 60
  · exact law23_Copies L a c M am cm w HL.out HM.out h.1 h.2
  · exact law23_CopiesFar L a c M am cm w (by omega) (by omega) (by omega)
end Go.Proofs.Ytajfjgekcjkedaa
end
section
/- Law StallRestores: what its loops keep. -/
namespace Go.Proofs.Ytajfjgekcjkedaa
open Go.RowKit
open Go.Lib (hid)
set_option linter.unusedVariables false

theorem rX_len2 {L : List R3} : ∀ k, (∀ i p, i < k → L[i]? = some p → p.2.2.length ≤ 30) → (rX L k).tills.length ≤ k ∧ (rX L k).goods.length ≤ 30 * k
  | 0, _ => ⟨Nat.le_refl _, Nat.le_refl _⟩
  | k + 1, hg => by
    have ih := rX_len2 k (fun i p hi hp => hg i p (by omega) hp)
    unfold rX
    split
    · rename_i p hp
      have h1 := row0_len (rX L k) p
      have h2 := gX_len (row0 (rX L k) p) p.1 p.2.2 p.2.2.length
      have h3 := hg k p (by omega) hp
      omega
    · omega
/-- the document's stalls in a variable -/
structure RefS (w : World) (bX : Nat) (at_ : Option Addr) (ct : Nat) (ag : Option Addr) (cg : Nat) (X : StX) : Prop where
  rx : RefX w at_ ct ag cg X
  blk : Blk w bX #[.slice at_ X.tills.length ct, .slice ag X.goods.length cg]
  low : Low at_ ag w.heap.size
  ne : ∀ k, (aB at_ k ∨ aB ag k) → k ≠ bX
theorem RefS.below {w w' : World} {bX : Nat} {at_ : Option Addr} {ct : Nat} {ag : Option Addr} {cg : Nat} {X : StX} (h : RefS w bX at_ ct ag cg X) (hb : Below w.heap.size w w') : RefS w' bX at_ ct ag cg X :=
  ⟨h.rx.below hb, h.blk.below hb, fun k hk => by have := h.low k hk; have := hb.size; omega, h.ne⟩
theorem RefS.store {w w' : World} {bX : Nat} {at_ at' : Option Addr} {ct ct' : Nat} {ag ag' : Option Addr} {cg cg' : Nat} {X X' : StX} (h : RefS w bX at_ ct ag cg X) (hr : RefX w' at' ct' ag' cg' X') (hb : Below w.heap.size w w')
    (hl : ∀ k, (aB at' k ∨ aB ag' k) → k < w'.heap.size ∧ ((aB at_ k ∨ aB ag k) ∨ w.heap.size ≤ k)) :
    RefS ((w'.setCell ⟨bX, 0, none⟩ (.slice at' X'.tills.length ct')).setCell ⟨bX, 1, none⟩ (.slice ag' X'.goods.length cg')) bX at' ct' ag' cg' X' ∧
    Upd (fun k => k = bX) w' ((w'.setCell ⟨bX, 0, none⟩ (.slice at' X'.tills.length ct')).setCell ⟨bX, 1, none⟩ (.slice ag' X'.goods.length cg')) := by
  have hu : Upd (fun k => k = bX) w' ((w'.setCell ⟨bX, 0, none⟩ (.slice at' X'.tills.length ct')).setCell ⟨bX, 1, none⟩ (.slice ag' X'.goods.length cg')) := (Upd.setCell w' bX 0 _).trans (Upd.setCell _ bX 1 _) (fun _ _ q => q)
  have hne : ∀ k, (aB at' k ∨ aB ag' k) → k ≠ bX := fun k hk q => by
    rcases (hl k hk).2 with q2 | q2
    · exact h.ne k q2 q
    · have := h.blk.lt; omega
  exact ⟨⟨hr.upd hu hne, by simpa using ((h.blk.below hb).set 0 (.slice at' X'.tills.length ct')).set 1 (.slice ag' X'.goods.length cg'), fun k hk => by have := (hl k hk).1; have := hu.size; omega, hne⟩, hu⟩
def RsL (w : World) (bX : Nat) (L : List R3) (v4 v5 v24 : Value) (wr : World) : Prop :=
  ∃ (j : Nat) (at_ ag : Option Addr) (ct cg : Nat), v4 = .bool (rOk L j) ∧ v5 = .int .i64 (lastH L j) ∧ v24 = .int .i64 (j : Int) ∧ j ≤ L.length ∧ Hid (RefS wr bX at_ ct ag cg (rX L j)) ∧ Hid (∀ i p, i < j → L[i]? = some p → p.2.2.length ≤ 30) ∧ Hid (Below w.heap.size w wr)
def RsI (w : World) (bX : Nat) (b0 : Bool) (X0 : StX) (hh : Int) (gs : List (Int × Int)) (x : Nat) (c : Array Value) (v4 v72 : Value) (wr : World) : Prop :=
  ∃ (i : Nat) (at_ ag : Option Addr) (ct cg : Nat), v4 = .bool (b0 && gOk X0 hh gs i) ∧ v72 = .int .i64 (i : Int) ∧ i ≤ gs.length ∧ Hid (RefS wr bX at_ ct ag cg (gX X0 hh gs i)) ∧ Hid (Blk wr x c) ∧ Hid (Below w.heap.size w wr)
/-- told goods, of whatever prices -/
def GW (w : World) (B : Nat) (v u : Value) (n : Nat) : Prop := ∃ a c, u = .slice a n c ∧ n ≤ c ∧ c ≤ 9223372036854775807 ∧ (0 < n → ∃ b cur, a = some ⟨b, 0, none⟩ ∧ Blk w b cur ∧ n * 2 ≤ cur.size ∧ B ≤ b ∧ v.ownBlock ≠ some b)
theorem GW.upd {S : Nat → Prop} {w w' : World} {B : Nat} {v u : Value} {n : Nat} (h : GW w B v u n) (hu : Upd S w w') (hS : ∀ k, B ≤ k → k < w.heap.size → ¬ S k) : GW w' B v u n := by
  obtain ⟨a, c, e, h1, h2, h3⟩ := h
  refine ⟨a, c, e, h1, h2, fun q => ?_⟩
  obtain ⟨b, cur, e2, hb, hn, hB, hv⟩ := h3 q
  exact ⟨b, cur, e2, hb.upd hu (hS b hB hb.lt), hn, hB, hv⟩
theorem GW.set {w : World} {B : Nat} {v u : Value} {n : Nat} (h : GW w B v u n) (b' i : Nat) (z : Value) : GW (w.setCell ⟨b', i, none⟩ z) B v u n := by
  obtain ⟨a, c, e, h1, h2, h3⟩ := h
  refine ⟨a, c, e, h1, h2, fun q => ?_⟩
  obtain ⟨b, cur, e2, hb, hn, hB, hv⟩ := h3 q
  by_cases hbb : b = b'
  · subst hbb
    exact ⟨b, _, e2, hb.set i z, by simpa using hn, hB, hv⟩
  · exact ⟨b, cur, e2, hb.upd (Upd.setCell w b' i z) hbb, hn, hB, hv⟩
structure WR (w : World) (B : Nat) (v : Value) (R : List R4) : Prop where
  own : w.ownsRow B 37 3 v R.length (rowC3 R)
  one : ∀ p ∈ R, GW w B v p.2.2.1 p.2.2.2.length
theorem RowsG.wr {w : World} {B : Nat} {v : Value} {R : List R4} (h : RowsG w B v R) : WR w B v R := by
  refine ⟨h.own, fun p hp => ?_⟩
  obtain ⟨h1, h2⟩ := h.one p hp
  have hlt := h1.lt
  rcases h1.2 with ⟨q, q2⟩ | ⟨g, cap, cur, e, -, hg, c1, c2, c3, -⟩
  · exact ⟨none, 0, by rw [q, q2], by omega, by omega, fun q3 => by omega⟩
  · refine ⟨_, cap, e, c1, by unfold maxLen at c2; omega, fun _ => ⟨g, cur, rfl, ⟨_, hg⟩, by omega, (hlt g (by rw [e]; rfl)).1, fun q => h2 g (by rw [e]; rfl) q⟩⟩
theorem WR.below {w w' : World} {B : Nat} {v : Value} {R : List R4} (h : WR w B v R) (hb : Below w.heap.size w w') : WR w' B v R :=
  ⟨owns_below h.own hb, fun p hp => (h.one p hp).upd (S := fun _ => False) (Upd.of_below hb) (fun _ _ _ q => q)⟩
theorem WR.set {w : World} {B : Nat} {v : Value} {R : List R4} (h : WR w B v R) (b i : Nat) (z : Value) (hb : v.ownBlock ≠ some b) : WR (w.setCell ⟨b, i, none⟩ z) B v R :=
  ⟨(Upd.setCell w b i z).owns h.own (fun k hk q => hb (by rw [← q]; exact hk)), fun p hp => (h.one p hp).set b i z⟩
theorem WR.at {w : World} {B : Nat} {v : Value} {L : List R4} (h : WR w B v L) {j : Nat} {q : R4} (hj : L[j]? = some q) :
    ∃ b off c, v = .slice (some ⟨b, off, none⟩) L.length c ∧ w.cell? ⟨b, off + j * 3, none⟩ = some (.int .i64 q.1) ∧ w.cell? ⟨b, off + j * 3 + 1, none⟩ = some (.int .i64 q.2.1) ∧ w.cell? ⟨b, off + j * 3 + 2, none⟩ = some q.2.2.1 := by
  obtain ⟨a, c, e, -, -, hrd, -⟩ := ownsRow.rd h.own
  have hlt := (List.getElem?_eq_some_iff.1 hj).1
  obtain ⟨h1, h2, h3⟩ := rowC3_at L j q hj
  obtain ⟨b, off, ha, hc⟩ := hrd (j * 3) (by rw [rowC3_length]; omega)
  obtain ⟨b', off', ha', hc'⟩ := hrd (j * 3 + 1) (by rw [rowC3_length]; omega)
  obtain ⟨b'', off'', ha'', hc''⟩ := hrd (j * 3 + 2) (by rw [rowC3_length]; omega)
  rw [ha] at ha' ha''
  simp at ha' ha''
  obtain ⟨rfl, rfl⟩ := ha'
  obtain ⟨rfl, rfl⟩ := ha''
  exact ⟨b, off, c, by rw [e, ha], hc.trans h1, by rw [Nat.add_assoc]; exact hc'.trans h2, by rw [Nat.add_assoc]; exact hc''.trans h3⟩
def WrL (w9 : World) (B : Nat) (v : Value) (R : List R4) (v142 : Value) (wr : World) : Prop :=
  ∃ k : Nat, v142 = .int .i64 (k : Int) ∧ k ≤ R.length ∧ Hid (WR wr B v R) ∧ Hid (Below w9.heap.size w9 wr)
def WrI (w9 : World) (B : Nat) (v : Value) (R : List R4) (n x : Nat) (c : Array Value) (v149 : Value) (wr : World) : Prop :=
  ∃ i : Nat, v149 = .int .i64 (i : Int) ∧ i ≤ n ∧ Hid (WR wr B v R) ∧ Hid (Blk wr x c) ∧ Hid (Below w9.heap.size w9 wr)
end Go.Proofs.Ytajfjgekcjkedaa
end
