/- Joined texts, in this order: LayMaps, StallCopy. Each one's first remark says what it proves; no condition beyond those that its theorems name. -/
import Derived.Shelf.SlGeneric
import Derived.Ground.SlmcProg
import Derived.Shelf.SlMaps.Clone
import Derived.Test.YtajfjgekcjkedaaProg
import Derived.Test.YtajfjgekcjkedaaJLawStallCopies21
section
/- Layings of the shelf's contracts at this dump (printed by the shelf's lay-plain). -/
namespace Go.Proofs
open Go.Shelf
def Try.lays_SlLaysW_n5_46_ren : Go.Shelf.Ren := ⟨fun | 5 => 46 | 7 => 54 | n => n, fun | 23 => 65 | 25 => 3 | 3 => 3 | 4 => 4 | 20 => 20 | n => n, fun | n => n⟩
theorem Try.lays_SlLaysW_n5_46 : Go.Proofs.SlLaysW.n5 Try.prog Try.lays_SlLaysW_n5_46_ren := {
  mixed := by kernel_rfl
  f5 := ⟨Try.f46.name, by decide, Try.func46.trans (congrArg some (by kernel_rfl))⟩
  f7 := Try.func54.trans (congrArg some (by kernel_rfl))
  t4 := Try.underlying4
  a4 := Try.isAgg4
  z4 := Try.sizeOf4
  v4 := Try.zeroValue4
  t20 := Try.underlying20
  a20 := Try.isAgg20
  z20 := Try.sizeOf20
  v20 := Try.zeroValue20
  t23 := Try.underlying65
  a23 := Try.isAgg65
  z23 := Try.sizeOf65
  v23 := Try.zeroValue65 }
end Go.Proofs
end
section
/- Contract of stall.Copy. -/
namespace Go.Proofs.Ytajfjgekcjkedaa
open Go.RowKit Go.ChangeShapes Go.WideShapes Go.Deep Go.Joins
open Go.Lib (hid)
set_option linter.unusedVariables false

theorem StParts.swap {w w4 : World} {s : Nat} {F : Nat → Prop} {b1 b2 : Nat} {R : List RowG} {A A' : List (Int × Int)} (h : StParts w s F b1 b2 R A) (hm : MapE w4 w.heap.size (atV A')) (hb : Below w.heap.size w w4) :
    StParts (w4.setCell ⟨s, 1, none⟩ (.map (some w.heap.size))) s (fun k => F k ∨ w.heap.size ≤ k) b1 w.heap.size R A' := by
  have h4 := h.below hb
  have hu := Upd.setCell w4 s 1 (.map (some w.heap.size))
  have z := h.blk.lt
  have z1 := h.m1.lt
  refine ⟨by simpa using h4.blk.set 1 (.map (some w.heap.size)), h4.m1.upd hu (fun q => h.n1 q.symm), hm.upd hu (fun q => by omega), .inl h.fs, .inl h.f1, .inr (Nat.le_refl _), h.n1, by omega, by omega, fun r hr => (h4.row r hr).upd hu (fun k hk q => (h.feet r hr k hk).2.1 q), fun r hr k hk => ?_, h.far⟩
  have t := h.feet r hr k hk
  have := (h.row r hr).lt k hk
  exact ⟨.inl t.1, t.2.1, t.2.2.1, by omega⟩
theorem look_nil {α : Type} {l : List (Int × α)} (h : ∀ k, l.lookup k = none) : l = [] := by
  cases l with
  | nil => rfl
  | cons p l => have := h p.1; rw [List.lookup_cons] at this; simp at this
def CopyS (w : World) (s1 r b c1 c2 : Nat) (R : List RowG) (vs : List (Int × Value)) (wr : World) : Prop :=
  ∃ (left : List (Int × Value)) (R' : List RowG), RangeE wr r b vs left ∧ StParts wr s1 (fun k => w.heap.size ≤ k ∧ k ≠ r) c1 c2 R' [] ∧ (∀ h, (R'.map RowG.core).lookup h = if h ∈ left.map (·.1) then none else (R.map RowG.core).lookup h) ∧ Below w.heap.size w wr
def StCopyPost (w : World) (X : StX) (e : Ending) (w' : World) : Prop :=
  ∃ s' F', e = .returned (.pointer (some ⟨s', 0, none⟩)) ∧ StallIs w' s' F' X ∧ (∀ k, F' k → w.heap.size ≤ k) ∧ Below w.heap.size w w'
set_option maxRecDepth 100000 in
set_option maxHeartbeats 2000000 in
theorem stall_Copy {s : Nat} {F : Nat → Prop} {X : StX} (w : World) (h : StallIs w s F X) :
    Calls Try.prog 28 #[.pointer (some ⟨s, 0, none⟩)] w (StCopyPost w X) := by
  obtain ⟨b1, b2, R, A, hp, hr, hi⟩ := h
  have HP := hid hp
  have HRL := hid hr
  have HI := hid hi
  obtain ⟨vs, hvs⟩ : ∃ vs, vs = R.map RowG.ptr := ⟨_, rfl⟩
  have hmap := hp.m1
  rw [← hvs] at hmap
  have HBW : Hid (b1 < w.heap.size) := hid hmap.lt
  have HMAP := hid hmap
  have HFORM : Hid (∀ (k : Int) (v : Value), vs.lookup k = some v → ∃ q ∈ R, v = .pointer (some ⟨q.p, 0, none⟩) ∧ k = q.h) := hid (fun k v hk => by
    rw [hvs] at hk
    obtain ⟨q, hm, e⟩ := List.mem_map.1 (lookup_mem hk)
    obtain ⟨rfl, rfl⟩ := Prod.mk.inj e
    exact ⟨q, hm, rfl, rfl⟩)
  have HSTART : Hid (∀ h, ((([] : List RowG).map RowG.core).lookup h : Option (Int × List (Int × Int))) = if h ∈ vs.map (·.1) then none else (R.map RowG.core).lookup h) := hid (by
    intro h
    by_cases hk : h ∈ vs.map (·.1)
    · rw [if_pos hk]; rfl
    · rw [if_neg hk]
      symm
      refine lookup_none_iff.2 (fun p hpm e => hk ?_)
      rw [hvs, ptr_keys, ← core_keys, ← e]
      exact List.mem_map_of_mem (f := fun x : Int × Int × List (Int × Int) => x.1) hpm)
  clear hp hr hi hvs hmap
  go_enter Try.func28, Try.ntmps28
  go_wp2_with fail
  refine (stall_New w).mono ?_
  rintro e w1 ⟨s1, rfl, h1, hb1⟩
  obtain ⟨c1, c2, R0, A0, hp1, hr1, -⟩ := h1
  have hR0 : R0.map RowG.core = [] := look_nil (fun k => by rw [hr1.r1]; rfl)
  have hA0 : A0 = [] := look_nil (fun k => by rw [hr1.r2]; rfl)
  obtain rfl : R0 = [] := by simpa using hR0
  subst hA0
  have HP1 := hid hp1
  have HB1 := hid hb1
  have HM1 := hid (HMAP.out.below hb1)
  obtain ⟨d0, -⟩ := (HP.out.below hb1).cells
  clear hp1 hr1 hb1 hR0
  go_wp2_with (at_range; refine wpList_rangeE _ rfl _ rfl Try.underlying64 rfl HM1.out ?_; intro w2 hr2 hb2 hs2)
  go_frame
  have HR2 := hid hr2
  have HB2 := hid (Below.next HB1.out hb2)
  have HP2 : Hid (StParts w2 s1 (fun k => w.heap.size ≤ k ∧ k ≠ w1.heap.size) c1 c2 [] []) := hid ((HP1.out.weaken (fun k q q2 => ⟨q, by omega⟩)).below hb2)
  have HRW : Hid (w.heap.size ≤ w1.heap.size) := hid HB1.out.size
  clear hr2 hb2 hs2 d0
  obtain ⟨r, hr⟩ : ∃ r, r = w1.heap.size := ⟨_, rfl⟩
  rw [← hr] at HR2 HP2 HRW ⊢
  clear hr
  go_loopw [4, 5] (fun _ _ wr => CopyS w s1 r b1 c1 c2 R vs wr) (fun _ _ wr => rangeN wr r b1)
  case atStart => exact ⟨vs, [], HR2.out, HP2.out, HSTART.out, HB2.out⟩
  case round =>
    clear HR2 HP2 HB2 HSTART
    obtain ⟨left, R', hrg, hpc, hof, hbr⟩ := hrel
    have HR := hid hrg
    have HPC := hid hpc
    have HOF := hid hof
    have HB := hid hbr
    have HLEN := hid hrg.len
    clear hrg hpc hof hbr
    by_cases hl0 : left = []
    · subst hl0
      obtain ⟨-, e1⟩ := (HP.out.below HB.out).cells
      obtain ⟨es, clock, hmh, hst, hes⟩ := (HP.out.below HB.out).m2
      have HES := hid (And.intro hst hes)
      have HMC := hid (AnyW.maps_Clone (Try.lays_SlLaysW_n5_46) b2 es clock wr hmh)
      clear hmh hst hes
      go_wp2_with (at_next; refine wpList_nextE _ rfl _ rfl rfl HR.out (fun _ => ?_) (fun k v w' hin => absurd hin (by simp)))
      refine HMC.out.mono ?_
      rintro e w4 ⟨rfl, hw4⟩
      have hb4 : Below wr.heap.size wr w4 := by rw [hw4]; exact Below.new _ _
      have HME : Hid (MapE w4 wr.heap.size (atV A)) := hid ⟨es, clock, by rw [hw4]; exact heap_alloc_new wr _, HES.out.1, HES.out.2⟩
      have HPOST : Hid (StCopyPost w X (.returned (.pointer (some ⟨s1, 0, none⟩))) (w4.setCell ⟨s1, 1, none⟩ (.map (some wr.heap.size)))) := hid (by
        refine ⟨s1, _, rfl, ⟨c1, wr.heap.size, R', A, HPC.out.swap HME.out hb4, ⟨fun h => ?_, HRL.out.r2⟩, HI.out⟩, fun k q => ?_, ?_⟩
        · have := HOF.out h
          simp only [List.map_nil, List.not_mem_nil, if_false] at this
          rw [this]; exact HRL.out.r1 h
        · rcases q with q | q
          · exact q.1
          · have := HB.out.size; omega
        · exact (Below.next HB.out hb4).trans ((Upd.setCell w4 s1 1 _).below (Nat.le_trans HB.out.size hb4.size) (fun j _ q => by have := HPC.out.fs.1; omega)))
      have HX4 := hid (HPC.out.blk.below hb4)
      have f1 := HX4.out.unfrozen 1
      have q1 : w4.cell? ⟨s1, 1, none⟩ = some (.map (some c2)) := by rw [HX4.out.cell]; rfl
      clear hw4 hb4 e1
      go_wp2_with fail
      go_ret
      exact HPOST.out
    · have HEX : Hid (∀ q ∈ R, ∀ w', Upd (fun k => k = r) wr w' → ∃ a2 c2, q.v = .slice a2 q.gs.length c2 ∧ SlP w' (.slice a2 q.gs.length c2) q.gs ∧ w'.cell? ⟨q.p, 0, none⟩ = some (.int .i64 q.h) ∧ w'.cell? ⟨q.p, 1, none⟩ = some (.int .i64 q.till) ∧ w'.cell? ⟨q.p, 2, none⟩ = some (.slice a2 q.gs.length c2) ∧ q.gs.length ≤ 100000) := hid (fun q hm w' hu => by
        have hrow : RowAt w' q := ((HP.out.row q hm).upd (S := fun _ => False) (Upd.of_below HB.out) (fun _ _ z => z)).upd hu (fun k hk z => by have := (HP.out.row q hm).lt k hk; have := HRW.out; omega)
        obtain ⟨a2, c2, hv, z⟩ := hrow.own.slp
        obtain ⟨d0, d1, d2⟩ := hrow.cells
        refine ⟨a2, c2, hv, by rw [← hv]; exact hrow.own.slp, d0, d1, by rw [← hv]; exact d2, ?_⟩
        have h1 : (R.map RowG.core).lookup q.h = some (q.till, q.gs) := (lookup_mem_iff (by rw [core_keys]; exact HP.out.nodup)).2 (List.mem_map_of_mem (f := RowG.core) hm)
        rw [HRL.out.r1] at h1
        cases hl : X.tills.lookup q.h with
        | none => rw [hl] at h1; simp at h1
        | some g =>
          rw [hl] at h1
          simp only [Option.map_some, Option.some.injEq, Prod.mk.injEq] at h1
          have := HI.out.g3 q.h
          rw [← h1.2]; omega)
      go_wp2_with (at_next; refine wpList_nextE _ rfl _ rfl rfl HR.out (fun h0 => absurd h0 hl0) (fun k v w' hin hlk hr' hu' hs' hen => ?_); (obtain ⟨q, hm, rfl, rfl⟩ := HFORM.out k v hlk); (have HIN := hid hin); (have HR3 := hid hr'); (have HU3 := hid hu'); (obtain ⟨a2, c2_, hv, hsl, d0, d1, d2, hq16⟩ := HEX.out q hm w' hu'); (have HSL := hid hsl); (have HQ16 := hid hq16); (have HM := hid hm); clear hin hlk hr' hu' hs' hsl hq16 hv hm)
      have HBr : Hid (Below w.heap.size w w') := hid (HB.out.trans (HU3.out.below HB.out.size (fun j _ q => by have := HRW.out; omega)))
      have HPr := hid (HPC.out.upd HU3.out (fun j q hj => hj.2 q))
      refine (stall_copied w' q.h q.till q.gs HSL.out HQ16.out).mono ?_
      rintro e w6 ⟨a', c', rfl, hown6, hb6⟩
      obtain ⟨G, hG⟩ : ∃ G, G = q.gs.length := ⟨_, rfl⟩
      have HG := hid hG
      have HO6 := hid hown6
      have HB6 := hid hb6
      rw [← hG]
      clear hown6 hb6 hG d0 d1 d2
      go_upto_region 6 with fail
      obtain ⟨w7, hw7⟩ : ∃ w7, w7 = w6.alloc (.cells #[.int .i64 q.h, .int .i64 q.till, .slice a' G c'] 37) := ⟨_, rfl⟩
      rw [← hw7]
      obtain ⟨p7, hp7⟩ : ∃ b, b = w6.heap.size := ⟨_, rfl⟩
      rw [← hp7]
      have hb7 : Below w6.heap.size w6 w7 := by rw [hw7]; exact Below.new _ _
      have HX7 := hid (show Blk w7 p7 #[.int .i64 q.h, .int .i64 q.till, .slice a' G c'] by rw [hw7, hp7]; exact Blk.new w6 _ _)
      have HB67 := hid (Below.next HB6.out hb7)
      have HO7 := hid (owns_below HO6.out hb7)
      have HP7 := hid hp7
      have HZ7 := hid hb7.size
      clear hw7 hp7 hb7
      obtain ⟨g0, -⟩ := (HPr.out.below HB67.out).cells
      have HM7 := hid (HPr.out.below HB67.out).m1
      go_wp2_with (with_reducible refine wpList_putE _ rfl (.tmp 25) (.tmp 26) (.tmp 6) rfl Try.underlying64 Try.underlying3 rfl HM7.out q.h rfl (.pointer (some ⟨p7, 0, none⟩)) rfl ?_; intro w8 hm8 hu8 hz8)
      have hnone : (R'.map RowG.ptr).lookup q.h = none := by
        have h1 := HOF.out q.h
        rw [if_pos (List.mem_map_of_mem (f := fun x : Int × Value => x.1) HIN.out), lookup_none_iff] at h1
        refine lookup_none_iff.2 (fun p hpm => ?_)
        obtain ⟨z, hz, rfl⟩ := List.mem_map.1 hpm
        exact h1 z.core (List.mem_map_of_mem hz)
      have hput : aput (R'.map RowG.ptr) q.h (.pointer (some ⟨p7, 0, none⟩)) = (R' ++ [(⟨q.h, p7, .slice a' q.gs.length c', q.till, q.gs⟩ : RowG)]).map RowG.ptr := by
        unfold aput
        rw [hnone, List.map_append]
        rfl
      rw [hput] at hm8
      have hne : ∀ k, (Value.slice a' q.gs.length c').ownBlock = some k → w'.heap.size ≤ k ∧ k < w6.heap.size := fun k hk => HO6.out.lt k hk
      have hc1 : c1 < w'.heap.size := HPr.out.m1.lt
      have hz6 := HB6.out.size
      have hp7 := HP7.out
      have hrow : RowAt w8 ⟨q.h, p7, .slice a' q.gs.length c', q.till, q.gs⟩ := ⟨by have := HX7.out.upd hu8 (fun z => by omega); rw [HG.out] at this; exact this, hu8.owns (ownsRow_base HO7.out (Nat.zero_le _)) (fun k hk z => by have := hne k hk; omega), fun z => by have := hne p7 z; omega⟩
      have hmore := HPr.out.more ((Upd.of_below (S := fun k => k = c1) HB67.out).trans hu8 (fun _ _ z => z)) hm8 hrow (fun k hk => by
        rcases hk with hk | hk
        · rw [hk]; show _ ≤ p7; omega
        · exact (hne k hk).1)
      have hrl := HR3.out.lt
      have HP8 : Hid (StParts w8 s1 (fun k => w.heap.size ≤ k ∧ k ≠ r) c1 c2 (R' ++ [(⟨q.h, p7, .slice a' q.gs.length c', q.till, q.gs⟩ : RowG)]) []) := hid (hmore.weaken (fun j hj _ => by
        rcases hj with hj | hj
        · exact hj
        · have := HBr.out.size; exact ⟨by omega, by omega⟩))
      have hfb := HPC.out.f1
      have HR8 : Hid (RangeE w8 r b1 vs (adel left q.h)) := hid ((HR3.out.upd (S := fun _ => False) (Upd.of_below HB67.out) (fun z => z) (fun z => z)).upd hu8 (fun z => hfb.2 z.symm) (fun z => by have := HBW.out; have := hfb.1; omega))
      have HB8 : Hid (Below w.heap.size w w8) := hid ((Below.next HBr.out HB67.out).trans (hu8.below (Nat.le_trans HBr.out.size HB67.out.size) (fun j _ z => by have := hfb.1; omega)))
      have HOF8 : Hid (∀ h, ((R' ++ [(⟨q.h, p7, .slice a' q.gs.length c', q.till, q.gs⟩ : RowG)]).map RowG.core).lookup h = if h ∈ (adel left q.h).map (·.1) then none else (R.map RowG.core).lookup h) := hid (by
        intro h
        have hn2 : (R'.map RowG.core).lookup q.h = none := by rw [HOF.out, if_pos (List.mem_map_of_mem (f := fun x : Int × Value => x.1) HIN.out)]
        have e2 : (R' ++ [(⟨q.h, p7, .slice a' q.gs.length c', q.till, q.gs⟩ : RowG)]).map RowG.core = R'.map RowG.core ++ [(q.h, (q.till, q.gs))] := by rw [List.map_append]; rfl
        rw [e2, look_snoc hn2]
        by_cases e : h = q.h
        · subst e
          rw [if_pos rfl, if_neg (by rw [keys_adel]; exact fun z => z.2 rfl)]
          exact ((lookup_mem_iff (by rw [core_keys]; exact HP.out.nodup)).2 (List.mem_map_of_mem (f := RowG.core) HM.out)).symm
        · rw [if_neg e, HOF.out h]
          by_cases z : h ∈ left.map (·.1)
          · rw [if_pos z, if_pos (by rw [keys_adel]; exact ⟨z, e⟩)]
          · rw [if_neg z, if_neg (by rw [keys_adel]; exact fun y => z y.1)])
      clear hm8 hu8 hz8 hnone hput hne hc1 hz6 hp7 hrow hmore hrl hfb g0
      go_wp2
      go_simp
      go_roundw
      case rel => exact ⟨adel left q.h, _, HR8.out, HP8.out, HOF8.out, HB8.out⟩
      case measure => rw [HR8.out.len, HLEN.out]; exact adel_len HIN.out
end Go.Proofs.Ytajfjgekcjkedaa
end
