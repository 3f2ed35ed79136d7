/- Joined texts, in this order: LandPut, LandNew. Each one's first remark says what it proves; no condition beyond those that its theorems name. -/
import Derived.Test.YtjbnfppnmljbmaaGreatJLawLandFinds20
section
/- Contracts of land's Claim, Free, Plot. -/
namespace Go.Proofs.YtjbnfppnmljbmaaGreat
open Go.RowKit Go.Deep
open Go.Lib (hid)
set_option linter.unusedVariables false
attribute [local go_sem] Oper.semAt_some

def LandPost (w : World) (l : Nat) (F : Nat → Prop) (k : Nat) (B : List R4) (P' : List Pl) (E : Int) (e : Ending) (w' : World) : Prop :=
  ∃ F' : Nat → Prop, e = .returned (.int .i64 E) ∧ LandIs w' l F' k B P' ∧ Upd F w w' ∧ ∀ b, F' b → F b ∨ w.heap.size ≤ b
theorem LandPost.same {w w' : World} {l : Nat} {F : Nat → Prop} {k : Nat} {B : List R4} {P : List Pl} (h : LandIs w l F k B P) (hb : Below w.heap.size w w') (E : Int) : LandPost w l F k B P E (.returned (.int .i64 E)) w' :=
  ⟨F, rfl, h.below hb, Upd.of_below hb, fun b y => .inl y⟩
theorem aput_mapR {M : List Pl} {id : Int} {r : R4} (h : M.lookup id = none) : aput (mapR M) id (rV r) = mapR (M ++ [(id, r)]) := by
  unfold mapR
  rw [← aput_map (fun r : R4 => rV r) M id r]
  unfold aput
  rw [h]; simp
theorem adel_mapR {M : List Pl} {id : Int} : adel (mapR M) id = mapR (adel M id) := by
  unfold mapR; exact (adel_map (fun r : R4 => rV r) M id).symm
theorem TreeIs.permL {w : World} {s : Nat} {F : Nat → Prop} {L L' : List Tg} (h : TreeIs w s F L) (hp : L.Perm L') : TreeIs w s F L' := by
  obtain ⟨d, n, h1, h2, h3, h4⟩ := h
  exact ⟨d, n, by rw [← hp.length_eq]; exact h1, h2, h3, h4.trans hp⟩
/-- what a claim leaves -/
theorem LandAt.claimed {w : World} {l : Nat} {F : Nat → Prop} {k : Nat} {B : List R4} {P : List Pl} {q t mb : Nat} {Fq Ft : Nat → Prop} {s : Sq} {M : List Pl} {wa wb wc wd : World} {id : Int} {r : R4} {Ft1 : Nat → Prop} (h : LandAt w l F k B P q t mb Fq Ft s M) (hE : claimE (sd k) B P id r = 0)
    (ha : Below w.heap.size w wa) (hm : MapE wb mb (aput (mapR M) id (rV r))) (hu : Upd (fun b => b = mb) wa wb) (hc : Below wb.heap.size wb wc) (ht : TreeIs wd t Ft1 (tgP P ++ [(r, id)])) (hud : Upd Ft wc wd) (hF : ∀ b, Ft1 b → Ft b ∨ wc.heap.size ≤ b) :
    LandPost w l F k B (claimP (sd k) B P id r) 0 (.returned (.int .i64 0)) wd := by
  obtain ⟨k1, k2, k3⟩ := claim_zero hE
  have hMl : M.lookup id = none := by rw [lookup_perm h.perm h.inv.sorted.nodup]; exact k2
  rw [aput_mapR hMl] at hm
  have z1 := ha.size
  have z2 := hu.size
  have z3 := hc.size
  have z4 := hud.size
  have hml := h.map.lt
  have hll := h.blk.lt
  have hmb : ¬ Ft mb := fun y => (h.dt mb y).2.1 rfl
  have hl0 : ¬ Ft l := fun y => (h.dt l y).1 rfl
  have hall : Upd (fun b => b = mb ∨ Ft b) w wd := (((Upd.of_below ha).trans hu (fun _ _ y => .inl y)).trans (Upd.of_below hc) (fun _ _ y => y)).trans hud (fun _ _ y => .inr y)
  have hP : claimP (sd k) B P id r = insK keyP P (id, r) := by unfold claimP; rw [if_pos hE]
  have hFt : ∀ b, Ft1 b → Ft b ∨ w.heap.size ≤ b := fun b y => (hF b y).imp (fun z => z) (fun z => by omega)
  refine ⟨fun b => Fq b ∨ (Ft1 b ∧ b < wd.heap.size) ∨ b = l ∨ b = mb, rfl, ⟨q, t, mb, Fq, fun b => Ft1 b ∧ b < wd.heap.size, s, M ++ [(id, r)], ?_, ?_, h.tile, h.stones, ?_, ?_, ?_, fun b y => ?_, fun b y => ?_, ⟨h.dl.1, .inr (.inr (.inl rfl)), .inr (.inr (.inr rfl))⟩, h.inv.claim id r⟩, ?_, fun b y => ?_⟩
  · exact h.blk.upd hall (fun y => by rcases y with y | y; exact h.dl.1 y; exact hl0 y)
  · exact h.quad.upd hall (fun b y z => by
      have := h.dq b z
      rcases y with y | y
      · exact this.2.2.1 y
      · exact this.1 y)
  · rw [hP]
    refine TreeIs.permL (ht.weaken (fun b y z => ⟨y, z⟩)) ?_
    have h1 : (tgP (insK keyP P (id, r))).Perm (tgP ((id, r) :: P)) := (insK_perm keyP P (id, r)).map _
    refine List.Perm.trans ?_ h1.symm
    show (tgP P ++ [(r, id)]).Perm ((r, id) :: tgP P)
    exact List.perm_append_comm
  · exact (hm.below hc).upd hud hmb
  · rw [hP]
    exact ((h.perm.append_right _).trans List.perm_append_comm).trans (insK_perm keyP P (id, r)).symm
  · have := h.dq b y
    refine ⟨fun z => ?_, this.2.1, this.2.2.1, .inl y, by omega⟩
    rcases hFt b z.1 with z | z
    · exact this.1 z
    · omega
  · refine ⟨fun e => ?_, fun e => ?_, .inr (.inl y), y.2⟩
    · subst e
      rcases hFt b y.1 with z | z
      · exact hl0 z
      · omega
    · subst e
      rcases hFt b y.1 with z | z
      · exact hmb z
      · omega
  · refine hall.mono (fun b _ y => ?_)
    rcases y with y | y
    · rw [y]; exact h.dl.2.2
    · exact (h.dt b y).2.2.1
  · rcases y with y | y | y | y
    · exact .inl (h.dq b y).2.2.2.1
    · rcases hFt b y.1 with z | z
      · exact .inl (h.dt b z).2.2.1
      · exact .inr z
    · rw [y]; exact .inl h.dl.2.1
    · rw [y]; exact .inl h.dl.2.2
theorem freeP_perm {M P : List Pl} (h : M.Perm P) (id : Int) : (adel M id).Perm (freeP P id) := by
  unfold adel freeP
  have e : (fun p : Pl => p.1 != id) = fun p => !decide (p.1 = id) := by
    funext p
    by_cases e : p.1 = id <;> simp [e]
  rw [e]
  exact h.filter _
theorem tgP_erase {P : List Pl} (hn : (P.map (·.1)).Nodup) {id : Int} {r : R4} (h : P.lookup id = some r) : ((tgP P).erase (r, id)).Perm (tgP (freeP P id)) := by
  have hmem : (id, r) ∈ P := lookup_mem h
  have h1 : (tgP P).erase (r, id) = (tgP P).filter (fun t => t != (r, id)) := (tgP_nodup hn).erase_eq_filter _
  rw [h1]
  unfold tgP freeP
  rw [List.filter_map]
  refine List.Perm.map _ ?_
  have e : ∀ p ∈ P, ((fun t : Tg => t != (r, id)) ∘ fun p : Pl => (p.2, p.1)) p = !decide (p.1 = id) := fun p hp => by
    by_cases e : p.1 = id
    · have : p.2 = r := by
        have h3 := (lookup_mem_iff hn).2 (show (id, p.2) ∈ P by rw [← e]; exact hp)
        rw [h] at h3; exact (Option.some.inj h3).symm
      simp [e, this]
    · simp [e]
  rw [List.filter_congr e]
/-- what Free leaves -/
theorem LandAt.freed {w : World} {l : Nat} {F : Nat → Prop} {k : Nat} {B : List R4} {P : List Pl} {q t mb : Nat} {Fq Ft : Nat → Prop} {s : Sq} {M : List Pl} {wa wb wc wd : World} {id : Int} {r : R4} {Ft1 : Nat → Prop} (h : LandAt w l F k B P q t mb Fq Ft s M) (hr : P.lookup id = some r)
    (ha : Below w.heap.size w wa) (hm : MapE wb mb (adel (mapR M) id)) (hu : Upd (fun b => b = mb) wa wb) (hc : Below wb.heap.size wb wc) (ht : TreeIs wd t Ft1 ((tgP P).erase (r, id))) (hud : Upd Ft wc wd) (hF : ∀ b, Ft1 b → Ft b ∨ wc.heap.size ≤ b) :
    LandPost w l F k B (freeP P id) 0 (.returned (.int .i64 0)) wd := by
  rw [adel_mapR] at hm
  have z1 := ha.size
  have z2 := hu.size
  have z3 := hc.size
  have z4 := hud.size
  have hml := h.map.lt
  have hll := h.blk.lt
  have hmb : ¬ Ft mb := fun y => (h.dt mb y).2.1 rfl
  have hl0 : ¬ Ft l := fun y => (h.dt l y).1 rfl
  have hall : Upd (fun b => b = mb ∨ Ft b) w wd := (((Upd.of_below ha).trans hu (fun _ _ y => .inl y)).trans (Upd.of_below hc) (fun _ _ y => y)).trans hud (fun _ _ y => .inr y)
  have hFt : ∀ b, Ft1 b → Ft b ∨ w.heap.size ≤ b := fun b y => (hF b y).imp (fun z => z) (fun z => by omega)
  refine ⟨fun b => Fq b ∨ (Ft1 b ∧ b < wd.heap.size) ∨ b = l ∨ b = mb, rfl, ⟨q, t, mb, Fq, fun b => Ft1 b ∧ b < wd.heap.size, s, adel M id, ?_, ?_, h.tile, h.stones, ?_, ?_, freeP_perm h.perm id, fun b y => ?_, fun b y => ?_, ⟨h.dl.1, .inr (.inr (.inl rfl)), .inr (.inr (.inr rfl))⟩, h.inv.free' id⟩, ?_, fun b y => ?_⟩
  · exact h.blk.upd hall (fun y => by rcases y with y | y; exact h.dl.1 y; exact hl0 y)
  · exact h.quad.upd hall (fun b y z => by
      have := h.dq b z
      rcases y with y | y
      · exact this.2.2.1 y
      · exact this.1 y)
  · exact TreeIs.permL (ht.weaken (fun b y z => ⟨y, z⟩)) (tgP_erase h.inv.sorted.nodup hr)
  · exact (hm.below hc).upd hud hmb
  · have := h.dq b y
    refine ⟨fun z => ?_, this.2.1, this.2.2.1, .inl y, by omega⟩
    rcases hFt b z.1 with z | z
    · exact this.1 z
    · omega
  · refine ⟨fun e => ?_, fun e => ?_, .inr (.inl y), y.2⟩
    · subst e
      rcases hFt b y.1 with z | z
      · exact hl0 z
      · omega
    · subst e
      rcases hFt b y.1 with z | z
      · exact hmb z
      · omega
  · refine hall.mono (fun b _ y => ?_)
    rcases y with y | y
    · rw [y]; exact h.dl.2.2
    · exact (h.dt b y).2.2.1
  · rcases y with y | y | y | y
    · exact .inl (h.dq b y).2.2.2.1
    · rcases hFt b y.1 with z | z
      · exact .inl (h.dt b z).2.2.1
      · exact .inr z
    · rw [y]; exact .inl h.dl.2.1
    · rw [y]; exact .inl h.dl.2.2
set_option maxRecDepth 100000 in
set_option maxHeartbeats 4000000 in
theorem land_Claim (w : World) (l : Nat) (F : Nat → Prop) (k : Nat) (B : List R4) (P : List Pl) (id rx ry ra rb : Int) (h : LandIs w l F k B P) : Calls Tryz.prog 28 #[.pointer (some ⟨l, 0, none⟩), .int .i64 id, .agg #[.int .i64 rx, .int .i64 ry, .int .i64 ra, .int .i64 rb]] w (LandPost w l F k B (claimP (sd k) B P id (rx, ry, ra, rb)) (claimE (sd k) B P id (rx, ry, ra, rb))) := by
  have HLI := hid h
  obtain ⟨q, t, mb, Fq, Ft, s, M, h⟩ := h
  have HL := hid h
  obtain ⟨hl1, hl2⟩ := h.look id
  obtain ⟨⟨z0, z1, z2, z3⟩, hz0⟩ : ∃ z, (P.lookup id).getD zR = z := ⟨_, rfl⟩
  obtain ⟨ok, hok⟩ : ∃ b, (P.lookup id).isSome = b := ⟨_, rfl⟩
  rw [hz0] at hl1
  rw [hok] at hl2
  have HR : Hid (((mapR M).lookup id).getD (.agg #[.int .i64 0, .int .i64 0, .int .i64 0, .int .i64 0]) = .agg #[.int .i64 z0, .int .i64 z1, .int .i64 z2, .int .i64 z3]) := hid hl1
  have HOK : Hid (((mapR M).lookup id).isSome = ok) := hid hl2
  have HLK : Hid ((P.lookup id).isSome = ok ∧ (P.lookup id).getD zR = (z0, z1, z2, z3)) := hid ⟨hok, hz0⟩
  obtain ⟨c0, c1, c2⟩ := h.c3
  have HC : Hid (w.cell? ⟨l, 1, none⟩ = some (.pointer (some ⟨t, 0, none⟩)) ∧ w.cell? ⟨l, 2, none⟩ = some (.map (some mb))) := hid ⟨c1, c2⟩
  clear h hl1 hl2 hz0 hok c0 c1
  go_enter Tryz.func28, Tryz.ntmps28
  go_upto_region 1 with fail
  obtain ⟨w1, hw1⟩ : ∃ w1, w1 = w.alloc (.cells #[.int .i64 rx, .int .i64 ry, .int .i64 ra, .int .i64 rb] 25) := ⟨_, rfl⟩
  rw [← hw1]
  obtain ⟨g, hg⟩ : ∃ g, g = w.heap.size := ⟨_, rfl⟩
  rw [← hg]
  have hb1 : Below w.heap.size w w1 := by rw [hw1]; exact Below.new _ _
  have HX1 : Hid (Blk w1 g #[.int .i64 rx, .int .i64 ry, .int .i64 ra, .int .i64 rb]) := hid (by rw [hw1, hg]; exact Blk.new _ _ _)
  have HB1 := hid hb1
  have HG := hid hg
  have HM := hid (HL.out.map.below hb1)
  replace c2 := cellOf_belowR hb1 c2
  clear hw1 hg hb1
  go_upto_region 2 with (at_lookup; refine wpList_look2 _ rfl _ _ rfl Tryz.underlying74 Tryz.underlying3 (.agg #[.int .i64 0, .int .i64 0, .int .i64 0, .int .i64 0]) zero_rect rfl HM.out id rfl (.agg #[.int .i64 z0, .int .i64 z1, .int .i64 z2, .int .i64 z3]) HR ok HOK ?_)
  obtain ⟨w2, hw2⟩ : ∃ w2, w2 = w1.alloc (.cells #[.int .i64 z0, .int .i64 z1, .int .i64 z2, .int .i64 z3] 25) := ⟨_, rfl⟩
  rw [← hw2]
  have hb2 : Below w1.heap.size w1 w2 := by rw [hw2]; exact Below.new _ _
  have HX2 := hid (HX1.out.below hb2)
  have HB2 := hid (Below.next HB1.out hb2)
  clear hw2 hb2 c2
  have HLI2 := hid (HLI.out.below HB2.out)
  by_cases hid1 : id < 1
  · have HE : Hid (claimE (sd k) B P id (rx, ry, ra, rb) = 10 ∧ claimP (sd k) B P id (rx, ry, ra, rb) = P) := hid (by
      have e : claimE (sd k) B P id (rx, ry, ra, rb) = 10 := by unfold claimE; rw [if_pos hid1]
      exact ⟨e, by unfold claimP; rw [e]; rfl⟩)
    go_wp2_with fail
    go_ret
    rw [HE.out.1, HE.out.2]
    exact LandPost.same HLI.out HB2.out 10
  have HID := hid hid1
  cases ok with
  | true =>
    have HE : Hid (claimE (sd k) B P id (rx, ry, ra, rb) = 13 ∧ claimP (sd k) B P id (rx, ry, ra, rb) = P) := hid (by
      have e : claimE (sd k) B P id (rx, ry, ra, rb) = 13 := by unfold claimE; rw [if_neg HID.out, if_pos HLK.out.1]
      exact ⟨e, by unfold claimP; rw [e]; rfl⟩)
    go_wp2_with fail
    go_ret
    rw [HE.out.1, HE.out.2]
    exact LandPost.same HLI.out HB2.out 13
  | false =>
    have HCE : Hid (claimE (sd k) B P id (rx, ry, ra, rb) = mayX (sd k) B P (rx, ry, ra, rb)) := hid (by unfold claimE; rw [if_neg HID.out, if_neg (by rw [HLK.out.1]; simp)])
    obtain ⟨E, hE⟩ : ∃ E, mayX (sd k) B P (rx, ry, ra, rb) = E := ⟨_, rfl⟩
    have hmay := land_May w2 l F k B P rx ry ra rb HLI2.out
    rw [hE] at hmay HCE
    have HMY := hid hmay
    obtain ⟨e0, e1, e2, e3⟩ := HX2.out.c4r
    clear hmay hE
    by_cases hE0 : E = 0
    case neg =>
      have HE0 := hid hE0
      go_wp2_with fail
      refine HMY.out.mono ?_
      rintro e w3 ⟨rfl, hb⟩
      have HB3 := hid (Below.next HB2.out hb)
      clear hb e0 e1 e2 e3
      have HP : Hid (claimP (sd k) B P id (rx, ry, ra, rb) = P) := hid (by unfold claimP; rw [HCE.out, if_neg HE0.out])
      go_wp2_with fail
      go_ret
      rw [HCE.out, HP.out]
      exact LandPost.same HLI.out HB3.out E
    subst hE0
    go_wp2_with fail
    refine HMY.out.mono ?_
    rintro e w3 ⟨rfl, hb⟩
    have HB3 := hid (Below.next HB2.out hb)
    have HX3 := hid (HX2.out.below hb)
    clear hb e0 e1 e2 e3
    have HM3 := hid (HL.out.map.below HB3.out)
    have c2 : w3.cell? ⟨l, 2, none⟩ = some (.map (some mb)) := cellOf_belowR HB3.out HC.out.2
    obtain ⟨e0, e1, e2, e3⟩ := HX3.out.c4r
    go_upto_region 9 with fail
    replace c2 := fun (z : World) (hz : Below w3.heap.size w3 z) => cellOf_belowR hz c2
    replace e0 := fun (z : World) (hz : Below w3.heap.size w3 z) => cellOf_belowR hz e0
    replace e1 := fun (z : World) (hz : Below w3.heap.size w3 z) => cellOf_belowR hz e1
    replace e2 := fun (z : World) (hz : Below w3.heap.size w3 z) => cellOf_belowR hz e2
    replace e3 := fun (z : World) (hz : Below w3.heap.size w3 z) => cellOf_belowR hz e3
    have hyd := (Below.refl w3.heap.size w3).drew
    refine wp_region_kept [6] (fun z => Below w3.heap.size w3 z) (by kernel_rfl) (by assumption) (fun hH => ?_)
    refine wpK.take (i := 0) (v := _) (by simp only [List.getElem?_toArray, List.getElem?_cons_succ, List.getElem?_cons_zero]; rfl) (by kernel_rfl) (by kernel_rfl) (by kernel_rfl) (by kernel_rfl) (by kernel_rfl) (by exact fun _ _ _ h => h) (by first | exact Or.inl ⟨by rfl, by intro w hSw; go_simp; try with_reducible rfl⟩ | exact Or.inr ⟨by rfl, rfl⟩) hH ?_
    try simp only [Act.put, List.setIfInBounds_toArray, List.set_cons_zero, List.set_cons_succ]
    refine wpK.take (i := 1) (v := _) (by simp only [List.getElem?_toArray, List.getElem?_cons_succ, List.getElem?_cons_zero]; rfl) (by kernel_rfl) (by kernel_rfl) (by kernel_rfl) (by kernel_rfl) (by kernel_rfl) (by exact fun _ _ _ h => h) (by first | exact Or.inl ⟨by rfl, by intro w hSw; go_simp; try with_reducible rfl⟩ | exact Or.inr ⟨by rfl, rfl⟩) hH ?_
    try simp only [Act.put, List.setIfInBounds_toArray, List.set_cons_zero, List.set_cons_succ]
    refine wpK.take (i := 2) (v := _) (by simp only [List.getElem?_toArray, List.getElem?_cons_succ, List.getElem?_cons_zero]; rfl) (by kernel_rfl) (by kernel_rfl) (by kernel_rfl) (by kernel_rfl) (by kernel_rfl) (by exact fun _ _ _ h => h) (by first | exact Or.inl ⟨by rfl, by intro w hSw; go_simp; try with_reducible rfl⟩ | exact Or.inr ⟨by rfl, rfl⟩) hH ?_
    try simp only [Act.put, List.setIfInBounds_toArray, List.set_cons_zero, List.set_cons_succ]
    refine wpK.take (i := 3) (v := _) (by simp only [List.getElem?_toArray, List.getElem?_cons_succ, List.getElem?_cons_zero]; rfl) (by kernel_rfl) (by kernel_rfl) (by kernel_rfl) (by kernel_rfl) (by kernel_rfl) (by exact fun _ _ _ h => h) (by first | exact Or.inl ⟨by rfl, by intro w hSw; go_simp; try with_reducible rfl⟩ | exact Or.inr ⟨by rfl, rfl⟩) hH ?_
    try simp only [Act.put, List.setIfInBounds_toArray, List.set_cons_zero, List.set_cons_succ]
    refine wpK.take (i := 4) (v := _) (by simp only [List.getElem?_toArray, List.getElem?_cons_succ, List.getElem?_cons_zero]; rfl) (by kernel_rfl) (by kernel_rfl) (by kernel_rfl) (by kernel_rfl) (by kernel_rfl) (by exact fun _ _ _ h => h) (by first | exact Or.inl ⟨by rfl, by intro w hSw; go_simp; try with_reducible rfl⟩ | exact Or.inr ⟨by rfl, rfl⟩) hH ?_
    try simp only [Act.put, List.setIfInBounds_toArray, List.set_cons_zero, List.set_cons_succ]
    refine wpK.take (i := 5) (v := _) (by simp only [List.getElem?_toArray, List.getElem?_cons_succ, List.getElem?_cons_zero]; rfl) (by kernel_rfl) (by kernel_rfl) (by kernel_rfl) (by kernel_rfl) (by kernel_rfl) (by exact fun _ _ _ h => h) (by first | exact Or.inl ⟨by rfl, by intro w hSw; go_simp; try with_reducible rfl⟩ | exact Or.inr ⟨by rfl, rfl⟩) hH ?_
    try simp only [Act.put, List.setIfInBounds_toArray, List.set_cons_zero, List.set_cons_succ]
    refine wpK.late (i := 6) (by kernel_rfl) (by simp only [List.getElem?_toArray, List.getElem?_cons_succ, List.getElem?_cons_zero]; rfl) (by kernel_rfl) (fun K hK => ?_)
    refine step_putE _ rfl _ _ _ rfl Tryz.underlying74 Tryz.underlying3 rfl (HM3.out.below hyd) id rfl (.agg #[.int .i64 rx, .int .i64 ry, .int .i64 ra, .int .i64 rb]) rfl ?_; intro w4 hm4 hu4 hz4
    refine hK.out _ _ ?_
    clear hK K
    try simp only [Act.put, List.setIfInBounds_toArray, List.set_cons_zero, List.set_cons_succ]
    refine wpK.done (by kernel_rfl) ?_ _
    have hm4' : MapE w4 mb (aput (mapR M) id (rV (rx, ry, ra, rb))) := hm4
    have HM4 := hid hm4'
    have HU4 := hid hu4
    have HYD := hid (Below.next HB3.out hyd)
    have hmg : ¬ g = mb := fun e => by have h1 := HL.out.map.lt; have h2 := HG.out; omega
    have hX4 : Blk w4 g #[.int .i64 rx, .int .i64 ry, .int .i64 ra, .int .i64 rb] := (HX3.out.below hyd).upd hu4 hmg
    have c1 : w4.cell? ⟨l, 1, none⟩ = some (.pointer (some ⟨t, 0, none⟩)) := hu4.cell (cellOf_belowR HYD.out HC.out.1) HL.out.dl.1
    obtain ⟨x0, x1, x2, x3⟩ := hX4.c4r
    clear c2 e0 e1 e2 e3 hyd hH hm4 hm4' hu4 hz4
    go_upto_region 10 with fail
    have hgt : ¬ Ft g := fun y => by have h1 := (HL.out.dt g y).2.2.2; have h2 := HG.out; omega
    have hlt : ¬ Ft l := fun y => (HL.out.dt l y).1 rfl
    replace c1 := fun (z : World) (hz : Upd Ft w4 z) => hz.cell c1 hlt
    replace x0 := fun (z : World) (hz : Upd Ft w4 z) => hz.cell x0 hgt
    replace x1 := fun (z : World) (hz : Upd Ft w4 z) => hz.cell x1 hgt
    replace x2 := fun (z : World) (hz : Upd Ft w4 z) => hz.cell x2 hgt
    replace x3 := fun (z : World) (hz : Upd Ft w4 z) => hz.cell x3 hgt
    have hyb := (Below.refl w4.heap.size w4).drew
    have hyd : Upd Ft w4 w4.drew := Upd.of_below hyb
    clear hX4 hmg
    have HINS : Hid (Calls Tryz.prog 50 #[.pointer (some ⟨t, 0, none⟩), .agg #[.int .i64 rx, .int .i64 ry, .int .i64 ra, .int .i64 rb], .int .i64 id] w4.drew (RtPost w4.drew t Ft 0 (tgP P ++ [((rx, ry, ra, rb), id)]))) := hid (by
      have hmbt : ∀ b, (fun b => b = mb) b → ¬ Ft b := fun b e y => (HL.out.dt b y).2.1 e
      have htr := (((HL.out.tree.below HYD.out).upd HU4.out hmbt).below hyb)
      have hin := rt_Insert4 w4.drew t Ft (tgP P) rx ry ra rb id htr (by unfold tgP; rw [List.length_map]; have := HL.out.inv.len; omega)
      obtain ⟨k1, k2, k3⟩ := claim_zero HCE.out
      have e1 : insE (tgP P) (rx, ry, ra, rb) id = 0 := by
        unfold insE
        rw [if_neg, if_neg]
        · intro z
          obtain ⟨p, hp, he⟩ := List.mem_map.1 z
          simp only [Prod.mk.injEq] at he
          exact lookup_none_iff.1 k2 p hp he.2
        · rw [(rightR_iff _).2 (may_zero k3).1.1]; simp
      rw [e1] at hin
      have e2 : insL (tgP P) (rx, ry, ra, rb) id = tgP P ++ [((rx, ry, ra, rb), id)] := by unfold insL; rw [if_pos e1]
      rw [e2] at hin
      exact hin)
    refine wp_region_kept [7] (fun z => Upd Ft w4 z) (by kernel_rfl) (by assumption) (fun hH => ?_)
    refine wpK.take (i := 0) (v := _) (by simp only [List.getElem?_toArray, List.getElem?_cons_succ, List.getElem?_cons_zero]; rfl) (by kernel_rfl) (by kernel_rfl) (by kernel_rfl) (by kernel_rfl) (by kernel_rfl) (by exact fun _ _ _ h => h) (by first | exact Or.inl ⟨by rfl, by intro w hSw; go_simp; try with_reducible rfl⟩ | exact Or.inr ⟨by rfl, rfl⟩) hH ?_
    try simp only [Act.put, List.setIfInBounds_toArray, List.set_cons_zero, List.set_cons_succ]
    refine wpK.take (i := 1) (v := _) (by simp only [List.getElem?_toArray, List.getElem?_cons_succ, List.getElem?_cons_zero]; rfl) (by kernel_rfl) (by kernel_rfl) (by kernel_rfl) (by kernel_rfl) (by kernel_rfl) (by exact fun _ _ _ h => h) (by first | exact Or.inl ⟨by rfl, by intro w hSw; go_simp; try with_reducible rfl⟩ | exact Or.inr ⟨by rfl, rfl⟩) hH ?_
    try simp only [Act.put, List.setIfInBounds_toArray, List.set_cons_zero, List.set_cons_succ]
    refine wpK.take (i := 2) (v := _) (by simp only [List.getElem?_toArray, List.getElem?_cons_succ, List.getElem?_cons_zero]; rfl) (by kernel_rfl) (by kernel_rfl) (by kernel_rfl) (by kernel_rfl) (by kernel_rfl) (by exact fun _ _ _ h => h) (by first | exact Or.inl ⟨by rfl, by intro w hSw; go_simp; try with_reducible rfl⟩ | exact Or.inr ⟨by rfl, rfl⟩) hH ?_
    try simp only [Act.put, List.setIfInBounds_toArray, List.set_cons_zero, List.set_cons_succ]
    refine wpK.take (i := 3) (v := _) (by simp only [List.getElem?_toArray, List.getElem?_cons_succ, List.getElem?_cons_zero]; rfl) (by kernel_rfl) (by kernel_rfl) (by kernel_rfl) (by kernel_rfl) (by kernel_rfl) (by exact fun _ _ _ h => h) (by first | exact Or.inl ⟨by rfl, by intro w hSw; go_simp; try with_reducible rfl⟩ | exact Or.inr ⟨by rfl, rfl⟩) hH ?_
    try simp only [Act.put, List.setIfInBounds_toArray, List.set_cons_zero, List.set_cons_succ]
    refine wpK.take (i := 4) (v := _) (by simp only [List.getElem?_toArray, List.getElem?_cons_succ, List.getElem?_cons_zero]; rfl) (by kernel_rfl) (by kernel_rfl) (by kernel_rfl) (by kernel_rfl) (by kernel_rfl) (by exact fun _ _ _ h => h) (by first | exact Or.inl ⟨by rfl, by intro w hSw; go_simp; try with_reducible rfl⟩ | exact Or.inr ⟨by rfl, rfl⟩) hH ?_
    try simp only [Act.put, List.setIfInBounds_toArray, List.set_cons_zero, List.set_cons_succ]
    refine wpK.take (i := 5) (v := _) (by simp only [List.getElem?_toArray, List.getElem?_cons_succ, List.getElem?_cons_zero]; rfl) (by kernel_rfl) (by kernel_rfl) (by kernel_rfl) (by kernel_rfl) (by kernel_rfl) (by exact fun _ _ _ h => h) (by first | exact Or.inl ⟨by rfl, by intro w hSw; go_simp; try with_reducible rfl⟩ | exact Or.inr ⟨by rfl, rfl⟩) hH ?_
    try simp only [Act.put, List.setIfInBounds_toArray, List.set_cons_zero, List.set_cons_succ]
    refine wpK.step (i := 6) (by kernel_rfl) (by simp only [List.getElem?_toArray, List.getElem?_cons_succ, List.getElem?_cons_zero]; rfl) (fun K hK => ?_)
    go_simp
    (refine HINS.out.mono ?_); rintro e w6 ⟨Ft1, rfl, ht6, hu6, hF6⟩; (have hk6 : Upd Ft w4 w6 := hyd.trans hu6 (fun _ _ y => y)); (have HT6 := hid (And.intro ht6 (And.intro hu6 hF6))); clear ht6 hu6 hF6; go_simp
    refine hK.out _ _ (by assumption) (fun hH => ?_)
    clear hK K
    try simp only [Act.put, List.setIfInBounds_toArray, List.set_cons_zero, List.set_cons_succ]
    refine wpK.late (i := 7) (by kernel_rfl) (by simp only [List.getElem?_toArray, List.getElem?_cons_succ, List.getElem?_cons_zero]; rfl) (by kernel_rfl) (fun K hK => ?_)
    go_simp
    refine hK.out _ _ ?_
    clear hK K
    try simp only [Act.put, List.setIfInBounds_toArray, List.set_cons_zero, List.set_cons_succ]
    refine wpK.done (by kernel_rfl) ?_ _
    have HYB := hid hyb
    clear c1 x0 x1 x2 x3 hyb hyd hH hk6 hgt hlt
    go_wp2_with fail
    go_ret
    rw [HCE.out]
    exact HL.out.claimed HCE.out HYD.out HM4.out HU4.out HYB.out HT6.out.1 HT6.out.2.1 HT6.out.2.2
set_option maxRecDepth 100000 in
set_option maxHeartbeats 4000000 in
theorem land_Free (w : World) (l : Nat) (F : Nat → Prop) (k : Nat) (B : List R4) (P : List Pl) (id : Int) (h : LandIs w l F k B P) : Calls Tryz.prog 41 #[.pointer (some ⟨l, 0, none⟩), .int .i64 id] w (LandPost w l F k B (freeP P id) (freeE P id)) := by
  have HLI := hid h
  obtain ⟨q, t, mb, Fq, Ft, s, M, h⟩ := h
  have HL := hid h
  obtain ⟨hl1, hl2⟩ := h.look id
  obtain ⟨⟨z0, z1, z2, z3⟩, hz0⟩ : ∃ z, (P.lookup id).getD zR = z := ⟨_, rfl⟩
  obtain ⟨ok, hok⟩ : ∃ b, (P.lookup id).isSome = b := ⟨_, rfl⟩
  rw [hz0] at hl1
  rw [hok] at hl2
  have HR : Hid (((mapR M).lookup id).getD (.agg #[.int .i64 0, .int .i64 0, .int .i64 0, .int .i64 0]) = .agg #[.int .i64 z0, .int .i64 z1, .int .i64 z2, .int .i64 z3]) := hid hl1
  have HOK : Hid (((mapR M).lookup id).isSome = ok) := hid hl2
  have HLK : Hid ((P.lookup id).isSome = ok ∧ (P.lookup id).getD zR = (z0, z1, z2, z3)) := hid ⟨hok, hz0⟩
  obtain ⟨c0, c1, c2⟩ := h.c3
  have HC : Hid (w.cell? ⟨l, 1, none⟩ = some (.pointer (some ⟨t, 0, none⟩)) ∧ w.cell? ⟨l, 2, none⟩ = some (.map (some mb))) := hid ⟨c1, c2⟩
  clear h hl1 hl2 hz0 hok c0 c1
  have HM := hid HL.out.map
  go_enter Tryz.func41, Tryz.ntmps41
  go_upto_region 2 with (at_lookup; refine wpList_look2 _ rfl _ _ rfl Tryz.underlying74 Tryz.underlying3 (.agg #[.int .i64 0, .int .i64 0, .int .i64 0, .int .i64 0]) zero_rect rfl HM.out id rfl (.agg #[.int .i64 z0, .int .i64 z1, .int .i64 z2, .int .i64 z3]) HR ok HOK ?_)
  obtain ⟨w2, hw2⟩ : ∃ w2, w2 = w.alloc (.cells #[.int .i64 z0, .int .i64 z1, .int .i64 z2, .int .i64 z3] 25) := ⟨_, rfl⟩
  rw [← hw2]
  obtain ⟨g, hg⟩ : ∃ g, g = w.heap.size := ⟨_, rfl⟩
  rw [← hg]
  have hb2 : Below w.heap.size w w2 := by rw [hw2]; exact Below.new _ _
  have HX2 : Hid (Blk w2 g #[.int .i64 z0, .int .i64 z1, .int .i64 z2, .int .i64 z3]) := hid (by rw [hw2, hg]; exact Blk.new _ _ _)
  have HG := hid hg
  have HB2 := hid hb2
  replace c2 := cellOf_belowR hb2 c2
  have HM2 := hid (HM.out.below hb2)
  clear hw2 hb2 hg
  cases ok with
  | false =>
    have HE : Hid (freeE P id = 14 ∧ freeP P id = P) := hid (by
      have h1 := HLK.out.1
      refine ⟨by unfold freeE; rw [h1]; rfl, ?_⟩
      unfold freeP
      rw [List.filter_eq_self]
      intro p hp
      have h2 : P.lookup id = none := by
        cases hq : P.lookup id with
        | none => rfl
        | some v => rw [hq] at h1; simp at h1
      simpa using lookup_none_iff.1 h2 p hp)
    clear c2
    go_wp2_with fail
    go_ret
    rw [HE.out.1, HE.out.2]
    exact LandPost.same HLI.out HB2.out 14
  | true =>
    have HE : Hid (freeE P id = 0 ∧ P.lookup id = some (z0, z1, z2, z3)) := hid (by
      have h1 := HLK.out.1
      have h2 := HLK.out.2
      refine ⟨by unfold freeE; rw [h1]; rfl, ?_⟩
      cases hq : P.lookup id with
      | none => rw [hq] at h1; simp at h1
      | some v => rw [hq] at h2; simp at h2; rw [h2])
    go_upto_region 5 with (at_delete; refine wpList_delE _ rfl _ _ rfl Tryz.underlying74 Tryz.underlying3 rfl HM2.out id rfl ?_; intro w4 hm4 hu4 hz4)
    have HM4 := hid hm4
    have HU4 := hid hu4
    have hmg : ¬ g = mb := fun e => by have h1 := HL.out.map.lt; have h2 := HG.out; omega
    have hX4 : Blk w4 g #[.int .i64 z0, .int .i64 z1, .int .i64 z2, .int .i64 z3] := HX2.out.upd hu4 hmg
    have c1 : w4.cell? ⟨l, 1, none⟩ = some (.pointer (some ⟨t, 0, none⟩)) := hu4.cell (cellOf_belowR HB2.out HC.out.1) HL.out.dl.1
    obtain ⟨x0, x1, x2, x3⟩ := hX4.c4r
    clear c2 hm4 hu4 hz4
    have hgt : ¬ Ft g := fun y => by have h1 := (HL.out.dt g y).2.2.2; have h2 := HG.out; omega
    have hlt : ¬ Ft l := fun y => (HL.out.dt l y).1 rfl
    replace c1 := fun (z : World) (hz : Upd Ft w4 z) => hz.cell c1 hlt
    replace x0 := fun (z : World) (hz : Upd Ft w4 z) => hz.cell x0 hgt
    replace x1 := fun (z : World) (hz : Upd Ft w4 z) => hz.cell x1 hgt
    replace x2 := fun (z : World) (hz : Upd Ft w4 z) => hz.cell x2 hgt
    replace x3 := fun (z : World) (hz : Upd Ft w4 z) => hz.cell x3 hgt
    have hyb := (Below.refl w4.heap.size w4).drew
    have hyd : Upd Ft w4 w4.drew := Upd.of_below hyb
    clear hX4 hmg
    have HDEL : Hid (Calls Tryz.prog 60 #[.pointer (some ⟨t, 0, none⟩), .agg #[.int .i64 z0, .int .i64 z1, .int .i64 z2, .int .i64 z3], .int .i64 id] w4.drew (RtPost w4.drew t Ft 0 ((tgP P).erase ((z0, z1, z2, z3), id)))) := hid (by
      have hmbt : ∀ b, (fun b => b = mb) b → ¬ Ft b := fun b e y => (HL.out.dt b y).2.1 e
      have htr := (((HL.out.tree.below HB2.out).upd HU4.out hmbt).below hyb)
      have hin := rt_Delete4 w4.drew t Ft (tgP P) z0 z1 z2 z3 id htr (by unfold tgP; rw [List.length_map]; have := HL.out.inv.len; omega)
      have e1 : delE (tgP P) ((z0, z1, z2, z3), id) = 0 := by
        unfold delE
        rw [if_pos]
        exact List.mem_map.2 ⟨_, lookup_mem HE.out.2, rfl⟩
      rw [e1] at hin
      exact hin)
    refine wp_region_kept [7] (fun z => Upd Ft w4 z) (by kernel_rfl) (by assumption) (fun hH => ?_)
    refine wpK.take (i := 0) (v := _) (by simp only [List.getElem?_toArray, List.getElem?_cons_succ, List.getElem?_cons_zero]; rfl) (by kernel_rfl) (by kernel_rfl) (by kernel_rfl) (by kernel_rfl) (by kernel_rfl) (by exact fun _ _ _ h => h) (by first | exact Or.inl ⟨by rfl, by intro w hSw; go_simp; try with_reducible rfl⟩ | exact Or.inr ⟨by rfl, rfl⟩) hH ?_
    try simp only [Act.put, List.setIfInBounds_toArray, List.set_cons_zero, List.set_cons_succ]
    refine wpK.take (i := 1) (v := _) (by simp only [List.getElem?_toArray, List.getElem?_cons_succ, List.getElem?_cons_zero]; rfl) (by kernel_rfl) (by kernel_rfl) (by kernel_rfl) (by kernel_rfl) (by kernel_rfl) (by exact fun _ _ _ h => h) (by first | exact Or.inl ⟨by rfl, by intro w hSw; go_simp; try with_reducible rfl⟩ | exact Or.inr ⟨by rfl, rfl⟩) hH ?_
    try simp only [Act.put, List.setIfInBounds_toArray, List.set_cons_zero, List.set_cons_succ]
    refine wpK.take (i := 2) (v := _) (by simp only [List.getElem?_toArray, List.getElem?_cons_succ, List.getElem?_cons_zero]; rfl) (by kernel_rfl) (by kernel_rfl) (by kernel_rfl) (by kernel_rfl) (by kernel_rfl) (by exact fun _ _ _ h => h) (by first | exact Or.inl ⟨by rfl, by intro w hSw; go_simp; try with_reducible rfl⟩ | exact Or.inr ⟨by rfl, rfl⟩) hH ?_
    try simp only [Act.put, List.setIfInBounds_toArray, List.set_cons_zero, List.set_cons_succ]
    refine wpK.take (i := 3) (v := _) (by simp only [List.getElem?_toArray, List.getElem?_cons_succ, List.getElem?_cons_zero]; rfl) (by kernel_rfl) (by kernel_rfl) (by kernel_rfl) (by kernel_rfl) (by kernel_rfl) (by exact fun _ _ _ h => h) (by first | exact Or.inl ⟨by rfl, by intro w hSw; go_simp; try with_reducible rfl⟩ | exact Or.inr ⟨by rfl, rfl⟩) hH ?_
    try simp only [Act.put, List.setIfInBounds_toArray, List.set_cons_zero, List.set_cons_succ]
    refine wpK.take (i := 4) (v := _) (by simp only [List.getElem?_toArray, List.getElem?_cons_succ, List.getElem?_cons_zero]; rfl) (by kernel_rfl) (by kernel_rfl) (by kernel_rfl) (by kernel_rfl) (by kernel_rfl) (by exact fun _ _ _ h => h) (by first | exact Or.inl ⟨by rfl, by intro w hSw; go_simp; try with_reducible rfl⟩ | exact Or.inr ⟨by rfl, rfl⟩) hH ?_
    try simp only [Act.put, List.setIfInBounds_toArray, List.set_cons_zero, List.set_cons_succ]
    refine wpK.take (i := 5) (v := _) (by simp only [List.getElem?_toArray, List.getElem?_cons_succ, List.getElem?_cons_zero]; rfl) (by kernel_rfl) (by kernel_rfl) (by kernel_rfl) (by kernel_rfl) (by kernel_rfl) (by exact fun _ _ _ h => h) (by first | exact Or.inl ⟨by rfl, by intro w hSw; go_simp; try with_reducible rfl⟩ | exact Or.inr ⟨by rfl, rfl⟩) hH ?_
    try simp only [Act.put, List.setIfInBounds_toArray, List.set_cons_zero, List.set_cons_succ]
    refine wpK.step (i := 6) (by kernel_rfl) (by simp only [List.getElem?_toArray, List.getElem?_cons_succ, List.getElem?_cons_zero]; rfl) (fun K hK => ?_)
    go_simp
    (refine HDEL.out.mono ?_); rintro e w6 ⟨Ft1, rfl, ht6, hu6, hF6⟩; (have hk6 : Upd Ft w4 w6 := hyd.trans hu6 (fun _ _ y => y)); (have HT6 := hid (And.intro ht6 (And.intro hu6 hF6))); clear ht6 hu6 hF6; go_simp
    refine hK.out _ _ (by assumption) (fun hH => ?_)
    clear hK K
    try simp only [Act.put, List.setIfInBounds_toArray, List.set_cons_zero, List.set_cons_succ]
    refine wpK.late (i := 7) (by kernel_rfl) (by simp only [List.getElem?_toArray, List.getElem?_cons_succ, List.getElem?_cons_zero]; rfl) (by kernel_rfl) (fun K hK => ?_)
    go_simp
    refine hK.out _ _ ?_
    clear hK K
    try simp only [Act.put, List.setIfInBounds_toArray, List.set_cons_zero, List.set_cons_succ]
    refine wpK.done (by kernel_rfl) ?_ _
    have HYB := hid hyb
    clear c1 x0 x1 x2 x3 hyb hyd hH hk6 hgt hlt
    go_wp2_with fail
    go_ret
    rw [HE.out.1]
    exact HL.out.freed HE.out.2 HB2.out HM4.out HU4.out HYB.out HT6.out.1 HT6.out.2.1 HT6.out.2.2
end Go.Proofs.YtjbnfppnmljbmaaGreat
end
section
/- Slices of rectangles; contract of land's New. -/
namespace Go.Proofs.YtjbnfppnmljbmaaGreat
open Go.RowKit Go.Deep
open Go.Lib (hid)
set_option linter.unusedVariables false
attribute [local go_sem] Oper.semAt_some

def svR (X : List R4) : List Value := X.flatMap fun r => [Value.int .i64 r.1, .int .i64 r.2.1, .int .i64 r.2.2.1, .int .i64 r.2.2.2]
theorem svR_length (X : List R4) : (svR X).length = X.length * 4 := by
  unfold svR
  induction X with
  | nil => rfl
  | cons p X ih => rw [List.flatMap_cons, List.length_append, ih]; simp; omega
theorem svR_append (X Y : List R4) : svR (X ++ Y) = svR X ++ svR Y := by unfold svR; rw [List.flatMap_append]
theorem svR_at : ∀ (X : List R4) (i : Nat) (r : R4), X[i]? = some r → (svR X)[i * 4]? = some (.int .i64 r.1) ∧ (svR X)[i * 4 + 1]? = some (.int .i64 r.2.1) ∧ (svR X)[i * 4 + 2]? = some (.int .i64 r.2.2.1) ∧ (svR X)[i * 4 + 3]? = some (.int .i64 r.2.2.2)
  | [], i, x, h => by simp at h
  | q :: X, 0, x, h => by simp at h; subst h; exact ⟨rfl, rfl, rfl, rfl⟩
  | q :: X, i + 1, x, h => by
    simp at h
    have := svR_at X i x h
    have e : svR (q :: X) = .int .i64 q.1 :: .int .i64 q.2.1 :: .int .i64 q.2.2.1 :: .int .i64 q.2.2.2 :: svR X := rfl
    rw [e, show (i + 1) * 4 = i * 4 + 1 + 1 + 1 + 1 by omega]
    simpa using this
def SlR (w : World) (v : Value) (X : List R4) : Prop := ∃ a cap, v = .slice a X.length cap ∧ Rd w a (svR X) ∧ X.length ≤ cap ∧ cap ≤ 9223372036854775807 ∧ (a = none → cap = 0)
theorem SlR.nil (w : World) : SlR w (.slice none 0 0) [] := ⟨none, 0, rfl, Rd.nil _ _, by simp, by omega, fun _ => rfl⟩
theorem SlR.below {w w' : World} {v : Value} {X : List R4} (h : SlR w v X) (hb : Below w.heap.size w w') : SlR w' v X := by
  obtain ⟨a, c, e, h1, h2⟩ := h
  exact ⟨a, c, e, h1.below' hb, h2⟩
theorem SlR.upd {S : Nat → Prop} {w w' : World} {v : Value} {X : List R4} (h : SlR w v X) (hu : Upd S w w') (hn : ∀ k, v.ownBlock = some k → ¬ S k) : SlR w' v X := by
  obtain ⟨a, c, rfl, h1, h2⟩ := h
  exact ⟨a, c, rfl, hu.rd h1 (fun b off e => hn b (by rw [e]; rfl)), h2⟩
theorem SlR.of_own {w : World} {base : Nat} {e : TypeId} {v : Value} {X : List R4} (h : w.ownsRow base e 4 v X.length (svR X)) : SlR w v X := by
  obtain ⟨a, c, rfl, h1, h2, h3, h4⟩ := ownsRow.rd h
  exact ⟨a, c, rfl, h3, h1, by unfold maxLen at h2; omega, h4⟩
theorem Rd.four {w : World} {a : Option Addr} {X : List R4} (h : Rd w a (svR X)) (i : Nat) (hi : i < X.length) :
    ∃ b off r, a = some ⟨b, off, none⟩ ∧ w.cell? ⟨b, off + i * 4, none⟩ = some (.int .i64 r.1) ∧ w.cell? ⟨b, off + i * 4 + 1, none⟩ = some (.int .i64 r.2.1) ∧ w.cell? ⟨b, off + i * 4 + 2, none⟩ = some (.int .i64 r.2.2.1) ∧ w.cell? ⟨b, off + i * 4 + 3, none⟩ = some (.int .i64 r.2.2.2) ∧
      X[i]? = some r ∧ X.drop i = r :: X.drop (i + 1) ∧ X.take (i + 1) = X.take i ++ [r] := by
  have hx : X[i]? = some X[i] := List.getElem?_eq_getElem hi
  obtain ⟨h0, h1, h2, h3⟩ := svR_at X i _ hx
  obtain ⟨b, off, ha, hc⟩ := h (i * 4) (by rw [svR_length]; omega)
  have key : ∀ j, j < 4 → w.cell? ⟨b, off + i * 4 + j, none⟩ = (svR X)[i * 4 + j]? := fun j hj => by
    obtain ⟨b', off', ha', hc'⟩ := h (i * 4 + j) (by rw [svR_length]; omega)
    rw [ha] at ha'
    simp at ha'
    obtain ⟨rfl, rfl⟩ := ha'
    rw [Nat.add_assoc]; exact hc'
  exact ⟨b, off, X[i], ha, by rw [hc, h0], by rw [key 1 (by omega), h1], by rw [key 2 (by omega), h2], by rw [key 3 (by omega), h3], hx, List.drop_eq_getElem_cons hi, by rw [List.take_add_one, hx]; rfl⟩
def okL (a : Int) (Bs : List R4) : Prop := (rightQ a = true ∧ 16 ≤ a) ∧ ∀ b ∈ Bs, WithinR b a
def NewLPost (w : World) (a : Int) (Bs : List R4) (e : Ending) (w' : World) : Prop :=
  (okL a Bs ∧ ∃ l k, a = sd k ∧ e = .returned (.tuple #[.pointer (some ⟨l, 0, none⟩), .int .i64 0]) ∧ LandIs w' l (fun b => w.heap.size ≤ b) k Bs [] ∧ Below w.heap.size w w') ∨
  (¬ okL a Bs ∧ e = .returned (.tuple #[.pointer none, .int .i64 11]) ∧ Below w.heap.size w w')
def NwR (w : World) (q k n : Nat) (Bs : List R4) (v20 : Value) (wr : World) : Prop := ∃ (j : Nat) (s : Sq) (F : Nat → Prop), v20 = .int .i64 (j : Int) ∧ j ≤ n ∧ Hid (QuadAt wr q F k s ∧ TileB k s (Bs.take j) ∧ (∀ b ∈ Bs.take j, WithinR b (sd k)) ∧ (∀ b, F b → w.heap.size ≤ b)) ∧ Hid (Below w.heap.size w wr)
set_option maxRecDepth 100000 in
set_option maxHeartbeats 4000000 in
theorem land_New (a : Int) (v : Value) (Bs : List R4) (w : World) (hs : SlR w v Bs) (hl : Bs.length ≤ 1000) : Calls Tryz.prog 27 #[.int .i64 a, v] w (NewLPost w a Bs) := by
  obtain ⟨av, cv, hv, -⟩ := id hs
  obtain ⟨n, hn⟩ : ∃ n, Bs.length = n := ⟨_, rfl⟩
  rw [hn] at hv hl
  subst hv
  have HS := hid hs
  have HN := hid hn
  have HNQ := hid (quad_New a w)
  clear hs hn
  go_enter Tryz.func27, Tryz.ntmps27
  go_wp2_with fail
  refine HNQ.out.mono ?_
  intro e w1 hq
  rcases hq with ⟨hr, rfl, rfl⟩ | ⟨hr, q, k, hak, rfl, hqa, hb1⟩
  · have HNO : Hid (¬ okL a Bs) := hid (fun z => by have := z.1.1; rw [hr] at this; cases this)
    clear hr
    go_wp2_with fail
    go_ret2
    exact .inr ⟨HNO.out, rfl, Below.refl _ _⟩
  have HR := hid hr
  have HAK := hid hak
  have HQ := hid hqa
  have HB1 := hid hb1
  clear hr hak hqa hb1
  by_cases h16 : a < 16
  · have HNO : Hid (¬ okL a Bs) := hid (fun z => by have := z.1.2; omega)
    go_wp2_with fail
    go_ret2
    exact .inr ⟨HNO.out, rfl, HB1.out⟩
  have H16 := hid h16
  go_wp2_with fail
  go_loopw [20] (fun v20 wr => NwR w q k n Bs v20 wr) (fun v20 _ => n - (intOf v20).toNat)
  case atStart => exact ⟨0, sq0, _, rfl, by omega, hid ⟨HQ.out, by simpa using tileB_new HQ.out.own, by simp, fun b y => y⟩, HB1⟩
  case round =>
    obtain ⟨j, s, F, rfl, hj, HI, HB⟩ := hrel
    by_cases hlt : j < n
    · have j1 : (j : Int) < (n : Int) := by omega
      have j0 : (0 : Int) ≤ (j : Int) := by omega
      have j9 : (j : Int) < 1000 := by omega
      obtain ⟨a', c', e', hrd, -⟩ := HS.out.below HB.out
      simp only [Value.slice.injEq] at e'
      obtain ⟨rfl, -, rfl⟩ := e'
      obtain ⟨b0, off, r, rfl, d0, d1, d2, d3, hat, -, htk⟩ := hrd.four j (by rw [HN.out]; exact hlt)
      have HAT := hid (And.intro (List.mem_of_getElem? hat) htk)
      obtain ⟨x1, x2, x3, x4⟩ := r
      simp only at d0 d1 d2 d3
      clear hrd hat htk
      go_upto_region 7 with fail
      obtain ⟨w5, hw5⟩ : ∃ w5, w5 = wr.alloc (.cells #[.int .i64 x1, .int .i64 x2, .int .i64 x3, .int .i64 x4] 25) := ⟨_, rfl⟩
      rw [← hw5]
      have hb5 : Below wr.heap.size wr w5 := by rw [hw5]; exact Below.new _ _
      obtain ⟨bb, hbb⟩ : ∃ bb, bb = wr.heap.size := ⟨_, rfl⟩
      rw [← hbb]
      have hO5 : Blk w5 bb #[.int .i64 x1, .int .i64 x2, .int .i64 x3, .int .i64 x4] := by rw [hw5, hbb]; exact Blk.new _ _ _
      have HQ5 := hid (HI.out.1.below hb5)
      have HB5 := hid (Below.next HB.out hb5)
      obtain ⟨y0, y1, y2, y3⟩ := hO5.c4r
      clear hw5 hb5 hbb d0 d1 d2 d3 hO5
      go_wp2_with fail
      refine (quad_Set w5 q F k s x1 x2 x3 x4 HQ5.out).mono ?_
      intro e w6 hq
      rcases hq with ⟨hin, s', F', rfl, hq6, hu6, hF6, hset⟩ | ⟨hin, rfl, hb6⟩
      · have HI6 : Hid (QuadAt w6 q F' k s' ∧ TileB k s' (Bs.take (j + 1)) ∧ (∀ b ∈ Bs.take (j + 1), WithinR b (sd k)) ∧ (∀ b, F' b → w.heap.size ≤ b)) := hid (by
          rw [HAT.out.2]
          refine ⟨hq6, tileB_set HI.out.2.1 hset, fun b hb => ?_, fun b y => ?_⟩
          · rcases List.mem_append.1 hb with hb | hb
            · exact HI.out.2.2.1 b hb
            · simp only [List.mem_singleton] at hb
              subst hb
              exact (within_all HQ5.out.own).1 hin
          · rcases hF6 b y with z | z
            · exact HI.out.2.2.2 b z
            · have := HB5.out.size; omega)
        have HB6 := hid (HB5.out.trans (hu6.below HB5.out.size (fun b _ y => HI.out.2.2.2 b y)))
        clear hin hq6 hu6 hF6 hset y0 y1 y2 y3
        go_wp2_with fail
        go_roundw
        case rel => exact ⟨j + 1, s', F', by go_num, by omega, HI6, HB6⟩
        case measure => simp [intOf]; omega
      · have HNO : Hid (¬ okL a Bs) := hid (fun z => hin ((within_all HQ5.out.own).2 (by have := z.2 _ HAT.out.1; rw [HAK.out] at this; exact this)))
        have HB6 := hid (Below.next HB5.out hb6)
        clear hin hb6 y0 y1 y2 y3
        go_wp2_with fail
        go_ret2
        exact .inr ⟨HNO.out, rfl, HB6.out⟩
    · obtain ⟨wo, hwo⟩ : ∃ wo, wo = wr := ⟨_, rfl⟩
      subst hwo
      have j1 : ¬ (j : Int) < (n : Int) := by omega
      have HTA : Hid (Bs.take j = Bs) := hid (List.take_of_length_le (by rw [HN.out]; omega))
      go_wp2_with fail
      refine (rt_New wo).mono ?_
      rintro e w2 ⟨t, rfl, ht, hb2⟩
      have HT := hid ht
      have HB2 := hid hb2
      clear ht hb2
      have hmm := @run_makeMap Tryz.prog
      have hum := Tryz.underlying74
      go_wp2_with fail
      go_ret2
      have hOK : okL a Bs := ⟨⟨HR.out, by have := H16.out; omega⟩, fun b hb => by rw [HAK.out]; exact HI.out.2.2.1 b (by rw [HTA.out]; exact hb)⟩
      obtain ⟨wm, hwm⟩ : ∃ wm, wm = w2.alloc (.map #[] 0) := ⟨_, rfl⟩
      have hbm : Below w2.heap.size w2 wm := by rw [hwm]; exact Below.new _ _
      have hmm : MapE wm w2.heap.size [] := by rw [hwm]; exact MapE.new w2
      have hzm : wm.heap.size = w2.heap.size + 1 := by rw [hwm]; simp
      obtain ⟨wl, hwl⟩ : ∃ wl, wl = wm.alloc (.cells #[.pointer (some ⟨q, 0, none⟩), .pointer (some ⟨t, 0, none⟩), .map (some w2.heap.size)] 76) := ⟨_, rfl⟩
      have hbl : Below wm.heap.size wm wl := by rw [hwl]; exact Below.new _ _
      have hkl : Blk wl wm.heap.size #[.pointer (some ⟨q, 0, none⟩), .pointer (some ⟨t, 0, none⟩), .map (some w2.heap.size)] := by rw [hwl]; exact Blk.new _ _ _
      have hzl : wl.heap.size = wm.heap.size + 1 := by rw [hwl]; simp
      have hq2 := (HI.out.1.below HB2.out).below hbm
      have hz1 := HB.out.size
      have hz2 := HB2.out.size
      have hqw : QuadAt wl q (fun b => F b ∧ b < wo.heap.size) k s := (((HI.out.1.weaken (fun b y z => ⟨y, z⟩)).below HB2.out).below hbm).below hbl
      have htw : TreeIs wl t (fun b => wo.heap.size ≤ b ∧ b < w2.heap.size) [] := ((HT.out.weaken (fun b y z => ⟨y, z⟩)).below hbm).below hbl
      have hbw : Below w.heap.size w wl := Below.next (Below.next (Below.next HB.out HB2.out) hbm) hbl
      have hfin : LandIs wl wm.heap.size (fun b => w.heap.size ≤ b) k Bs [] := by
        refine ⟨q, t, w2.heap.size, _, _, s, [], hkl, hqw, by have := HI.out.2.1; rw [HTA.out] at this; exact this, fun b hb => HI.out.2.2.1 b (by rw [HTA.out]; exact hb), htw, hmm.below hbl, .refl _, fun b y => ?_, fun b y => ?_, ?_, PInv.nil _ _⟩
        · have := HI.out.2.2.2 b y.1
          have := y.2
          exact ⟨fun z => by omega, by omega, by omega, HI.out.2.2.2 b y.1, by omega⟩
        · exact ⟨by omega, by omega, by show _ ≤ b; omega, by omega⟩
        · exact ⟨by omega, by show _ ≤ _; omega, by show _ ≤ _; omega⟩
      refine .inl ⟨hOK, wm.heap.size, k, HAK.out, ?_, ?_, ?_⟩
      · simp [hwm]
      · rw [hwl, hwm] at hfin; rw [hwm]; exact hfin
      · rw [hwl, hwm] at hbw; exact hbw
end Go.Proofs.YtjbnfppnmljbmaaGreat
end
