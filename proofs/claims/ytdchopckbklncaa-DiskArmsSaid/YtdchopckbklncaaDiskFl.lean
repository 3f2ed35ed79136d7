/- Contract: disk.Flush. -/
import Derived.Test.YtdchopckbklncaaDiskMix
namespace Go.Proofs.Ytdchopckbklncaa
open Go.RowKit
open Go.Lib (hid)
set_option linter.unusedVariables false

theorem dkCommand_same (s : Dk) : (dkCommand s).2.D = s.D ∧ (dkCommand s).2.C = s.C ∧ (dkCommand s).2.size = s.size := by
  unfold dkCommand
  split
  · split <;> exact ⟨rfl, rfl, rfl⟩
  · exact ⟨rfl, rfl, rfl⟩
theorem Dk.Ok.of_same {s s' : Dk} (h : s.Ok) (hD : s'.D = s.D) (hC : s'.C = s.C) (hs : s'.size = s.size) : s'.Ok :=
  ⟨by rw [hC, hD, hs]; exact h.key, by rw [hD, hs]; exact h.sec, by rw [hD]; exact h.pos, by rw [hD]; exact h.le, by rw [hs]; exact h.sz, by rw [hs]; exact h.sz0⟩
/-- what an entry of the cache says, while the sectors turn -/
theorem entry_facts {W R : Nat → Prop} {w : World} {g b gd cd : Nat} {s : Dk} {D' : List (List UInt8)} {V' : List Value} {M : List (Int × Value × List UInt8)} {vs : List (Int × Value)} (hvs : vs = (M.map fun p => (p.1, p.2.1))) (hok : s.Ok)
    (h : DkIs w g W R { s with D := D' } b (.slice (some ⟨gd, 0, none⟩) s.D.length cd) V' M) (hl : D'.length = s.D.length) {k : Int} {v : Value} (hlk : vs.lookup k = some v) :
    ∃ (kk : Nat) (l d : List UInt8) (u : Value) (a : Option Addr) (c : Nat), k = (kk : Int) ∧ kk < s.D.length ∧ s.C.lookup k = some l ∧ s.D[kk]? = some d ∧ Sec w R v l ∧ V'[kk]? = some u ∧ w.cell? ⟨gd, kk, none⟩ = some u ∧ w.frozen? ⟨gd, kk, none⟩ = false ∧ v = .slice a l.length c ∧ l.length = s.size ∧ d.length = s.size ∧ (∃ d', D'[kk]? = some d' ∧ Sec w R u d') := by
  have h1 : vs.lookup k = (M.lookup k).map (·.1) := by rw [hvs]; exact lookup_map (fun q : Value × List UInt8 => q.1) M k
  rw [hlk] at h1
  cases hM : M.lookup k with
  | none => rw [hM] at h1; simp at h1
  | some q =>
    obtain ⟨v', l⟩ := q
    rw [hM] at h1
    simp at h1
    subst h1
    have hin := lookup_mem hM
    have h2 : s.C.lookup k = some l := by
      have := h.eqC
      simp only at this
      rw [← this]
      have h3 : (M.map fun p => (p.1, p.2.2)).lookup k = (M.lookup k).map (·.2) := lookup_map (fun q : Value × List UInt8 => q.2) M k
      rw [h3, hM]; rfl
    have h4 := hok.key _ (lookup_mem h2)
    obtain ⟨kk, hkk⟩ := Int.eq_ofNat_of_zero_le h4.1
    have hlt : kk < s.D.length := by have := h4.2.1; simp only at hkk; omega
    have hVl : V'.length = s.D.length := by have := h.own.1; simp only at this; omega
    have hu : V'[kk]? = some (V'[kk]'(by omega)) := List.getElem?_eq_getElem (by omega)
    have hown : w.ownsRow 0 22 1 (.slice (some ⟨gd, 0, none⟩) s.D.length cd) s.D.length V' := by have := h.own; simp only [hl] at this; exact this
    have hd' : D'[kk]? = some (D'[kk]'(by omega)) := List.getElem?_eq_getElem (by omega)
    obtain ⟨u, hu1, hu2⟩ := h.sec kk _ hd'
    rw [hu] at hu1
    obtain rfl := Option.some.inj hu1
    have hd : s.D[kk]? = some (s.D[kk]'hlt) := List.getElem?_eq_getElem hlt
    have hms := h.msec _ hin
    obtain ⟨a, c, hv, -⟩ := hms.1
    exact ⟨kk, l, _, _, a, c, hkk, hlt, h2, hd, hms, hu, by rw [hown.cellAt kk (by omega), hu], hown.frozenAt kk, hv, h4.2.2, hok.sec _ (List.mem_of_getElem? hd), _, hd', hu2⟩
/-- the sectors, behind a flush -/
def flushD (s : Dk) : List (List UInt8) := mixF (fun _ b _ => b) s.D s.C []
def dkFlush (s : Dk) : Int × Dk := if s.down then (20, s) else if (dkCommand s).1 ≠ 0 then dkCommand s else (0, { (dkCommand s).2 with D := flushD (dkCommand s).2, C := [] })

set_option maxRecDepth 100000 in
set_option maxHeartbeats 2000000 in
theorem disk_Flush (s : Dk) (hok : s.Ok) (g : Nat) (W R : Nat → Prop) (w : World) (h : DiskIs w g W R s) (e0 : Int) (s' : Dk) (hs : Hid (dkFlush s = (e0, s'))) :
    Calls Try.prog 48 #[.pointer (some ⟨g, 0, none⟩)] w fun e w' => e = .returned (.int .i64 e0) ∧ DiskIs w' g W R s' ∧ Upd W w w' := by
  have HI := hid h
  have hs2 := hs.out
  unfold dkFlush at hs2
  obtain ⟨b0, dv0, V0, M0, hd0⟩ := h
  have hc5 : w.cell? ⟨g, 5, none⟩ = some (.bool s.down) := by rw [hd0.blk.cell]; rfl
  clear hs hd0
  cases hdn : s.down
  case true =>
    rw [hdn] at hs2 hc5
    simp only [if_true, Prod.mk.injEq] at hs2
    obtain ⟨rfl, rfl⟩ := hs2
    clear hdn
    go_enter Try.func48, Try.ntmps48
    go_wp2_with fail
    go_ret
    exact ⟨rfl, HI.out, Upd.refl _ _⟩
  rw [hdn] at hs2 hc5
  simp only [Bool.false_eq_true, if_false] at hs2
  obtain ⟨e1, s1, hcm⟩ : ∃ e1 s1, dkCommand s = (e1, s1) := ⟨_, _, rfl⟩
  rw [hcm] at hs2
  simp only at hs2
  have hsame := dkCommand_same s
  rw [hcm] at hsame
  have hok1 := hok.of_same hsame.1 hsame.2.1 hsame.2.2
  have HCM := hid hcm
  have HOK := hid hok1
  clear hcm hsame hdn hok hok1
  by_cases h1 : e1 = 0
  case neg =>
    rw [if_pos h1] at hs2
    simp only [Prod.mk.injEq] at hs2
    obtain ⟨rfl, rfl⟩ := hs2
    have hb : (e1 != 0) = true := by simpa using h1
    go_enter Try.func48, Try.ntmps48
    go_wp2_with (go_at_call 88; (with_reducible refine (disk_command s g W R _ HI.out e1 s1 HCM).mono ?_); rintro e w1 ⟨rfl, hi1, hu1⟩)
    go_ret
    exact ⟨rfl, hi1, hu1⟩
  subst h1
  rw [if_neg (by simp)] at hs2
  simp only [Prod.mk.injEq] at hs2
  obtain ⟨rfl, rfl⟩ := hs2
  go_enter Try.func48, Try.ntmps48
  go_wp2_with fail
  refine (disk_command s g W R _ HI.out 0 s1 HCM).mono ?_
  rintro e w1 ⟨rfl, ⟨b, dv, V, M, hd⟩, hu1⟩
  obtain ⟨gd, cd, rfl⟩ := Joins.ownsRow_form hd.own HOK.out.pos
  have hc2 : w1.cell? ⟨g, 2, none⟩ = some (.map (some b)) := by rw [hd.blk.cell]; rfl
  have HD := hid hd
  have HU1 := hid hu1
  obtain ⟨vs, hvs⟩ : ∃ vs, vs = (M.map fun p => (p.1, p.2.1)) := ⟨_, rfl⟩
  have HVS := hid hvs
  have hmap := hd.map
  rw [← hvs] at hmap
  have HMAP := hid hmap
  clear hd hu1 hvs hmap
  go_wp2_with (at_range; refine wpList_rangeE _ rfl _ rfl Try.underlying117 rfl HMAP.out ?_; intro w2 hr2 hb2 hs2)
  go_frame
  have HR2 := hid hr2
  have HB2 := hid hb2
  have HS2 := hid hs2
  have HM1 : Hid (mixF (fun _ b _ => b) s1.D s1.C (vs.map (·.1)) = s1.D) := hid (mixF_all _ _ _ _ (fun p hp => by
    rw [← HD.out.eqC] at hp
    obtain ⟨q, hq, rfl⟩ := List.mem_map.1 hp
    rw [HVS.out, List.map_map]
    exact List.mem_map.2 ⟨q, hq, rfl⟩))
  clear hr2 hb2 hs2
  go_loopw [4, 5] (fun v4 v5 wr => ∃ (left : List (Int × Value)) (V' : List Value), Hid (RangeE wr w1.heap.size b vs left) ∧ Hid (DkIs wr g W R { s1 with D := mixF (fun _ b _ => b) s1.D s1.C (left.map (·.1)) } b (.slice (some ⟨gd, 0, none⟩) s1.D.length cd) V' M) ∧ Hid (Upd W w1 wr)) (fun _ _ wr => rangeN wr w1.heap.size b)
  case atStart => exact ⟨vs, V, HR2, hid (by rw [HM1.out]; exact HD.out.below HB2.out), hid (Upd.of_below HB2.out)⟩
  case round =>
    clear HR2 HB2 HS2
    obtain ⟨left, V', HR, HDr, HU⟩ := hrel
    have hlen := HR.out.len
    have HLEN := hid hlen
    have hlenD : (mixF (fun _ b _ => b) s1.D s1.C (left.map (·.1))).length = s1.D.length := mixF_len _ _ _ _
    clear hlen
    have hc2r : wr.cell? ⟨g, 2, none⟩ = some (.map (some b)) := by rw [HDr.out.blk.cell]; rfl
    by_cases hl0 : left = []
    · subst hl0
      have hm := HDr.out.map
      have HM := hid hm
      clear hm hlenD
      go_wp2_with (first | (at_next; refine wpList_nextE _ rfl _ rfl rfl HR.out (fun _ => ?_) (fun k v w' hin => absurd hin (by simp))) | (with_reducible refine wpList_clearE _ rfl (.tmp 35) rfl Try.underlying117 rfl HM.out ?_))
      intro w3 hm3 hu3 hs3
      have hfin := HDr.out.clearC hm3 hu3
      have HPOST : Hid (DiskIs w3 g W R { s1 with D := flushD s1, C := [] } ∧ Upd W w w3) := hid ⟨⟨_, _, _, _, hfin⟩, (HU1.out.trans HU.out (fun _ _ x => x)).trans (hu3.mono (fun k _ q => q ▸ HD.out.wb)) (fun _ _ x => x)⟩
      clear hfin hm3 hu3 hs3
      go_wp2_with fail
      go_ret
      exact ⟨rfl, HPOST.out.1, HPOST.out.2⟩
    · have hc1r : ∀ w', Upd (fun j => j = w1.heap.size) wr w' → w'.cell? ⟨g, 1, none⟩ = some (.slice (some ⟨gd, 0, none⟩) s1.D.length cd) := fun w' hu => by
        have hg := HD.out.blk.lt
        rw [(HDr.out.blk.upd hu (fun q => by omega)).cell]; rfl
      have HC1 := hid hc1r
      clear hc1r
      have hrW : ∀ j, j = w1.heap.size → ¬ W j := fun j hj q => by have := HD.out.wlt j q; omega
      have hrR : ∀ j, j = w1.heap.size → ¬ R j := fun j hj q => by have := HD.out.rlt j q; omega
      have HRW := hid hrW
      have HRR := hid hrR
      clear hrW hrR
      go_wp2_with (at_next; refine wpList_nextE _ rfl _ rfl rfl HR.out (fun h0 => absurd h0 hl0) (fun k v w' hin hlk hr' hu' hs' hen => ?_); (have hd' := HDr.out.upd hu' HRW.out HRR.out); (obtain ⟨kk, l, d, u, va, vc, rfl, hkk, hcl, hdk, hsec, hVk, hck, hfk, rfl, hll, hdl, -⟩ := entry_facts HVS.out HOK.out hd' hlenD hlk); (have hc1' := HC1.out _ hu'); (have e0 : (0 : Int) ≤ (kk : Int) := by omega); (have e1 : (kk : Int) < (s1.D.length : Int) := by omega); (have HD2 := hid hd'); (have HSEC := hid hsec); (have HCL := hid hcl); (have HDK := hid hdk); (have HIN := hid hin); (have HR2 := hid hr'); (have HU2 := hid hu'); (have HL2 := hid hll); clear hin hlk hr' hu' hs' hd' hcl hdk hsec hVk hll hdl)
      have hgd := HD.out.wd gd rfl
      have hgl := HD.out.wlt gd hgd.1
      have hstep := mixF_step (fun _ b _ => b) s1.D s1.C (left.map (·.1)) ((adel left (kk : Int)).map (·.1)) kk l d HDK.out HCL.out (List.mem_map.2 ⟨_, HIN.out, rfl⟩) (keys_adel (kk : Int))
      have hD3 : DkIs w' g W R { s1 with D := mixF (fun _ b _ => b) s1.D s1.C (left.map (·.1)) } b (.slice (some ⟨gd, 0, none⟩) (mixF (fun _ b _ => b) s1.D s1.C (left.map (·.1))).length cd) V' M := by rw [hlenD]; exact HD2.out
      have hD4 := hD3.setD kk HSEC.out (by rw [hlenD]; exact hkk)
      have hD5 : DkIs (w'.setCell ⟨gd, kk, none⟩ (.slice va l.length vc)) g W R { s1 with D := mixF (fun _ b _ => b) s1.D s1.C ((adel left (kk : Int)).map (·.1)) } b (.slice (some ⟨gd, 0, none⟩) s1.D.length cd) (V'.set kk (.slice va l.length vc)) M := by
        rw [hstep.2]
        have e : ((mixF (fun _ b _ => b) s1.D s1.C (left.map (·.1))).set kk l).length = s1.D.length := by rw [List.length_set, hlenD]
        simp only [e] at hD4
        exact hD4
      have hR5 := HR2.out.upd (Upd.setCell w' gd kk (.slice va l.length vc)) (fun q => by omega) (fun q => hgd.2.2 q.symm)
      refine ⟨⟨adel left (kk : Int), V'.set kk (.slice va l.length vc), hid hR5, hid hD5, hid ((HU.out.trans HU2.out (fun j hj q => by omega)).trans (Upd.setCell w' gd kk _) (fun j _ q => q ▸ hgd.1))⟩, ?_⟩
      rw [hR5.len, HLEN.out]
      exact adel_len HIN.out
end Go.Proofs.Ytdchopckbklncaa
