/- Joined texts, in this order: DiskCr. Each one's first remark says what it proves; no condition beyond those that its theorems name. -/
import Derived.Test.YtohknblokejldaaJLawDiskPlays07
section
/- Contract: disk.Crash. -/
namespace Go.Proofs.Ytohknblokejldaa
open Go.RowKit
open Go.Lib (hid)
set_option linter.unusedVariables false

theorem SlB.takeN {w : World} {b off len c : Nat} {l : List UInt8} (h : SlB w (.slice (some ⟨b, off, none⟩) len c) l) (n : Nat) (hn : n ≤ l.length) : SlB w (.slice (some ⟨b, off, none⟩) n c) (l.take n) := by
  obtain ⟨a, c', e, h1, h2, h3, h4, h5⟩ := h
  simp only [Value.slice.injEq] at e
  obtain ⟨rfl, rfl, rfl⟩ := e
  have hl : (l.take n).length = n := by rw [List.length_take]; omega
  refine ⟨some ⟨b, off, none⟩, c, by rw [hl], by omega, ?_, by omega, h4, nofun⟩
  have := h2.sub 0 n
  rw [List.drop_zero, Nat.add_zero] at this
  rw [show bv (l.take n) = (bv l).take n by unfold bv; rw [List.map_take]]
  exact this
theorem SlB.dropN {w : World} {b off len c : Nat} {l : List UInt8} (h : SlB w (.slice (some ⟨b, off, none⟩) len c) l) (n : Nat) (hn : n ≤ l.length) (x : Option Addr) (hx : c ≠ n → x = some ⟨b, off + n, none⟩) (hx2 : x ≠ none) : SlB w (.slice x (len - n) (c - n)) (l.drop n) := by
  obtain ⟨a, c', e, h1, h2, h3, h4, h5⟩ := h
  simp only [Value.slice.injEq] at e
  obtain ⟨rfl, rfl, rfl⟩ := e
  have hl : (l.drop n).length = l.length - n := by rw [List.length_drop]
  refine ⟨x, c - n, by rw [hl], by omega, ?_, by omega, by omega, fun q => absurd q hx2⟩
  by_cases hc : c = n
  · have : l.drop n = [] := List.drop_of_length_le (by omega)
    rw [this]
    exact Rd.nil _ _
  · rw [hx hc]
    have := h2.sub n (l.length - n)
    rw [List.take_of_length_le (by simp [bv])] at this
    rw [show bv (l.drop n) = (bv l).drop n by unfold bv; rw [List.map_drop]]
    exact this
theorem SlB.form {w : World} {v : Value} {l : List UInt8} (h : SlB w v l) (h0 : 0 < l.length) : ∃ b off c, v = .slice (some ⟨b, off, none⟩) l.length c ∧ l.length ≤ c ∧ c ≤ 9223372036854775807 := by
  obtain ⟨a, c, rfl, h1, h2, h3, h4, h5⟩ := h
  obtain ⟨b, off, x, rfl, -⟩ := h2.byte 0 h0
  exact ⟨b, off, c, rfl, h3, h4⟩
/-- how much of a torn sector is new -/
def cutN (cut : Int) (size : Nat) : Nat := (max (min cut (size : Int)) 0).toNat
def crashF (keep : List Int) (torn : Int) (n : Nat) (k : Int) (b d : List UInt8) : List UInt8 := if k ∈ keep then b else if k = torn then b.take n ++ d.drop n else d
def dkCrash (s : Dk) (keep : List Int) (torn cut : Int) : Dk := dkArm { s with D := mixF (crashF keep torn (cutN cut s.size)) s.D s.C [], C := [], down := false } (-1)

theorem SlI.updE {S : Nat → Prop} {w w' : World} {v : Value} {l : List Int} (h : SlI w v l) (hu : Upd S w w') (hn : ∀ k, v.ownBlock = some k → l = [] ∨ ¬ S k) : SlI w' v l := by
  by_cases hl : l = []
  · subst hl
    obtain ⟨a, c, rfl, h1, h2⟩ := h
    exact ⟨a, c, rfl, fun i hi => absurd hi (by simp), h2⟩
  · exact h.upd hu (fun k hk => (hn k hk).resolve_left hl)
theorem SlI.lt {w : World} {v : Value} {l : List Int} (h : SlI w v l) : ∀ j, v.ownBlock = some j → l = [] ∨ j < w.heap.size := by
  intro j hj
  by_cases hl : l = []
  · exact .inl hl
  · right
    obtain ⟨a, c, rfl, h1, h2⟩ := h
    have hpos : 0 < l.length := List.length_pos_iff.2 hl
    obtain ⟨b, off, he, hc⟩ := h1 0 (by simpa using hpos)
    subst he
    have hb : b = j := by simpa [Value.ownBlock] using hj
    subst hb
    have h0 : (l.map (Value.int .i64))[0]? = some (.int .i64 l[0]) := by simp [hpos]
    exact World.block_lt_of_cell? w _ (hc.trans h0)
theorem SlI.old {W : Nat → Prop} {w : World} {v : Value} {l : List Int} (h : SlI w v l) (hW : ∀ k, W k → w.heap.size ≤ k) : ∀ j, v.ownBlock = some j → l = [] ∨ ¬ W j :=
  fun j hj => (h.lt j hj).imp id (fun hlt q => by have := hW _ q; omega)
set_option maxRecDepth 100000 in
set_option maxHeartbeats 4000000 in
theorem disk_Crash (s : Dk) (hok : s.Ok) (keep : List Int) (torn cut : Int) (kv : Value) (g : Nat) (W R : Nat → Prop) (w : World) (h : DiskIs w g W R s) (hk : SlI w kv keep) (hkW : ∀ j, kv.ownBlock = some j → keep = [] ∨ ¬ W j) :
    Calls Try.prog 25 #[.pointer (some ⟨g, 0, none⟩), .agg #[kv, .int .i64 torn, .int .i64 cut]] w fun e w' => ∃ R', e = .returned (.tuple #[]) ∧ DiskIs w' g W R' (dkCrash s keep torn cut) ∧ (∀ j, R' j → R j ∨ w.heap.size ≤ j) ∧ Upd W w w' := by
  obtain ⟨n, hn⟩ : ∃ n, n = cutN cut s.size := ⟨_, rfl⟩
  have HN := hid hn
  obtain ⟨f, hf⟩ : ∃ f, f = crashF keep torn n := ⟨_, rfl⟩
  have HF := hid hf
  have HOK := hid hok
  have HK := hid hk
  have HKW := hid hkW
  have HKL := hid hk.lt
  obtain ⟨ka, kc, rfl, -⟩ := hk
  obtain ⟨b, dv, V, M, hd0⟩ := h
  obtain ⟨gd, cd, rfl⟩ := Joins.ownsRow_form hd0.own hok.pos
  have hbx := Blk.new w #[.slice ka keep.length kc, .int .i64 torn, .int .i64 cut] 49
  obtain ⟨w0, hw0⟩ : ∃ w0, w0 = w.alloc (.cells #[.slice ka keep.length kc, .int .i64 torn, .int .i64 cut] 49) := ⟨_, rfl⟩
  have HW0 := hid hw0
  have hb0 : Below w.heap.size w w0 := by rw [hw0]; exact Below.new _ _
  have hd := hd0.below hb0
  rw [← hw0] at hbx
  have hc2 : (w.alloc (.cells #[.slice ka keep.length kc, .int .i64 torn, .int .i64 cut] 49)).cell? ⟨g, 2, none⟩ = some (.map (some b)) := by rw [← hw0, hd.blk.cell]; rfl
  obtain ⟨vs, hvs⟩ : ∃ vs, vs = (M.map fun p => (p.1, p.2.1)) := ⟨_, rfl⟩
  have HVS := hid hvs
  have hmap := hd.map
  rw [← hvs, hw0] at hmap
  have HMAP := hid hmap
  have hsz0 : w0.heap.size = w.heap.size + 1 := by rw [hw0]; simp
  have HSZ0 := hid hsz0
  have HBX := hid hbx
  have HB0 := hid hb0
  have HD := hid hd
  have HWL := hid hd0.wlt
  have HRL := hid hd0.rlt
  have HM1 : Hid (mixF f s.D s.C (vs.map (·.1)) = s.D) := hid (mixF_all _ _ _ _ (fun p hp => by
    rw [← hd0.eqC] at hp
    obtain ⟨q, hq, rfl⟩ := List.mem_map.1 hp
    rw [hvs, List.map_map]
    exact List.mem_map.2 ⟨q, hq, rfl⟩))
  clear hn hf hok hkW hd0 hbx hw0 hb0 hd hvs hmap hsz0
  go_enter Try.func25, Try.ntmps25
  go_wp2_with (at_range; refine wpList_rangeE _ rfl _ rfl Try.underlying115 rfl HMAP.out ?_; intro w2 hr2 hb2 hs2)
  go_frame
  rw [← HW0.out] at hr2 hb2 hs2 ⊢
  have HR2 := hid hr2
  have HB2 := hid hb2
  have HS2 := hid hs2
  clear hr2 hb2 hs2 hc2 HMAP
  obtain ⟨r, hr⟩ : ∃ r, r = w0.heap.size := ⟨_, rfl⟩
  rw [← hr] at HR2 HB2 HS2 ⊢
  have HR := hid hr
  clear hr
  go_loopw [4, 5, 6] (fun v4 v5 v6 wr => ∃ (left : List (Int × Value)) (V' : List Value) (R' : Nat → Prop), Hid (RangeE wr r b vs left) ∧ Hid (DkIs wr g W R' { s with D := mixF f s.D s.C (left.map (·.1)) } b (.slice (some ⟨gd, 0, none⟩) s.D.length cd) V' M) ∧ Hid (Upd W w0 wr) ∧ Hid (∀ j, R' j → R j ∨ w2.heap.size ≤ j) ∧ Hid (w2.heap.size ≤ wr.heap.size)) (fun _ _ _ wr => rangeN wr r b)
  case atStart => exact ⟨vs, V, R, HR2, hid (by rw [HM1.out]; exact HD.out.below (by rw [← HR.out]; exact HB2.out)), hid (Upd.of_below (by rw [← HR.out]; exact HB2.out)), hid (fun j => .inl), hid (Nat.le_refl _)⟩
  case round =>
    clear HR2 HB2
    obtain ⟨left, V', R', HRr, HDr, HU, HRR, HSZ⟩ := hrel
    have hlen := HRr.out.len
    have HLEN := hid hlen
    have hlenD : (mixF f s.D s.C (left.map (·.1))).length = s.D.length := mixF_len _ _ _ _
    have hc2r : wr.cell? ⟨g, 2, none⟩ = some (.map (some b)) := by rw [HDr.out.blk.cell]; rfl
    clear hlen
    by_cases hl0 : left = []
    · subst hl0
      have HM := hid HDr.out.map
      clear hlenD
      go_wp2_with (first | (at_next; refine wpList_nextE _ rfl _ rfl rfl HRr.out (fun _ => ?_) (fun k v w' hin => absurd hin (by simp))) | (with_reducible refine wpList_clearE _ rfl (.tmp 65) rfl Try.underlying115 rfl HM.out ?_))
      intro w3 hm3 hu3 hs3
      have hfin := HDr.out.clearC hm3 hu3
      have hc5 : w3.cell? ⟨g, 5, none⟩ = some (.bool s.down) := by rw [hfin.blk.cell]; rfl
      have hf5 := hfin.blk.unfrozen 5
      have hu4 := Upd.setCell w3 g 5 (.bool false)
      have hd4 := hfin.reblk (s' := { s with D := mixF f s.D s.C [], C := [], down := false }) hu4 (by simpa using hfin.blk.set 5 (.bool false)) rfl rfl
      have HD4 : Hid (DiskIs (w3.setCell ⟨g, 5, none⟩ (.bool false)) g W R' { s with D := mixF f s.D s.C [], C := [], down := false }) := hid ⟨_, _, _, _, hd4⟩
      have HU4 : Hid (Upd W w (w3.setCell ⟨g, 5, none⟩ (.bool false))) := hid ((((Upd.of_below (S := W) HB0.out).trans HU.out (fun _ _ x => x)).trans (hu3.mono (fun k _ q => q ▸ HD.out.wb)) (fun _ _ x => x)).trans (hu4.mono (fun k _ q => q ▸ HD.out.wg)) (fun _ _ x => x))
      clear hfin hm3 hu3 hs3 hu4 hd4
      go_wp2_with (go_at_call 24; (with_reducible refine (disk_Arm _ (-1) g W R' _ HD4.out).mono ?_); rintro e w5 ⟨rfl, hi5, hu5⟩)
      go_end0
      refine ⟨R', rfl, ?_, fun j hj => ?_, HU4.out.trans hu5 (fun _ _ x => x)⟩
      · unfold dkCrash
        rw [← HN.out, ← HF.out]
        exact hi5
      · rcases HRR.out j hj with q | q
        · exact .inl q
        · have := HS2.out; have := HR.out; have := HSZ0.out; exact .inr (by omega)
    · have hrW : ∀ j, j = r → ¬ W j := fun j hj q => by have := HD.out.wlt j q; have := HR.out; omega
      have hrR : ∀ j, j = r → ¬ R' j := fun j hj q => by
        rcases HRR.out j q with q | q
        · have := HRL.out j q; have := HR.out; have := HSZ0.out; omega
        · have := HS2.out; omega
      have HRW := hid hrW
      have HRRR := hid hrR
      clear hrW hrR
      have hbxr : Blk wr w.heap.size #[.slice ka keep.length kc, .int .i64 torn, .int .i64 cut] := HBX.out.upd HU.out (fun q => by have := HWL.out _ q; omega)
      have HBXR := hid hbxr
      have HKR : Hid (SlI wr (.slice ka keep.length kc) keep) := hid ((HK.out.below HB0.out).updE HU.out HKW.out)
      clear hbxr
      go_wp2_with (at_next; refine wpList_nextE _ rfl _ rfl rfl HRr.out (fun h0 => absurd h0 hl0) (fun k v w' hin hlk hr' hu' hs' hen => ?_); (have hd' := HDr.out.upd hu' HRW.out HRRR.out); (obtain ⟨kk, l, d, u, va, vc, rfl, hkk, hcl, hdk, hsec, hVk, hck, hfk, rfl, hll, hdl, d', hd'k, husec⟩ := entry_facts HVS.out HOK.out hd' hlenD hlk); (have hc1' : w'.cell? ⟨g, 1, none⟩ = some (.slice (some ⟨gd, 0, none⟩) s.D.length cd) := by rw [hd'.blk.cell]; rfl); (have hc0' : w'.cell? ⟨g, 0, none⟩ = some (.int .i64 (s.size : Int)) := by rw [hd'.blk.cell]; rfl); (have hbx' := HBXR.out.upd hu' (fun q => by have := HR.out; have := HSZ0.out; omega)); (have hx0 : w'.cell? ⟨w.heap.size, 0, none⟩ = some (.slice ka keep.length kc) := by rw [hbx'.cell]; rfl); (have hx1 : w'.cell? ⟨w.heap.size, 1, none⟩ = some (.int .i64 torn) := by rw [hbx'.cell]; rfl); (have hx2 : w'.cell? ⟨w.heap.size, 2, none⟩ = some (.int .i64 cut) := by rw [hbx'.cell]; rfl); (have HBX' := hid hbx'); (have HK' := hid (HKR.out.updE hu' (fun j hj => (HKL.out j hj).imp id (fun hlt q => by have := HR.out; have := HSZ0.out; omega)))); (have e0 : (0 : Int) ≤ (kk : Int) := by omega); (have e1 : (kk : Int) < (s.D.length : Int) := by omega); (have HD2 := hid hd'); (have HSEC := hid hsec); (have HCL := hid hcl); (have HDK := hid hdk); (have HIN := hid hin); (have HR2 := hid hr'); (have HU2 := hid hu'); (have HL2 := hid hll); (have HDL := hid hdl); (have HUS := hid husec); (have HDK' := hid hd'k); clear hin hlk hr' hu' hs' hd' hcl hdk hsec hVk hll hdl hbx' husec hd'k)
      have hgd := HD.out.wd gd rfl
      have hgl := HD.out.wlt gd hgd.1
      have hstep := mixF_step f s.D s.C (left.map (·.1)) ((adel left (kk : Int)).map (·.1)) kk l d HDK.out HCL.out (List.mem_map.2 ⟨_, HIN.out, rfl⟩) (keys_adel (kk : Int))
      have hdd : d' = d := by
        have h1 := HDK'.out
        rw [hstep.1] at h1
        exact (Option.some.inj h1).symm
      subst hdd
      have FIN : Hid (∀ (wq : World) (R2 : Nat → Prop) (vn : Value), Below w'.heap.size w' wq → (∀ j, R' j → R2 j) → (∀ j, R2 j → (R' j ∨ w'.heap.size ≤ j) ∧ j < wq.heap.size) → Sec wq R2 vn (f (kk : Int) l d') →
          (∃ (left : List (Int × Value)) (V' : List Value) (R' : Nat → Prop), Hid (RangeE (wq.setCell ⟨gd, kk, none⟩ vn) r b vs left) ∧ Hid (DkIs (wq.setCell ⟨gd, kk, none⟩ vn) g W R' { s with D := mixF f s.D s.C (left.map (·.1)) } b (.slice (some ⟨gd, 0, none⟩) s.D.length cd) V' M) ∧ Hid (Upd W w0 (wq.setCell ⟨gd, kk, none⟩ vn)) ∧ Hid (∀ j, R' j → R j ∨ w2.heap.size ≤ j) ∧ Hid (w2.heap.size ≤ (wq.setCell ⟨gd, kk, none⟩ vn).heap.size)) ∧
            rangeN (wq.setCell ⟨gd, kk, none⟩ vn) r b < rangeN wr r b) := hid (by
        intro wq R2 vn hbq hR2 hR3 hsec
        have hws : wr.heap.size ≤ w'.heap.size := HU2.out.size
        have hD3 : DkIs w' g W R' { s with D := mixF f s.D s.C (left.map (·.1)) } b (.slice (some ⟨gd, 0, none⟩) (mixF f s.D s.C (left.map (·.1))).length cd) V' M := by rw [hlenD]; exact HD2.out
        have hD3' := (hD3.below hbq).weaken hR2 (fun j hj hr => by
          rcases (hR3 j hr).1 with q | q
          · exact HD2.out.wr j hj q
          · have := HD2.out.wlt j hj; omega) (fun j hj => (hR3 j hj).2)
        have hD4 := hD3'.setD kk hsec (by rw [hlenD]; exact hkk)
        have hD5 : DkIs (wq.setCell ⟨gd, kk, none⟩ vn) g W R2 { s with D := mixF f s.D s.C ((adel left (kk : Int)).map (·.1)) } b (.slice (some ⟨gd, 0, none⟩) s.D.length cd) (V'.set kk vn) M := by
          rw [hstep.2]
          have e : ((mixF f s.D s.C (left.map (·.1))).set kk (f (kk : Int) l d')).length = s.D.length := by rw [List.length_set, hlenD]
          simp only [e] at hD4
          exact hD4
        have hR5 := (HR2.out.upd (S := fun _ => False) (Upd.of_below hbq) (fun x => x) (fun x => x)).upd (Upd.setCell wq gd kk vn) (fun q => by have := HR.out; omega) (fun q => hgd.2.2 q.symm)
        refine ⟨⟨adel left (kk : Int), V'.set kk vn, R2, hid hR5, hid hD5, hid (((HU.out.trans HU2.out (fun j hj q => by have := HR.out; omega)).trans (Upd.of_below (S := fun _ => False) hbq) (fun _ _ x => x.elim)).trans (Upd.setCell wq gd kk _) (fun j _ q => q ▸ hgd.1)), hid (fun j hj => ?_), hid ?_⟩, ?_⟩
        · rcases (hR3 j hj).1 with q | q
          · exact HRR.out j q
          · have := HSZ.out; exact .inr (by omega)
        · have := HSZ.out; have := hbq.size; simp; omega
        · rw [hR5.len, HLEN.out]
          exact adel_len HIN.out)
      have FIN0 : Hid (f (kk : Int) l d' = d' → (∃ (left : List (Int × Value)) (V' : List Value) (R' : Nat → Prop), Hid (RangeE w' r b vs left) ∧ Hid (DkIs w' g W R' { s with D := mixF f s.D s.C (left.map (·.1)) } b (.slice (some ⟨gd, 0, none⟩) s.D.length cd) V' M) ∧ Hid (Upd W w0 w') ∧ Hid (∀ j, R' j → R j ∨ w2.heap.size ≤ j) ∧ Hid (w2.heap.size ≤ w'.heap.size)) ∧
            rangeN w' r b < rangeN wr r b) := hid (by
        intro he
        have e : mixF f s.D s.C ((adel left (kk : Int)).map (·.1)) = mixF f s.D s.C (left.map (·.1)) := by
          rw [hstep.2, he]
          apply List.ext_getElem?
          intro i
          rw [List.getElem?_set]
          by_cases hi : kk = i
          · subst hi; rw [if_pos rfl, if_pos (by rw [hlenD]; exact hkk), hstep.1]
          · rw [if_neg hi]
        refine ⟨⟨adel left (kk : Int), V', R', HR2, hid (by rw [e]; exact HD2.out), hid (HU.out.trans HU2.out (fun j hj q => by have := HR.out; omega)), HRR, hid ?_⟩, ?_⟩
        · have := HSZ.out; have := HU2.out.size; omega
        · rw [HR2.out.len, HLEN.out]
          exact adel_len HIN.out)
      have HFV : Hid (f (kk : Int) l d' = if (kk : Int) ∈ keep then l else if (kk : Int) = torn then l.take n ++ d'.drop n else d') := hid (by rw [HF.out]; rfl)
      clear hstep hgd hgl hlenD
      by_cases hkp : (kk : Int) ∈ keep
      · have HKP : Hid (decide ((kk : Int) ∈ keep) = true) := hid (by simpa using hkp)
        have hfv := HFV.out
        rw [if_pos hkp] at hfv
        have HV := hid (FIN.out w' R' (.slice va l.length vc) (Below.refl _ _) (fun _ => id) (fun j hj => ⟨.inl hj, HD2.out.rlt j hj⟩) (by rw [hfv]; exact HSEC.out))
        clear hkp hfv
        refine (sl_Contains keep _ (kk : Int) w' HK'.out true HKP).mono ?_
        rintro e wx ⟨rfl, rfl⟩
        go_wp2_with fail
        exact HV.out
      have HKP : Hid (decide ((kk : Int) ∈ keep) = false) := hid (by simpa using hkp)
      have hfv := HFV.out
      rw [if_neg hkp] at hfv
      clear hkp
      by_cases htn : (kk : Int) = torn
      case neg =>
        rw [if_neg htn] at hfv
        have HV := hid (FIN0.out hfv)
        have htb : ((kk : Int) == torn) = false := by simpa using htn
        clear hfv htn
        refine (sl_Contains keep _ (kk : Int) w' HK'.out false HKP).mono ?_
        rintro e wx ⟨rfl, rfl⟩
        go_wp2_with fail
        exact HV.out
      rw [if_pos htn] at hfv
      have HFV2 := hid hfv
      have htb : ((kk : Int) == torn) = true := by simpa using htn
      clear hfv htn
      refine (sl_Contains keep _ (kk : Int) w' HK'.out false HKP).mono ?_
      rintro e wx ⟨rfl, rfl⟩
      go_wp2_with fail
      have hx2w : ∀ x, Below w'.heap.size w' x → x.cell? ⟨w.heap.size, 2, none⟩ = some (.int .i64 cut) := fun x hb => by rw [(HBX'.out.below hb).cell]; rfl
      have hc0w : ∀ x, Below w'.heap.size w' x → x.cell? ⟨g, 0, none⟩ = some (.int .i64 (s.size : Int)) := fun x hb => by rw [(HD2.out.blk.below hb).cell]; rfl
      have hk0 := (Below.refl w'.heap.size w').drew
      refine wp_region_kept [] (fun x => Below w'.heap.size w' x) (by kernel_rfl) (by assumption) (fun hH => ?_)
      refine wpK.take (i := 0) (v := _) (by simp only [List.getElem?_toArray, List.getElem?_cons_succ, List.getElem?_cons_zero]; rfl) (by kernel_rfl) (by kernel_rfl) (by kernel_rfl) (by kernel_rfl) (by kernel_rfl) (by exact fun _ _ _ h => h) (by first | exact Or.inl ⟨by rfl, by intro w hSw; go_simp; try with_reducible rfl⟩ | exact Or.inr ⟨by rfl, rfl⟩) hH ?_
      try simp only [Act.put, List.setIfInBounds_toArray, List.set_cons_zero, List.set_cons_succ]
      refine wpK.take (i := 1) (v := _) (by simp only [List.getElem?_toArray, List.getElem?_cons_succ, List.getElem?_cons_zero]; rfl) (by kernel_rfl) (by kernel_rfl) (by kernel_rfl) (by kernel_rfl) (by kernel_rfl) (by exact fun _ _ _ h => h) (by first | exact Or.inl ⟨by rfl, by intro w hSw; go_simp; try with_reducible rfl⟩ | exact Or.inr ⟨by rfl, rfl⟩) hH ?_
      try simp only [Act.put, List.setIfInBounds_toArray, List.set_cons_zero, List.set_cons_succ]
      refine wpK.take (i := 2) (v := _) (by simp only [List.getElem?_toArray, List.getElem?_cons_succ, List.getElem?_cons_zero]; rfl) (by kernel_rfl) (by kernel_rfl) (by kernel_rfl) (by kernel_rfl) (by kernel_rfl) (by exact fun _ _ _ h => h) (by first | exact Or.inl ⟨by rfl, by intro w hSw; go_simp; try with_reducible rfl⟩ | exact Or.inr ⟨by rfl, rfl⟩) hH ?_
      try simp only [Act.put, List.setIfInBounds_toArray, List.set_cons_zero, List.set_cons_succ]
      refine wpK.take (i := 3) (v := _) (by simp only [List.getElem?_toArray, List.getElem?_cons_succ, List.getElem?_cons_zero]; rfl) (by kernel_rfl) (by kernel_rfl) (by kernel_rfl) (by kernel_rfl) (by kernel_rfl) (by exact fun _ _ _ h => h) (by first | exact Or.inl ⟨by rfl, by intro w hSw; go_simp; try with_reducible rfl⟩ | exact Or.inr ⟨by rfl, rfl⟩) hH ?_
      try simp only [Act.put, List.setIfInBounds_toArray, List.set_cons_zero, List.set_cons_succ]
      refine wpK.take (i := 4) (v := _) (by simp only [List.getElem?_toArray, List.getElem?_cons_succ, List.getElem?_cons_zero]; rfl) (by kernel_rfl) (by kernel_rfl) (by kernel_rfl) (by kernel_rfl) (by kernel_rfl) (by exact fun _ _ _ h => h) (by first | exact Or.inl ⟨by rfl, by intro w hSw; go_simp; try with_reducible rfl⟩ | exact Or.inr ⟨by rfl, rfl⟩) hH ?_
      try simp only [Act.put, List.setIfInBounds_toArray, List.set_cons_zero, List.set_cons_succ]
      refine wpK.take (i := 5) (v := _) (by simp only [List.getElem?_toArray, List.getElem?_cons_succ, List.getElem?_cons_zero]; rfl) (by kernel_rfl) (by kernel_rfl) (by kernel_rfl) (by kernel_rfl) (by kernel_rfl) (by exact fun _ _ _ h => h) (by first | exact Or.inl ⟨by rfl, by intro w hSw; go_simp; try with_reducible rfl⟩ | exact Or.inr ⟨by rfl, rfl⟩) hH ?_
      try simp only [Act.put, List.setIfInBounds_toArray, List.set_cons_zero, List.set_cons_succ]
      refine wpK.take (i := 6) (v := _) (by simp only [List.getElem?_toArray, List.getElem?_cons_succ, List.getElem?_cons_zero]; rfl) (by kernel_rfl) (by kernel_rfl) (by kernel_rfl) (by kernel_rfl) (by kernel_rfl) (by exact fun _ _ _ h => h) (by first | exact Or.inl ⟨by rfl, by intro w hSw; go_simp; try with_reducible rfl⟩ | exact Or.inr ⟨by rfl, rfl⟩) hH ?_
      try simp only [Act.put, List.setIfInBounds_toArray, List.set_cons_zero, List.set_cons_succ]
      refine wpK.take (i := 7) (v := _) (by simp only [List.getElem?_toArray, List.getElem?_cons_succ, List.getElem?_cons_zero]; rfl) (by kernel_rfl) (by kernel_rfl) (by kernel_rfl) (by kernel_rfl) (by kernel_rfl) (by exact fun _ _ _ h => h) (by first | exact Or.inl ⟨by rfl, by intro w hSw; go_simp; try with_reducible rfl⟩ | exact Or.inr ⟨by rfl, rfl⟩) hH ?_
      try simp only [Act.put, List.setIfInBounds_toArray, List.set_cons_zero, List.set_cons_succ]
      refine wpK.take (i := 8) (v := _) (by simp only [List.getElem?_toArray, List.getElem?_cons_succ, List.getElem?_cons_zero]; rfl) (by kernel_rfl) (by kernel_rfl) (by kernel_rfl) (by kernel_rfl) (by kernel_rfl) (by exact fun _ _ _ h => h) (by first | exact Or.inl ⟨by rfl, by intro w hSw; go_simp; try with_reducible rfl⟩ | exact Or.inr ⟨by rfl, rfl⟩) hH ?_
      try simp only [Act.put, List.setIfInBounds_toArray, List.set_cons_zero, List.set_cons_succ]
      refine wpK.done (by kernel_rfl) ?_ _
      clear hk0 hH
      have hnv : (if (if (s.size : Int) < cut then (s.size : Int) else cut) < 0 then 0 else if (s.size : Int) < cut then (s.size : Int) else cut) = (n : Int) := by
        (rw [HN.out]; unfold cutN; split <;> split <;> omega)
      simp only [hnv]
      clear hnv
      generalize (if (s.size : Int) < cut then (s.size : Int) else cut) = m40
      have hnle : n ≤ s.size := by rw [HN.out]; unfold cutN; omega
      have hs16 := HOK.out.sz0
      have hs40 := HOK.out.sz
      obtain ⟨vb, vo, vc', hv, hvc1, hvc2⟩ := HSEC.out.1.form (by rw [HL2.out]; omega)
      simp only [Value.slice.injEq, true_and] at hv
      obtain ⟨rfl, rfl⟩ := hv
      obtain ⟨ub, uo, uc, rfl, huc1, huc2⟩ := HUS.out.1.form (by rw [HDL.out]; omega)
      have i0 : (0 : Int) ≤ (n : Int) := by omega
      have i1 : (n : Int) ≤ (vc : Int) := by have := HL2.out; omega
      have i2 : (n : Int) ≤ (d'.length : Int) := by have := HDL.out; omega
      have i3 : (d'.length : Int) ≤ (uc : Int) := by omega
      have hc1w : ∀ x, Below w'.heap.size w' x → x.cell? ⟨g, 1, none⟩ = some (.slice (some ⟨gd, 0, none⟩) s.D.length cd) := fun x hb => by rw [(HD2.out.blk.below hb).cell]; rfl
      have hckw : ∀ x, Below w'.heap.size w' x → x.cell? ⟨gd, kk, none⟩ = some (.slice (some ⟨ub, uo, none⟩) d'.length uc) := fun x hb => by rw [← hck]; exact World.cell?_of_block (hb.block _ (World.block_lt_of_cell? w' _ hck))
      have hk0 := (Below.refl w'.heap.size w').drew.drew
      go_wp2_with fail
      refine wp_region_kept [20] (fun x => Below w'.heap.size w' x) (by kernel_rfl) (by assumption) (fun hH => ?_)
      refine wpK.take (i := 0) (v := _) (by simp only [List.getElem?_toArray, List.getElem?_cons_succ, List.getElem?_cons_zero]; rfl) (by kernel_rfl) (by kernel_rfl) (by kernel_rfl) (by kernel_rfl) (by kernel_rfl) (by exact fun _ _ _ h => h) (by first | exact Or.inl ⟨by rfl, by intro w hSw; go_simp; try with_reducible rfl⟩ | exact Or.inr ⟨by rfl, rfl⟩) hH ?_
      try simp only [Act.put, List.setIfInBounds_toArray, List.set_cons_zero, List.set_cons_succ]
      refine wpK.take (i := 1) (v := _) (by simp only [List.getElem?_toArray, List.getElem?_cons_succ, List.getElem?_cons_zero]; rfl) (by kernel_rfl) (by kernel_rfl) (by kernel_rfl) (by kernel_rfl) (by kernel_rfl) (by exact fun _ _ _ h => h) (by first | exact Or.inl ⟨by rfl, by intro w hSw; go_simp; try with_reducible rfl⟩ | exact Or.inr ⟨by rfl, rfl⟩) hH ?_
      try simp only [Act.put, List.setIfInBounds_toArray, List.set_cons_zero, List.set_cons_succ]
      refine wpK.take (i := 2) (v := _) (by simp only [List.getElem?_toArray, List.getElem?_cons_succ, List.getElem?_cons_zero]; rfl) (by kernel_rfl) (by kernel_rfl) (by kernel_rfl) (by kernel_rfl) (by kernel_rfl) (by exact fun _ _ _ h => h) (by first | exact Or.inl ⟨by rfl, by intro w hSw; go_simp; try with_reducible rfl⟩ | exact Or.inr ⟨by rfl, rfl⟩) hH ?_
      try simp only [Act.put, List.setIfInBounds_toArray, List.set_cons_zero, List.set_cons_succ]
      refine wpK.take (i := 3) (v := _) (by simp only [List.getElem?_toArray, List.getElem?_cons_succ, List.getElem?_cons_zero]; rfl) (by kernel_rfl) (by kernel_rfl) (by kernel_rfl) (by kernel_rfl) (by kernel_rfl) (by exact fun _ _ _ h => h) (by first | exact Or.inl ⟨by rfl, by intro w hSw; go_simp; try with_reducible rfl⟩ | exact Or.inr ⟨by rfl, rfl⟩) hH ?_
      try simp only [Act.put, List.setIfInBounds_toArray, List.set_cons_zero, List.set_cons_succ]
      refine wpK.take (i := 4) (v := _) (by simp only [List.getElem?_toArray, List.getElem?_cons_succ, List.getElem?_cons_zero]; rfl) (by kernel_rfl) (by kernel_rfl) (by kernel_rfl) (by kernel_rfl) (by kernel_rfl) (by exact fun _ _ _ h => h) (by first | exact Or.inl ⟨by rfl, by intro w hSw; go_simp; try with_reducible rfl⟩ | exact Or.inr ⟨by rfl, rfl⟩) hH ?_
      try simp only [Act.put, List.setIfInBounds_toArray, List.set_cons_zero, List.set_cons_succ]
      refine wpK.take (i := 5) (v := _) (by simp only [List.getElem?_toArray, List.getElem?_cons_succ, List.getElem?_cons_zero]; rfl) (by kernel_rfl) (by kernel_rfl) (by kernel_rfl) (by kernel_rfl) (by kernel_rfl) (by exact fun _ _ _ h => h) (by first | exact Or.inl ⟨by rfl, by intro w hSw; go_simp; try with_reducible rfl⟩ | exact Or.inr ⟨by rfl, rfl⟩) hH ?_
      try simp only [Act.put, List.setIfInBounds_toArray, List.set_cons_zero, List.set_cons_succ]
      refine wpK.take (i := 6) (v := _) (by simp only [List.getElem?_toArray, List.getElem?_cons_succ, List.getElem?_cons_zero]; rfl) (by kernel_rfl) (by kernel_rfl) (by kernel_rfl) (by kernel_rfl) (by kernel_rfl) (by exact fun _ _ _ h => h) (by first | exact Or.inl ⟨by rfl, by intro w hSw; go_simp; try with_reducible rfl⟩ | exact Or.inr ⟨by rfl, rfl⟩) hH ?_
      try simp only [Act.put, List.setIfInBounds_toArray, List.set_cons_zero, List.set_cons_succ]
      refine wpK.take (i := 7) (v := _) (by simp only [List.getElem?_toArray, List.getElem?_cons_succ, List.getElem?_cons_zero]; rfl) (by kernel_rfl) (by kernel_rfl) (by kernel_rfl) (by kernel_rfl) (by kernel_rfl) (by exact fun _ _ _ h => h) (by first | exact Or.inl ⟨by rfl, by intro w hSw; go_simp; try with_reducible rfl⟩ | exact Or.inr ⟨by rfl, rfl⟩) hH ?_
      try simp only [Act.put, List.setIfInBounds_toArray, List.set_cons_zero, List.set_cons_succ]
      refine wpK.take (i := 8) (v := _) (by simp only [List.getElem?_toArray, List.getElem?_cons_succ, List.getElem?_cons_zero]; rfl) (by kernel_rfl) (by kernel_rfl) (by kernel_rfl) (by kernel_rfl) (by kernel_rfl) (by exact fun _ _ _ h => h) (by first | exact Or.inl ⟨by rfl, by intro w hSw; go_simp; try with_reducible rfl⟩ | exact Or.inr ⟨by rfl, rfl⟩) hH ?_
      try simp only [Act.put, List.setIfInBounds_toArray, List.set_cons_zero, List.set_cons_succ]
      refine wpK.take (i := 9) (v := _) (by simp only [List.getElem?_toArray, List.getElem?_cons_succ, List.getElem?_cons_zero]; rfl) (by kernel_rfl) (by kernel_rfl) (by kernel_rfl) (by kernel_rfl) (by kernel_rfl) (by exact fun _ _ _ h => h) (by first | exact Or.inl ⟨by rfl, by intro w hSw; go_simp; try with_reducible rfl⟩ | exact Or.inr ⟨by rfl, rfl⟩) hH ?_
      try simp only [Act.put, List.setIfInBounds_toArray, List.set_cons_zero, List.set_cons_succ]
      refine wpK.take (i := 10) (v := _) (by simp only [List.getElem?_toArray, List.getElem?_cons_succ, List.getElem?_cons_zero]; rfl) (by kernel_rfl) (by kernel_rfl) (by kernel_rfl) (by kernel_rfl) (by kernel_rfl) (by exact fun _ _ _ h => h) (by first | exact Or.inl ⟨by rfl, by intro w hSw; go_simp; try with_reducible rfl⟩ | exact Or.inr ⟨by rfl, rfl⟩) hH ?_
      try simp only [Act.put, List.setIfInBounds_toArray, List.set_cons_zero, List.set_cons_succ]
      refine wpK.take (i := 11) (v := _) (by simp only [List.getElem?_toArray, List.getElem?_cons_succ, List.getElem?_cons_zero]; rfl) (by kernel_rfl) (by kernel_rfl) (by kernel_rfl) (by kernel_rfl) (by kernel_rfl) (by exact fun _ _ _ h => h) (by first | exact Or.inl ⟨by rfl, by intro w hSw; go_simp; try with_reducible rfl⟩ | exact Or.inr ⟨by rfl, rfl⟩) hH ?_
      try simp only [Act.put, List.setIfInBounds_toArray, List.set_cons_zero, List.set_cons_succ]
      refine wpK.take (i := 12) (v := _) (by simp only [List.getElem?_toArray, List.getElem?_cons_succ, List.getElem?_cons_zero]; rfl) (by kernel_rfl) (by kernel_rfl) (by kernel_rfl) (by kernel_rfl) (by kernel_rfl) (by exact fun _ _ _ h => h) (by first | exact Or.inl ⟨by rfl, by intro w hSw; go_simp; try with_reducible rfl⟩ | exact Or.inr ⟨by rfl, rfl⟩) hH ?_
      try simp only [Act.put, List.setIfInBounds_toArray, List.set_cons_zero, List.set_cons_succ]
      refine wpK.take (i := 13) (v := _) (by simp only [List.getElem?_toArray, List.getElem?_cons_succ, List.getElem?_cons_zero]; rfl) (by kernel_rfl) (by kernel_rfl) (by kernel_rfl) (by kernel_rfl) (by kernel_rfl) (by exact fun _ _ _ h => h) (by first | exact Or.inl ⟨by rfl, by intro w hSw; go_simp; try with_reducible rfl⟩ | exact Or.inr ⟨by rfl, rfl⟩) hH ?_
      try simp only [Act.put, List.setIfInBounds_toArray, List.set_cons_zero, List.set_cons_succ]
      refine wpK.take (i := 14) (v := _) (by simp only [List.getElem?_toArray, List.getElem?_cons_succ, List.getElem?_cons_zero]; rfl) (by kernel_rfl) (by kernel_rfl) (by kernel_rfl) (by kernel_rfl) (by kernel_rfl) (by exact fun _ _ _ h => h) (by first | exact Or.inl ⟨by rfl, by intro w hSw; go_simp; try with_reducible rfl⟩ | exact Or.inr ⟨by rfl, rfl⟩) hH ?_
      try simp only [Act.put, List.setIfInBounds_toArray, List.set_cons_zero, List.set_cons_succ]
      refine wpK.take (i := 15) (v := _) (by simp only [List.getElem?_toArray, List.getElem?_cons_succ, List.getElem?_cons_zero]; rfl) (by kernel_rfl) (by kernel_rfl) (by kernel_rfl) (by kernel_rfl) (by kernel_rfl) (by exact fun _ _ _ h => h) (by first | exact Or.inl ⟨by rfl, by intro w hSw; go_simp; try with_reducible rfl⟩ | exact Or.inr ⟨by rfl, rfl⟩) hH ?_
      try simp only [Act.put, List.setIfInBounds_toArray, List.set_cons_zero, List.set_cons_succ]
      refine wpK.take (i := 16) (v := _) (by simp only [List.getElem?_toArray, List.getElem?_cons_succ, List.getElem?_cons_zero]; rfl) (by kernel_rfl) (by kernel_rfl) (by kernel_rfl) (by kernel_rfl) (by kernel_rfl) (by exact fun _ _ _ h => h) (by first | exact Or.inl ⟨by rfl, by intro w hSw; go_simp; try with_reducible rfl⟩ | exact Or.inr ⟨by rfl, rfl⟩) hH ?_
      try simp only [Act.put, List.setIfInBounds_toArray, List.set_cons_zero, List.set_cons_succ]
      refine wpK.step (i := 17) (by kernel_rfl) (by simp only [List.getElem?_toArray, List.getElem?_cons_succ, List.getElem?_cons_zero]; rfl) (fun K hK => ?_)
      go_simp
      (obtain ⟨xv, hxv⟩ : ∃ xv : Option Addr, xv = (if uc = n then some ⟨ub, uo, none⟩ else some ⟨ub, uo + n, none⟩) := ⟨_, rfl⟩); rw [← hxv]; (obtain ⟨wz, hwz⟩ : ∃ wz, wz = (w'.alloc (.cells #[.slice (some ⟨vb, vo, none⟩) n vc, .slice xv (d'.length - n) (uc - n)] 27)).drew.drew := ⟨_, rfl⟩); rw [← hwz]; (have hk17 : Below w'.heap.size w' wz := (by rw [hwz]; exact (Below.new _ _).drew.drew)); (have hblk17 : Blk wz w'.heap.size #[.slice (some ⟨vb, vo, none⟩) n vc, .slice xv (d'.length - n) (uc - n)] := (by rw [hwz]; exact (Blk.new _ _ _))); (have HT1 := hid ((HSEC.out.1.below hk17).takeN n (by have := HL2.out; omega))); (have HT2 := hid ((HUS.out.1.below hk17).dropN n (by have := HDL.out; omega) xv (fun q => by rw [hxv, if_neg q]) (by rw [hxv]; split <;> nofun))); (have HBL := hid hblk17); clear hblk17 hxv hwz
      refine hK.out _ _ (by assumption) (fun hH => ?_)
      clear hK K
      try simp only [Act.put, List.setIfInBounds_toArray, List.set_cons_zero, List.set_cons_succ]
      refine wpK.step (i := 18) (by kernel_rfl) (by simp only [List.getElem?_toArray, List.getElem?_cons_succ, List.getElem?_cons_zero]; rfl) (fun K hK => ?_)
      go_simp
      (refine (sl_Concat2 _ _ _ _ w'.heap.size wz HBL.out HT1.out HT2.out (by have := HL2.out; have := HDL.out; simp; omega) (by have := HL2.out; have := HDL.out; simp; omega)).mono ?_); rintro e w1 ⟨v1, rfl, hown1, hb1⟩; (obtain ⟨nb, nc, rfl⟩ := Joins.ownsRow_form hown1 (by have := HL2.out; have := HDL.out; simp; omega)); (have HOWN1 := hid hown1); (have HB1 := hid hb1); (have hk1 := Below.next hk17 hb1); (have hck1 := hckw w1 hk1); (have hfk1 : w1.frozen? ⟨gd, kk, none⟩ = false := (by rw [← hfk]; exact World.frozen?_of_block (hk1.block _ (World.block_lt_of_cell? w' _ hck)))); go_simp
      refine hK.out _ _ (by assumption) (fun hH => ?_)
      clear hK K
      try simp only [Act.put, List.setIfInBounds_toArray, List.set_cons_zero, List.set_cons_succ]
      refine wpK.take (i := 19) (v := _) (by simp only [List.getElem?_toArray, List.getElem?_cons_succ, List.getElem?_cons_zero]; rfl) (by kernel_rfl) (by kernel_rfl) (by kernel_rfl) (by kernel_rfl) (by kernel_rfl) (by exact fun _ _ _ h => h) (by first | exact Or.inl ⟨by rfl, by intro w hSw; go_simp; try with_reducible rfl⟩ | exact Or.inr ⟨by rfl, rfl⟩) hH ?_
      try simp only [Act.put, List.setIfInBounds_toArray, List.set_cons_zero, List.set_cons_succ]
      refine wpK.late (i := 20) (by kernel_rfl) (by simp only [List.getElem?_toArray, List.getElem?_cons_succ, List.getElem?_cons_zero]; rfl) (by kernel_rfl) (fun K hK => ?_)
      go_simp
      skip
      refine hK.out _ _ ?_
      clear hK K
      try simp only [Act.put, List.setIfInBounds_toArray, List.set_cons_zero, List.set_cons_succ]
      refine wpK.done (by kernel_rfl) ?_ _
      have hV := FIN.out w1 (fun k => R' k ∨ (wz.heap.size ≤ k ∧ k < w1.heap.size)) (.slice (some ⟨nb, 0, none⟩) (l.take n ++ d'.drop n).length nc) hk1 (fun _ => .inl) (fun j hj => by
        have := hk1.size; have := hk17.size
        rcases hj with q | q
        · have := HD2.out.rlt j q; exact ⟨.inl q, by omega⟩
        · exact ⟨.inr (by omega), q.2⟩) (by
        rw [HFV2.out]
        exact ⟨ownsRow.slb HOWN1.out (by have := HL2.out; have := HDL.out; simp; omega), fun k hk => .inr ⟨(HOWN1.out.lt k hk).1, (HOWN1.out.lt k hk).2⟩⟩)
      simp only [List.length_append, List.length_take, List.length_drop] at hV
      go_wp2_with fail
      exact hV
end Go.Proofs.Ytohknblokejldaa
end
