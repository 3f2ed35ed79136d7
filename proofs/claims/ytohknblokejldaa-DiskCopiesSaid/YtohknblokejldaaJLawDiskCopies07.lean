/- Joined texts, in this order: DiskCr, DiskLaw. Each one's first remark says what it proves; no condition beyond those that its theorems name. -/
import Derived.Test.YtohknblokejldaaJLawDiskCopies05
import Derived.Test.YtohknblokejldaaJLawDiskCopies06
import Derived.Test.YtohknblokejldaaJLawDiskCopies04
section
/- Contract: disk.Crash. -/
namespace Go.Proofs.Ytohknblokejldaa
open Go.RowKit
open Go.Lib (hid)
set_option linter.unusedVariables false

theorem SlB.takeN {w : World} {b off len c : Nat} {l : List UInt8} (h : SlB w (.slice (some ⟨b, off, none⟩) len c) l) (n : Nat) (hn : n ≤ l.length) : SlB w (.slice (some ⟨b, off, none⟩) n c) (l.take n) := by
  obtain ⟨a, c', e, h1, h2, h3, h4, h5⟩ := h
  simp only [Value.slice.injEq] at e
  obtain ⟨rfl, rfl, rfl⟩ := e
  have hl : (l.take n).length = n := by rw [List.length_take]; omega
  refine ⟨some ⟨b, off, none⟩, c, by rw [hl], by omega, ?_, by omega, h4, nofun⟩
  have := h2.sub 0 n
  rw [List.drop_zero, Nat.add_zero] at this
  rw [show bv (l.take n) = (bv l).take n by unfold bv; rw [List.map_take]]
  exact this
theorem SlB.dropN {w : World} {b off len c : Nat} {l : List UInt8} (h : SlB w (.slice (some ⟨b, off, none⟩) len c) l) (n : Nat) (hn : n ≤ l.length) (x : Option Addr) (hx : c ≠ n → x = some ⟨b, off + n, none⟩) (hx2 : x ≠ none) : SlB w (.slice x (len - n) (c - n)) (l.drop n) := by
  obtain ⟨a, c', e, h1, h2, h3, h4, h5⟩ := h
  simp only [Value.slice.injEq] at e
  obtain ⟨rfl, rfl, rfl⟩ := e
  have hl : (l.drop n).length = l.length - n := by rw [List.length_drop]
  refine ⟨x, c - n, by rw [hl], by omega, ?_, by omega, by omega, fun q => absurd q hx2⟩
  by_cases hc : c = n
  · have : l.drop n = [] := List.drop_of_length_le (by omega)
    rw [this]
    exact Rd.nil _ _
  · rw [hx hc]
    have := h2.sub n (l.length - n)
    rw [List.take_of_length_le (by simp [bv])] at this
    rw [show bv (l.drop n) = (bv l).drop n by unfold bv; rw [List.map_drop]]
    exact this
theorem SlB.form {w : World} {v : Value} {l : List UInt8} (h : SlB w v l) (h0 : 0 < l.length) : ∃ b off c, v = .slice (some ⟨b, off, none⟩) l.length c ∧ l.length ≤ c ∧ c ≤ 9223372036854775807 := by
  obtain ⟨a, c, rfl, h1, h2, h3, h4, h5⟩ := h
  obtain ⟨b, off, x, rfl, -⟩ := h2.byte 0 h0
  exact ⟨b, off, c, rfl, h3, h4⟩
/-- how much of a torn sector is new -/
def cutN (cut : Int) (size : Nat) : Nat := (max (min cut (size : Int)) 0).toNat
def crashF (keep : List Int) (torn : Int) (n : Nat) (k : Int) (b d : List UInt8) : List UInt8 := if k ∈ keep then b else if k = torn then b.take n ++ d.drop n else d
def dkCrash (s : Dk) (keep : List Int) (torn cut : Int) : Dk := dkArm { s with D := mixF (crashF keep torn (cutN cut s.size)) s.D s.C [], C := [], down := false } (-1)

theorem SlI.updE {S : Nat → Prop} {w w' : World} {v : Value} {l : List Int} (h : SlI w v l) (hu : Upd S w w') (hn : ∀ k, v.ownBlock = some k → l = [] ∨ ¬ S k) : SlI w' v l := by
  by_cases hl : l = []
  · subst hl
    obtain ⟨a, c, rfl, h1, h2⟩ := h
    exact ⟨a, c, rfl, fun i hi => absurd hi (by simp), h2⟩
  · exact h.upd hu (fun k hk => (hn k hk).resolve_left hl)
theorem SlI.lt {w : World} {v : Value} {l : List Int} (h : SlI w v l) : ∀ j, v.ownBlock = some j → l = [] ∨ j < w.heap.size := by
  intro j hj
  by_cases hl : l = []
  · exact .inl hl
  · right
    obtain ⟨a, c, rfl, h1, h2⟩ := h
    have hpos : 0 < l.length := List.length_pos_iff.2 hl
    obtain ⟨b, off, he, hc⟩ := h1 0 (by simpa using hpos)
    subst he
    have hb : b = j := by simpa [Value.ownBlock] using hj
    subst hb
    have h0 : (l.map (Value.int .i64))[0]? = some (.int .i64 l[0]) := by simp [hpos]
    exact World.block_lt_of_cell? w _ (hc.trans h0)
theorem SlI.old {W : Nat → Prop} {w : World} {v : Value} {l : List Int} (h : SlI w v l) (hW : ∀ k, W k → w.heap.size ≤ k) : ∀ j, v.ownBlock = some j → l = [] ∨ ¬ W j :=
  fun j hj => (h.lt j hj).imp id (fun hlt q => by have := hW _ q; omega)
set_option maxRecDepth 100000 in
set_option maxHeartbeats 4000000 in
theorem disk_Crash (s : Dk) (hok : s.Ok) (keep : List Int) (torn cut : Int) (kv : Value) (g : Nat) (W R : Nat → Prop) (w : World) (h : DiskIs w g W R s) (hk : SlI w kv keep) (hkW : ∀ j, kv.ownBlock = some j → keep = [] ∨ ¬ W j) :
    Calls Try.prog 25 #[.pointer (some ⟨g, 0, none⟩), .agg #[kv, .int .i64 torn, .int .i64 cut]] w fun e w' => ∃ R', e = .returned (.tuple #[]) ∧ DiskIs w' g W R' (dkCrash s keep torn cut) ∧ (∀ j, R' j → R j ∨ w.heap.size ≤ j) ∧ Upd W w w' := by
  obtain ⟨n, hn⟩ : ∃ n, n = cutN cut s.size := ⟨_, rfl⟩
  have HN := hid hn
  obtain ⟨f, hf⟩ : ∃ f, f = crashF keep torn n := ⟨_, rfl⟩
  have HF := hid hf
  have HOK := hid hok
  have HK := hid hk
  have HKW := hid hkW
  have HKL := hid hk.lt
  obtain ⟨ka, kc, rfl, -⟩ := hk
  obtain ⟨b, dv, V, M, hd0⟩ := h
  obtain ⟨gd, cd, rfl⟩ := Joins.ownsRow_form hd0.own hok.pos
  have hbx := Blk.new w #[.slice ka keep.length kc, .int .i64 torn, .int .i64 cut] 49
  obtain ⟨w0, hw0⟩ : ∃ w0, w0 = w.alloc (.cells #[.slice ka keep.length kc, .int .i64 torn, .int .i64 cut] 49) := ⟨_, rfl⟩
  have HW0 := hid hw0
  have hb0 : Below w.heap.size w w0 := by rw [hw0]; exact Below.new _ _
  have hd := hd0.below hb0
  rw [← hw0] at hbx
  have hc2 : (w.alloc (.cells #[.slice ka keep.length kc, .int .i64 torn, .int .i64 cut] 49)).cell? ⟨g, 2, none⟩ = some (.map (some b)) := by rw [← hw0, hd.blk.cell]; rfl
  obtain ⟨vs, hvs⟩ : ∃ vs, vs = (M.map fun p => (p.1, p.2.1)) := ⟨_, rfl⟩
  have HVS := hid hvs
  have hmap := hd.map
  rw [← hvs, hw0] at hmap
  have HMAP := hid hmap
  have hsz0 : w0.heap.size = w.heap.size + 1 := by rw [hw0]; simp
  have HSZ0 := hid hsz0
  have HBX := hid hbx
  have HB0 := hid hb0
  have HD := hid hd
  have HWL := hid hd0.wlt
  have HRL := hid hd0.rlt
  have HM1 : Hid (mixF f s.D s.C (vs.map (·.1)) = s.D) := hid (mixF_all _ _ _ _ (fun p hp => by
    rw [← hd0.eqC] at hp
    obtain ⟨q, hq, rfl⟩ := List.mem_map.1 hp
    rw [hvs, List.map_map]
    exact List.mem_map.2 ⟨q, hq, rfl⟩))
  clear hn hf hok hkW hd0 hbx hw0 hb0 hd hvs hmap hsz0
  go_enter Try.func25, Try.ntmps25
  go_wp2_with (at_range; refine wpList_rangeE _ rfl _ rfl Try.underlying115 rfl HMAP.out ?_; intro w2 hr2 hb2 hs2)
  go_frame
  rw [← HW0.out] at hr2 hb2 hs2 ⊢
  have HR2 := hid hr2
  have HB2 := hid hb2
  have HS2 := hid hs2
  clear hr2 hb2 hs2 hc2 HMAP
  obtain ⟨r, hr⟩ : ∃ r, r = w0.heap.size := ⟨_, rfl⟩
  rw [← hr] at HR2 HB2 HS2 ⊢
  have HR := hid hr
  clear hr
  go_loopw [4, 5, 6] (fun v4 v5 v6 wr => ∃ (left : List (Int × Value)) (V' : List Value) (R' : Nat → Prop), Hid (RangeE wr r b vs left) ∧ Hid (DkIs wr g W R' { s with D := mixF f s.D s.C (left.map (·.1)) } b (.slice (some ⟨gd, 0, none⟩) s.D.length cd) V' M) ∧ Hid (Upd W w0 wr) ∧ Hid (∀ j, R' j → R j ∨ w2.heap.size ≤ j) ∧ Hid (w2.heap.size ≤ wr.heap.size)) (fun _ _ _ wr => rangeN wr r b)
  case atStart => exact ⟨vs, V, R, HR2, hid (by rw [HM1.out]; exact HD.out.below (by rw [← HR.out]; exact HB2.out)), hid (Upd.of_below (by rw [← HR.out]; exact HB2.out)), hid (fun j => .inl), hid (Nat.le_refl _)⟩
  case round =>
    clear HR2 HB2
    obtain ⟨left, V', R', HRr, HDr, HU, HRR, HSZ⟩ := hrel
    have hlen := HRr.out.len
    have HLEN := hid hlen
    have hlenD : (mixF f s.D s.C (left.map (·.1))).length = s.D.length := mixF_len _ _ _ _
    have hc2r : wr.cell? ⟨g, 2, none⟩ = some (.map (some b)) := by rw [HDr.out.blk.cell]; rfl
    clear hlen
    by_cases hl0 : left = []
    · subst hl0
      have HM := hid HDr.out.map
      clear hlenD
      go_wp2_with (first | (at_next; refine wpList_nextE _ rfl _ rfl rfl HRr.out (fun _ => ?_) (fun k v w' hin => absurd hin (by simp))) | (with_reducible refine wpList_clearE _ rfl (.tmp 65) rfl Try.underlying115 rfl HM.out ?_))
      intro w3 hm3 hu3 hs3
      have hfin := HDr.out.clearC hm3 hu3
      have hc5 : w3.cell? ⟨g, 5, none⟩ = some (.bool s.down) := by rw [hfin.blk.cell]; rfl
      have hf5 := hfin.blk.unfrozen 5
      have hu4 := Upd.setCell w3 g 5 (.bool false)
      have hd4 := hfin.reblk (s' := { s with D := mixF f s.D s.C [], C := [], down := false }) hu4 (by simpa using hfin.blk.set 5 (.bool false)) rfl rfl
      have HD4 : Hid (DiskIs (w3.setCell ⟨g, 5, none⟩ (.bool false)) g W R' { s with D := mixF f s.D s.C [], C := [], down := false }) := hid ⟨_, _, _, _, hd4⟩
      have HU4 : Hid (Upd W w (w3.setCell ⟨g, 5, none⟩ (.bool false))) := hid ((((Upd.of_below (S := W) HB0.out).trans HU.out (fun _ _ x => x)).trans (hu3.mono (fun k _ q => q ▸ HD.out.wb)) (fun _ _ x => x)).trans (hu4.mono (fun k _ q => q ▸ HD.out.wg)) (fun _ _ x => x))
      clear hfin hm3 hu3 hs3 hu4 hd4
      go_wp2_with (go_at_call 24; (with_reducible refine (disk_Arm _ (-1) g W R' _ HD4.out).mono ?_); rintro e w5 ⟨rfl, hi5, hu5⟩)
      go_end0
      refine ⟨R', rfl, ?_, fun j hj => ?_, HU4.out.trans hu5 (fun _ _ x => x)⟩
      · unfold dkCrash
        rw [← HN.out, ← HF.out]
        exact hi5
      · rcases HRR.out j hj with q | q
        · exact .inl q
        · have := HS2.out; have := HR.out; have := HSZ0.out; exact .inr (by omega)
    · have hrW : ∀ j, j = r → ¬ W j := fun j hj q => by have := HD.out.wlt j q; have := HR.out; omega
      have hrR : ∀ j, j = r → ¬ R' j := fun j hj q => by
        rcases HRR.out j q with q | q
        · have := HRL.out j q; have := HR.out; have := HSZ0.out; omega
        · have := HS2.out; omega
      have HRW := hid hrW
      have HRRR := hid hrR
      clear hrW hrR
      have hbxr : Blk wr w.heap.size #[.slice ka keep.length kc, .int .i64 torn, .int .i64 cut] := HBX.out.upd HU.out (fun q => by have := HWL.out _ q; omega)
      have HBXR := hid hbxr
      have HKR : Hid (SlI wr (.slice ka keep.length kc) keep) := hid ((HK.out.below HB0.out).updE HU.out HKW.out)
      clear hbxr
      go_wp2_with (at_next; refine wpList_nextE _ rfl _ rfl rfl HRr.out (fun h0 => absurd h0 hl0) (fun k v w' hin hlk hr' hu' hs' hen => ?_); (have hd' := HDr.out.upd hu' HRW.out HRRR.out); (obtain ⟨kk, l, d, u, va, vc, rfl, hkk, hcl, hdk, hsec, hVk, hck, hfk, rfl, hll, hdl, d', hd'k, husec⟩ := entry_facts HVS.out HOK.out hd' hlenD hlk); (have hc1' : w'.cell? ⟨g, 1, none⟩ = some (.slice (some ⟨gd, 0, none⟩) s.D.length cd) := by rw [hd'.blk.cell]; rfl); (have hc0' : w'.cell? ⟨g, 0, none⟩ = some (.int .i64 (s.size : Int)) := by rw [hd'.blk.cell]; rfl); (have hbx' := HBXR.out.upd hu' (fun q => by have := HR.out; have := HSZ0.out; omega)); (have hx0 : w'.cell? ⟨w.heap.size, 0, none⟩ = some (.slice ka keep.length kc) := by rw [hbx'.cell]; rfl); (have hx1 : w'.cell? ⟨w.heap.size, 1, none⟩ = some (.int .i64 torn) := by rw [hbx'.cell]; rfl); (have hx2 : w'.cell? ⟨w.heap.size, 2, none⟩ = some (.int .i64 cut) := by rw [hbx'.cell]; rfl); (have HBX' := hid hbx'); (have HK' := hid (HKR.out.updE hu' (fun j hj => (HKL.out j hj).imp id (fun hlt q => by have := HR.out; have := HSZ0.out; omega)))); (have e0 : (0 : Int) ≤ (kk : Int) := by omega); (have e1 : (kk : Int) < (s.D.length : Int) := by omega); (have HD2 := hid hd'); (have HSEC := hid hsec); (have HCL := hid hcl); (have HDK := hid hdk); (have HIN := hid hin); (have HR2 := hid hr'); (have HU2 := hid hu'); (have HL2 := hid hll); (have HDL := hid hdl); (have HUS := hid husec); (have HDK' := hid hd'k); clear hin hlk hr' hu' hs' hd' hcl hdk hsec hVk hll hdl hbx' husec hd'k)
      have hgd := HD.out.wd gd rfl
      have hgl := HD.out.wlt gd hgd.1
      have hstep := mixF_step f s.D s.C (left.map (·.1)) ((adel left (kk : Int)).map (·.1)) kk l d HDK.out HCL.out (List.mem_map.2 ⟨_, HIN.out, rfl⟩) (keys_adel (kk : Int))
      have hdd : d' = d := by
        have h1 := HDK'.out
        rw [hstep.1] at h1
        exact (Option.some.inj h1).symm
      subst hdd
      have FIN : Hid (∀ (wq : World) (R2 : Nat → Prop) (vn : Value), Below w'.heap.size w' wq → (∀ j, R' j → R2 j) → (∀ j, R2 j → (R' j ∨ w'.heap.size ≤ j) ∧ j < wq.heap.size) → Sec wq R2 vn (f (kk : Int) l d') →
          (∃ (left : List (Int × Value)) (V' : List Value) (R' : Nat → Prop), Hid (RangeE (wq.setCell ⟨gd, kk, none⟩ vn) r b vs left) ∧ Hid (DkIs (wq.setCell ⟨gd, kk, none⟩ vn) g W R' { s with D := mixF f s.D s.C (left.map (·.1)) } b (.slice (some ⟨gd, 0, none⟩) s.D.length cd) V' M) ∧ Hid (Upd W w0 (wq.setCell ⟨gd, kk, none⟩ vn)) ∧ Hid (∀ j, R' j → R j ∨ w2.heap.size ≤ j) ∧ Hid (w2.heap.size ≤ (wq.setCell ⟨gd, kk, none⟩ vn).heap.size)) ∧
            rangeN (wq.setCell ⟨gd, kk, none⟩ vn) r b < rangeN wr r b) := hid (by
        intro wq R2 vn hbq hR2 hR3 hsec
        have hws : wr.heap.size ≤ w'.heap.size := HU2.out.size
        have hD3 : DkIs w' g W R' { s with D := mixF f s.D s.C (left.map (·.1)) } b (.slice (some ⟨gd, 0, none⟩) (mixF f s.D s.C (left.map (·.1))).length cd) V' M := by rw [hlenD]; exact HD2.out
        have hD3' := (hD3.below hbq).weaken hR2 (fun j hj hr => by
          rcases (hR3 j hr).1 with q | q
          · exact HD2.out.wr j hj q
          · have := HD2.out.wlt j hj; omega) (fun j hj => (hR3 j hj).2)
        have hD4 := hD3'.setD kk hsec (by rw [hlenD]; exact hkk)
        have hD5 : DkIs (wq.setCell ⟨gd, kk, none⟩ vn) g W R2 { s with D := mixF f s.D s.C ((adel left (kk : Int)).map (·.1)) } b (.slice (some ⟨gd, 0, none⟩) s.D.length cd) (V'.set kk vn) M := by
          rw [hstep.2]
          have e : ((mixF f s.D s.C (left.map (·.1))).set kk (f (kk : Int) l d')).length = s.D.length := by rw [List.length_set, hlenD]
          simp only [e] at hD4
          exact hD4
        have hR5 := (HR2.out.upd (S := fun _ => False) (Upd.of_below hbq) (fun x => x) (fun x => x)).upd (Upd.setCell wq gd kk vn) (fun q => by have := HR.out; omega) (fun q => hgd.2.2 q.symm)
        refine ⟨⟨adel left (kk : Int), V'.set kk vn, R2, hid hR5, hid hD5, hid (((HU.out.trans HU2.out (fun j hj q => by have := HR.out; omega)).trans (Upd.of_below (S := fun _ => False) hbq) (fun _ _ x => x.elim)).trans (Upd.setCell wq gd kk _) (fun j _ q => q ▸ hgd.1)), hid (fun j hj => ?_), hid ?_⟩, ?_⟩
        · rcases (hR3 j hj).1 with q | q
          · exact HRR.out j q
          · have := HSZ.out; exact .inr (by omega)
        · have := HSZ.out; have := hbq.size; simp; omega
        · rw [hR5.len, HLEN.out]
          exact adel_len HIN.out)
      have FIN0 : Hid (f (kk : Int) l d' = d' → (∃ (left : List (Int × Value)) (V' : List Value) (R' : Nat → Prop), Hid (RangeE w' r b vs left) ∧ Hid (DkIs w' g W R' { s with D := mixF f s.D s.C (left.map (·.1)) } b (.slice (some ⟨gd, 0, none⟩) s.D.length cd) V' M) ∧ Hid (Upd W w0 w') ∧ Hid (∀ j, R' j → R j ∨ w2.heap.size ≤ j) ∧ Hid (w2.heap.size ≤ w'.heap.size)) ∧
            rangeN w' r b < rangeN wr r b) := hid (by
        intro he
        have e : mixF f s.D s.C ((adel left (kk : Int)).map (·.1)) = mixF f s.D s.C (left.map (·.1)) := by
          rw [hstep.2, he]
          apply List.ext_getElem?
          intro i
          rw [List.getElem?_set]
          by_cases hi : kk = i
          · subst hi; rw [if_pos rfl, if_pos (by rw [hlenD]; exact hkk), hstep.1]
          · rw [if_neg hi]
        refine ⟨⟨adel left (kk : Int), V', R', HR2, hid (by rw [e]; exact HD2.out), hid (HU.out.trans HU2.out (fun j hj q => by have := HR.out; omega)), HRR, hid ?_⟩, ?_⟩
        · have := HSZ.out; have := HU2.out.size; omega
        · rw [HR2.out.len, HLEN.out]
          exact adel_len HIN.out)
      have HFV : Hid (f (kk : Int) l d' = if (kk : Int) ∈ keep then l else if (kk : Int) = torn then l.take n ++ d'.drop n else d') := hid (by rw [HF.out]; rfl)
      clear hstep hgd hgl hlenD
      by_cases hkp : (kk : Int) ∈ keep
      · have HKP : Hid (decide ((kk : Int) ∈ keep) = true) := hid (by simpa using hkp)
        have hfv := HFV.out
        rw [if_pos hkp] at hfv
        have HV := hid (FIN.out w' R' (.slice va l.length vc) (Below.refl _ _) (fun _ => id) (fun j hj => ⟨.inl hj, HD2.out.rlt j hj⟩) (by rw [hfv]; exact HSEC.out))
        clear hkp hfv
        refine (sl_Contains keep _ (kk : Int) w' HK'.out true HKP).mono ?_
        rintro e wx ⟨rfl, rfl⟩
        go_wp2_with fail
        exact HV.out
      have HKP : Hid (decide ((kk : Int) ∈ keep) = false) := hid (by simpa using hkp)
      have hfv := HFV.out
      rw [if_neg hkp] at hfv
      clear hkp
      by_cases htn : (kk : Int) = torn
      case neg =>
        rw [if_neg htn] at hfv
        have HV := hid (FIN0.out hfv)
        have htb : ((kk : Int) == torn) = false := by simpa using htn
        clear hfv htn
        refine (sl_Contains keep _ (kk : Int) w' HK'.out false HKP).mono ?_
        rintro e wx ⟨rfl, rfl⟩
        go_wp2_with fail
        exact HV.out
      rw [if_pos htn] at hfv
      have HFV2 := hid hfv
      have htb : ((kk : Int) == torn) = true := by simpa using htn
      clear hfv htn
      refine (sl_Contains keep _ (kk : Int) w' HK'.out false HKP).mono ?_
      rintro e wx ⟨rfl, rfl⟩
      go_wp2_with fail
      have hx2w : ∀ x, Below w'.heap.size w' x → x.cell? ⟨w.heap.size, 2, none⟩ = some (.int .i64 cut) := fun x hb => by rw [(HBX'.out.below hb).cell]; rfl
      have hc0w : ∀ x, Below w'.heap.size w' x → x.cell? ⟨g, 0, none⟩ = some (.int .i64 (s.size : Int)) := fun x hb => by rw [(HD2.out.blk.below hb).cell]; rfl
      have hk0 := (Below.refl w'.heap.size w').drew
      refine wp_region_kept [] (fun x => Below w'.heap.size w' x) (by kernel_rfl) (by assumption) (fun hH => ?_)
      refine wpK.take (i := 0) (v := _) (by simp only [List.getElem?_toArray, List.getElem?_cons_succ, List.getElem?_cons_zero]; rfl) (by kernel_rfl) (by kernel_rfl) (by kernel_rfl) (by kernel_rfl) (by kernel_rfl) (by exact fun _ _ _ h => h) (by first | exact Or.inl ⟨by rfl, by intro w hSw; go_simp; try with_reducible rfl⟩ | exact Or.inr ⟨by rfl, rfl⟩) hH ?_
      try simp only [Act.put, List.setIfInBounds_toArray, List.set_cons_zero, List.set_cons_succ]
      refine wpK.take (i := 1) (v := _) (by simp only [List.getElem?_toArray, List.getElem?_cons_succ, List.getElem?_cons_zero]; rfl) (by kernel_rfl) (by kernel_rfl) (by kernel_rfl) (by kernel_rfl) (by kernel_rfl) (by exact fun _ _ _ h => h) (by first | exact Or.inl ⟨by rfl, by intro w hSw; go_simp; try with_reducible rfl⟩ | exact Or.inr ⟨by rfl, rfl⟩) hH ?_
      try simp only [Act.put, List.setIfInBounds_toArray, List.set_cons_zero, List.set_cons_succ]
      refine wpK.take (i := 2) (v := _) (by simp only [List.getElem?_toArray, List.getElem?_cons_succ, List.getElem?_cons_zero]; rfl) (by kernel_rfl) (by kernel_rfl) (by kernel_rfl) (by kernel_rfl) (by kernel_rfl) (by exact fun _ _ _ h => h) (by first | exact Or.inl ⟨by rfl, by intro w hSw; go_simp; try with_reducible rfl⟩ | exact Or.inr ⟨by rfl, rfl⟩) hH ?_
      try simp only [Act.put, List.setIfInBounds_toArray, List.set_cons_zero, List.set_cons_succ]
      refine wpK.take (i := 3) (v := _) (by simp only [List.getElem?_toArray, List.getElem?_cons_succ, List.getElem?_cons_zero]; rfl) (by kernel_rfl) (by kernel_rfl) (by kernel_rfl) (by kernel_rfl) (by kernel_rfl) (by exact fun _ _ _ h => h) (by first | exact Or.inl ⟨by rfl, by intro w hSw; go_simp; try with_reducible rfl⟩ | exact Or.inr ⟨by rfl, rfl⟩) hH ?_
      try simp only [Act.put, List.setIfInBounds_toArray, List.set_cons_zero, List.set_cons_succ]
      refine wpK.take (i := 4) (v := _) (by simp only [List.getElem?_toArray, List.getElem?_cons_succ, List.getElem?_cons_zero]; rfl) (by kernel_rfl) (by kernel_rfl) (by kernel_rfl) (by kernel_rfl) (by kernel_rfl) (by exact fun _ _ _ h => h) (by first | exact Or.inl ⟨by rfl, by intro w hSw; go_simp; try with_reducible rfl⟩ | exact Or.inr ⟨by rfl, rfl⟩) hH ?_
      try simp only [Act.put, List.setIfInBounds_toArray, List.set_cons_zero, List.set_cons_succ]
      refine wpK.take (i := 5) (v := _) (by simp only [List.getElem?_toArray, List.getElem?_cons_succ, List.getElem?_cons_zero]; rfl) (by kernel_rfl) (by kernel_rfl) (by kernel_rfl) (by kernel_rfl) (by kernel_rfl) (by exact fun _ _ _ h => h) (by first | exact Or.inl ⟨by rfl, by intro w hSw; go_simp; try with_reducible rfl⟩ | exact Or.inr ⟨by rfl, rfl⟩) hH ?_
      try simp only [Act.put, List.setIfInBounds_toArray, List.set_cons_zero, List.set_cons_succ]
      refine wpK.take (i := 6) (v := _) (by simp only [List.getElem?_toArray, List.getElem?_cons_succ, List.getElem?_cons_zero]; rfl) (by kernel_rfl) (by kernel_rfl) (by kernel_rfl) (by kernel_rfl) (by kernel_rfl) (by exact fun _ _ _ h => h) (by first | exact Or.inl ⟨by rfl, by intro w hSw; go_simp; try with_reducible rfl⟩ | exact Or.inr ⟨by rfl, rfl⟩) hH ?_
      try simp only [Act.put, List.setIfInBounds_toArray, List.set_cons_zero, List.set_cons_succ]
      refine wpK.take (i := 7) (v := _) (by simp only [List.getElem?_toArray, List.getElem?_cons_succ, List.getElem?_cons_zero]; rfl) (by kernel_rfl) (by kernel_rfl) (by kernel_rfl) (by kernel_rfl) (by kernel_rfl) (by exact fun _ _ _ h => h) (by first | exact Or.inl ⟨by rfl, by intro w hSw; go_simp; try with_reducible rfl⟩ | exact Or.inr ⟨by rfl, rfl⟩) hH ?_
      try simp only [Act.put, List.setIfInBounds_toArray, List.set_cons_zero, List.set_cons_succ]
      refine wpK.take (i := 8) (v := _) (by simp only [List.getElem?_toArray, List.getElem?_cons_succ, List.getElem?_cons_zero]; rfl) (by kernel_rfl) (by kernel_rfl) (by kernel_rfl) (by kernel_rfl) (by kernel_rfl) (by exact fun _ _ _ h => h) (by first | exact Or.inl ⟨by rfl, by intro w hSw; go_simp; try with_reducible rfl⟩ | exact Or.inr ⟨by rfl, rfl⟩) hH ?_
      try simp only [Act.put, List.setIfInBounds_toArray, List.set_cons_zero, List.set_cons_succ]
      refine wpK.done (by kernel_rfl) ?_ _
      clear hk0 hH
      have hnv : (if (if (s.size : Int) < cut then (s.size : Int) else cut) < 0 then 0 else if (s.size : Int) < cut then (s.size : Int) else cut) = (n : Int) := by
        (rw [HN.out]; unfold cutN; split <;> split <;> omega)
      simp only [hnv]
      clear hnv
      generalize (if (s.size : Int) < cut then (s.size : Int) else cut) = m40
      have hnle : n ≤ s.size := by rw [HN.out]; unfold cutN; omega
      have hs16 := HOK.out.sz0
      have hs40 := HOK.out.sz
      obtain ⟨vb, vo, vc', hv, hvc1, hvc2⟩ := HSEC.out.1.form (by rw [HL2.out]; omega)
      simp only [Value.slice.injEq, true_and] at hv
      obtain ⟨rfl, rfl⟩ := hv
      obtain ⟨ub, uo, uc, rfl, huc1, huc2⟩ := HUS.out.1.form (by rw [HDL.out]; omega)
      have i0 : (0 : Int) ≤ (n : Int) := by omega
      have i1 : (n : Int) ≤ (vc : Int) := by have := HL2.out; omega
      have i2 : (n : Int) ≤ (d'.length : Int) := by have := HDL.out; omega
      have i3 : (d'.length : Int) ≤ (uc : Int) := by omega
      have hc1w : ∀ x, Below w'.heap.size w' x → x.cell? ⟨g, 1, none⟩ = some (.slice (some ⟨gd, 0, none⟩) s.D.length cd) := fun x hb => by rw [(HD2.out.blk.below hb).cell]; rfl
      have hckw : ∀ x, Below w'.heap.size w' x → x.cell? ⟨gd, kk, none⟩ = some (.slice (some ⟨ub, uo, none⟩) d'.length uc) := fun x hb => by rw [← hck]; exact World.cell?_of_block (hb.block _ (World.block_lt_of_cell? w' _ hck))
      have hk0 := (Below.refl w'.heap.size w').drew.drew
      go_wp2_with fail
      refine wp_region_kept [20] (fun x => Below w'.heap.size w' x) (by kernel_rfl) (by assumption) (fun hH => ?_)
      refine wpK.take (i := 0) (v := _) (by simp only [List.getElem?_toArray, List.getElem?_cons_succ, List.getElem?_cons_zero]; rfl) (by kernel_rfl) (by kernel_rfl) (by kernel_rfl) (by kernel_rfl) (by kernel_rfl) (by exact fun _ _ _ h => h) (by first | exact Or.inl ⟨by rfl, by intro w hSw; go_simp; try with_reducible rfl⟩ | exact Or.inr ⟨by rfl, rfl⟩) hH ?_
      try simp only [Act.put, List.setIfInBounds_toArray, List.set_cons_zero, List.set_cons_succ]
      refine wpK.take (i := 1) (v := _) (by simp only [List.getElem?_toArray, List.getElem?_cons_succ, List.getElem?_cons_zero]; rfl) (by kernel_rfl) (by kernel_rfl) (by kernel_rfl) (by kernel_rfl) (by kernel_rfl) (by exact fun _ _ _ h => h) (by first | exact Or.inl ⟨by rfl, by intro w hSw; go_simp; try with_reducible rfl⟩ | exact Or.inr ⟨by rfl, rfl⟩) hH ?_
      try simp only [Act.put, List.setIfInBounds_toArray, List.set_cons_zero, List.set_cons_succ]
      refine wpK.take (i := 2) (v := _) (by simp only [List.getElem?_toArray, List.getElem?_cons_succ, List.getElem?_cons_zero]; rfl) (by kernel_rfl) (by kernel_rfl) (by kernel_rfl) (by kernel_rfl) (by kernel_rfl) (by exact fun _ _ _ h => h) (by first | exact Or.inl ⟨by rfl, by intro w hSw; go_simp; try with_reducible rfl⟩ | exact Or.inr ⟨by rfl, rfl⟩) hH ?_
      try simp only [Act.put, List.setIfInBounds_toArray, List.set_cons_zero, List.set_cons_succ]
      refine wpK.take (i := 3) (v := _) (by simp only [List.getElem?_toArray, List.getElem?_cons_succ, List.getElem?_cons_zero]; rfl) (by kernel_rfl) (by kernel_rfl) (by kernel_rfl) (by kernel_rfl) (by kernel_rfl) (by exact fun _ _ _ h => h) (by first | exact Or.inl ⟨by rfl, by intro w hSw; go_simp; try with_reducible rfl⟩ | exact Or.inr ⟨by rfl, rfl⟩) hH ?_
      try simp only [Act.put, List.setIfInBounds_toArray, List.set_cons_zero, List.set_cons_succ]
      refine wpK.take (i := 4) (v := _) (by simp only [List.getElem?_toArray, List.getElem?_cons_succ, List.getElem?_cons_zero]; rfl) (by kernel_rfl) (by kernel_rfl) (by kernel_rfl) (by kernel_rfl) (by kernel_rfl) (by exact fun _ _ _ h => h) (by first | exact Or.inl ⟨by rfl, by intro w hSw; go_simp; try with_reducible rfl⟩ | exact Or.inr ⟨by rfl, rfl⟩) hH ?_
      try simp only [Act.put, List.setIfInBounds_toArray, List.set_cons_zero, List.set_cons_succ]
      refine wpK.take (i := 5) (v := _) (by simp only [List.getElem?_toArray, List.getElem?_cons_succ, List.getElem?_cons_zero]; rfl) (by kernel_rfl) (by kernel_rfl) (by kernel_rfl) (by kernel_rfl) (by kernel_rfl) (by exact fun _ _ _ h => h) (by first | exact Or.inl ⟨by rfl, by intro w hSw; go_simp; try with_reducible rfl⟩ | exact Or.inr ⟨by rfl, rfl⟩) hH ?_
      try simp only [Act.put, List.setIfInBounds_toArray, List.set_cons_zero, List.set_cons_succ]
      refine wpK.take (i := 6) (v := _) (by simp only [List.getElem?_toArray, List.getElem?_cons_succ, List.getElem?_cons_zero]; rfl) (by kernel_rfl) (by kernel_rfl) (by kernel_rfl) (by kernel_rfl) (by kernel_rfl) (by exact fun _ _ _ h => h) (by first | exact Or.inl ⟨by rfl, by intro w hSw; go_simp; try with_reducible rfl⟩ | exact Or.inr ⟨by rfl, rfl⟩) hH ?_
      try simp only [Act.put, List.setIfInBounds_toArray, List.set_cons_zero, List.set_cons_succ]
      refine wpK.take (i := 7) (v := _) (by simp only [List.getElem?_toArray, List.getElem?_cons_succ, List.getElem?_cons_zero]; rfl) (by kernel_rfl) (by kernel_rfl) (by kernel_rfl) (by kernel_rfl) (by kernel_rfl) (by exact fun _ _ _ h => h) (by first | exact Or.inl ⟨by rfl, by intro w hSw; go_simp; try with_reducible rfl⟩ | exact Or.inr ⟨by rfl, rfl⟩) hH ?_
      try simp only [Act.put, List.setIfInBounds_toArray, List.set_cons_zero, List.set_cons_succ]
      refine wpK.take (i := 8) (v := _) (by simp only [List.getElem?_toArray, List.getElem?_cons_succ, List.getElem?_cons_zero]; rfl) (by kernel_rfl) (by kernel_rfl) (by kernel_rfl) (by kernel_rfl) (by kernel_rfl) (by exact fun _ _ _ h => h) (by first | exact Or.inl ⟨by rfl, by intro w hSw; go_simp; try with_reducible rfl⟩ | exact Or.inr ⟨by rfl, rfl⟩) hH ?_
      try simp only [Act.put, List.setIfInBounds_toArray, List.set_cons_zero, List.set_cons_succ]
      refine wpK.take (i := 9) (v := _) (by simp only [List.getElem?_toArray, List.getElem?_cons_succ, List.getElem?_cons_zero]; rfl) (by kernel_rfl) (by kernel_rfl) (by kernel_rfl) (by kernel_rfl) (by kernel_rfl) (by exact fun _ _ _ h => h) (by first | exact Or.inl ⟨by rfl, by intro w hSw; go_simp; try with_reducible rfl⟩ | exact Or.inr ⟨by rfl, rfl⟩) hH ?_
      try simp only [Act.put, List.setIfInBounds_toArray, List.set_cons_zero, List.set_cons_succ]
      refine wpK.take (i := 10) (v := _) (by simp only [List.getElem?_toArray, List.getElem?_cons_succ, List.getElem?_cons_zero]; rfl) (by kernel_rfl) (by kernel_rfl) (by kernel_rfl) (by kernel_rfl) (by kernel_rfl) (by exact fun _ _ _ h => h) (by first | exact Or.inl ⟨by rfl, by intro w hSw; go_simp; try with_reducible rfl⟩ | exact Or.inr ⟨by rfl, rfl⟩) hH ?_
      try simp only [Act.put, List.setIfInBounds_toArray, List.set_cons_zero, List.set_cons_succ]
      refine wpK.take (i := 11) (v := _) (by simp only [List.getElem?_toArray, List.getElem?_cons_succ, List.getElem?_cons_zero]; rfl) (by kernel_rfl) (by kernel_rfl) (by kernel_rfl) (by kernel_rfl) (by kernel_rfl) (by exact fun _ _ _ h => h) (by first | exact Or.inl ⟨by rfl, by intro w hSw; go_simp; try with_reducible rfl⟩ | exact Or.inr ⟨by rfl, rfl⟩) hH ?_
      try simp only [Act.put, List.setIfInBounds_toArray, List.set_cons_zero, List.set_cons_succ]
      refine wpK.take (i := 12) (v := _) (by simp only [List.getElem?_toArray, List.getElem?_cons_succ, List.getElem?_cons_zero]; rfl) (by kernel_rfl) (by kernel_rfl) (by kernel_rfl) (by kernel_rfl) (by kernel_rfl) (by exact fun _ _ _ h => h) (by first | exact Or.inl ⟨by rfl, by intro w hSw; go_simp; try with_reducible rfl⟩ | exact Or.inr ⟨by rfl, rfl⟩) hH ?_
      try simp only [Act.put, List.setIfInBounds_toArray, List.set_cons_zero, List.set_cons_succ]
      refine wpK.take (i := 13) (v := _) (by simp only [List.getElem?_toArray, List.getElem?_cons_succ, List.getElem?_cons_zero]; rfl) (by kernel_rfl) (by kernel_rfl) (by kernel_rfl) (by kernel_rfl) (by kernel_rfl) (by exact fun _ _ _ h => h) (by first | exact Or.inl ⟨by rfl, by intro w hSw; go_simp; try with_reducible rfl⟩ | exact Or.inr ⟨by rfl, rfl⟩) hH ?_
      try simp only [Act.put, List.setIfInBounds_toArray, List.set_cons_zero, List.set_cons_succ]
      refine wpK.take (i := 14) (v := _) (by simp only [List.getElem?_toArray, List.getElem?_cons_succ, List.getElem?_cons_zero]; rfl) (by kernel_rfl) (by kernel_rfl) (by kernel_rfl) (by kernel_rfl) (by kernel_rfl) (by exact fun _ _ _ h => h) (by first | exact Or.inl ⟨by rfl, by intro w hSw; go_simp; try with_reducible rfl⟩ | exact Or.inr ⟨by rfl, rfl⟩) hH ?_
      try simp only [Act.put, List.setIfInBounds_toArray, List.set_cons_zero, List.set_cons_succ]
      refine wpK.take (i := 15) (v := _) (by simp only [List.getElem?_toArray, List.getElem?_cons_succ, List.getElem?_cons_zero]; rfl) (by kernel_rfl) (by kernel_rfl) (by kernel_rfl) (by kernel_rfl) (by kernel_rfl) (by exact fun _ _ _ h => h) (by first | exact Or.inl ⟨by rfl, by intro w hSw; go_simp; try with_reducible rfl⟩ | exact Or.inr ⟨by rfl, rfl⟩) hH ?_
      try simp only [Act.put, List.setIfInBounds_toArray, List.set_cons_zero, List.set_cons_succ]
      refine wpK.take (i := 16) (v := _) (by simp only [List.getElem?_toArray, List.getElem?_cons_succ, List.getElem?_cons_zero]; rfl) (by kernel_rfl) (by kernel_rfl) (by kernel_rfl) (by kernel_rfl) (by kernel_rfl) (by exact fun _ _ _ h => h) (by first | exact Or.inl ⟨by rfl, by intro w hSw; go_simp; try with_reducible rfl⟩ | exact Or.inr ⟨by rfl, rfl⟩) hH ?_
      try simp only [Act.put, List.setIfInBounds_toArray, List.set_cons_zero, List.set_cons_succ]
      refine wpK.step (i := 17) (by kernel_rfl) (by simp only [List.getElem?_toArray, List.getElem?_cons_succ, List.getElem?_cons_zero]; rfl) (fun K hK => ?_)
      go_simp
      (obtain ⟨xv, hxv⟩ : ∃ xv : Option Addr, xv = (if uc = n then some ⟨ub, uo, none⟩ else some ⟨ub, uo + n, none⟩) := ⟨_, rfl⟩); rw [← hxv]; (obtain ⟨wz, hwz⟩ : ∃ wz, wz = (w'.alloc (.cells #[.slice (some ⟨vb, vo, none⟩) n vc, .slice xv (d'.length - n) (uc - n)] 27)).drew.drew := ⟨_, rfl⟩); rw [← hwz]; (have hk17 : Below w'.heap.size w' wz := (by rw [hwz]; exact (Below.new _ _).drew.drew)); (have hblk17 : Blk wz w'.heap.size #[.slice (some ⟨vb, vo, none⟩) n vc, .slice xv (d'.length - n) (uc - n)] := (by rw [hwz]; exact (Blk.new _ _ _))); (have HT1 := hid ((HSEC.out.1.below hk17).takeN n (by have := HL2.out; omega))); (have HT2 := hid ((HUS.out.1.below hk17).dropN n (by have := HDL.out; omega) xv (fun q => by rw [hxv, if_neg q]) (by rw [hxv]; split <;> nofun))); (have HBL := hid hblk17); clear hblk17 hxv hwz
      refine hK.out _ _ (by assumption) (fun hH => ?_)
      clear hK K
      try simp only [Act.put, List.setIfInBounds_toArray, List.set_cons_zero, List.set_cons_succ]
      refine wpK.step (i := 18) (by kernel_rfl) (by simp only [List.getElem?_toArray, List.getElem?_cons_succ, List.getElem?_cons_zero]; rfl) (fun K hK => ?_)
      go_simp
      (refine (sl_Concat2 _ _ _ _ w'.heap.size wz HBL.out HT1.out HT2.out (by have := HL2.out; have := HDL.out; simp; omega) (by have := HL2.out; have := HDL.out; simp; omega)).mono ?_); rintro e w1 ⟨v1, rfl, hown1, hb1⟩; (obtain ⟨nb, nc, rfl⟩ := Joins.ownsRow_form hown1 (by have := HL2.out; have := HDL.out; simp; omega)); (have HOWN1 := hid hown1); (have HB1 := hid hb1); (have hk1 := Below.next hk17 hb1); (have hck1 := hckw w1 hk1); (have hfk1 : w1.frozen? ⟨gd, kk, none⟩ = false := (by rw [← hfk]; exact World.frozen?_of_block (hk1.block _ (World.block_lt_of_cell? w' _ hck)))); go_simp
      refine hK.out _ _ (by assumption) (fun hH => ?_)
      clear hK K
      try simp only [Act.put, List.setIfInBounds_toArray, List.set_cons_zero, List.set_cons_succ]
      refine wpK.take (i := 19) (v := _) (by simp only [List.getElem?_toArray, List.getElem?_cons_succ, List.getElem?_cons_zero]; rfl) (by kernel_rfl) (by kernel_rfl) (by kernel_rfl) (by kernel_rfl) (by kernel_rfl) (by exact fun _ _ _ h => h) (by first | exact Or.inl ⟨by rfl, by intro w hSw; go_simp; try with_reducible rfl⟩ | exact Or.inr ⟨by rfl, rfl⟩) hH ?_
      try simp only [Act.put, List.setIfInBounds_toArray, List.set_cons_zero, List.set_cons_succ]
      refine wpK.late (i := 20) (by kernel_rfl) (by simp only [List.getElem?_toArray, List.getElem?_cons_succ, List.getElem?_cons_zero]; rfl) (by kernel_rfl) (fun K hK => ?_)
      go_simp
      skip
      refine hK.out _ _ ?_
      clear hK K
      try simp only [Act.put, List.setIfInBounds_toArray, List.set_cons_zero, List.set_cons_succ]
      refine wpK.done (by kernel_rfl) ?_ _
      have hV := FIN.out w1 (fun k => R' k ∨ (wz.heap.size ≤ k ∧ k < w1.heap.size)) (.slice (some ⟨nb, 0, none⟩) (l.take n ++ d'.drop n).length nc) hk1 (fun _ => .inl) (fun j hj => by
        have := hk1.size; have := hk17.size
        rcases hj with q | q
        · have := HD2.out.rlt j q; exact ⟨.inl q, by omega⟩
        · exact ⟨.inr (by omega), q.2⟩) (by
        rw [HFV2.out]
        exact ⟨ownsRow.slb HOWN1.out (by have := HL2.out; have := HDL.out; simp; omega), fun k hk => .inr ⟨(HOWN1.out.lt k hk).1, (HOWN1.out.lt k hk).2⟩⟩)
      simp only [List.length_append, List.length_take, List.length_drop] at hV
      go_wp2_with fail
      exact hV
end Go.Proofs.Ytohknblokejldaa
end
section
/- law05: full, first, awake. -/
namespace Go.Proofs.Ytohknblokejldaa
open Go.RowKit
open Go.Lib (hid)
set_option linter.unusedVariables false

set_option maxRecDepth 100000 in
set_option maxHeartbeats 1000000 in
theorem law05_full (c : UInt8) (w : World) : Calls Try.prog 83 #[.int .u8 (c.toNat : Int)] w fun e w' => ∃ v, e = .returned v ∧ SlB w' v (List.replicate 16 c) ∧ Below w.heap.size w w' := by
  have HCL : Hid (c.toNat < 256) := hid c.toNat_lt
  go_enter Try.func83, Try.ntmps83
  go_wp2_with (at_make; refine wpList_make T_bytes rfl _ rfl _ _ rfl w.heap.size _ _ _ _ 16 16 rfl rfl rfl rfl (Nat.le_refl _) (by omega) (Nat.le_refl _) ?_; intro w1 hown hgr)
  have hown1 : w1.ownsRow w.heap.size 5 1 (.slice (some ⟨w.heap.size, 0, none⟩) 16 16) 16 (bv (List.replicate 0 c ++ List.replicate 16 0)) := hown
  have HOWN := hid hown1
  have HB : Hid (Below w.heap.size w w1) := hid ((Upd.of_grown hgr).below (Nat.le_refl _) (fun _ _ q => by cases q))
  clear hown hown1 hgr
  obtain ⟨m, hm⟩ : ∃ m, m = w.heap.size := ⟨_, rfl⟩
  have HSM := hid hm
  rw [← hm] at HOWN HB ⊢
  clear hm
  go_wp2_with fail
  go_loopw [4, 8] (fun v4 v8 wr => ∃ (k : Nat), v8 = .int .i64 k ∧ k ≤ 16 ∧ Hid (wr.ownsRow m 5 1 (.slice (some ⟨m, 0, none⟩) 16 16) 16 (bv (List.replicate k c ++ List.replicate (16 - k) 0))) ∧ Hid (Below m w wr)) (fun _ v8 _ => 16 - (intOf v8).toNat)
  case atStart => exact ⟨0, rfl, by omega, HOWN, HB⟩
  case round =>
    clear HOWN HB
    obtain ⟨k, rfl, hk, HOWN, HB⟩ := hrel
    by_cases hlt : k < 16
    · have hc1 : wr.cell? ⟨m, k, none⟩ = some (.int .u8 0) := by
        rw [HOWN.out.cellAt k (by omega)]
        obtain ⟨q, hq⟩ : ∃ q, 16 - k = q + 1 := ⟨15 - k, by omega⟩
        rw [hq]
        simp [bv, List.replicate_succ]
      have hst := (HOWN.out.stored k (.int .u8 (c.toNat : Int))).1
      have hset : (bv (List.replicate k c ++ List.replicate (16 - k) 0)).set k (.int .u8 (c.toNat : Int)) = bv (List.replicate (k + 1) c ++ List.replicate (16 - (k + 1)) 0) := by
        obtain ⟨q, hq⟩ : ∃ q, 16 - k = q + 1 := ⟨15 - k, by omega⟩
        rw [show 16 - (k + 1) = q by omega, hq, List.replicate_succ' (n := k)]
        simp [bv, List.replicate_succ, List.set_append]
      rw [hset] at hst
      have HST := hid hst
      have HB2 := hid (HB.out.setCell (p := ⟨m, k, none⟩) (Nat.le_refl _) (.int .u8 (c.toNat : Int)))
      clear hst hset
      have hf1 := HOWN.out.frozenAt k
      have e0 : (0 : Int) ≤ (k : Int) := by omega
      have e1 : (k : Int) < 16 := by omega
      go_wp2_with fail
      go_roundw
      case rel => exact ⟨k + 1, by go_num, by omega, HST, HB2⟩
      case measure => simp [intOf]; omega
    · obtain rfl : k = 16 := by omega
      go_wp2_with fail
      go_ret
      exact ⟨_, rfl, ownsRow.slb (by simpa using HOWN.out) (by simp), by rw [← HSM.out]; exact HB.out⟩
def awkS : Dk := ⟨16, List.replicate 6 (List.replicate 16 0), [(1, List.replicate 16 1)], false, 0, false, 1⟩
theorem awkS_ok : awkS.Ok := by
  refine ⟨fun p hp => ?_, fun d hd => ?_, by decide, by decide, by decide, by decide⟩
  · simp [awkS] at hp; subst hp; simp [awkS]
  · simp [awkS] at hd; subst hd; simp [awkS]
def awkT : List UInt8 := [1, 1, 1, 0, 0, 0, 0, 0, 0, 0, 0, 0, 0, 0, 0, 0]
set_option maxRecDepth 100000 in
set_option maxHeartbeats 1000000 in
theorem law05_awake (w : World) : Calls Try.prog 35 #[] w fun e w' => e = .returned (.bool true) ∧ Below w.heap.size w w' := by
  have S1 : Hid (dkWrite (dkNew 6 16) 1 (List.replicate 16 1) = (0, awkS)) := hid (by simp [dkWrite, dkCheck, dkNew, awkS, dkCommand, aput, wrap64])
  have S2 : Hid (dkWrite awkS 9 (List.replicate 16 1) = (11, awkS)) := hid (by simp [dkWrite, dkCheck, awkS])
  have S3 : Hid (dkWrite awkS 1 [] = (10, awkS)) := hid (by simp [dkWrite, dkCheck, awkS])
  have S4 : Hid (dkRead (dkCrash awkS [] 1 3) 1 = (awkT, 0)) := hid (by simp [dkRead, dkCheck, dkCrash, dkArm, mixF, crashF, cutN, awkS, dkSector, awkT]; rfl)
  have S5 : Hid ((dkCrash awkS [] 1 3).done = 1) := hid (by rfl)
  go_enter Try.func35, Try.ntmps35
  go_wp2_with fail
  refine (disk_New 6 16 (by omega) (by omega) (by omega) (by omega) _).mono ?_
  rintro e w1 ⟨g, W, R, rfl, hd, hW, hR, hb⟩
  have HD1 := hid hd
  have HW := hid hW
  have HB := hid hb
  clear hd hW hR hb
  go_wp2_with fail
  refine (law05_full 1 _).mono ?_
  rintro e w2 ⟨v2, rfl, hs2, hb2⟩
  have HB2 := hid (Below.next HB.out hb2)
  have hd2 := HD1.out.below hb2
  clear hb2
  go_wp2_with fail
  refine (disk_Write _ 1 _ v2 g W R w2 hd2 hs2 (by simp) 0 awkS S1).mono ?_
  rintro e w3 ⟨R3, rfl, hd3, -, hu3⟩
  have HB3 := hid (Below.trans HB2.out (hu3.below HB2.out.size (fun k _ q => HW.out k q)))
  have HD3 := hid hd3
  clear hd2 hs2 hd3 hu3
  go_wp2_with fail
  refine (law05_full 1 _).mono ?_
  rintro e w4 ⟨v4, rfl, hs4, hb4⟩
  have HB4 := hid (Below.next HB3.out hb4)
  have hd4 := HD3.out.below hb4
  clear hb4
  go_wp2_with fail
  refine (disk_Write _ 9 _ v4 g W R3 w4 hd4 hs4 (by simp) 11 awkS S2).mono ?_
  rintro e w5 ⟨R5, rfl, hd5, -, hu5⟩
  have HB5 := hid (Below.trans HB4.out (hu5.below HB4.out.size (fun k _ q => HW.out k q)))
  have HD5 := hid hd5
  clear hd4 hs4 hd5 hu5
  go_wp2_with fail
  refine (disk_Write _ 1 [] (.slice none 0 0) g W R5 w5 HD5.out ⟨none, 0, rfl, by simp, Rd.nil _ _, by simp, by omega, fun _ => rfl⟩ (by simp) 10 awkS S3).mono ?_
  rintro e w6 ⟨R6, rfl, hd6, -, hu6⟩
  have HB6 := hid (Below.trans HB5.out (hu6.below HB5.out.size (fun k _ q => HW.out k q)))
  have HD6 := hid hd6
  clear hd6 hu6
  go_wp2_with fail
  refine (disk_Crash awkS awkS_ok [] 1 3 (.slice none 0 0) g W R6 w6 HD6.out (SlI.nil _) (fun j hj => by simp [Value.ownBlock] at hj)).mono ?_
  rintro e w7 ⟨R7, rfl, hd7, -, hu7⟩
  have HB7 := hid (Below.trans HB6.out (hu7.below HB6.out.size (fun k _ q => HW.out k q)))
  have HD7 := hid hd7
  clear hd7 hu7
  go_wp2_with fail
  refine (disk_Read _ 1 g W R7 w7 HD7.out awkT 0 S4 (by simp [awkT])).mono ?_
  rintro e w8 ⟨v8, rfl, hown, hb8⟩
  have HB8 := hid (Below.next HB7.out hb8)
  have HD8 := hid (HD7.out.below hb8)
  obtain ⟨b8, c8, rfl⟩ := Joins.ownsRow_form hown (by simp [awkT])
  have hc2 : w8.cell? ⟨b8, 2, none⟩ = some (.int .u8 1) := hown.cellAt 2 (by simp [awkT])
  have hc3 : w8.cell? ⟨b8, 3, none⟩ = some (.int .u8 0) := hown.cellAt 3 (by simp [awkT])
  have hlen : awkT.length = 16 := rfl
  rw [hlen]
  clear hown hb8
  go_wp2_with fail
  refine (disk_Commands _ g W R7 w8 HD8.out).mono ?_
  rintro e w9 ⟨rfl, rfl⟩
  rw [S5.out]
  go_wp2_with fail
  go_ret
  exact ⟨rfl, HB8.out⟩
end Go.Proofs.Ytohknblokejldaa
end
