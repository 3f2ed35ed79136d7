/- Joined texts, in this order: Slots5, SealSums, SealFitsLaw, SlotsMath. Each one's first remark says what it proves; no condition beyond those that its theorems name. -/
import Derived.Test.YtohknblokejldaaJLawDiskCopies18
import Derived.Test.YtohknblokejldaaJLawDiskCopies13
import Derived.Lib.SlBytesConst
import Derived.Test.YtohknblokejldaaJLawDiskCopies14
import Derived.Deep.RegionHeld3
section
/- Contract of the package slots: Load. -/
namespace Go.Proofs.Ytohknblokejldaa
open Go.RowKit
open Go.Lib (hid)
set_option linter.unusedVariables false

/-- the better one of two roots -/
def pickB (best : Int × List Int) (i : Int) (b : List UInt8) : Int × List Int := match parseR b with
  | some r => if r.1 % 2 = i ∧ best.1 < r.1 then r else best
  | none => best
def loadN (s : Dk) : Nat → Int × List Int
  | 0 => (0, [])
  | k + 1 => pickB (loadN s k) (k : Int) (dkSector s (k : Int))
def dkLoad (s : Dk) : (Int × List Int) × Int := if s.down = true then ((0, []), 20) else if (loadN s (min 2 s.D.length)).1 = 0 then ((0, []), 14) else (loadN s (min 2 s.D.length), 0)
theorem parse_right {b : List UInt8} {r : Int × List Int} (h : parseR b = some r) : rightR r.1 r.2 = true ∧ bytesR r.1 r.2 (b.length : Int) = some b := by
  unfold parseR at h
  split at h
  · cases h
  · cases hp : partL (b.take (b.length - 8)) with
    | none => rw [hp] at h; cases h
    | some part =>
      rw [hp] at h
      simp only [Option.bind_some] at h
      unfold parseI at h
      split at h
      · rename_i hc
        simp only [Option.some.injEq] at h
        subst h
        exact ⟨hc.2.1, hc.2.2⟩
      · cases h
theorem pickB_bd {best : Int × List Int} {i : Int} {b : List UInt8} (h : 0 ≤ best.1 ∧ best.1 ≤ 1099511627776) : 0 ≤ (pickB best i b).1 ∧ (pickB best i b).1 ≤ 1099511627776 := by
  unfold pickB
  cases hp : parseR b with
  | none => exact h
  | some r =>
    have := right_bd (parse_right hp).1
    simp only
    split
    · exact ⟨by omega, this.2.1⟩
    · exact h
theorem loadN_bd (s : Dk) : ∀ k, 0 ≤ (loadN s k).1 ∧ (loadN s k).1 ≤ 1099511627776
  | 0 => by simp [loadN]
  | k + 1 => pickB_bd (loadN_bd s k)
theorem sector_len {s : Dk} (hok : s.Ok) (k : Nat) (hk : k < s.D.length) : (dkSector s (k : Int)).length = s.size := by
  unfold dkSector
  cases hl : s.C.lookup (k : Int) with
  | some b =>
    have := hok.key ((k : Int), b) (by
      have : ∀ (C : List (Int × List UInt8)), C.lookup (k : Int) = some b → ((k : Int), b) ∈ C := by
        intro C; induction C with
        | nil => intro h; simp at h
        | cons p C ih =>
          intro h
          rw [List.lookup_cons] at h
          split at h
          · rename_i he
            have e1 : (k : Int) = p.1 := by simpa using he
            have e2 : p.2 = b := by simpa using h
            rw [e1, ← e2]
            exact List.mem_cons_self ..
          · exact List.mem_cons_of_mem _ (ih h)
      exact this _ hl)
    simpa using this.2.2
  | none =>
    simp only [Option.getD_none, Int.toNat_natCast]
    have : s.D.getD k [] ∈ s.D := by
      rw [List.getD_eq_getElem?_getD, List.getElem?_eq_getElem hk]
      simp
    exact hok.sec _ this
theorem root_zero (w : World) : True := trivial
set_option maxRecDepth 100000 in
set_option maxHeartbeats 4000000 in
theorem slots_Load (s : Dk) (hok : s.Ok) (g : Nat) (W R : Nat → Prop) (w : World) (h : DiskIs w g W R s) (r : Int × List Int) (er : Int) (hr : Hid (dkLoad s = (r, er))) :
    Calls Try.prog 22 #[.pointer (some ⟨g, 0, none⟩)] w fun en w' => ∃ v, en = .returned (.tuple #[.agg #[.int .i64 r.1, v], .int .i64 er]) ∧ SlI w' v r.2 ∧ Below w.heap.size w w' := by
  have HI0 := hid h
  have HOK := hid hok
  obtain ⟨wb, hwb⟩ : ∃ wb, wb = (w.alloc (.cells #[.int .i64 0, .slice none 0 0] 24)).alloc (.cells #[.int .i64 0, .slice none 0 0] 24) := ⟨_, rfl⟩
  have HWB := hid hwb
  have HKB : Hid (Below w.heap.size w wb) := hid (by rw [hwb]; exact Below.next (Below.new _ _) (Below.new _ _))
  have HR1 : Hid (Blk wb w.heap.size #[.int .i64 0, .slice none 0 0]) := hid (by rw [hwb]; exact Blk.below (Below.new _ _) (Blk.new _ _ _))
  have HR2 : Hid (Blk wb (w.heap.size + 1) #[.int .i64 0, .slice none 0 0]) := hid (by rw [hwb]; have := Blk.new (w.alloc (.cells #[.int .i64 0, .slice none 0 0] 24)) #[.int .i64 0, .slice none 0 0] 24; simpa using this)
  have HI := hid (HI0.out.below HKB.out)
  have hpos := hok.pos
  have hle := hok.le
  obtain ⟨N, hN⟩ : ∃ N : Nat, min 2 s.D.length = N := ⟨_, rfl⟩
  have hNi : (if (s.D.length : Int) < 2 then (s.D.length : Int) else 2) = (N : Int) := by split <;> omega
  have hN1 : 1 ≤ N := by omega
  have hN2 : N ≤ 2 := by omega
  have hN3 : N ≤ s.D.length := by omega
  have h1 := hr.out
  unfold dkLoad at h1
  rw [hN] at h1
  have H1 := hid h1
  clear hwb h hok h1 hr hN
  have HEND : Hid (∀ (x : World) (q : Int × List Int) (qv : Value), r = q → Below w.heap.size w x → (∃ c0 c1, Blk x w.heap.size #[c0, c1]) → SlI x qv q.2 → (∀ k, qv.ownBlock = some k → k ≠ w.heap.size) → ∃ wf, wf = (x.setCell ⟨w.heap.size, 0, none⟩ (.int .i64 q.1)).setCell ⟨w.heap.size, 1, none⟩ qv ∧ Blk wf w.heap.size #[.int .i64 q.1, qv] ∧
      ∃ v, Ending.returned (.tuple #[.agg #[.int .i64 q.1, qv], .int .i64 er]) = .returned (.tuple #[.agg #[.int .i64 r.1, v], .int .i64 er]) ∧ SlI wf v r.2 ∧ Below w.heap.size w wf) := hid (fun x q qv hq hx ⟨c0, c1, hb⟩ hs hne => by
    subst hq
    obtain ⟨wf, hwf, hbf, hu⟩ := set2_of hb (.int .i64 r.1) qv
    exact ⟨wf, hwf, hbf, qv, rfl, hs.upd hu (fun k hk e => hne k hk e), hx.trans (hu.below hx.size (fun k _ e => by omega))⟩)
  have hRR := HR1.out
  cases hd : s.down with
  | true =>
    have h1 := H1.out
    rw [if_pos hd] at h1
    simp only [Prod.mk.injEq] at h1
    obtain ⟨rfl, rfl⟩ := h1
    have HRD : Hid (dkRead s 0 = ([], 20)) := hid (by simp [dkRead, dkCheck, hd])
    have hN4 : (0 : Int) < (N : Int) := by omega
    clear hd hRR
    go_enter Try.func22, Try.ntmps22
    go_wp2_with fail
    rw [← HWB.out]
    refine (disk_Sectors s g W R _ HI.out).mono ?_
    rintro en w' ⟨rfl, rfl⟩
    go_wp2_with fail
    go_loopw [13] (fun v13 wr => v13 = .int .i64 0 ∧ wb = wr) (fun _ _ => 0)
    case atStart => exact ⟨rfl, rfl⟩
    case round =>
      obtain ⟨rfl, rfl⟩ := hrel
      go_wp2_with fail
      refine (disk_Read s 0 g W R wb HI.out [] 20 HRD (by simp)).mono ?_
      rintro en w3 ⟨v3, rfl, -, hb3⟩
      obtain ⟨hy0, hy1, hz0, hz1⟩ := (HR1.out.below hb3).c2
      have HB3 := hid hb3
      clear hb3
      go_wp2_with fail
      obtain ⟨wf, hwf, hblkF, hpost⟩ := HEND.out w3 (0, []) (.slice none 0 0) rfl (Below.next HKB.out HB3.out) ⟨_, _, HR1.out.below HB3.out⟩ (SlI.nil _) (fun k hk => by cases hk)
      rw [← hwf]
      obtain ⟨hF0, hF1, -⟩ := hblkF.c2
      clear hwf hblkF
      (try simp only [Exit.inBlock, Exit.then])
      refine bodyPost_ret (results_cell_tmp rfl _ _ _ rfl (by go_simp; rfl)) rfl ?_
      exact hpost
  | false =>
    have h1 := H1.out
    rw [if_neg (by rw [hd]; simp)] at h1
    have H2 := hid h1
    have HDN := hid hd
    clear hd hRR h1
    go_enter Try.func22, Try.ntmps22
    go_wp2_with fail
    rw [← HWB.out]
    refine (disk_Sectors s g W R _ HI.out).mono ?_
    rintro en w' ⟨rfl, rfl⟩
    go_wp2_with fail
    go_loopw [13] (fun v13 wr => ∃ (k : Nat) (be : Int) (bt : List Int) (bv : Value), v13 = .int .i64 k ∧ k ≤ N ∧ Hid (loadN s k = (be, bt)) ∧ Hid (Blk wr (w.heap.size + 1) #[.int .i64 be, bv]) ∧ Hid (SlI wr bv bt) ∧ Hid (∀ j, bv.ownBlock = some j → w.heap.size + 1 < j) ∧ Hid (Blk wr w.heap.size #[.int .i64 0, .slice none 0 0]) ∧ Hid (Below w.heap.size w wr)) (fun v13 _ => N - (intOf v13).toNat)
    case atStart => exact ⟨0, 0, [], .slice none 0 0, rfl, by omega, hid rfl, HR2, hid (SlI.nil _), hid (fun j hj => by cases hj), HR1, HKB⟩
    case round =>
      obtain ⟨k, be, bt, bv, rfl, hk, HLN, HB2, HBV, HBO, HB1, HBW⟩ := hrel
      obtain ⟨qb, db, rfl, -⟩ := HBV.out
      have hbe := loadN_bd s k
      rw [HLN.out] at hbe
      simp only at hbe
      obtain ⟨hb0, hb1⟩ := hbe
      by_cases hlt : k < N
      · obtain ⟨l, hl⟩ : ∃ l, dkSector s (k : Int) = l := ⟨_, rfl⟩
        have hll : l.length = s.size := by rw [← hl]; exact sector_len HOK.out k (by omega)
        have HLL := hid hll
        have HRD : Hid (dkRead s (k : Int) = (l, 0)) := hid (by
          have : dkCheck s (k : Int) = 0 := by simp [dkCheck, HDN.out]; omega
          simp [dkRead, this, hl])
        obtain ⟨p, hp⟩ : ∃ p, parseR l = p := ⟨_, rfl⟩
        have HPP := hid hp
        have hnext : loadN s (k + 1) = pickB (be, bt) (k : Int) l := by rw [loadN, HLN.out, hl]
        have HNX := hid hnext
        have HSZ := hid HOK.out.sz
        clear hl hll hp hnext
        go_wp2_with fail
        refine (disk_Read s (k : Int) g W R wr (HI0.out.below HBW.out) l 0 HRD (by have := HLL.out; have := HSZ.out; omega)).mono ?_
        rintro en w3 ⟨v3, rfl, hown3, hb3⟩
        have HV3 := hid (ownsRow.slb hown3 (by have := HLL.out; have := HSZ.out; omega))
        have HB3 := hid hb3
        clear hown3 hb3
        go_wp2_with fail
        refine (slots_Parse l v3 w3 HV3.out (by have := HLL.out; have := HSZ.out; omega) p HPP).mono ?_
        rintro en w4 ⟨v4, rfl, hs4, hb4, ho4⟩
        obtain ⟨q4, d4, rfl, -⟩ := id hs4
        have HS4 := hid hs4
        have HB4 := hid (Below.next HB3.out hb4)
        have HO4 : Hid (∀ j, (Value.slice q4 (p.getD (0, [])).2.length d4).ownBlock = some j → w.heap.size + 1 < j) := hid (fun j hj => by have := ho4 j hj; have := HB2.out.lt; have := HB3.out.size; omega)
        clear hs4 hb4 ho4
        obtain ⟨pe, pt, hpe⟩ : ∃ pe pt, p.getD (0, []) = (pe, pt) := ⟨_, _, rfl⟩
        rw [hpe] at HS4 HO4
        simp only [hpe]
        have HPE := hid hpe
        clear hpe
        go_upto_region 9 with fail
        obtain ⟨w5, hw5⟩ : ∃ w5, w5 = w4.alloc (.cells #[.int .i64 pe, .slice q4 pt.length d4] 24) := ⟨_, rfl⟩
        rw [← hw5]
        have HB5 : Hid (Below w4.heap.size w4 w5) := hid (by rw [hw5]; exact Below.new _ _)
        have HX5 : Hid (Blk w5 w4.heap.size #[.int .i64 pe, .slice q4 pt.length d4]) := hid (by rw [hw5]; exact Blk.new _ _ _)
        have HB05 := hid (Below.next HB4.out HB5.out)
        clear hw5
        cases p with
        | none =>
          have HNS : Hid (loadN s (k + 1) = (be, bt)) := hid (by rw [HNX.out, pickB, HPP.out])
          have HB26 := hid (HB2.out.below HB05.out)
          have HBV6 := hid (HBV.out.below HB05.out)
          have HB16 := hid (HB1.out.below HB05.out)
          have HBW6 := hid (Below.next HBW.out HB05.out)
          go_wp2_with fail
          go_roundw
          case rel => exact ⟨k + 1, be, bt, _, by go_num, by omega, HNS, HB26, HBV6, HBO, HB16, HBW6⟩
          case measure => simp [intOf]; omega
        | some r0 =>
          obtain rfl : r0 = (pe, pt) := HPE.out
          have hri := right_bd (parse_right HPP.out).1
          obtain ⟨h1e, h2e, -, -⟩ := hri
          simp only at h1e h2e
          obtain ⟨hx0, hx1, -⟩ := HX5.out.c2
          go_wp2_with fail
          refine (slots_slot pe pt _ w5 (HS4.out.below HB5.out) (by omega)).mono ?_
          rintro en w6 ⟨rfl, hb6⟩
          have HB06 := hid (Below.next HB05.out hb6)
          have HX6 := hid (HX5.out.below hb6)
          have HS6 := hid ((HS4.out.below HB5.out).below hb6)
          have HB26 := hid (HB2.out.below HB06.out)
          have HBV6 := hid (HBV.out.below HB06.out)
          have HB16 := hid (HB1.out.below HB06.out)
          have HBW6 := hid (Below.next HBW.out HB06.out)
          clear hb6 hx0 hx1
          obtain ⟨hx0, hx1, -⟩ := HX6.out.c2
          obtain ⟨hy0, hy1, hz0, hz1⟩ := HB26.out.c2
          by_cases hsl : pe % 2 = (k : Int)
          · have hs2 : (pe % 2 == (k : Int)) = true := by simpa using hsl
            by_cases hgt : be < pe
            · have HNS : Hid (loadN s (k + 1) = (pe, pt)) := hid (by rw [HNX.out, pickB, HPP.out]; simp [hsl, hgt])
              clear hsl
              go_upto_region 11 with fail
              obtain ⟨wz, hwz, hblkZ, huZ⟩ := set2_of HB26.out (.int .i64 pe) (.slice q4 pt.length d4)
              rw [← hwz]
              have HBZ2 := hid hblkZ
              have HBZV : Hid (SlI wz (.slice q4 pt.length d4) pt) := hid (HS6.out.upd huZ (fun j hj e => by have := HO4.out j hj; omega))
              have HBZ1 := hid (HB16.out.upd huZ (fun e => by omega))
              have HBZW : Hid (Below w.heap.size w wz) := hid (HBW6.out.trans (huZ.below HBW6.out.size (fun j _ e => by omega)))
              clear hwz hblkZ huZ hx0 hx1 hy0 hy1 hz0 hz1
              go_wp2_with fail
              go_roundw
              case rel => exact ⟨k + 1, pe, pt, _, by go_num, by omega, HNS, HBZ2, HBZV, HO4, HBZ1, HBZW⟩
              case measure => simp [intOf]; omega
            · have HNS : Hid (loadN s (k + 1) = (be, bt)) := hid (by rw [HNX.out, pickB, HPP.out]; simp [hgt])
              clear hsl
              go_wp2_with fail
              go_roundw
              case rel => exact ⟨k + 1, be, bt, _, by go_num, by omega, HNS, HB26, HBV6, HBO, HB16, HBW6⟩
              case measure => simp [intOf]; omega
          · have hs2 : (pe % 2 == (k : Int)) = false := by simpa using hsl
            have HNS : Hid (loadN s (k + 1) = (be, bt)) := hid (by rw [HNX.out, pickB, HPP.out]; simp [hsl])
            clear hsl
            go_wp2_with fail
            go_roundw
            case rel => exact ⟨k + 1, be, bt, _, by go_num, by omega, HNS, HB26, HBV6, HBO, HB16, HBW6⟩
            case measure => simp [intOf]; omega
      · have hkN : k = N := by omega
        subst hkN
        have h2 := H2.out
        rw [HLN.out] at h2
        simp only at h2
        obtain ⟨hx0, hx1, -⟩ := HB2.out.c2
        obtain ⟨hy0, hy1, hz0, hz1⟩ := HB1.out.c2
        have HBW2 := HBW
        by_cases h0 : be = 0
        · rw [if_pos h0] at h2
          simp only [Prod.mk.injEq] at h2
          obtain ⟨h3, rfl⟩ := h2
          have h02 : (be == 0) = true := by simpa using h0
          have H3 := hid h3
          clear h3
          go_wp2_with fail
          obtain ⟨wf, hwf, hblkF, hpost⟩ := HEND.out wr (0, []) (.slice none 0 0) H3.out.symm HBW2.out ⟨_, _, HB1.out⟩ (SlI.nil _) (fun k hk => by cases hk)
          rw [← hwf]
          obtain ⟨hF0, hF1, -⟩ := hblkF.c2
          clear hwf hblkF
          (try simp only [Exit.inBlock, Exit.then])
          refine bodyPost_ret (results_cell_tmp rfl _ _ _ rfl (by go_simp; rfl)) rfl ?_
          exact hpost
        · rw [if_neg h0] at h2
          simp only [Prod.mk.injEq] at h2
          obtain ⟨h3, rfl⟩ := h2
          have h02 : (be == 0) = false := by simpa using h0
          have H3 := hid h3
          clear h3
          go_wp2_with fail
          obtain ⟨wf, hwf, hblkF, hpost⟩ := HEND.out wr (be, bt) _ H3.out.symm HBW2.out ⟨_, _, HB1.out⟩ HBV.out (fun j hj => by have := HBO.out j hj; omega)
          rw [← hwf]
          obtain ⟨hF0, hF1, -⟩ := hblkF.c2
          clear hwf hblkF
          (try simp only [Exit.inBlock, Exit.then])
          refine bodyPost_ret (results_cell_tmp rfl _ _ _ rfl (by go_simp; rfl)) rfl ?_
          exact hpost
end Go.Proofs.Ytohknblokejldaa
end
section
/- deedholdlaw03.awake; the law SealSums, walked. -/
namespace Go.Proofs.Ytohknblokejldaa
open Go.RowKit
open Go.Lib (hid)
set_option linter.unusedVariables false

/-- the sum of two parts -/
theorem seal_Sum2 (l m : List UInt8) (u v : Value) (g : Nat) (w : World) (hc : w.cell? ⟨g, 0, none⟩ = some u) (hd : w.cell? ⟨g, 1, none⟩ = some v) (hl : SlB w u l) (hm : SlB w v m) :
   Calls Try.prog 92 #[.slice (some ⟨g, 0, none⟩) 2 2] w fun e w' => e = .returned (.int .u32 ((crc (l ++ m) : Nat) : Int)) ∧ Below w.heap.size w w' := by
  have h := seal_Sum [l, m] [u, v] (some ⟨g, 0, none⟩) 2 2 (hid rfl) (by omega) w (fun i hi => by
      simp at hi
      refine ⟨g, 0, rfl, ?_⟩
      match i, hi with
      | 0, _ => exact hc
      | 1, _ => exact hd) rfl (fun i v' m' hv hm' => by
      have hi := (List.getElem?_eq_some_iff.1 hv).1
      simp at hi
      match i, hi with
      | 0, _ => simp at hv hm'; subst hv; subst hm'; exact hl
      | 1, _ => simp at hv hm'; subst hv; subst hm'; exact hm)
  simpa using h

theorem crc_check : crc [49, 50, 51, 52, 53, 54, 55, 56, 57] = 3421780262 := by decide

attribute [local irreducible] crc lowB
end Go.Proofs.Ytohknblokejldaa
end
section
/- The law SealFits, walked. -/
namespace Go.Proofs.Ytohknblokejldaa
open Go.RowKit
open Go.Lib (hid)
set_option linter.unusedVariables false

theorem partL_fitted (l : List UInt8) (size : Nat) (h6 : l.length + 6 ≤ size) (hsz : size ≤ 65536) : partL (fitted l size) = some l := by
  have hlen : (fitted l size).length = size := by
    unfold fitted; rw [List.length_append, lowB_length, fitL_length l size h6]; omega
  obtain ⟨q, hq⟩ : ∃ q, fitted l size = UInt8.ofNat (l.length % 256) :: UInt8.ofNat (l.length / 256 % 256) :: (l ++ q) := by
    refine ⟨List.replicate (size - 6 - l.length) 0 ++ lowB (crc (fitL l size)) 4, ?_⟩
    unfold fitted
    generalize lowB (crc (fitL l size)) 4 = z
    unfold fitL
    simp [lowB]
  have hn : partN (fitted l size) = l.length := by
    rw [hq]; unfold partN
    simp
    omega
  have hx : ((fitted l size).drop 2).take l.length = l := by
    rw [hq]; simp
  unfold partL
  rw [hlen, hn, hx, if_pos ⟨by omega, hsz, h6, rfl⟩]

attribute [local irreducible] crc lowB
end Go.Proofs.Ytohknblokejldaa
end
section
/- The plain laws of slots. -/
namespace Go.Proofs.Ytohknblokejldaa
open Go.RowKit
open Go.Lib (hid)
set_option linter.unusedVariables false

theorem bytesR_form {e : Int} {l : List Int} {size : Int} {b : List UInt8} (hb : bytesR e l size = some b) : 14 ≤ size ∧ size ≤ 65544 ∧ (plainR e l).length + 14 ≤ size.toNat ∧ b = fitted (plainR e l) (size.toNat - 8) ++ be8 e ∧ b.length = size.toNat := by
  unfold bytesR at hb
  split at hb
  · cases hb
  · simp only [Option.some.injEq] at hb
    have e1 : (size - 8).toNat = size.toNat - 8 := by omega
    rw [e1] at hb
    refine ⟨by omega, by omega, by omega, hb.symm, ?_⟩
    rw [← hb, List.length_append, be8_len]
    unfold fitted
    rw [List.length_append, lowB_length, fitL_length _ _ (by omega)]
    omega
theorem parse_bytes {e : Int} {l : List Int} {size : Int} {b : List UInt8} (hr : rightR e l = true) (hb : bytesR e l size = some b) : parseR b = some (e, l) ∧ (b.length : Int) = size := by
  obtain ⟨h1, h2, h3, h4, h5⟩ := bytesR_form hb
  obtain ⟨q1, q2, q3, q4⟩ := right_bd hr
  have hlen : (b.length : Int) = size := by omega
  refine ⟨?_, hlen⟩
  unfold parseR
  rw [if_neg (by omega)]
  have ht : b.take (b.length - 8) = fitted (plainR e l) (size.toNat - 8) := by
    have : b.length - 8 = (fitted (plainR e l) (size.toNat - 8)).length := by
      have := congrArg List.length h4
      rw [List.length_append, be8_len] at this
      omega
    rw [this, h4, List.take_left]
  rw [ht, partL_fitted _ _ (by omega) (by omega), Option.bind_some]
  have hi : inInt (some (plainR e l)) = (e, some (enc (zz (l.length : Int)) ++ encs l)) := by
    unfold plainR
    rw [List.append_assoc]
    exact inInt_enc e (by omega) (by omega) _
  have hii : inInts 64 (some (enc (zz (l.length : Int)) ++ encs l)) = (l, some []) := inInts_enc 64 l (fun x hx => by have := q4 x hx; omega) (by omega) (by omega)
  rw [parseI_eq hi hii, hlen, if_pos ⟨rfl, hr, hb⟩]
theorem set_mix (D : List (List UInt8)) (k : Nat) (b : List UInt8) : mixF (fun _ b _ => b) D (aput [] (k : Int) b) [] = D.set k b := by
  apply List.ext_getElem?
  intro i
  rw [mixF_at, List.getElem?_set]
  by_cases hik : k = i
  · subst hik
    rw [if_pos rfl]
    cases hd : D[k]? with
    | none => simp [List.getElem?_eq_none_iff.1 hd]
    | some d =>
      have := (List.getElem?_eq_some_iff.1 hd).1
      simp [this, aput, adel]
  · rw [if_neg hik]
    have h2 : ((i : Int) == (k : Int)) = false := by simp; omega
    cases hd : D[i]? with
    | none => rfl
    | some d => simp [aput, adel, List.lookup, h2]
/-- a root is saved on a disk whose cache is empty, and whose power stays -/
theorem save_plain (s : Dk) (hok : s.Ok) (hd : s.down = false) (ha : s.armed = false) (hC : s.C = []) (h2 : 2 ≤ s.D.length) {e : Int} {l : List Int} {b : List UInt8} (hr : rightR e l = true) (hb : bytesR e l (s.size : Int) = some b) :
    ∃ d, dkSave s e l = (0, { s with D := s.D.set (e % 2).toNat b, C := [], done := d }) := by
  obtain ⟨q1, q2, -, -⟩ := right_bd hr
  have hbl := (bytesR_form hb).2.2.2.2
  have hbl2 : b.length = s.size := by omega
  have ho : outB e l (s.size : Int) = (b, 0) := by unfold outB; rw [if_pos hr, hb]
  have hck : dkCheck s (e % 2) = 0 := by unfold dkCheck; rw [hd, if_neg (by simp), if_neg (by omega)]
  unfold dkSave
  rw [ho]
  simp only [ne_eq, not_true_eq_false, if_false]
  rw [if_neg (by omega)]
  obtain ⟨k, hk⟩ : ∃ k : Nat, e % 2 = (k : Int) := ⟨(e % 2).toNat, by omega⟩
  have hw : dkWrite s (e % 2) b = (0, { s with C := aput [] (k : Int) b, done := wrap64 (s.done + 1) }) := by
    unfold dkWrite
    rw [hck]
    simp [hbl2, dkCommand, ha, hC, hk]
  rw [hw]
  simp only [ne_eq, not_true_eq_false, if_false]
  refine ⟨wrap64 (wrap64 (s.done + 1) + 1), ?_⟩
  unfold dkFlush
  simp only [hd, Bool.false_eq_true, if_false]
  simp only [dkCommand, ha, Bool.false_eq_true, if_false, ne_eq, not_true_eq_false]
  rw [flushD, hk, Int.toNat_natCast]
  simp only
  rw [set_mix]

theorem Dk.Ok.setD {s : Dk} (h : s.Ok) (k : Nat) {b : List UInt8} (hb : b.length = s.size) (d : Int) : Dk.Ok { s with D := s.D.set k b, C := [], done := d } := by
  refine ⟨fun p hp => by simp at hp, fun x hx => ?_, by simpa using h.pos, by simpa using h.le, h.sz, h.sz0⟩
  rcases List.mem_or_eq_of_mem_set hx with h1 | h1
  · exact h.sec x h1
  · rw [h1]; exact hb
theorem dkNew_ok (n size : Nat) (h1 : 1 ≤ n) (h2 : n ≤ 4096) (h3 : 16 ≤ size) (h4 : size ≤ 4096) : (dkNew n size).Ok := by
  refine ⟨fun p hp => by simp [dkNew] at hp, fun x hx => ?_, by simp [dkNew]; omega, by simp [dkNew]; omega, h4, h3⟩
  simp [dkNew] at hx
  rw [hx.2]; simp [dkNew]
theorem small_bytes (e x : Int) (he1 : 1 ≤ e) (he : e ≤ 63) (hx0 : 0 ≤ x) (hx : x ≤ 63) (size : Int) (h1 : 20 ≤ size) (h2 : size ≤ 65544) : rightR e [x] = true ∧ ∃ b, bytesR e [x] size = some b := by
  have hl : (plainR e [x]).length = 3 := by
    have z1 : zz e < 128 := by unfold zz; split <;> omega
    have z2 : zz x < 128 := by unfold zz; split <;> omega
    have z3 : zz (([x] : List Int).length : Int) < 128 := by show zz 1 < 128; decide
    unfold plainR
    rw [encs, encs, enc_small _ z1, enc_small _ z2, enc_small _ z3]
    rfl
  refine ⟨?_, ?_⟩
  · unfold rightR badN
    simp; omega
  · unfold bytesR
    rw [hl, if_neg (by omega)]
    exact ⟨_, rfl⟩
/-- two roots, one behind the other, on a new disk -/
theorem awake06 : ∃ s1 s2 : Dk, dkSave (dkNew 3 64) 1 [5] = (0, s1) ∧ s1.Ok ∧ dkSave s1 2 [6] = (0, s2) ∧ s2.Ok ∧ dkLoad s2 = ((2, [6]), 0) ∧ dkSave s2 0 [] = (10, s2) := by
  obtain ⟨r1, b1, hb1⟩ := small_bytes 1 5 (by omega) (by omega) (by omega) (by omega) 64 (by omega) (by omega)
  obtain ⟨r2, b2, hb2⟩ := small_bytes 2 6 (by omega) (by omega) (by omega) (by omega) 64 (by omega) (by omega)
  have l1 : b1.length = 64 := (bytesR_form hb1).2.2.2.2
  have l2 : b2.length = 64 := (bytesR_form hb2).2.2.2.2
  have ok0 := dkNew_ok 3 64 (by omega) (by omega) (by omega) (by omega)
  obtain ⟨d1, h1⟩ := save_plain (dkNew 3 64) ok0 rfl rfl rfl (by simp [dkNew]) r1 hb1
  have ok1 := ok0.setD (1 % 2 : Int).toNat (b := b1) l1 d1
  obtain ⟨d2, h2⟩ := save_plain _ ok1 rfl rfl rfl (by simp [dkNew]) r2 hb2
  have ok2 := ok1.setD (2 % 2 : Int).toNat (b := b2) l2 d2
  refine ⟨_, _, h1, ok1, h2, ok2, ?_, ?_⟩
  · have p1 := (parse_bytes r1 hb1).1
    have p2 := (parse_bytes r2 hb2).1
    unfold dkLoad
    simp [dkNew, loadN, dkSector, pickB, p1, p2, List.lookup]
  · unfold dkSave
    have : outB 0 [] 64 = ([], 10) := by unfold outB; rw [if_neg]; decide
    simp [dkNew, this]
end Go.Proofs.Ytohknblokejldaa
end
