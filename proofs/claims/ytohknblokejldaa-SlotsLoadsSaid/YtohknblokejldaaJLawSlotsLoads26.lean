/- Joined texts, in this order: SlotsLoadsLaw. Each one's first remark says what it proves; no condition beyond those that its theorems name. -/
import Derived.Test.YtohknblokejldaaJLawSlotsLoads23
import Derived.Test.YtohknblokejldaaJLawSlotsLoads25
import Derived.Deep.QuietTactic
import Derived.BigQuiet
section
/- The law SlotsLoads, walked. -/
namespace Go.Proofs.Ytohknblokejldaa
open Go.RowKit Go.ChangeShapes Go.WideShapes Go.Deep Go.Joins
open Go.Lib (hid)
set_option linter.unusedVariables false

/-- two sectors in an array in memory -/
def Own8 (w : World) (B : Nat) (v : Value) (l : List UInt8) : Prop := w.ownsRow B 5 1 v l.length (bv l)
structure Two (w : World) (x B : Nat) (v0 v1 : Value) (l0 l1 : List UInt8) : Prop where
  blk : Blk w x #[v0, v1]
  o0 : Own8 w B v0 l0
  o1 : Own8 w B v1 l1
  off : x < B
  ne : ∀ k, v0.ownBlock = some k → v1.ownBlock ≠ some k
theorem Two.below {w w' : World} {x B : Nat} {v0 v1 : Value} {l0 l1 : List UInt8} (h : Two w x B v0 v1 l0 l1) (hb : Below w.heap.size w w') : Two w' x B v0 v1 l0 l1 :=
  ⟨h.blk.below hb, owns_below h.o0 hb, owns_below h.o1 hb, h.off, h.ne⟩
theorem Two.put0 {w : World} {x B : Nat} {v0 v1 v : Value} {l0 l1 l : List UInt8} (h : Two w x B v0 v1 l0 l1) (ho : Own8 w B v l) (hne : ∀ k, v.ownBlock = some k → v1.ownBlock ≠ some k) : Two (w.setCell ⟨x, 0, none⟩ v) x B v v1 l l1 :=
  ⟨by simpa using h.blk.set 0 v, ownsRow_setCell_below ho h.off v, ownsRow_setCell_below h.o1 h.off v, h.off, hne⟩
theorem Two.put1 {w : World} {x B : Nat} {v0 v1 v : Value} {l0 l1 l : List UInt8} (h : Two w x B v0 v1 l0 l1) (ho : Own8 w B v l) (hne : ∀ k, v0.ownBlock = some k → v.ownBlock ≠ some k) : Two (w.setCell ⟨x, 1, none⟩ v) x B v0 v l0 l :=
  ⟨by simpa using h.blk.set 1 v, ownsRow_setCell_below h.o0 h.off v, ownsRow_setCell_below ho h.off v, h.off, hne⟩
theorem bv_set (l : List UInt8) (j : Nat) (u : UInt8) : bv (l.set j u) = (bv l).set j (.int .u8 u.toNat) := by simp [bv, List.map_set]
theorem Own8.set {w : World} {B g c : Nat} {l : List UInt8} (h : Own8 w B (.slice (some ⟨g, 0, none⟩) 256 c) l) (hl : l.length = 256) (j : Nat) (u : UInt8) :
    Own8 (w.setCell ⟨g, j, none⟩ (.int .u8 u.toNat)) B (.slice (some ⟨g, 0, none⟩) 256 c) (l.set j u) := by
  unfold Own8 at h ⊢
  rw [List.length_set, hl, bv_set]
  rw [hl] at h
  exact (h.stored j _).1
theorem Two.flip0 {w : World} {x B g c : Nat} {v1 : Value} {l0 l1 : List UInt8} (h : Two w x B (.slice (some ⟨g, 0, none⟩) 256 c) v1 l0 l1) (hl : l0.length = 256) (j : Nat) (u : UInt8) :
    Two (w.setCell ⟨g, j, none⟩ (.int .u8 u.toNat)) x B (.slice (some ⟨g, 0, none⟩) 256 c) v1 (l0.set j u) l1 :=
  ⟨h.blk.upd (Upd.setCell w g j _) (fun q => by have := (World.ownsRow.lt h.o0 g rfl).1; have := h.off; omega), h.o0.set hl j u, ownsRow_setCell_other h.o1 (h.ne g rfl) _, h.off, h.ne⟩
theorem Two.flip1 {w : World} {x B g c : Nat} {v0 : Value} {l0 l1 : List UInt8} (h : Two w x B v0 (.slice (some ⟨g, 0, none⟩) 256 c) l0 l1) (hl : l1.length = 256) (j : Nat) (u : UInt8) :
    Two (w.setCell ⟨g, j, none⟩ (.int .u8 u.toNat)) x B v0 (.slice (some ⟨g, 0, none⟩) 256 c) l0 (l1.set j u) :=
  ⟨h.blk.upd (Upd.setCell w g j _) (fun q => by have := (World.ownsRow.lt h.o1 g rfl).1; have := h.off; omega), ownsRow_setCell_other h.o0 (fun q => h.ne g q rfl) _, h.o1.set hl j u, h.off, h.ne⟩
theorem modify_set (l : List UInt8) (j : Nat) (x : UInt8) (h : l[j]? = some x) : l.modify j (· ^^^ 1) = l.set j (x ^^^ 1) := by
  apply List.ext_getElem?
  intro i
  rw [List.getElem?_modify, List.getElem?_set]
  by_cases hi : j = i
  · subst hi
    obtain ⟨h1, h2⟩ := List.getElem?_eq_some_iff.1 h
    simp [h1, h2]
  · simp [hi]
-- WALK
theorem Own8.slb {w : World} {B : Nat} {v : Value} {l : List UInt8} (h : Own8 w B v l) (hl : l.length = 256) : SlB w v l := ownsRow.slb h (by omega)
theorem Own8.cell {w : World} {B g c : Nat} {l : List UInt8} (h : Own8 w B (.slice (some ⟨g, 0, none⟩) 256 c) l) (hl : l.length = 256) {j : Nat} {u : UInt8} (hu : l[j]? = some u) : w.cell? ⟨g, j, none⟩ = some (.int .u8 (u.toNat : Int)) ∧ w.frozen? ⟨g, j, none⟩ = false := by
  unfold Own8 at h
  rw [hl] at h
  have hj : j < l.length := (List.getElem?_eq_some_iff.1 hu).1
  exact ⟨by rw [h.cellAt j (by omega)]; simp [bv, hu], h.frozenAt j⟩
theorem Two.upd {S : Nat → Prop} {w w' : World} {x B : Nat} {v0 v1 : Value} {l0 l1 : List UInt8} (h : Two w x B v0 v1 l0 l1) (hu : Upd S w w') (hx : ¬ S x) (h0 : ∀ k, v0.ownBlock = some k → ¬ S k) (h1 : ∀ k, v1.ownBlock = some k → ¬ S k) : Two w' x B v0 v1 l0 l1 :=
  ⟨h.blk.upd hu hx, hu.owns h.o0 h0, hu.owns h.o1 h1, h.off, h.ne⟩
theorem Blk.c4 {w : World} {g : Nat} {a b c d : Value} (h : Blk w g #[a, b, c, d]) : w.cell? ⟨g, 0, none⟩ = some a ∧ w.cell? ⟨g, 1, none⟩ = some b ∧ w.cell? ⟨g, 2, none⟩ = some c ∧ w.cell? ⟨g, 3, none⟩ = some d :=
  ⟨by rw [h.cell]; rfl, by rw [h.cell]; rfl, by rw [h.cell]; rfl, by rw [h.cell]; rfl⟩
def LenP (turned : Bool) (k : Nat) (l0 l1 : List UInt8) : Prop := (k = 0) ∨ (k = 1 ∧ (if turned then l1 else l0).length = 256) ∨ (k = 2 ∧ l0.length = 256 ∧ l1.length = 256)
theorem LenP.one {t : Bool} {l0 l1 : List UInt8} (h : LenP t 1 l0 l1) : (if t then l1 else l0).length = 256 := by
  rcases h with h | h | h
  · omega
  · exact h.2
  · omega
def L3 (g g0 g1 c0 c1 x tb : Nat) (W : Nat → Prop) (wL : World) (l0 l1 : List UInt8) (s1 s2 : Dk) (v102 : Value) (wr : World) : Prop := ∃ (k : Nat) (s : Dk) (be : Int) (bt : List Int) (bv : Value) (Rk : Nat → Prop), v102 = .int .i64 k ∧ k ≤ 2 ∧ Hid ((k = 0 ∧ s = dkNew 4 256 ∧ (be, bt) = ((0 : Int), ([] : List Int))) ∨ (k = 1 ∧ s = s1 ∧ (be, bt) = pickB (0, []) 0 l0) ∨ (k = 2 ∧ s = s2 ∧ (be, bt) = best2 l0 l1)) ∧ Hid (DiskIs wr g W Rk s) ∧ Hid (¬ Rk tb) ∧ Hid (Blk wr tb #[.int .i64 be, bv]) ∧ Hid (SlI wr bv bt) ∧ Hid (∀ j, bv.ownBlock = some j → tb < j) ∧ Hid (Two wr x (x + 2) (.slice (some ⟨g0, 0, none⟩) 256 c0) (.slice (some ⟨g1, 0, none⟩) 256 c1) l0 l1) ∧ Hid (Upd (fun j => W j ∨ j = tb) wL wr)
set_option maxRecDepth 100000 in
set_option maxHeartbeats 16000000 in
theorem law06_Loads (ea eb : Int) (la lb zs : List Int) (va vb vz : Value) (turned : Bool) (w : World) (ha : SlI w va la) (hb : SlI w vb lb) (hz : SlI w vz zs) (hwz : ∀ x ∈ zs, (Lit.int .i64 x).wf = true) :
    Calls Try.prog 5 #[.agg #[.int .i64 ea, va], .agg #[.int .i64 eb, vb], .agg #[.bool turned, vz]] w fun en w' => en = .returned (.bool true) ∧ Below w.heap.size w w' := by
  have HA0 := hid ha
  have HB0 := hid hb
  have HZ0 := hid hz
  have HWZ := hid hwz
  obtain ⟨qa, ca, rfl, -, g1, g2, -⟩ := ha
  obtain ⟨qb, cb, rfl, -, g3, g4, -⟩ := hb
  obtain ⟨qz, cz, rfl, -, g5, g6, -⟩ := hz
  have la63 : la.length ≤ 9223372036854775807 := by omega
  have lb63 : lb.length ≤ 9223372036854775807 := by omega
  have lz63 : zs.length ≤ 9223372036854775807 := by omega
  clear g1 g2 g3 g4 g5 g6 hwz
  obtain ⟨wb, hwb⟩ : ∃ wb, wb = ((w.alloc (.cells #[.int .i64 ea, .slice qa la.length ca] 24)).alloc (.cells #[.int .i64 eb, .slice qb lb.length cb] 24)).alloc (.cells #[.bool turned, .slice qz zs.length cz] 39) := ⟨_, rfl⟩
  have HWB := hid hwb
  have HKB : Hid (Below w.heap.size w wb) := hid (by rw [hwb]; exact Below.next (Below.next (Below.new _ _) (Below.new _ _)) (Below.new _ _))
  have HX0 : Hid (Blk wb w.heap.size #[.int .i64 ea, .slice qa la.length ca]) := hid (by rw [hwb]; exact Blk.below (Below.new _ _) (Blk.below (Below.new _ _) (Blk.new _ _ _)))
  have HX1 : Hid (Blk wb (w.heap.size + 1) #[.int .i64 eb, .slice qb lb.length cb]) := hid (by rw [hwb]; have := Blk.below (Below.new _ (.cells #[.bool turned, .slice qz zs.length cz] 39)) (Blk.new (w.alloc (.cells #[.int .i64 ea, .slice qa la.length ca] 24)) #[.int .i64 eb, .slice qb lb.length cb] 24); simpa using this)
  have HX2 : Hid (Blk wb (w.heap.size + 1 + 1) #[.bool turned, .slice qz zs.length cz]) := hid (by rw [hwb]; have := Blk.new ((w.alloc (.cells #[.int .i64 ea, .slice qa la.length ca] 24)).alloc (.cells #[.int .i64 eb, .slice qb lb.length cb] 24)) #[.bool turned, .slice qz zs.length cz] 39; simpa using this)
  clear hwb
  obtain ⟨hq0, hq1, -⟩ := HX2.out.c2
  go_enter Try.func5, Try.ntmps5
  go_wp2_with fail
  rw [← HWB.out]
  go_quiet (fail)
  have hbc : Below wb.heap.size wb (wb.drewN nq) := ⟨rfl, rfl, rfl, Nat.le_refl _, fun _ _ => rfl⟩
  obtain ⟨wc, hwc⟩ : ∃ wc, wc = wb.drewN nq := ⟨_, rfl⟩
  rw [← hwc] at hbc ⊢
  have HBC := hid (Below.next HKB.out hbc)
  have HX0c := hid (HX0.out.below hbc)
  have HX1c := hid (HX1.out.below hbc)
  clear hwc hbc hq0 hq1
  obtain ⟨hx0, hx1, -⟩ := HX0c.out.c2
  obtain ⟨hy0, hy1, -⟩ := HX1c.out.c2
  have hsm : 80 < la.length ∨ (la.length ≤ 80 ∧ 80 < lb.length) ∨ (la.length ≤ 80 ∧ lb.length ≤ 80 ∧ 10 < zs.length) ∨ (la.length ≤ 80 ∧ lb.length ≤ 80 ∧ zs.length ≤ 10) := by omega
  rcases hsm with h1 | ⟨h1, h2⟩ | ⟨h1, h2, h3⟩ | ⟨h1, h2, h3⟩
  · have q1 : (80 : Int) < (la.length : Int) := by omega
    go_wp2_with fail
    refine (law06_awake _).mono ?_
    rintro en w4 ⟨rfl, hb4⟩
    have HB4 := hid (Below.next HBC.out hb4)
    clear hb4
    go_wp2_with fail
    go_ret
    exact ⟨rfl, HB4.out⟩
  · have q1 : ¬ (80 : Int) < (la.length : Int) := by omega
    have q2 : (80 : Int) < (lb.length : Int) := by omega
    go_wp2_with fail
    refine (law06_awake _).mono ?_
    rintro en w4 ⟨rfl, hb4⟩
    have HB4 := hid (Below.next HBC.out hb4)
    clear hb4
    go_wp2_with fail
    go_ret
    exact ⟨rfl, HB4.out⟩
  · have q1 : ¬ (80 : Int) < (la.length : Int) := by omega
    have q2 : ¬ (80 : Int) < (lb.length : Int) := by omega
    have q3 : (10 : Int) < (zs.length : Int) := by omega
    go_wp2_with fail
    refine (law06_awake _).mono ?_
    rintro en w4 ⟨rfl, hb4⟩
    have HB4 := hid (Below.next HBC.out hb4)
    clear hb4
    go_wp2_with fail
    go_ret
    exact ⟨rfl, HB4.out⟩
  · have q1 : ¬ (80 : Int) < (la.length : Int) := by omega
    have q2 : ¬ (80 : Int) < (lb.length : Int) := by omega
    have q3 : ¬ (10 : Int) < (zs.length : Int) := by omega
    go_wp2_with fail
    refine (disk_New 4 256 (by omega) (by omega) (by omega) (by omega) _).mono ?_
    rintro en w3 ⟨g, W, R, rfl, hi, hW, -, hb3⟩
    have HI3 := hid hi
    have HW := hid hW
    have HB3 := hid (Below.next HBC.out hb3)
    have HX0d := hid (HX0c.out.below hb3)
    have HX1d := hid (HX1c.out.below hb3)
    clear hi hW hb3 hx0 hx1 hy0 hy1 q1 q2 q3
    obtain ⟨hx0, hx1, -⟩ := HX0d.out.c2
    obtain ⟨hy0, hy1, -⟩ := HX1d.out.c2
    go_upto_region 8 with fail
    obtain ⟨x, hx⟩ : ∃ x, x = w3.heap.size := ⟨_, rfl⟩
    obtain ⟨wx, hwx⟩ : ∃ wx, wx = w3.alloc (.cells #[.slice none 0 0, .slice none 0 0] 42) := ⟨_, rfl⟩
    rw [← hwx, ← hx]
    have hbx : Below w3.heap.size w3 wx := by rw [hwx]; exact Below.new _ _
    have hszx : wx.heap.size = x + 1 := by rw [hwx, hx]; simp
    have hblx : Blk wx x #[.slice none 0 0, .slice none 0 0] := by rw [hwx, hx]; exact Blk.new w3 _ _
    have HSZX := hid hszx
    have HBLX := hid hblx
    have HBX := hid hbx
    clear hx0 hx1 hy0 hy1 hwx hszx hblx
    obtain ⟨hx0, hx1, -⟩ := (HX0d.out.below hbx).c2
    obtain ⟨hy0, hy1, -⟩ := (HX1d.out.below hbx).c2
    clear hbx
    have HXE := hid hx
    clear hx
    go_upto_region 9 with fail
    rw [HSZX.out]
    obtain ⟨w4, hw4⟩ : ∃ w4, w4 = wx.alloc (.cells #[.int .i64 ea, .slice qa la.length ca, .int .i64 eb, .slice qb lb.length cb] 24) := ⟨_, rfl⟩
    rw [← hw4]
    have hx := HXE.out
    have hsz4 : w4.heap.size = x + 2 := by rw [hw4]; simp [HSZX.out]
    have hb4 : Below w3.heap.size w3 w4 := by rw [hw4]; exact Below.next HBX.out (Below.new _ _)
    have HXX : Hid (Blk w4 x #[.slice none 0 0, .slice none 0 0]) := hid (by rw [hw4]; exact Blk.below (Below.new _ _) HBLX.out)
    have HXB : Hid (Blk w4 (x + 1) #[.int .i64 ea, .slice qa la.length ca, .int .i64 eb, .slice qb lb.length cb]) := hid (by
      rw [hw4, ← HSZX.out]
      have h := Blk.new wx #[.int .i64 ea, .slice qa la.length ca, .int .i64 eb, .slice qb lb.length cb] 24
      simpa using h)
    have HBW : Hid (Below w.heap.size w w4) := hid (Below.next HB3.out hb4)
    have HWL : Hid (∀ k, W k → k < x) := hid (by rw [hx]; obtain ⟨b, dv, V, M, h⟩ := HI3.out; exact h.wlt)
    have HD4 := hid (HI3.out.below hb4)
    have HXW : Hid (w.heap.size ≤ x) := hid (by rw [hx]; exact HB3.out.size)
    have HWO : Hid (∀ k, W k → w.heap.size ≤ k) := hid (fun k hk => Nat.le_trans HBC.out.size (HW.out k hk))
    have HA := hid (HA0.out.below HBW.out)
    have HB := hid (HB0.out.below HBW.out)
    have HZ := hid (HZ0.out.below HBW.out)
    have HAW : Hid (∀ k, (Value.slice qa la.length ca).ownBlock = some k → la = [] ∨ k < w.heap.size) := hid HA0.out.lt
    have HBW2 : Hid (∀ k, (Value.slice qb lb.length cb).ownBlock = some k → lb = [] ∨ k < w.heap.size) := hid HB0.out.lt
    have HZW : Hid (∀ k, (Value.slice qz zs.length cz).ownBlock = some k → zs = [] ∨ k < w.heap.size) := hid HZ0.out.lt
    have HSZ4 := hid hsz4
    have HRT4 : Hid (∀ (R' : Nat → Prop) (z : World), DiskIs z g W R' (dkNew 4 256) → True) := hid (fun _ _ _ => trivial)
    have HTW : Hid (Two w4 x (x + 2) (.slice none 0 0) (.slice none 0 0) [] []) := hid ⟨HXX.out, World.ownsRow_nil _ _ _ _, World.ownsRow_nil _ _ _ _, by omega, fun k hk => by simp [Value.ownBlock] at hk⟩
    have HR4 : Hid (∀ k, R k → k < x) := hid (by rw [hx]; obtain ⟨b, dv, V, M, h⟩ := HI3.out; exact h.rlt)
    clear hw4 hb4 hx0 hx1 hy0 hy1 hsz4
    clear hx
    go_loopw [51] (fun v51 wr => ∃ (k : Nat) (v0 v1 : Value) (l0 l1 : List UInt8), v51 = .int .i64 k ∧ k ≤ 2 ∧ Hid (Two wr x (x + 2) v0 v1 l0 l1) ∧ Hid (LenP turned k l0 l1) ∧ Hid (Upd (fun j => j = x) w4 wr)) (fun v51 _ => 2 - (intOf v51).toNat)
    case atStart => exact ⟨0, _, _, [], [], rfl, by omega, HTW, hid (.inl rfl), hid (Upd.refl _ _)⟩
    case round =>
      clear HTW
      obtain ⟨k, v0, v1, l0, l1, rfl, hk, HT, HLN, HU⟩ := hrel
      obtain ⟨hr0, hr1, hr2, hr3⟩ := Blk.c4 (HXB.out.upd HU.out (fun q => by omega))
      have hcs : (turned = false ∧ k = 0) ∨ (turned = false ∧ k = 1) ∨ (turned = true ∧ k = 0) ∨ (turned = true ∧ k = 1) ∨ k = 2 := by cases turned <;> simp <;> omega
      rcases hcs with ⟨rfl, rfl⟩ | ⟨rfl, rfl⟩ | ⟨rfl, rfl⟩ | ⟨rfl, rfl⟩ | hk2
      · -- turned False, root 0 goes to 0
        go_upto_region 11 with fail
        obtain ⟨w5, hw5⟩ : ∃ w5, w5 = wr.alloc (.cells #[.int .i64 ea, .slice qa la.length ca] 24) := ⟨_, rfl⟩
        rw [← hw5]
        have HB5 : Hid (Below wr.heap.size wr w5) := hid (by rw [hw5]; exact Below.new _ _)
        have HX5 : Hid (Blk w5 wr.heap.size #[.int .i64 ea, .slice qa la.length ca]) := hid (by rw [hw5]; exact Blk.new _ _ _)
        have HT5 := hid (HT.out.below HB5.out)
        have HU5 : Hid (Upd (fun j => j = x) w4 w5) := hid (HU.out.trans (Upd.of_below (S := fun _ => False) HB5.out) (fun _ _ q => q.elim))
        have HXR := hid HT.out.blk.lt
        clear hw5 hr0 hr1 hr2 hr3
        go_upto_region 14 with fail
        have hle5 : x + 2 ≤ w5.heap.size := by have := HU5.out.size; have := HSZ4.out; omega
        obtain ⟨hx0, hx1, hz0, hz1⟩ := HT5.out.blk.c2
        go_upto_region 15 with (at_make; refine wpList_make T_bytes rfl _ rfl _ _ rfl (x + 2) _ _ _ _ 256 256 rfl rfl rfl rfl (Nat.le_refl _) (by omega) hle5 ?_; intro w6 hown6 hgr6; have hb6 := (Upd.of_grown hgr6).below (Nat.le_refl _) (fun _ _ q => by cases q); clear hx0 hx1 hz0 hz1; obtain ⟨hx0, hx1, hz0, hz1⟩ := (HT5.out.blk.below hb6).c2)
        have hown7 : Own8 w6 (x + 2) (.slice (some ⟨w5.heap.size, 0, none⟩) 256 256) z256 := by unfold Own8; rw [z256_len, show bv z256 = List.replicate 256 (.int .u8 0) from by simp [bv, z256]]; exact hown6
        have HT6 := hid (HT5.out.below hb6)
        have HT7 := hid (HT6.out.put0 hown7 (fun k hk => by have e : w5.heap.size = k := (by simpa [Value.ownBlock] using hk); intro h; have := World.ownsRow.lt HT5.out.o1 k h; omega))
        have HX6 := hid (HX5.out.below hb6)
        have HX7 := hid (HX6.out.upd (Upd.setCell w6 x 0 (.slice (some ⟨w5.heap.size, 0, none⟩) 256 256)) (fun q => by have := HXR.out; omega))
        have HU7 : Hid (Upd (fun j => j = x) w4 (w6.setCell ⟨x, 0, none⟩ (.slice (some ⟨w5.heap.size, 0, none⟩) 256 256))) := hid ((HU5.out.trans (Upd.of_below (S := fun _ => False) hb6) (fun _ _ q => q.elim)).trans (Upd.setCell w6 x 0 _) (fun _ _ q => q))
        obtain ⟨w7, hw7⟩ : ∃ w7, w7 = w6.setCell ⟨x, 0, none⟩ (.slice (some ⟨w5.heap.size, 0, none⟩) 256 256) := ⟨_, rfl⟩
        rw [← hw7] at HT7 HX7 HU7 ⊢
        clear hx0 hx1 hz0 hz1 hw7 hown6 hown7 hgr6 hb6 hle5
        obtain ⟨hy0, hy1, -⟩ := HX7.out.c2
        have HS7 := hid (HA.out.updE HU7.out (fun k hk => (HAW.out k hk).imp id (fun q e => by have := HXW.out; omega)))
        obtain ⟨rb, hrb⟩ : ∃ rb, rightR ea la = rb := ⟨_, rfl⟩
        have HRB := hid hrb
        clear hrb
        go_wp2_with fail
        refine (ref06_Right ea la _ w7 HS7.out rb HRB).mono ?_
        rintro en w' ⟨rfl, rfl⟩
        cases rb with
        | false =>
          go_wp2_with fail
          go_roundw
          case rel => exact ⟨1, _, v1, z256, l1, by go_num, by omega, HT7, hid (.inr (.inl ⟨rfl, by simpa using z256_len⟩)), HU7⟩
          case measure => simp [intOf]
        | true =>
          obtain ⟨g1, g2, -, -⟩ := right_bd HRB.out
          obtain ⟨n, rfl⟩ : ∃ n : Nat, ea = (n : Int) := ⟨ea.toNat, by omega⟩
          obtain ⟨bo, hbo⟩ : ∃ bo, bytesR (n : Int) la 256 = bo := ⟨_, rfl⟩
          have HBO := hid hbo
          clear hbo
          go_wp2_with fail
          refine (ref06_Bytes n la _ 256 w7 HS7.out (by omega) (by omega) HRB.out bo HBO).mono ?_
          rintro en w8 ⟨u8, rfl, hown8, hb8⟩
          have HT8 := hid (HT7.out.below hb8)
          have HU8 : Hid (Upd (fun j => j = x) w4 w8) := hid (HU7.out.trans (Upd.of_below (S := fun _ => False) hb8) (fun _ _ q => q.elim))
          have HO8 := hid hown8
          have HLT : Hid (∀ k, u8.ownBlock = some k → w7.heap.size ≤ k) := hid (fun k hk => (hown8.lt k hk).1)
          obtain ⟨q8, d8, hq8, -⟩ := ownsRow.rd hown8
          clear hown8 hb8 hy0 hy1 g1 g2
          cases bo with
          | none =>
            subst hq8
            go_wp2_with fail
            go_roundw
            case rel => exact ⟨1, _, v1, z256, l1, by go_num, by omega, HT8, hid (.inr (.inl ⟨rfl, by simpa using z256_len⟩)), HU8⟩
            case measure => simp [intOf]
          | some bb =>
            have HBF := hid (bytesR_form HBO.out).2.2.2.2
            subst hq8
            simp only [Option.getD_some, Option.isSome_some] at HO8 HLT ⊢
            obtain ⟨hx0, hx1, hz0, hz1⟩ := HT8.out.blk.c2
            have hO : Own8 w8 (x + 2) (.slice q8 bb.length d8) bb := ownsRow_base HO8.out (by have := HU7.out.size; have := HSZ4.out; omega)
            have HT9 := hid (HT8.out.put0 hO (fun k hk => by intro h; have := World.ownsRow.lt HT7.out.o1 k h; have := HLT.out k hk; omega))
            have HU9 : Hid (Upd (fun j => j = x) w4 (w8.setCell ⟨x, 0, none⟩ (.slice q8 bb.length d8))) := hid (HU8.out.trans (Upd.setCell w8 x 0 _) (fun _ _ q => q))
            clear hO
            go_wp2_with fail
            go_roundw
            case rel => exact ⟨1, _, v1, bb, l1, by go_num, by omega, HT9, hid (.inr (.inl ⟨rfl, by simpa using HBF.out⟩)), HU9⟩
            case measure => simp [intOf]
      · -- turned False, root 1 goes to 1
        go_upto_region 11 with fail
        obtain ⟨w5, hw5⟩ : ∃ w5, w5 = wr.alloc (.cells #[.int .i64 eb, .slice qb lb.length cb] 24) := ⟨_, rfl⟩
        rw [← hw5]
        have HB5 : Hid (Below wr.heap.size wr w5) := hid (by rw [hw5]; exact Below.new _ _)
        have HX5 : Hid (Blk w5 wr.heap.size #[.int .i64 eb, .slice qb lb.length cb]) := hid (by rw [hw5]; exact Blk.new _ _ _)
        have HT5 := hid (HT.out.below HB5.out)
        have HU5 : Hid (Upd (fun j => j = x) w4 w5) := hid (HU.out.trans (Upd.of_below (S := fun _ => False) HB5.out) (fun _ _ q => q.elim))
        have HXR := hid HT.out.blk.lt
        clear hw5 hr0 hr1 hr2 hr3
        go_upto_region 14 with fail
        have hle5 : x + 2 ≤ w5.heap.size := by have := HU5.out.size; have := HSZ4.out; omega
        obtain ⟨hx0, hx1, hz0, hz1⟩ := HT5.out.blk.c2
        go_upto_region 15 with (at_make; refine wpList_make T_bytes rfl _ rfl _ _ rfl (x + 2) _ _ _ _ 256 256 rfl rfl rfl rfl (Nat.le_refl _) (by omega) hle5 ?_; intro w6 hown6 hgr6; have hb6 := (Upd.of_grown hgr6).below (Nat.le_refl _) (fun _ _ q => by cases q); clear hx0 hx1 hz0 hz1; obtain ⟨hx0, hx1, hz0, hz1⟩ := (HT5.out.blk.below hb6).c2)
        have hown7 : Own8 w6 (x + 2) (.slice (some ⟨w5.heap.size, 0, none⟩) 256 256) z256 := by unfold Own8; rw [z256_len, show bv z256 = List.replicate 256 (.int .u8 0) from by simp [bv, z256]]; exact hown6
        have HT6 := hid (HT5.out.below hb6)
        have HT7 := hid (HT6.out.put1 hown7 (fun k hk => by intro h; have e : w5.heap.size = k := (by simpa [Value.ownBlock] using h); have := World.ownsRow.lt HT5.out.o0 k hk; omega))
        have HX6 := hid (HX5.out.below hb6)
        have HX7 := hid (HX6.out.upd (Upd.setCell w6 x 1 (.slice (some ⟨w5.heap.size, 0, none⟩) 256 256)) (fun q => by have := HXR.out; omega))
        have HU7 : Hid (Upd (fun j => j = x) w4 (w6.setCell ⟨x, 1, none⟩ (.slice (some ⟨w5.heap.size, 0, none⟩) 256 256))) := hid ((HU5.out.trans (Upd.of_below (S := fun _ => False) hb6) (fun _ _ q => q.elim)).trans (Upd.setCell w6 x 1 _) (fun _ _ q => q))
        obtain ⟨w7, hw7⟩ : ∃ w7, w7 = w6.setCell ⟨x, 1, none⟩ (.slice (some ⟨w5.heap.size, 0, none⟩) 256 256) := ⟨_, rfl⟩
        rw [← hw7] at HT7 HX7 HU7 ⊢
        clear hx0 hx1 hz0 hz1 hw7 hown6 hown7 hgr6 hb6 hle5
        obtain ⟨hy0, hy1, -⟩ := HX7.out.c2
        have HS7 := hid (HB.out.updE HU7.out (fun k hk => (HBW2.out k hk).imp id (fun q e => by have := HXW.out; omega)))
        obtain ⟨rb, hrb⟩ : ∃ rb, rightR eb lb = rb := ⟨_, rfl⟩
        have HRB := hid hrb
        clear hrb
        go_wp2_with fail
        refine (ref06_Right eb lb _ w7 HS7.out rb HRB).mono ?_
        rintro en w' ⟨rfl, rfl⟩
        cases rb with
        | false =>
          go_wp2_with fail
          go_roundw
          case rel => exact ⟨2, v0, _, l0, z256, by go_num, by omega, HT7, hid (.inr (.inr ⟨rfl, by simpa using LenP.one HLN.out, by simpa using z256_len⟩)), HU7⟩
          case measure => simp [intOf]
        | true =>
          obtain ⟨g1, g2, -, -⟩ := right_bd HRB.out
          obtain ⟨n, rfl⟩ : ∃ n : Nat, eb = (n : Int) := ⟨eb.toNat, by omega⟩
          obtain ⟨bo, hbo⟩ : ∃ bo, bytesR (n : Int) lb 256 = bo := ⟨_, rfl⟩
          have HBO := hid hbo
          clear hbo
          go_wp2_with fail
          refine (ref06_Bytes n lb _ 256 w7 HS7.out (by omega) (by omega) HRB.out bo HBO).mono ?_
          rintro en w8 ⟨u8, rfl, hown8, hb8⟩
          have HT8 := hid (HT7.out.below hb8)
          have HU8 : Hid (Upd (fun j => j = x) w4 w8) := hid (HU7.out.trans (Upd.of_below (S := fun _ => False) hb8) (fun _ _ q => q.elim))
          have HO8 := hid hown8
          have HLT : Hid (∀ k, u8.ownBlock = some k → w7.heap.size ≤ k) := hid (fun k hk => (hown8.lt k hk).1)
          obtain ⟨q8, d8, hq8, -⟩ := ownsRow.rd hown8
          clear hown8 hb8 hy0 hy1 g1 g2
          cases bo with
          | none =>
            subst hq8
            go_wp2_with fail
            go_roundw
            case rel => exact ⟨2, v0, _, l0, z256, by go_num, by omega, HT8, hid (.inr (.inr ⟨rfl, by simpa using LenP.one HLN.out, by simpa using z256_len⟩)), HU8⟩
            case measure => simp [intOf]
          | some bb =>
            have HBF := hid (bytesR_form HBO.out).2.2.2.2
            subst hq8
            simp only [Option.getD_some, Option.isSome_some] at HO8 HLT ⊢
            obtain ⟨hx0, hx1, hz0, hz1⟩ := HT8.out.blk.c2
            have hO : Own8 w8 (x + 2) (.slice q8 bb.length d8) bb := ownsRow_base HO8.out (by have := HU7.out.size; have := HSZ4.out; omega)
            have HT9 := hid (HT8.out.put1 hO (fun k hk => by intro h; have := World.ownsRow.lt HT7.out.o0 k hk; have := HLT.out k h; omega))
            have HU9 : Hid (Upd (fun j => j = x) w4 (w8.setCell ⟨x, 1, none⟩ (.slice q8 bb.length d8))) := hid (HU8.out.trans (Upd.setCell w8 x 1 _) (fun _ _ q => q))
            clear hO
            go_wp2_with fail
            go_roundw
            case rel => exact ⟨2, v0, _, l0, bb, by go_num, by omega, HT9, hid (.inr (.inr ⟨rfl, by simpa using LenP.one HLN.out, by simpa using HBF.out⟩)), HU9⟩
            case measure => simp [intOf]
      · -- turned True, root 0 goes to 1
        go_upto_region 11 with fail
        obtain ⟨w5, hw5⟩ : ∃ w5, w5 = wr.alloc (.cells #[.int .i64 ea, .slice qa la.length ca] 24) := ⟨_, rfl⟩
        rw [← hw5]
        have HB5 : Hid (Below wr.heap.size wr w5) := hid (by rw [hw5]; exact Below.new _ _)
        have HX5 : Hid (Blk w5 wr.heap.size #[.int .i64 ea, .slice qa la.length ca]) := hid (by rw [hw5]; exact Blk.new _ _ _)
        have HT5 := hid (HT.out.below HB5.out)
        have HU5 : Hid (Upd (fun j => j = x) w4 w5) := hid (HU.out.trans (Upd.of_below (S := fun _ => False) HB5.out) (fun _ _ q => q.elim))
        have HXR := hid HT.out.blk.lt
        clear hw5 hr0 hr1 hr2 hr3
        go_upto_region 14 with fail
        have hle5 : x + 2 ≤ w5.heap.size := by have := HU5.out.size; have := HSZ4.out; omega
        obtain ⟨hx0, hx1, hz0, hz1⟩ := HT5.out.blk.c2
        go_upto_region 15 with (at_make; refine wpList_make T_bytes rfl _ rfl _ _ rfl (x + 2) _ _ _ _ 256 256 rfl rfl rfl rfl (Nat.le_refl _) (by omega) hle5 ?_; intro w6 hown6 hgr6; have hb6 := (Upd.of_grown hgr6).below (Nat.le_refl _) (fun _ _ q => by cases q); clear hx0 hx1 hz0 hz1; obtain ⟨hx0, hx1, hz0, hz1⟩ := (HT5.out.blk.below hb6).c2)
        have hown7 : Own8 w6 (x + 2) (.slice (some ⟨w5.heap.size, 0, none⟩) 256 256) z256 := by unfold Own8; rw [z256_len, show bv z256 = List.replicate 256 (.int .u8 0) from by simp [bv, z256]]; exact hown6
        have HT6 := hid (HT5.out.below hb6)
        have HT7 := hid (HT6.out.put1 hown7 (fun k hk => by intro h; have e : w5.heap.size = k := (by simpa [Value.ownBlock] using h); have := World.ownsRow.lt HT5.out.o0 k hk; omega))
        have HX6 := hid (HX5.out.below hb6)
        have HX7 := hid (HX6.out.upd (Upd.setCell w6 x 1 (.slice (some ⟨w5.heap.size, 0, none⟩) 256 256)) (fun q => by have := HXR.out; omega))
        have HU7 : Hid (Upd (fun j => j = x) w4 (w6.setCell ⟨x, 1, none⟩ (.slice (some ⟨w5.heap.size, 0, none⟩) 256 256))) := hid ((HU5.out.trans (Upd.of_below (S := fun _ => False) hb6) (fun _ _ q => q.elim)).trans (Upd.setCell w6 x 1 _) (fun _ _ q => q))
        obtain ⟨w7, hw7⟩ : ∃ w7, w7 = w6.setCell ⟨x, 1, none⟩ (.slice (some ⟨w5.heap.size, 0, none⟩) 256 256) := ⟨_, rfl⟩
        rw [← hw7] at HT7 HX7 HU7 ⊢
        clear hx0 hx1 hz0 hz1 hw7 hown6 hown7 hgr6 hb6 hle5
        obtain ⟨hy0, hy1, -⟩ := HX7.out.c2
        have HS7 := hid (HA.out.updE HU7.out (fun k hk => (HAW.out k hk).imp id (fun q e => by have := HXW.out; omega)))
        obtain ⟨rb, hrb⟩ : ∃ rb, rightR ea la = rb := ⟨_, rfl⟩
        have HRB := hid hrb
        clear hrb
        go_wp2_with fail
        refine (ref06_Right ea la _ w7 HS7.out rb HRB).mono ?_
        rintro en w' ⟨rfl, rfl⟩
        cases rb with
        | false =>
          go_wp2_with fail
          go_roundw
          case rel => exact ⟨1, v0, _, l0, z256, by go_num, by omega, HT7, hid (.inr (.inl ⟨rfl, by simpa using z256_len⟩)), HU7⟩
          case measure => simp [intOf]
        | true =>
          obtain ⟨g1, g2, -, -⟩ := right_bd HRB.out
          obtain ⟨n, rfl⟩ : ∃ n : Nat, ea = (n : Int) := ⟨ea.toNat, by omega⟩
          obtain ⟨bo, hbo⟩ : ∃ bo, bytesR (n : Int) la 256 = bo := ⟨_, rfl⟩
          have HBO := hid hbo
          clear hbo
          go_wp2_with fail
          refine (ref06_Bytes n la _ 256 w7 HS7.out (by omega) (by omega) HRB.out bo HBO).mono ?_
          rintro en w8 ⟨u8, rfl, hown8, hb8⟩
          have HT8 := hid (HT7.out.below hb8)
          have HU8 : Hid (Upd (fun j => j = x) w4 w8) := hid (HU7.out.trans (Upd.of_below (S := fun _ => False) hb8) (fun _ _ q => q.elim))
          have HO8 := hid hown8
          have HLT : Hid (∀ k, u8.ownBlock = some k → w7.heap.size ≤ k) := hid (fun k hk => (hown8.lt k hk).1)
          obtain ⟨q8, d8, hq8, -⟩ := ownsRow.rd hown8
          clear hown8 hb8 hy0 hy1 g1 g2
          cases bo with
          | none =>
            subst hq8
            go_wp2_with fail
            go_roundw
            case rel => exact ⟨1, v0, _, l0, z256, by go_num, by omega, HT8, hid (.inr (.inl ⟨rfl, by simpa using z256_len⟩)), HU8⟩
            case measure => simp [intOf]
          | some bb =>
            have HBF := hid (bytesR_form HBO.out).2.2.2.2
            subst hq8
            simp only [Option.getD_some, Option.isSome_some] at HO8 HLT ⊢
            obtain ⟨hx0, hx1, hz0, hz1⟩ := HT8.out.blk.c2
            have hO : Own8 w8 (x + 2) (.slice q8 bb.length d8) bb := ownsRow_base HO8.out (by have := HU7.out.size; have := HSZ4.out; omega)
            have HT9 := hid (HT8.out.put1 hO (fun k hk => by intro h; have := World.ownsRow.lt HT7.out.o0 k hk; have := HLT.out k h; omega))
            have HU9 : Hid (Upd (fun j => j = x) w4 (w8.setCell ⟨x, 1, none⟩ (.slice q8 bb.length d8))) := hid (HU8.out.trans (Upd.setCell w8 x 1 _) (fun _ _ q => q))
            clear hO
            go_wp2_with fail
            go_roundw
            case rel => exact ⟨1, v0, _, l0, bb, by go_num, by omega, HT9, hid (.inr (.inl ⟨rfl, by simpa using HBF.out⟩)), HU9⟩
            case measure => simp [intOf]
      · -- turned True, root 1 goes to 0
        go_upto_region 11 with fail
        obtain ⟨w5, hw5⟩ : ∃ w5, w5 = wr.alloc (.cells #[.int .i64 eb, .slice qb lb.length cb] 24) := ⟨_, rfl⟩
        rw [← hw5]
        have HB5 : Hid (Below wr.heap.size wr w5) := hid (by rw [hw5]; exact Below.new _ _)
        have HX5 : Hid (Blk w5 wr.heap.size #[.int .i64 eb, .slice qb lb.length cb]) := hid (by rw [hw5]; exact Blk.new _ _ _)
        have HT5 := hid (HT.out.below HB5.out)
        have HU5 : Hid (Upd (fun j => j = x) w4 w5) := hid (HU.out.trans (Upd.of_below (S := fun _ => False) HB5.out) (fun _ _ q => q.elim))
        have HXR := hid HT.out.blk.lt
        clear hw5 hr0 hr1 hr2 hr3
        go_upto_region 14 with fail
        have hle5 : x + 2 ≤ w5.heap.size := by have := HU5.out.size; have := HSZ4.out; omega
        obtain ⟨hx0, hx1, hz0, hz1⟩ := HT5.out.blk.c2
        go_upto_region 15 with (at_make; refine wpList_make T_bytes rfl _ rfl _ _ rfl (x + 2) _ _ _ _ 256 256 rfl rfl rfl rfl (Nat.le_refl _) (by omega) hle5 ?_; intro w6 hown6 hgr6; have hb6 := (Upd.of_grown hgr6).below (Nat.le_refl _) (fun _ _ q => by cases q); clear hx0 hx1 hz0 hz1; obtain ⟨hx0, hx1, hz0, hz1⟩ := (HT5.out.blk.below hb6).c2)
        have hown7 : Own8 w6 (x + 2) (.slice (some ⟨w5.heap.size, 0, none⟩) 256 256) z256 := by unfold Own8; rw [z256_len, show bv z256 = List.replicate 256 (.int .u8 0) from by simp [bv, z256]]; exact hown6
        have HT6 := hid (HT5.out.below hb6)
        have HT7 := hid (HT6.out.put0 hown7 (fun k hk => by have e : w5.heap.size = k := (by simpa [Value.ownBlock] using hk); intro h; have := World.ownsRow.lt HT5.out.o1 k h; omega))
        have HX6 := hid (HX5.out.below hb6)
        have HX7 := hid (HX6.out.upd (Upd.setCell w6 x 0 (.slice (some ⟨w5.heap.size, 0, none⟩) 256 256)) (fun q => by have := HXR.out; omega))
        have HU7 : Hid (Upd (fun j => j = x) w4 (w6.setCell ⟨x, 0, none⟩ (.slice (some ⟨w5.heap.size, 0, none⟩) 256 256))) := hid ((HU5.out.trans (Upd.of_below (S := fun _ => False) hb6) (fun _ _ q => q.elim)).trans (Upd.setCell w6 x 0 _) (fun _ _ q => q))
        obtain ⟨w7, hw7⟩ : ∃ w7, w7 = w6.setCell ⟨x, 0, none⟩ (.slice (some ⟨w5.heap.size, 0, none⟩) 256 256) := ⟨_, rfl⟩
        rw [← hw7] at HT7 HX7 HU7 ⊢
        clear hx0 hx1 hz0 hz1 hw7 hown6 hown7 hgr6 hb6 hle5
        obtain ⟨hy0, hy1, -⟩ := HX7.out.c2
        have HS7 := hid (HB.out.updE HU7.out (fun k hk => (HBW2.out k hk).imp id (fun q e => by have := HXW.out; omega)))
        obtain ⟨rb, hrb⟩ : ∃ rb, rightR eb lb = rb := ⟨_, rfl⟩
        have HRB := hid hrb
        clear hrb
        go_wp2_with fail
        refine (ref06_Right eb lb _ w7 HS7.out rb HRB).mono ?_
        rintro en w' ⟨rfl, rfl⟩
        cases rb with
        | false =>
          go_wp2_with fail
          go_roundw
          case rel => exact ⟨2, _, v1, z256, l1, by go_num, by omega, HT7, hid (.inr (.inr ⟨rfl, by simpa using z256_len, by simpa using LenP.one HLN.out⟩)), HU7⟩
          case measure => simp [intOf]
        | true =>
          obtain ⟨g1, g2, -, -⟩ := right_bd HRB.out
          obtain ⟨n, rfl⟩ : ∃ n : Nat, eb = (n : Int) := ⟨eb.toNat, by omega⟩
          obtain ⟨bo, hbo⟩ : ∃ bo, bytesR (n : Int) lb 256 = bo := ⟨_, rfl⟩
          have HBO := hid hbo
          clear hbo
          go_wp2_with fail
          refine (ref06_Bytes n lb _ 256 w7 HS7.out (by omega) (by omega) HRB.out bo HBO).mono ?_
          rintro en w8 ⟨u8, rfl, hown8, hb8⟩
          have HT8 := hid (HT7.out.below hb8)
          have HU8 : Hid (Upd (fun j => j = x) w4 w8) := hid (HU7.out.trans (Upd.of_below (S := fun _ => False) hb8) (fun _ _ q => q.elim))
          have HO8 := hid hown8
          have HLT : Hid (∀ k, u8.ownBlock = some k → w7.heap.size ≤ k) := hid (fun k hk => (hown8.lt k hk).1)
          obtain ⟨q8, d8, hq8, -⟩ := ownsRow.rd hown8
          clear hown8 hb8 hy0 hy1 g1 g2
          cases bo with
          | none =>
            subst hq8
            go_wp2_with fail
            go_roundw
            case rel => exact ⟨2, _, v1, z256, l1, by go_num, by omega, HT8, hid (.inr (.inr ⟨rfl, by simpa using z256_len, by simpa using LenP.one HLN.out⟩)), HU8⟩
            case measure => simp [intOf]
          | some bb =>
            have HBF := hid (bytesR_form HBO.out).2.2.2.2
            subst hq8
            simp only [Option.getD_some, Option.isSome_some] at HO8 HLT ⊢
            obtain ⟨hx0, hx1, hz0, hz1⟩ := HT8.out.blk.c2
            have hO : Own8 w8 (x + 2) (.slice q8 bb.length d8) bb := ownsRow_base HO8.out (by have := HU7.out.size; have := HSZ4.out; omega)
            have HT9 := hid (HT8.out.put0 hO (fun k hk => by intro h; have := World.ownsRow.lt HT7.out.o1 k h; have := HLT.out k hk; omega))
            have HU9 : Hid (Upd (fun j => j = x) w4 (w8.setCell ⟨x, 0, none⟩ (.slice q8 bb.length d8))) := hid (HU8.out.trans (Upd.setCell w8 x 0 _) (fun _ _ q => q))
            clear hO
            go_wp2_with fail
            go_roundw
            case rel => exact ⟨2, _, v1, bb, l1, by go_num, by omega, HT9, hid (.inr (.inr ⟨rfl, by simpa using HBF.out, by simpa using LenP.one HLN.out⟩)), HU9⟩
            case measure => simp [intOf]
      · have hk3 : ¬ (k : Int) < 2 := by omega
        have hl := HLN.out
        have hl2 : l0.length = 256 ∧ l1.length = 256 := by
          rcases hl with h | h | h
          · omega
          · omega
          · exact h.2
        have HL1 := hid hl2
        obtain ⟨g0, c0, rfl⟩ := Joins.ownsRow_form HT.out.o0 (by omega)
        obtain ⟨g1, c1, rfl⟩ := Joins.ownsRow_form HT.out.o1 (by omega)
        obtain ⟨hl0, hl1⟩ := hl2
        rw [hl0, hl1] at HT
        clear hl hl0 hl1 hr0 hr1 hr2 hr3 HLN hk hk2
        go_wp2_with fail
        obtain ⟨wo, rfl⟩ : ∃ wo : World, wo = wr := ⟨_, rfl⟩
        go_loopw [83] (fun v83 wr => ∃ (k : Nat) (l0 l1 : List UInt8), v83 = .int .i64 k ∧ k ≤ zs.length ∧ Hid (Two wr x (x + 2) (.slice (some ⟨g0, 0, none⟩) 256 c0) (.slice (some ⟨g1, 0, none⟩) 256 c1) l0 l1) ∧ Hid (l0.length = 256 ∧ l1.length = 256) ∧ Hid (Upd (fun j => j = x) w4 wr)) (fun v83 _ => zs.length - (intOf v83).toNat)
        case atStart => exact ⟨0, l0, l1, rfl, by omega, HT, HL1, HU⟩
        case round =>
          clear HT HU HL1
          clear l0 l1
          obtain ⟨k, l0, l1, rfl, hk, HT, HL, HU⟩ := hrel
          by_cases hlt : k < zs.length
          · obtain ⟨aa, cc, ee, hrd, -⟩ := HZ.out.updE HU.out (fun k hk => (HZW.out k hk).imp id (fun q e => by have := HXW.out; omega))
            simp only [Value.slice.injEq, true_and] at ee
            obtain ⟨rfl, rfl⟩ := ee
            obtain ⟨bz, oz, n, rfl, hcn, -, -, -, hmem⟩ := hrd.int k hlt
            obtain ⟨hn1, hn2⟩ := wf64 (HWZ.out n hmem)
            have e0 : (0 : Int) ≤ (k : Int) := by omega
            have e1 : (k : Int) < (zs.length : Int) := by omega
            clear hrd hmem
            by_cases hn0 : 0 ≤ n
            · obtain ⟨j, hj⟩ : ∃ j : Nat, n / 2 % 256 = (j : Int) := ⟨(n / 2 % 256).toNat, by omega⟩
              have hj0 : (0 : Int) ≤ (j : Int) := by omega
              have hj1 : (j : Int) < 256 := by omega
              have hmm : n % 2 = 0 ∨ n % 2 = 1 := by omega
              rcases hmm with hm | hm
              · have hm : n % 2 = 0 := hm
                obtain ⟨u, hu⟩ : ∃ u, l0[j]? = some u := ⟨_, List.getElem?_eq_getElem (by have := HL.out.1; omega)⟩
                obtain ⟨y, hy, -⟩ := turn_byte u 0 (by omega)
                have hxor : bits .xor .u8 (u.toNat : Int) 1 = (y.toNat : Int) := hy
                obtain ⟨hcell, hfz⟩ := Own8.cell HT.out.o0 HL.out.1 hu
                obtain ⟨hx0, hx1, -⟩ := HT.out.blk.c2
                have HT9 := hid (HT.out.flip0 HL.out.1 j y)
                have HU9 : Hid (Upd (fun j => j = x) w4 (wr.setCell ⟨g0, j, none⟩ (.int .u8 (y.toNat : Int)))) := hid (HU.out.trans (Upd.setCell wr g0 j _) (fun i hi q => by have := (World.ownsRow.lt HT.out.o0 g0 rfl).1; have := HSZ4.out; omega))
                clear hy hu
                go_wp2_with fail
                go_roundw
                case rel => exact ⟨k + 1, (l0.set j y), l1, by go_num, by omega, HT9, hid ⟨by simpa using HL.out.1, by simpa using HL.out.2⟩, HU9⟩
                case measure => simp [intOf]; omega
              · have hm : n % 2 = 1 := hm
                obtain ⟨u, hu⟩ : ∃ u, l1[j]? = some u := ⟨_, List.getElem?_eq_getElem (by have := HL.out.2; omega)⟩
                obtain ⟨y, hy, -⟩ := turn_byte u 0 (by omega)
                have hxor : bits .xor .u8 (u.toNat : Int) 1 = (y.toNat : Int) := hy
                obtain ⟨hcell, hfz⟩ := Own8.cell HT.out.o1 HL.out.2 hu
                obtain ⟨hx0, hx1, -⟩ := HT.out.blk.c2
                have HT9 := hid (HT.out.flip1 HL.out.2 j y)
                have HU9 : Hid (Upd (fun j => j = x) w4 (wr.setCell ⟨g1, j, none⟩ (.int .u8 (y.toNat : Int)))) := hid (HU.out.trans (Upd.setCell wr g1 j _) (fun i hi q => by have := (World.ownsRow.lt HT.out.o1 g1 rfl).1; have := HSZ4.out; omega))
                clear hy hu
                go_wp2_with fail
                go_roundw
                case rel => exact ⟨k + 1, l0, (l1.set j y), by go_num, by omega, HT9, hid ⟨by simpa using HL.out.1, by simpa using HL.out.2⟩, HU9⟩
                case measure => simp [intOf]; omega
            · go_wp2_with fail
              go_roundw
              case rel => exact ⟨k + 1, l0, l1, by go_num, by omega, HT, HL, HU⟩
              case measure => simp [intOf]; omega
          · obtain rfl : k = zs.length := by omega
            go_wp2_with fail
            obtain ⟨wo, rfl⟩ : ∃ wo : World, wo = wr := ⟨_, rfl⟩
            obtain ⟨tb, htb⟩ : ∃ tb, tb = wo.heap.size := ⟨_, rfl⟩
            obtain ⟨wL, hwL⟩ : ∃ wL, wL = wo.alloc (.cells #[.int .i64 0, .slice none 0 0] 24) := ⟨_, rfl⟩
            rw [← hwL, ← htb]
            have hbl : Below wo.heap.size wo wL := by rw [hwL]; exact Below.new _ _
            have HBL : Hid (Blk wL tb #[.int .i64 0, .slice none 0 0]) := hid (by rw [hwL, htb]; exact Blk.new _ _ _)
            have HTB : Hid (x < tb) := hid (by have := HU.out.size; have := HSZ4.out; omega)
            have HS0 : Hid (∀ k, (Value.slice (some ⟨g0, 0, none⟩) 256 c0).ownBlock = some k → ¬ (W k ∨ k = tb)) := hid (fun k hk q => by have := World.ownsRow.lt HT.out.o0 k hk; rcases q with q | q; have := HWL.out k q; omega; omega)
            have HS1 : Hid (∀ k, (Value.slice (some ⟨g1, 0, none⟩) 256 c1).ownBlock = some k → ¬ (W k ∨ k = tb)) := hid (fun k hk q => by have := World.ownsRow.lt HT.out.o1 k hk; rcases q with q | q; have := HWL.out k q; omega; omega)
            have HSX : Hid (¬ (W x ∨ x = tb)) := hid (fun q => by have := HTB.out; rcases q with q | q; have := HWL.out x q; omega; omega)
            have HWT : Hid (¬ W tb) := hid (fun q => by have := HTB.out; have := HWL.out tb q; omega)
            have HRT : Hid (¬ R tb) := hid (fun q => by have := HTB.out; have := HR4.out tb q; omega)
            have HDL : Hid (DiskIs wL g W R (dkNew 4 256)) := hid ((HD4.out.upd HU.out (fun k e q => by have := HWL.out k q; omega) (fun k e q => by have := HR4.out k q; omega)).below hbl)
            have HTL := hid (HT.out.below hbl)
            have HBEL : Hid (Below w.heap.size w wL) := hid ((HBW.out.trans (HU.out.below HBW.out.size (fun k _ e => by have := HXW.out; omega))).trans (hbl.mono (Nat.le_trans HBW.out.size HU.out.size)))
            obtain ⟨s1, s2, hw0, hw1, hok2, hld⟩ := loads07 HL.out.1 HL.out.2
            have HW0 := hid hw0
            have HW1 := hid hw1
            have HOK := hid hok2
            have HLD := hid hld
            clear hw0 hw1 hok2 hld hwL htb hbl hk HT hlt
            go_loopw [102] (fun v102 wr => L3 g g0 g1 c0 c1 x tb W wL l0 l1 s1 s2 v102 wr) (fun v102 _ => 2 - (intOf v102).toNat)
            case atStart => exact ⟨0, _, 0, [], _, R, rfl, by omega, hid (.inl ⟨rfl, rfl, rfl⟩), HDL, HRT, HBL, hid (SlI.nil _), hid (fun j hj => by simp [Value.ownBlock] at hj), HTL, hid (Upd.refl _ _)⟩
            case round =>
              clear HTL HDL HBL HRT
              obtain ⟨k, s, be, bt, bv, Rk, rfl, hk, HST, HD, HRK, HB2, HBV, HBO, HT, HU2⟩ := hrel
              obtain ⟨qv, dv, rfl, -⟩ := HBV.out
              rcases HST.out with ⟨rfl, hss, hbe⟩ | ⟨rfl, hss, hbe⟩ | ⟨rfl, hss, hbe⟩
              · obtain rfl : (dkNew 4 256) = s := hss.symm
                have HBE := hid hbe
                clear hbe HST hk
                obtain ⟨hx0, hx1, -⟩ := HT.out.blk.c2
                have HSL := hid (Own8.slb HT.out.o0 HL.out.1)
                go_wp2_with fail
                refine (disk_Write (dkNew 4 256) 0 l0 _ g W Rk wr HD.out HSL.out (by have := HL.out.1; omega) 0 s1 HW0).mono ?_
                rintro en w5 ⟨R5, rfl, hd5, hr5, hu5⟩
                have HR5 : Hid (¬ R5 tb) := hid (fun q => by rcases hr5 tb q with q | q; exact HRK.out q; have := HB2.out.lt; omega)
                have HD5 := hid hd5
                have hu6 : Upd (fun j => W j ∨ j = tb) wr w5 := hu5.mono (fun j _ q => .inl q)
                have HT5 := hid (HT.out.upd hu6 HSX.out HS0.out HS1.out)
                have HU5 := hid (HU2.out.trans hu6 (fun _ _ q => q))
                have HB25 := hid (HB2.out.upd hu5 (fun q => HWT.out q))
                have HBV5 := hid (HBV.out.upd hu5 (fun j hj q => by have := HBO.out j hj; have := HWL.out j q; have := HTB.out; omega))
                clear hd5 hu5 hu6 hx0 hx1 hr5
                obtain ⟨hx0, hx1, -⟩ := HT5.out.blk.c2
                have HSL5 := hid (Own8.slb HT5.out.o0 HL.out.1)
                obtain ⟨p, hp⟩ : ∃ p, parseR l0 = p := ⟨_, rfl⟩
                have HPP := hid hp
                clear hp
                go_wp2_with fail
                refine (slots_Parse l0 _ w5 HSL5.out (by have := HL.out.1; omega) p HPP).mono ?_
                rintro en w6 ⟨v6, rfl, hs6, hb6, ho6⟩
                obtain ⟨q6, d6, rfl, -⟩ := id hs6
                have HS6 := hid hs6
                have HB6 := hid hb6
                have HO6 : Hid (∀ j, (Value.slice q6 (p.getD (0, [])).2.length d6).ownBlock = some j → tb < j) := hid (fun j hj => by have := ho6 j hj; have := HB25.out.lt; omega)
                clear hs6 hb6 ho6
                obtain ⟨pe, pt, hpe⟩ : ∃ pe pt, p.getD (0, []) = (pe, pt) := ⟨_, _, rfl⟩
                rw [hpe] at HS6 HO6
                simp only [hpe]
                have HPE := hid hpe
                clear hpe hx0 hx1
                go_upto_region 33 with fail
                obtain ⟨w7, hw7⟩ : ∃ w7, w7 = w6.alloc (.cells #[.int .i64 pe, .slice q6 pt.length d6] 24) := ⟨_, rfl⟩
                rw [← hw7]
                have HB7 : Hid (Below w6.heap.size w6 w7) := hid (by rw [hw7]; exact Below.new _ _)
                have HX7 : Hid (Blk w7 w6.heap.size #[.int .i64 pe, .slice q6 pt.length d6]) := hid (by rw [hw7]; exact Blk.new _ _ _)
                have HB57 := hid (Below.next HB6.out HB7.out)
                clear hw7
                have HD7 := hid (HD5.out.below HB57.out)
                have HT7 := hid (HT5.out.below HB57.out)
                have HU7 : Hid (Upd (fun j => W j ∨ j = tb) wL w7) := hid (HU5.out.trans (Upd.of_below (S := fun _ => False) HB57.out) (fun _ _ q => q.elim))
                have HB27 := hid (HB25.out.below HB57.out)
                have HBV7 := hid (HBV5.out.below HB57.out)
                have HS7 := hid (HS6.out.below HB7.out)
                cases p with
                | none =>
                  have HNS : Hid ((be, bt) = pickB (0, []) 0 l0) := hid (by rw [pickB, HPP.out]; exact HBE.out)
                  go_wp2_with fail
                  go_roundw
                  case rel => exact ⟨1, _, be, bt, _, R5, by go_num, by omega, hid (.inr (.inl ⟨rfl, rfl, HNS.out⟩)), HD7, HR5, HB27, HBV7, HBO, HT7, HU7⟩
                  case measure => simp [intOf]
                | some r0 =>
                  obtain rfl : r0 = (pe, pt) := HPE.out
                  have hri := right_bd (parse_right HPP.out).1
                  obtain ⟨h1e, h2e, -, -⟩ := hri
                  simp only at h1e h2e
                  obtain ⟨hx0, hx1, -⟩ := HX7.out.c2
                  obtain ⟨hy0, hy1, hz0, hz1⟩ := HB27.out.c2
                  have hm0 : 0 ≤ pe := by omega
                  by_cases hsl : pe % 2 = 0
                  · have hs2 : (pe % 2 == 0) = true := by simpa using hsl
                    by_cases hgt : be < pe
                    · have HNS : Hid ((pe, pt) = pickB (0, []) 0 l0) := hid (by rw [show pickB (0, []) 0 l0 = pickB (be, bt) 0 l0 from by rw [HBE.out], pickB, HPP.out]; simp [hsl, hgt])
                      clear hsl
                      go_upto_region 34 with fail
                      obtain ⟨wz, hwz, hblkZ, huZ⟩ := set2_of HB27.out (.int .i64 pe) (.slice q6 pt.length d6)
                      have huZ2 : Upd (fun j => W j ∨ j = tb) w7 wz := huZ.mono (fun j _ q => .inr q)
                      have HBZ2 := hid hblkZ
                      have HBZV : Hid (SlI wz (.slice q6 pt.length d6) pt) := hid (HS7.out.upd huZ (fun j hj e => by have := HO6.out j hj; omega))
                      have HTZ := hid (HT7.out.upd huZ2 HSX.out HS0.out HS1.out)
                      have HUZ := hid (HU7.out.trans huZ2 (fun _ _ q => q))
                      have HDZ := hid (HD7.out.upd huZ (fun j e => e ▸ HWT.out) (fun j e => e ▸ HR5.out))
                      rw [hwz] at HBZ2 HBZV HTZ HUZ HDZ
                      clear hwz hblkZ huZ huZ2
                      go_wp2_with fail
                      go_roundw
                      case rel => exact ⟨1, _, pe, pt, _, R5, by go_num, by omega, hid (.inr (.inl ⟨rfl, rfl, HNS.out⟩)), HDZ, HR5, HBZ2, HBZV, HO6, HTZ, HUZ⟩
                      case measure => simp [intOf]
                    · have HNS : Hid ((be, bt) = pickB (0, []) 0 l0) := hid (by rw [show pickB (0, []) 0 l0 = pickB (be, bt) 0 l0 from by rw [HBE.out], pickB, HPP.out]; simp [hgt])
                      clear hsl
                      go_wp2_with fail
                      go_roundw
                      case rel => exact ⟨1, _, be, bt, _, R5, by go_num, by omega, hid (.inr (.inl ⟨rfl, rfl, HNS.out⟩)), HD7, HR5, HB27, HBV7, HBO, HT7, HU7⟩
                      case measure => simp [intOf]
                  · have hs2 : (pe % 2 == 0) = false := by simpa using hsl
                    have HNS : Hid ((be, bt) = pickB (0, []) 0 l0) := hid (by rw [show pickB (0, []) 0 l0 = pickB (be, bt) 0 l0 from by rw [HBE.out], pickB, HPP.out]; simp [hsl])
                    clear hsl
                    go_wp2_with fail
                    go_roundw
                    case rel => exact ⟨1, _, be, bt, _, R5, by go_num, by omega, hid (.inr (.inl ⟨rfl, rfl, HNS.out⟩)), HD7, HR5, HB27, HBV7, HBO, HT7, HU7⟩
                    case measure => simp [intOf]
              · obtain rfl : s1 = s := hss.symm
                have HBE := hid hbe
                clear hbe HST hk
                obtain ⟨hx0, hx1, -⟩ := HT.out.blk.c2
                have HSL := hid (Own8.slb HT.out.o1 HL.out.2)
                go_wp2_with fail
                refine (disk_Write s1 1 l1 _ g W Rk wr HD.out HSL.out (by have := HL.out.2; omega) 0 s2 HW1).mono ?_
                rintro en w5 ⟨R5, rfl, hd5, hr5, hu5⟩
                have HR5 : Hid (¬ R5 tb) := hid (fun q => by rcases hr5 tb q with q | q; exact HRK.out q; have := HB2.out.lt; omega)
                have HD5 := hid hd5
                have hu6 : Upd (fun j => W j ∨ j = tb) wr w5 := hu5.mono (fun j _ q => .inl q)
                have HT5 := hid (HT.out.upd hu6 HSX.out HS0.out HS1.out)
                have HU5 := hid (HU2.out.trans hu6 (fun _ _ q => q))
                have HB25 := hid (HB2.out.upd hu5 (fun q => HWT.out q))
                have HBV5 := hid (HBV.out.upd hu5 (fun j hj q => by have := HBO.out j hj; have := HWL.out j q; have := HTB.out; omega))
                clear hd5 hu5 hu6 hx0 hx1 hr5
                obtain ⟨hx0, hx1, -⟩ := HT5.out.blk.c2
                have HSL5 := hid (Own8.slb HT5.out.o1 HL.out.2)
                obtain ⟨p, hp⟩ : ∃ p, parseR l1 = p := ⟨_, rfl⟩
                have HPP := hid hp
                clear hp
                go_wp2_with fail
                refine (slots_Parse l1 _ w5 HSL5.out (by have := HL.out.2; omega) p HPP).mono ?_
                rintro en w6 ⟨v6, rfl, hs6, hb6, ho6⟩
                obtain ⟨q6, d6, rfl, -⟩ := id hs6
                have HS6 := hid hs6
                have HB6 := hid hb6
                have HO6 : Hid (∀ j, (Value.slice q6 (p.getD (0, [])).2.length d6).ownBlock = some j → tb < j) := hid (fun j hj => by have := ho6 j hj; have := HB25.out.lt; omega)
                clear hs6 hb6 ho6
                obtain ⟨pe, pt, hpe⟩ : ∃ pe pt, p.getD (0, []) = (pe, pt) := ⟨_, _, rfl⟩
                rw [hpe] at HS6 HO6
                simp only [hpe]
                have HPE := hid hpe
                clear hpe hx0 hx1
                go_upto_region 33 with fail
                obtain ⟨w7, hw7⟩ : ∃ w7, w7 = w6.alloc (.cells #[.int .i64 pe, .slice q6 pt.length d6] 24) := ⟨_, rfl⟩
                rw [← hw7]
                have HB7 : Hid (Below w6.heap.size w6 w7) := hid (by rw [hw7]; exact Below.new _ _)
                have HX7 : Hid (Blk w7 w6.heap.size #[.int .i64 pe, .slice q6 pt.length d6]) := hid (by rw [hw7]; exact Blk.new _ _ _)
                have HB57 := hid (Below.next HB6.out HB7.out)
                clear hw7
                have HD7 := hid (HD5.out.below HB57.out)
                have HT7 := hid (HT5.out.below HB57.out)
                have HU7 : Hid (Upd (fun j => W j ∨ j = tb) wL w7) := hid (HU5.out.trans (Upd.of_below (S := fun _ => False) HB57.out) (fun _ _ q => q.elim))
                have HB27 := hid (HB25.out.below HB57.out)
                have HBV7 := hid (HBV5.out.below HB57.out)
                have HS7 := hid (HS6.out.below HB7.out)
                cases p with
                | none =>
                  have HNS : Hid ((be, bt) = best2 l0 l1) := hid (by rw [best2, ← HBE.out, pickB, HPP.out])
                  go_wp2_with fail
                  go_roundw
                  case rel => exact ⟨2, _, be, bt, _, R5, by go_num, by omega, hid (.inr (.inr ⟨rfl, rfl, HNS.out⟩)), HD7, HR5, HB27, HBV7, HBO, HT7, HU7⟩
                  case measure => simp [intOf]
                | some r0 =>
                  obtain rfl : r0 = (pe, pt) := HPE.out
                  have hri := right_bd (parse_right HPP.out).1
                  obtain ⟨h1e, h2e, -, -⟩ := hri
                  simp only at h1e h2e
                  obtain ⟨hx0, hx1, -⟩ := HX7.out.c2
                  obtain ⟨hy0, hy1, hz0, hz1⟩ := HB27.out.c2
                  have hm0 : 0 ≤ pe := by omega
                  by_cases hsl : pe % 2 = 1
                  · have hs2 : (pe % 2 == 1) = true := by simpa using hsl
                    by_cases hgt : be < pe
                    · have HNS : Hid ((pe, pt) = best2 l0 l1) := hid (by rw [best2, ← HBE.out, pickB, HPP.out]; simp [hsl, hgt])
                      clear hsl
                      go_upto_region 34 with fail
                      obtain ⟨wz, hwz, hblkZ, huZ⟩ := set2_of HB27.out (.int .i64 pe) (.slice q6 pt.length d6)
                      have huZ2 : Upd (fun j => W j ∨ j = tb) w7 wz := huZ.mono (fun j _ q => .inr q)
                      have HBZ2 := hid hblkZ
                      have HBZV : Hid (SlI wz (.slice q6 pt.length d6) pt) := hid (HS7.out.upd huZ (fun j hj e => by have := HO6.out j hj; omega))
                      have HTZ := hid (HT7.out.upd huZ2 HSX.out HS0.out HS1.out)
                      have HUZ := hid (HU7.out.trans huZ2 (fun _ _ q => q))
                      have HDZ := hid (HD7.out.upd huZ (fun j e => e ▸ HWT.out) (fun j e => e ▸ HR5.out))
                      rw [hwz] at HBZ2 HBZV HTZ HUZ HDZ
                      clear hwz hblkZ huZ huZ2
                      go_wp2_with fail
                      go_roundw
                      case rel => exact ⟨2, _, pe, pt, _, R5, by go_num, by omega, hid (.inr (.inr ⟨rfl, rfl, HNS.out⟩)), HDZ, HR5, HBZ2, HBZV, HO6, HTZ, HUZ⟩
                      case measure => simp [intOf]
                    · have HNS : Hid ((be, bt) = best2 l0 l1) := hid (by rw [best2, ← HBE.out, pickB, HPP.out]; simp [hgt])
                      clear hsl
                      go_wp2_with fail
                      go_roundw
                      case rel => exact ⟨2, _, be, bt, _, R5, by go_num, by omega, hid (.inr (.inr ⟨rfl, rfl, HNS.out⟩)), HD7, HR5, HB27, HBV7, HBO, HT7, HU7⟩
                      case measure => simp [intOf]
                  · have hs2 : (pe % 2 == 1) = false := by simpa using hsl
                    have HNS : Hid ((be, bt) = best2 l0 l1) := hid (by rw [best2, ← HBE.out, pickB, HPP.out]; simp [hsl])
                    clear hsl
                    go_wp2_with fail
                    go_roundw
                    case rel => exact ⟨2, _, be, bt, _, R5, by go_num, by omega, hid (.inr (.inr ⟨rfl, rfl, HNS.out⟩)), HD7, HR5, HB27, HBV7, HBO, HT7, HU7⟩
                    case measure => simp [intOf]
              · obtain rfl : s2 = s := hss.symm
                have HBE := hid hbe
                have HLD2 : Hid (dkLoad s2 = ((be, bt), if be = 0 then 14 else 0)) := hid (by have h := HLD.out; rw [← HBE.out] at h; exact h)
                have HEND : Hid (∀ z, Below wr.heap.size wr z → Below w.heap.size w z) := hid (fun z hz => Below.next (HBEL.out.trans (HU2.out.below HBEL.out.size (fun j _ q => by rcases q with q | q; exact HWO.out j q; have := HTB.out; have := HXW.out; omega))) hz)
                clear hbe HST hk HLD
                by_cases hb0 : be = 0
                · have hbb : (be == 0) = true := by simpa using hb0
                  have HLD3 : Hid (dkLoad s2 = ((be, bt), 14)) := hid (by have h := HLD2.out; rw [if_pos hb0] at h; exact h)
                  clear hb0
                  go_wp2_with fail
                  refine (slots_Load s2 HOK.out g W Rk wr HD.out (be, bt) 14 HLD3).mono ?_
                  rintro en w5 ⟨v5, rfl, hs5, hb5⟩
                  obtain ⟨q5, d5, rfl, -⟩ := id hs5
                  simp only
                  go_upto_region 37 with fail
                  obtain ⟨w6, hw6⟩ : ∃ w6, w6 = w5.alloc (.cells #[.int .i64 be, .slice q5 bt.length d5] 24) := ⟨_, rfl⟩
                  rw [← hw6]
                  have hb6 : Below w5.heap.size w5 w6 := by rw [hw6]; exact Below.new _ _
                  have hx6 : Blk w6 w5.heap.size #[.int .i64 be, .slice q5 bt.length d5] := by rw [hw6]; exact Blk.new _ _ _
                  have hb56 := Below.next hb5 hb6
                  have HB6 := hid (HEND.out w6 hb56)
                  have HS6 := hid (hs5.below hb6)
                  have HV6 := hid (HBV.out.below hb56)
                  obtain ⟨hx0, hx1, -⟩ := hx6.c2
                  obtain ⟨hy0, hy1, -⟩ := (HB2.out.below hb56).c2
                  clear hw6 hb6 hx6 hb56 hb5 hs5
                  have hee : (be == be) = true := by simp
                  go_wp2_with fail
                  refine (slots_Equal be be bt bt _ _ w6 HS6.out HV6.out true true hee (hid (by simp))).mono ?_
                  rintro en w7 ⟨rfl, hb7⟩
                  have HB7 := hid (Below.next HB6.out hb7)
                  clear hb7 hx0 hx1 hy0 hy1
                  go_wp2_with fail
                  refine (law06_awake w7).mono ?_
                  rintro en w8 ⟨rfl, hb8⟩
                  have HB8 := hid (Below.next HB7.out hb8)
                  clear hb8
                  go_wp2_with fail
                  go_ret
                  exact ⟨rfl, HB8.out⟩
                · have hbb : (be == 0) = false := by simpa using hb0
                  have HLD3 : Hid (dkLoad s2 = ((be, bt), 0)) := hid (by have h := HLD2.out; rw [if_neg hb0] at h; exact h)
                  clear hb0
                  go_wp2_with fail
                  refine (slots_Load s2 HOK.out g W Rk wr HD.out (be, bt) 0 HLD3).mono ?_
                  rintro en w5 ⟨v5, rfl, hs5, hb5⟩
                  obtain ⟨q5, d5, rfl, -⟩ := id hs5
                  simp only
                  go_upto_region 37 with fail
                  obtain ⟨w6, hw6⟩ : ∃ w6, w6 = w5.alloc (.cells #[.int .i64 be, .slice q5 bt.length d5] 24) := ⟨_, rfl⟩
                  rw [← hw6]
                  have hb6 : Below w5.heap.size w5 w6 := by rw [hw6]; exact Below.new _ _
                  have hx6 : Blk w6 w5.heap.size #[.int .i64 be, .slice q5 bt.length d5] := by rw [hw6]; exact Blk.new _ _ _
                  have hb56 := Below.next hb5 hb6
                  have HB6 := hid (HEND.out w6 hb56)
                  have HS6 := hid (hs5.below hb6)
                  have HV6 := hid (HBV.out.below hb56)
                  obtain ⟨hx0, hx1, -⟩ := hx6.c2
                  obtain ⟨hy0, hy1, -⟩ := (HB2.out.below hb56).c2
                  clear hw6 hb6 hx6 hb56 hb5 hs5
                  have hee : (be == be) = true := by simp
                  go_wp2_with fail
                  refine (slots_Equal be be bt bt _ _ w6 HS6.out HV6.out true true hee (hid (by simp))).mono ?_
                  rintro en w7 ⟨rfl, hb7⟩
                  have HB7 := hid (Below.next HB6.out hb7)
                  clear hb7 hx0 hx1 hy0 hy1
                  go_wp2_with fail
                  refine (law06_awake w7).mono ?_
                  rintro en w8 ⟨rfl, hb8⟩
                  have HB8 := hid (Below.next HB7.out hb8)
                  clear hb8
                  go_wp2_with fail
                  go_ret
                  exact ⟨rfl, HB8.out⟩
set_option maxRecDepth 100000 in
theorem open_bend {H : Type} {enc : TypeId × Value → H} {w : World} {b0 : Nat} {d0 : DataW H} {p0 : List MemPlace} {v0 : Value} (ok0 : Value.okWide Try.prog w .any b0 39 v0) (k0 : DataW.Trod enc Try.prog w 0 (fun _ => true) true 39 v0 d0 p0) :
    ∃ t v l, v0 = .agg #[.bool t, v] ∧ SlI w v l ∧ ∀ x ∈ l, (Lit.int .i64 x).wf = true := by
  obtain ⟨x0, v, y0, y1, n, rfl, -, -, t0, t1⟩ := open_agg2 Try.underlying39 (by kernel_rfl) (by kernel_rfl) ok0 k0
  obtain ⟨t, e0, -⟩ := DataW.trod_bool Try.underlying4 t0
  simp only [List.cons.injEq, and_true] at e0
  subst e0
  obtain ⟨l, hl, hw⟩ := open_sliE t1
  exact ⟨t, v, l, rfl, hl, hw⟩
set_option maxRecDepth 100000 in
theorem SlotsLoads_walk {H : Type} {enc : TypeId × Value → H} {b0 b1 b2 : Nat} {d0 d1 d2 : DataW H} {p0 p1 p2 : List MemPlace} (v0 v1 v2 : Value) (w : World) (ok0 : Value.okWide Try.prog w .any b0 24 v0) (k0 : DataW.Trod enc Try.prog w 0 (fun _ => true) true 24 v0 d0 p0)
    (ok1 : Value.okWide Try.prog w .any b1 24 v1) (k1 : DataW.Trod enc Try.prog w 0 (fun _ => true) true 24 v1 d1 p1) (ok2 : Value.okWide Try.prog w .any b2 39 v2) (k2 : DataW.Trod enc Try.prog w 0 (fun _ => true) true 39 v2 d2 p2) :
    Calls Try.prog 5 #[v0, v1, v2] w fun e w' => e = .returned (.bool true) ∧ Below w.heap.size w w' := by
  obtain ⟨ea, va, la, rfl, ha, -, -⟩ := open_root ok0 k0
  obtain ⟨eb, vb, lb, rfl, hb, -, -⟩ := open_root ok1 k1
  obtain ⟨t, vz, zs, rfl, hz, hwz⟩ := open_bend ok2 k2
  exact law06_Loads ea eb la lb zs va vb vz t w ha hb hz hwz
end Go.Proofs.Ytohknblokejldaa
end
