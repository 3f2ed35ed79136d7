/- Joined texts, in this order: Disk, DiskNew. Each one's first remark says what it proves; no condition beyond those that its theorems name. -/
import Derived.Test.YtohknblokejldaaJLawDiskCopies01
import Derived.Test.YtohknblokejldaaJLawDiskCopies03
section
/- Contracts of the package disk: its state, New, what is asked of it, Arm. -/
namespace Go.Proofs.Ytohknblokejldaa
open Go.RowKit
open Go.Lib (hid)
set_option linter.unusedVariables false

theorem T_secs : SlT Try.prog 116 27 (.slice none 0 0) 1 24 := SlT.mk' Try.underlying116 (by kernel_rfl) rfl (by decide) (by decide)

/-- a disk's state -/
structure Dk where
  size : Nat
  D : List (List UInt8)
  C : List (Int × List UInt8)
  armed : Bool
  left : Int
  down : Bool
  done : Int
/-- a sector: bytes that nobody writes -/
def Sec (w : World) (R : Nat → Prop) (v : Value) (l : List UInt8) : Prop := SlB w v l ∧ ∀ k, v.ownBlock = some k → R k
theorem Sec.upd {S R R' : Nat → Prop} {w w' : World} {v : Value} {l : List UInt8} (h : Sec w R v l) (hu : Upd S w w') (hS : ∀ k, R k → ¬ S k) (hR : ∀ k, R k → R' k) : Sec w' R' v l := by
  obtain ⟨⟨a, c, rfl, h1, h2, h3⟩, h4⟩ := h
  exact ⟨hu.slb ⟨a, c, rfl, h1, h2, h3⟩ (fun b off e => hS b (h4 b (by rw [e]; rfl))), fun k hk => hR k (h4 k hk)⟩
structure DkIs (w : World) (g : Nat) (W R : Nat → Prop) (s : Dk) (b : Nat) (dv : Value) (V : List Value) (M : List (Int × Value × List UInt8)) : Prop where
  blk : Blk w g #[.int .i64 (s.size : Int), dv, .map (some b), .bool s.armed, .int .i64 s.left, .bool s.down, .int .i64 s.done]
  own : w.ownsRow 0 27 1 dv s.D.length V
  sec : ∀ (i : Nat) (l : List UInt8), s.D[i]? = some l → ∃ v, V[i]? = some v ∧ Sec w R v l
  map : MapE w b (M.map fun p => (p.1, p.2.1))
  eqC : M.map (fun p => (p.1, p.2.2)) = s.C
  msec : ∀ p ∈ M, Sec w R p.2.1 p.2.2
  wg : W g
  wb : W b
  wd : ∀ k, dv.ownBlock = some k → W k ∧ k ≠ g ∧ k ≠ b
  ne : g ≠ b
  wr : ∀ k, W k → ¬ R k
  wlt : ∀ k, W k → k < w.heap.size
  rlt : ∀ k, R k → k < w.heap.size
/-- behind pointer g stands a disk; W: the blocks that it writes, R: those of its sectors -/
def DiskIs (w : World) (g : Nat) (W R : Nat → Prop) (s : Dk) : Prop := ∃ b dv V M, DkIs w g W R s b dv V M
theorem DkIs.upd {S W R : Nat → Prop} {w w' : World} {g : Nat} {s : Dk} {b : Nat} {dv : Value} {V : List Value} {M : List (Int × Value × List UInt8)} (h : DkIs w g W R s b dv V M) (hu : Upd S w w') (hW : ∀ k, S k → ¬ W k) (hR : ∀ k, S k → ¬ R k) : DkIs w' g W R s b dv V M :=
  ⟨h.blk.upd hu (fun q => hW _ q h.wg), hu.owns h.own (fun k hk q => hW k q (h.wd k hk).1), fun i l hl => by obtain ⟨v, h1, h2⟩ := h.sec i l hl; exact ⟨v, h1, h2.upd hu (fun k hr q => hR k q hr) (fun _ => id)⟩,
   h.map.upd hu (fun q => hW _ q h.wb), h.eqC, fun p hp => (h.msec p hp).upd hu (fun k hr q => hR k q hr) (fun _ => id), h.wg, h.wb, h.wd, h.ne, h.wr, fun k hk => Nat.lt_of_lt_of_le (h.wlt k hk) hu.size, fun k hk => Nat.lt_of_lt_of_le (h.rlt k hk) hu.size⟩
theorem DiskIs.upd {S W R : Nat → Prop} {w w' : World} {g : Nat} {s : Dk} (h : DiskIs w g W R s) (hu : Upd S w w') (hW : ∀ k, S k → ¬ W k) (hR : ∀ k, S k → ¬ R k) : DiskIs w' g W R s := by
  obtain ⟨b, dv, V, M, h⟩ := h; exact ⟨b, dv, V, M, h.upd hu hW hR⟩
theorem DiskIs.below {W R : Nat → Prop} {w w' : World} {g : Nat} {s : Dk} (h : DiskIs w g W R s) (hu : Below w.heap.size w w') : DiskIs w' g W R s :=
  h.upd (S := fun _ => False) (Upd.of_below hu) (fun _ x => x.elim) (fun _ x => x.elim)
theorem DkIs.below {W R : Nat → Prop} {w w' : World} {g : Nat} {s : Dk} {b : Nat} {dv : Value} {V : List Value} {M : List (Int × Value × List UInt8)} (h : DkIs w g W R s b dv V M) (hu : Below w.heap.size w w') : DkIs w' g W R s b dv V M :=
  h.upd (S := fun _ => False) (Upd.of_below hu) (fun _ x => x.elim) (fun _ x => x.elim)
theorem DkIs.dvF {W R : Nat → Prop} {w : World} {g : Nat} {s : Dk} {b : Nat} {dv : Value} {V : List Value} {M : List (Int × Value × List UInt8)} (h : DkIs w g W R s b dv V M) : ∃ a c, dv = .slice a s.D.length c ∧ s.D.length ≤ c ∧ c ≤ 9223372036854775807 := by
  obtain ⟨a, c, e, h1, h2, -⟩ := ownsRow.rd h.own
  exact ⟨a, c, e, h1, by unfold maxLen at h2; exact h2⟩

theorem disk_Sectors (s : Dk) (g : Nat) (W R : Nat → Prop) (w : World) (h : DiskIs w g W R s) : Calls Try.prog 64 #[.pointer (some ⟨g, 0, none⟩)] w fun e w' => e = .returned (.int .i64 (s.D.length : Int)) ∧ w = w' := by
  obtain ⟨b, dv, V, M, h⟩ := h
  obtain ⟨a, c, rfl, -⟩ := h.dvF
  have hc : w.cell? ⟨g, 1, none⟩ = some (.slice a s.D.length c) := by rw [h.blk.cell]; rfl
  clear h
  go_enter Try.func64, Try.ntmps64
  go_wp2
  go_ret
  exact ⟨rfl, rfl⟩
theorem disk_Size (s : Dk) (g : Nat) (W R : Nat → Prop) (w : World) (h : DiskIs w g W R s) : Calls Try.prog 66 #[.pointer (some ⟨g, 0, none⟩)] w fun e w' => e = .returned (.int .i64 (s.size : Int)) ∧ w = w' := by
  obtain ⟨b, dv, V, M, h⟩ := h
  have hc : w.cell? ⟨g, 0, none⟩ = some (.int .i64 (s.size : Int)) := by rw [h.blk.cell]; rfl
  clear h
  go_enter Try.func66, Try.ntmps66
  go_wp2
  go_ret
  exact ⟨rfl, rfl⟩
theorem disk_Down (s : Dk) (g : Nat) (W R : Nat → Prop) (w : World) (h : DiskIs w g W R s) : Calls Try.prog 36 #[.pointer (some ⟨g, 0, none⟩)] w fun e w' => e = .returned (.bool s.down) ∧ w = w' := by
  obtain ⟨b, dv, V, M, h⟩ := h
  have hc : w.cell? ⟨g, 5, none⟩ = some (.bool s.down) := by rw [h.blk.cell]; rfl
  clear h
  go_enter Try.func36, Try.ntmps36
  go_wp2
  go_ret
  exact ⟨rfl, rfl⟩
theorem disk_Commands (s : Dk) (g : Nat) (W R : Nat → Prop) (w : World) (h : DiskIs w g W R s) : Calls Try.prog 84 #[.pointer (some ⟨g, 0, none⟩)] w fun e w' => e = .returned (.int .i64 s.done) ∧ w = w' := by
  obtain ⟨b, dv, V, M, h⟩ := h
  have hc : w.cell? ⟨g, 6, none⟩ = some (.int .i64 s.done) := by rw [h.blk.cell]; rfl
  clear h
  go_enter Try.func84, Try.ntmps84
  go_wp2
  go_ret
  exact ⟨rfl, rfl⟩

/-- is the power there, and a sector? the error's number -/
def dkCheck (s : Dk) (i : Int) : Int := if s.down then 20 else if i < 0 ∨ (s.D.length : Int) ≤ i then 11 else 0
theorem disk_check (s : Dk) (i : Int) (g : Nat) (W R : Nat → Prop) (w : World) (h : DiskIs w g W R s) (r : Int) (hr : Hid (dkCheck s i = r)) : Calls Try.prog 61 #[.pointer (some ⟨g, 0, none⟩), .int .i64 i] w fun e w' => e = .returned (.int .i64 r) ∧ w = w' := by
  obtain ⟨b, dv, V, M, h⟩ := h
  obtain ⟨a, c, rfl, -⟩ := h.dvF
  have hc1 : w.cell? ⟨g, 1, none⟩ = some (.slice a s.D.length c) := by rw [h.blk.cell]; rfl
  have hc5 : w.cell? ⟨g, 5, none⟩ = some (.bool s.down) := by rw [h.blk.cell]; rfl
  have hr2 := hr.out
  unfold dkCheck at hr2
  clear h hr
  cases hd : s.down
  · rw [hd] at hr2 hc5
    simp only [Bool.false_eq_true, if_false] at hr2
    have HD := hid hd
    clear hd
    by_cases h0 : i < 0
    · rw [if_pos (.inl h0)] at hr2
      subst hr2
      go_enter Try.func61, Try.ntmps61
      go_wp2
      go_ret
      exact ⟨rfl, rfl⟩
    · by_cases h1 : (s.D.length : Int) ≤ i
      · rw [if_pos (.inr h1)] at hr2
        subst hr2
        go_enter Try.func61, Try.ntmps61
        go_wp2
        go_ret
        exact ⟨rfl, rfl⟩
      · rw [if_neg (by omega)] at hr2
        subst hr2
        go_enter Try.func61, Try.ntmps61
        go_wp2
        go_ret
        exact ⟨rfl, rfl⟩
  · rw [hd] at hr2 hc5
    simp only [if_true] at hr2
    subst hr2
    have HD := hid hd
    clear hd
    go_enter Try.func61, Try.ntmps61
    go_wp2
    go_ret
    exact ⟨rfl, rfl⟩

/-- the disk's own cells have turned -/
theorem DkIs.reblk {W R : Nat → Prop} {w w' : World} {g : Nat} {s s' : Dk} {b : Nat} {dv : Value} {V : List Value} {M : List (Int × Value × List UInt8)} (h : DkIs w g W R s b dv V M) (hu : Upd (fun k => k = g) w w')
    (hb : Blk w' g #[.int .i64 (s'.size : Int), dv, .map (some b), .bool s'.armed, .int .i64 s'.left, .bool s'.down, .int .i64 s'.done]) (hD : s'.D = s.D) (hC : s'.C = s.C) : DkIs w' g W R s' b dv V M :=
  ⟨hb, by rw [hD]; exact hu.owns h.own (fun k hk q => (h.wd k hk).2.1 q), fun i l hl => by rw [hD] at hl; obtain ⟨v, h1, h2⟩ := h.sec i l hl; exact ⟨v, h1, h2.upd hu (fun k hr q => h.wr _ h.wg (q ▸ hr)) (fun _ => id)⟩,
   h.map.upd hu (fun q => h.ne q.symm), by rw [hC]; exact h.eqC, fun p hp => (h.msec p hp).upd hu (fun k hr q => h.wr _ h.wg (q ▸ hr)) (fun _ => id), h.wg, h.wb, h.wd, h.ne, h.wr, fun k hk => Nat.lt_of_lt_of_le (h.wlt k hk) hu.size, fun k hk => Nat.lt_of_lt_of_le (h.rlt k hk) hu.size⟩

/-- so many commands more -/
def dkArm (s : Dk) (n : Int) : Dk := { s with armed := decide (0 ≤ n), left := n }
theorem disk_Arm (s : Dk) (n : Int) (g : Nat) (W R : Nat → Prop) (w : World) (h : DiskIs w g W R s) :
    Calls Try.prog 24 #[.pointer (some ⟨g, 0, none⟩), .int .i64 n] w fun e w' => e = .returned (.tuple #[]) ∧ DiskIs w' g W R (dkArm s n) ∧ Upd W w w' := by
  obtain ⟨b, dv, V, M, h⟩ := h
  have hc3 : w.cell? ⟨g, 3, none⟩ = some (.bool s.armed) := by rw [h.blk.cell]; rfl
  have hc4 : w.cell? ⟨g, 4, none⟩ = some (.int .i64 s.left) := by rw [h.blk.cell]; rfl
  have hf3 := h.blk.unfrozen 3
  have hf4 := h.blk.unfrozen 4
  have hu : Upd (fun k => k = g) w ((w.setCell ⟨g, 3, none⟩ (.bool (decide (0 ≤ n)))).setCell ⟨g, 4, none⟩ (.int .i64 n)) := (Upd.setCell w g 3 _).trans (Upd.setCell _ g 4 _) (fun _ _ x => x)
  have HPOST : Hid (DiskIs ((w.setCell ⟨g, 3, none⟩ (.bool (decide (0 ≤ n)))).setCell ⟨g, 4, none⟩ (.int .i64 n)) g W R (dkArm s n) ∧ Upd W w ((w.setCell ⟨g, 3, none⟩ (.bool (decide (0 ≤ n)))).setCell ⟨g, 4, none⟩ (.int .i64 n))) := hid
    ⟨⟨b, dv, V, M, h.reblk hu (by simpa [dkArm] using (h.blk.set 3 (.bool (decide (0 ≤ n)))).set 4 (.int .i64 n)) rfl rfl⟩, hu.mono (fun k _ q => q ▸ h.wg)⟩
  clear h hu
  by_cases h0 : 0 ≤ n
  · have hd : decide (0 ≤ n) = true := by simpa using h0
    rw [hd] at HPOST
    clear hd
    go_enter Try.func24, Try.ntmps24
    go_wp2
    go_end0
    exact ⟨rfl, HPOST.out.1, HPOST.out.2⟩
  · have hd : decide (0 ≤ n) = false := by simpa using h0
    rw [hd] at HPOST
    go_enter Try.func24, Try.ntmps24
    go_wp2
    go_end0
    exact ⟨rfl, HPOST.out.1, HPOST.out.2⟩

/-- one command -/
def dkCommand (s : Dk) : Int × Dk := if s.armed then (if s.left = 0 then (20, { s with down := true }) else (0, { s with left := wrap64 (s.left - 1), done := wrap64 (s.done + 1) })) else (0, { s with done := wrap64 (s.done + 1) })
theorem disk_command (s : Dk) (g : Nat) (W R : Nat → Prop) (w : World) (h : DiskIs w g W R s) (e0 : Int) (s' : Dk) (hs : Hid (dkCommand s = (e0, s'))) :
    Calls Try.prog 63 #[.pointer (some ⟨g, 0, none⟩)] w fun e w' => e = .returned (.int .i64 e0) ∧ DiskIs w' g W R s' ∧ Upd W w w' := by
  obtain ⟨b, dv, V, M, h⟩ := h
  have hc3 : w.cell? ⟨g, 3, none⟩ = some (.bool s.armed) := by rw [h.blk.cell]; rfl
  have hc4 : w.cell? ⟨g, 4, none⟩ = some (.int .i64 s.left) := by rw [h.blk.cell]; rfl
  have hc5 : w.cell? ⟨g, 5, none⟩ = some (.bool s.down) := by rw [h.blk.cell]; rfl
  have hc6 : w.cell? ⟨g, 6, none⟩ = some (.int .i64 s.done) := by rw [h.blk.cell]; rfl
  have hf4 := h.blk.unfrozen 4
  have hf5 := h.blk.unfrozen 5
  have hf6 := h.blk.unfrozen 6
  have HH := hid h
  have hs2 := hs.out
  unfold dkCommand at hs2
  clear h hs
  cases ha : s.armed
  · rw [ha] at hs2 hc3
    simp only [Bool.false_eq_true, if_false, Prod.mk.injEq] at hs2
    obtain ⟨rfl, rfl⟩ := hs2
    have hu := Upd.setCell w g 6 (.int .i64 (wrap64 (s.done + 1)))
    have HPOST : Hid (DiskIs (w.setCell ⟨g, 6, none⟩ (.int .i64 (wrap64 (s.done + 1)))) g W R { s with done := wrap64 (s.done + 1) } ∧ Upd W w (w.setCell ⟨g, 6, none⟩ (.int .i64 (wrap64 (s.done + 1))))) := hid
      ⟨⟨b, dv, V, M, HH.out.reblk hu (by simpa [ha] using HH.out.blk.set 6 (.int .i64 (wrap64 (s.done + 1)))) rfl rfl⟩, hu.mono (fun k _ q => q ▸ HH.out.wg)⟩
    have HA := hid ha
    clear hu ha
    go_enter Try.func63, Try.ntmps63
    go_wp2
    go_ret
    exact ⟨rfl, by have q := HPOST.out.1; rw [HA.out] at q; exact q, HPOST.out.2⟩
  · rw [ha] at hs2 hc3
    simp only [if_true] at hs2
    by_cases hl : s.left = 0
    · rw [if_pos hl] at hs2
      simp only [Prod.mk.injEq] at hs2
      obtain ⟨rfl, rfl⟩ := hs2
      rw [hl] at hc4
      have hu := Upd.setCell w g 5 (.bool true)
      have HPOST : Hid (DiskIs (w.setCell ⟨g, 5, none⟩ (.bool true)) g W R { s with down := true } ∧ Upd W w (w.setCell ⟨g, 5, none⟩ (.bool true))) := hid
        ⟨⟨b, dv, V, M, HH.out.reblk hu (by simpa [ha] using HH.out.blk.set 5 (.bool true)) rfl rfl⟩, hu.mono (fun k _ q => q ▸ HH.out.wg)⟩
      have HA := hid ha
      clear hu ha hl
      go_enter Try.func63, Try.ntmps63
      go_wp2
      go_ret
      exact ⟨rfl, by have q := HPOST.out.1; rw [HA.out] at q; exact q, HPOST.out.2⟩
    · rw [if_neg hl] at hs2
      simp only [Prod.mk.injEq] at hs2
      obtain ⟨rfl, rfl⟩ := hs2
      have hu := (Upd.setCell w g 4 (.int .i64 (wrap64 (s.left - 1)))).trans (Upd.setCell _ g 6 (.int .i64 (wrap64 (s.done + 1)))) (fun _ _ x => x)
      have HPOST : Hid (DiskIs ((w.setCell ⟨g, 4, none⟩ (.int .i64 (wrap64 (s.left - 1)))).setCell ⟨g, 6, none⟩ (.int .i64 (wrap64 (s.done + 1)))) g W R { s with left := wrap64 (s.left - 1), done := wrap64 (s.done + 1) } ∧ Upd W w ((w.setCell ⟨g, 4, none⟩ (.int .i64 (wrap64 (s.left - 1)))).setCell ⟨g, 6, none⟩ (.int .i64 (wrap64 (s.done + 1))))) := hid
        ⟨⟨b, dv, V, M, HH.out.reblk hu (by simpa [ha] using (HH.out.blk.set 4 (.int .i64 (wrap64 (s.left - 1)))).set 6 (.int .i64 (wrap64 (s.done + 1)))) rfl rfl⟩, hu.mono (fun k _ q => q ▸ HH.out.wg)⟩
      have hlb : (s.left == 0) = false := by simpa using hl
      have HA := hid ha
      clear hu ha hl
      go_enter Try.func63, Try.ntmps63
      go_wp2
      go_ret
      exact ⟨rfl, by have q := HPOST.out.1; rw [HA.out] at q; exact q, HPOST.out.2⟩
end Go.Proofs.Ytohknblokejldaa
end
section
/- Contract: disk.New. -/
namespace Go.Proofs.Ytohknblokejldaa
open Go.RowKit
open Go.Lib (hid)
set_option linter.unusedVariables false

def dkNew (n size : Nat) : Dk := ⟨size, List.replicate n (List.replicate size 0), [], false, 0, false, 0⟩
/-- the blocks of a disk that is being made -/
def dkW (g b : Nat) (dv : Value) (j : Nat) : Prop := j = g ∨ j = b ∨ dv.ownBlock = some j
theorem DkIs.push {wr wa wb wc : World} {g b g6 size k : Nat} {dv dv' : Value} {V : List Value} {R : Nat → Prop} (h : DkIs wr g (dkW g b dv) R (dkNew k size) b dv V [])
    (hg6 : wr.heap.size ≤ g6) (hz : wa.ownsRow 0 5 1 (.slice (some ⟨g6, 0, none⟩) size size) size (List.replicate size (.int .u8 0))) (ha : Below wr.heap.size wr wa) (hb : Below wa.heap.size wa wb)
    (hown : wc.ownsRow 0 27 1 dv' (k + 1) (V ++ [.slice (some ⟨g6, 0, none⟩) size size])) (hg : wb.grownBy wc dv.ownBlock) (hwh : ∀ j, dv'.ownBlock = some j → dv.ownBlock = some j ∨ wb.heap.size ≤ j) (hs : size ≤ 4096) :
    DkIs (wc.setCell ⟨g, 1, none⟩ dv') g (dkW g b dv') (fun j => R j ∨ j = g6) (dkNew (k + 1) size) b dv' (V ++ [.slice (some ⟨g6, 0, none⟩) size size]) [] := by
  have s1 := ha.size
  have s2 := hb.size
  have s3 := hg.size
  have g6l : g6 < wa.heap.size := (hz.lt g6 rfl).2
  have gl := h.blk.lt
  have bl := h.map.lt
  have hab : Below wr.heap.size wr wb := ha.trans (hb.mono s1)
  have hu : Upd (fun j => dv.ownBlock = some j) wr wc := (Upd.of_below hab).trans (Upd.of_grown hg) (fun _ _ x => x)
  have hblk : Blk wc g #[.int .i64 (size : Int), dv, .map (some b), .bool false, .int .i64 0, .bool false, .int .i64 0] := h.blk.upd hu (fun q => (h.wd g q).2.1 rfl)
  have dvl : ∀ j, dv.ownBlock = some j → j < wr.heap.size := fun j hj => ownBlock_lt h.own hj
  have dn : ∀ j, dv'.ownBlock = some j → j ≠ g ∧ j ≠ b ∧ ¬ R j ∧ j ≠ g6 := fun j hj => by
    rcases hwh j hj with q | q
    · exact ⟨(h.wd j q).2.1, (h.wd j q).2.2, h.wr _ (h.wd j q).1, by have := dvl j q; omega⟩
    · exact ⟨by omega, by omega, fun r => by have := h.rlt _ r; omega, by omega⟩
  have hset : Upd (fun j => j = g) wc (wc.setCell ⟨g, 1, none⟩ dv') := Upd.setCell wc g 1 dv'
  have hzl : bv (List.replicate size 0) = List.replicate size (.int .u8 0) := by unfold bv; rw [List.map_replicate]; rfl
  have hsec6 : SlB wc (.slice (some ⟨g6, 0, none⟩) size size) (List.replicate size 0) := by
    have h0 : wc.ownsRow 0 5 1 (.slice (some ⟨g6, 0, none⟩) size size) size (List.replicate size (.int .u8 0)) := (Upd.of_grown hg).owns (owns_below hz hb) (fun j hj q => by
      have := dvl j q
      simp [Value.ownBlock] at hj
      omega)
    have h1 : wc.ownsRow 0 5 1 (.slice (some ⟨g6, 0, none⟩) size size) (List.replicate size (0 : UInt8)).length (bv (List.replicate size 0)) := by rw [hzl, List.length_replicate]; exact h0
    exact ownsRow.slb h1 (by simp; omega)
  have hne6 : g6 ≠ g := by omega
  refine ⟨by simpa [dkNew] using hblk.set 1 dv', ?_, ?_, ?_, rfl, by simp, .inl rfl, .inr (.inl rfl), fun j hj => ⟨.inr (.inr hj), (dn j hj).1, (dn j hj).2.1⟩, h.ne, ?_, ?_, ?_⟩
  · have : (dkNew (k + 1) size).D.length = k + 1 := by simp [dkNew]
    rw [this]
    exact hset.owns hown (fun j hj q => (dn j hj).1 q)
  · intro i l hl
    have hVl : V.length = k := by have := h.own.1; simpa [dkNew] using this
    simp only [dkNew, List.getElem?_replicate] at hl
    by_cases hik : i < k + 1
    · rw [if_pos hik] at hl
      obtain rfl := Option.some.inj hl
      by_cases hi : i < k
      · obtain ⟨v, h1, h2⟩ := h.sec i (List.replicate size 0) (by simp [dkNew, List.getElem?_replicate, hi])
        refine ⟨v, by rw [List.getElem?_append_left (by omega)]; exact h1, ?_⟩
        have h3 := h2.upd (R' := fun j => R j ∨ j = g6) hu (fun j hr q => h.wr _ (h.wd j q).1 hr) (fun _ => .inl)
        exact h3.upd hset (fun j hr q => by
          rcases hr with hr | hr
          · exact h.wr _ h.wg (q ▸ hr)
          · omega) (fun _ => id)
      · have : i = k := by omega
        subst this
        refine ⟨_, by rw [List.getElem?_append_right (by omega), hVl, Nat.sub_self]; rfl, ?_⟩
        have h3 : Sec wc (fun j => R j ∨ j = g6) (.slice (some ⟨g6, 0, none⟩) size size) (List.replicate size 0) := ⟨hsec6, fun j hj => by simp [Value.ownBlock] at hj; exact .inr hj.symm⟩
        exact h3.upd hset (fun j hr q => by
          rcases hr with hr | hr
          · exact h.wr _ h.wg (q ▸ hr)
          · omega) (fun _ => id)
    · rw [if_neg hik] at hl; simp at hl
  · exact (h.map.upd hu (fun q => (h.wd b q).2.2 rfl)).upd hset (fun q => h.ne q.symm)
  · intro j hj hr
    rcases hj with q | q | q
    · rcases hr with hr | hr
      · exact h.wr _ h.wg (q ▸ hr)
      · omega
    · rcases hr with hr | hr
      · exact h.wr _ h.wb (q ▸ hr)
      · omega
    · rcases hr with hr | hr
      · exact (dn j q).2.2.1 hr
      · exact (dn j q).2.2.2 hr
  · intro j hj
    simp only [World.size_setCell]
    rcases hj with q | q | q
    · omega
    · omega
    · exact (hown.lt j q).2
  · intro j hj
    simp only [World.size_setCell]
    rcases hj with q | q
    · have := h.rlt j q; omega
    · omega

theorem disk_New_no (n size : Int) (w : World) (h : n < 1 ∨ (1 ≤ n ∧ 4096 < n) ∨ (1 ≤ n ∧ n ≤ 4096 ∧ size < 16) ∨ (1 ≤ n ∧ n ≤ 4096 ∧ 16 ≤ size ∧ 4096 < size)) :
    Calls Try.prog 20 #[.int .i64 n, .int .i64 size] w fun e w' => e = .returned (.pointer none) ∧ w = w' := by
  rcases h with h | ⟨h1, h2⟩ | ⟨h1, h2, h3⟩ | ⟨h1, h2, h3, h4⟩
  all_goals
    go_enter Try.func20, Try.ntmps20
    go_wp2
    go_ret
    exact ⟨rfl, rfl⟩

set_option maxRecDepth 100000 in
set_option maxHeartbeats 1000000 in
theorem disk_New (n size : Nat) (h1 : 1 ≤ n) (h2 : n ≤ 4096) (h3 : 16 ≤ size) (h4 : size ≤ 4096) (w : World) :
    Calls Try.prog 20 #[.int .i64 (n : Int), .int .i64 (size : Int)] w fun e w' => ∃ g W R, e = .returned (.pointer (some ⟨g, 0, none⟩)) ∧ DiskIs w' g W R (dkNew n size) ∧ (∀ k, W k → w.heap.size ≤ k) ∧ (∀ k, R k → w.heap.size ≤ k) ∧ Below w.heap.size w w' := by
  have e1 : ¬ (n : Int) < 1 := by omega
  have e2 : ¬ (4096 : Int) < (n : Int) := by omega
  have e3 : ¬ (size : Int) < 16 := by omega
  have e4 : ¬ (4096 : Int) < (size : Int) := by omega
  have hmm := @run_makeMap Try.prog
  have h0 : DkIs ((w.alloc (.map #[] 0)).alloc (.cells #[.int .i64 (size : Int), .slice none 0 0, .map (some w.heap.size), .bool false, .int .i64 0, .bool false, .int .i64 0] 118)) (w.heap.size + 1) (dkW (w.heap.size + 1) w.heap.size (.slice none 0 0)) (fun _ => False) (dkNew 0 size) w.heap.size (.slice none 0 0) [] [] := by
    refine ⟨by simpa [dkNew] using Blk.new (w.alloc (.map #[] 0)) #[.int .i64 (size : Int), .slice none 0 0, .map (some w.heap.size), .bool false, .int .i64 0, .bool false, .int .i64 0] 118, by simpa [dkNew] using World.ownsRow_nil _ _ _ _, fun i l hl => by simp [dkNew] at hl, (MapE.new w).below (Below.new _ _), rfl, by simp, .inl rfl, .inr (.inl rfl), fun j hj => by simp [Value.ownBlock] at hj, by omega, fun _ _ x => x, fun j hj => ?_, fun _ x => x.elim⟩
    rcases hj with q | q | q
    · simp; omega
    · simp; omega
    · simp [Value.ownBlock] at q
  have H0 := hid h0
  have HB0 : Hid (Below w.heap.size w ((w.alloc (.map #[] 0)).alloc (.cells #[.int .i64 (size : Int), .slice none 0 0, .map (some w.heap.size), .bool false, .int .i64 0, .bool false, .int .i64 0] 118))) := hid (Below.next (Below.new _ _) (Below.new _ _))
  clear h0
  go_enter Try.func20, Try.ntmps20
  go_wp2
  go_loopw [25] (fun v25 wr => ∃ (k : Nat) (dv : Value) (V : List Value) (R : Nat → Prop), v25 = .int .i64 k ∧ k ≤ n ∧ Hid (DkIs wr (w.heap.size + 1) (dkW (w.heap.size + 1) w.heap.size dv) R (dkNew k size) w.heap.size dv V []) ∧ Hid (∀ j, R j → w.heap.size ≤ j) ∧ Hid (∀ j, dv.ownBlock = some j → w.heap.size ≤ j) ∧ Hid (Below w.heap.size w wr)) (fun v25 _ => n - (intOf v25).toNat)
  case atStart => exact ⟨0, .slice none 0 0, [], _, rfl, by omega, H0, hid (fun j x => x.elim), hid (fun j hj => by simp [Value.ownBlock] at hj), HB0⟩
  case round =>
    clear H0 HB0
    obtain ⟨k, dv, V, R, rfl, hk, HD, HR, HV, HB⟩ := hrel
    by_cases hlt : k < n
    · have HDD := hid (HD.out.below ((Below.refl wr.heap.size wr).drew))
      have hc1 : ∀ w', Upd (fun j => dv.ownBlock = some j) wr w' → w'.cell? ⟨w.heap.size + 1, 1, none⟩ = some dv := fun w' hu => by
        rw [(HD.out.blk.upd hu (fun q => (HD.out.wd _ q).2.1 rfl)).cell]; rfl
      have hf1 : ∀ w', Upd (fun j => dv.ownBlock = some j) wr w' → w'.frozen? ⟨w.heap.size + 1, 1, none⟩ = false := fun w' hu =>
        (HD.out.blk.upd hu (fun q => (HD.out.wd _ q).2.1 rfl)).unfrozen 1
      have HC1 := hid hc1
      have HF1 := hid hf1
      have hu0 : Upd (fun j => dv.ownBlock = some j) wr wr.drew := (Upd.refl _ _).drew
      have HOWND : Hid (wr.drew.ownsRow 0 27 1 dv k V) := hid (by have := HDD.out.own; simpa [dkNew] using this)
      clear hf1
      go_wp2_with fail
      refine wp_region_kept [9, 10, 11] (fun w' => Upd (fun j => dv.ownBlock = some j) wr w') (by kernel_rfl) (by first | assumption | exact hH.new _) (fun hH => ?_)
      refine wpK.take (i := 0) (v := _) (by simp only [List.getElem?_toArray, List.getElem?_cons_succ, List.getElem?_cons_zero]; rfl) (by kernel_rfl) (by kernel_rfl) (by kernel_rfl) (by kernel_rfl) (by kernel_rfl) (by exact fun _ _ _ h => h) (by first | exact Or.inl ⟨by rfl, by intro w hSw; go_simp; try with_reducible rfl⟩ | exact Or.inr ⟨by rfl, rfl⟩) hH ?_
      try simp only [Act.put, List.setIfInBounds_toArray, List.set_cons_zero, List.set_cons_succ]
      refine wpK.take (i := 1) (v := _) (by simp only [List.getElem?_toArray, List.getElem?_cons_succ, List.getElem?_cons_zero]; rfl) (by kernel_rfl) (by kernel_rfl) (by kernel_rfl) (by kernel_rfl) (by kernel_rfl) (by exact fun _ _ _ h => h) (by first | exact Or.inl ⟨by rfl, by intro w hSw; go_simp; try with_reducible rfl⟩ | exact Or.inr ⟨by rfl, rfl⟩) hH ?_
      try simp only [Act.put, List.setIfInBounds_toArray, List.set_cons_zero, List.set_cons_succ]
      refine wpK.take (i := 2) (v := _) (by simp only [List.getElem?_toArray, List.getElem?_cons_succ, List.getElem?_cons_zero]; rfl) (by kernel_rfl) (by kernel_rfl) (by kernel_rfl) (by kernel_rfl) (by kernel_rfl) (by exact fun _ _ _ h => h) (by first | exact Or.inl ⟨by rfl, by intro w hSw; go_simp; try with_reducible rfl⟩ | exact Or.inr ⟨by rfl, rfl⟩) hH ?_
      try simp only [Act.put, List.setIfInBounds_toArray, List.set_cons_zero, List.set_cons_succ]
      refine wpK.take (i := 3) (v := _) (by simp only [List.getElem?_toArray, List.getElem?_cons_succ, List.getElem?_cons_zero]; rfl) (by kernel_rfl) (by kernel_rfl) (by kernel_rfl) (by kernel_rfl) (by kernel_rfl) (by exact fun _ _ _ h => h) (by first | exact Or.inl ⟨by rfl, by intro w hSw; go_simp; try with_reducible rfl⟩ | exact Or.inr ⟨by rfl, rfl⟩) hH ?_
      try simp only [Act.put, List.setIfInBounds_toArray, List.set_cons_zero, List.set_cons_succ]
      refine wpK.take (i := 4) (v := _) (by simp only [List.getElem?_toArray, List.getElem?_cons_succ, List.getElem?_cons_zero]; rfl) (by kernel_rfl) (by kernel_rfl) (by kernel_rfl) (by kernel_rfl) (by kernel_rfl) (by exact fun _ _ _ h => h) (by first | exact Or.inl ⟨by rfl, by intro w hSw; go_simp; try with_reducible rfl⟩ | exact Or.inr ⟨by rfl, rfl⟩) hH ?_
      try simp only [Act.put, List.setIfInBounds_toArray, List.set_cons_zero, List.set_cons_succ]
      refine wpK.take (i := 5) (v := _) (by simp only [List.getElem?_toArray, List.getElem?_cons_succ, List.getElem?_cons_zero]; rfl) (by kernel_rfl) (by kernel_rfl) (by kernel_rfl) (by kernel_rfl) (by kernel_rfl) (by exact fun _ _ _ h => h) (by first | exact Or.inl ⟨by rfl, by intro w hSw; go_simp; try with_reducible rfl⟩ | exact Or.inr ⟨by rfl, rfl⟩) hH ?_
      try simp only [Act.put, List.setIfInBounds_toArray, List.set_cons_zero, List.set_cons_succ]
      refine wpK.step (i := 6) (by kernel_rfl) (by simp only [List.getElem?_toArray, List.getElem?_cons_succ, List.getElem?_cons_zero]; rfl) (fun K hK => ?_)
      refine step_make T_bytes rfl rfl _ _ rfl 0 .i64 .i64 (size : Int) (size : Int) size size rfl rfl rfl rfl (Nat.le_refl _) (by omega) (Nat.zero_le _) ?_; intro g6 wA hg6 hown6 hbA hsA; have HG6 := hid hg6; have HSA := hid hsA; clear hg6 hsA; have hkA := hH.trans (Upd.of_below (S := fun _ => False) hbA) (fun _ _ x => x.elim)
      refine hK.out _ _ (by first | assumption | exact hH.new _) (fun hH => ?_)
      clear hK K
      try simp only [Act.put, List.setIfInBounds_toArray, List.set_cons_zero, List.set_cons_succ]
      refine wpK.step (i := 7) (by kernel_rfl) (by simp only [List.getElem?_toArray, List.getElem?_cons_succ, List.getElem?_cons_zero]; rfl) (fun K hK => ?_)
      go_simp
      refine hK.out _ _ (by first | assumption | exact hH.new _) (fun hH => ?_)
      clear hK K
      try simp only [Act.put, List.setIfInBounds_toArray, List.set_cons_zero, List.set_cons_succ]
      refine wpK.step (i := 8) (by kernel_rfl) (by simp only [List.getElem?_toArray, List.getElem?_cons_succ, List.getElem?_cons_zero]; rfl) (fun K hK => ?_)
      refine step_app1 T_secs wA rfl rfl _ _ rfl 0 dv k V rfl (owns_below HOWND.out hbA) rfl rfl (by intro u hu; simp at hu; subst hu; rfl) (by omega) (Nat.zero_le _) ?_; intro v2 wC hown2 hg2 hnn2 hwh2; obtain ⟨g2, c2, rfl⟩ := Joins.ownsRow_form hown2 (by omega); have hkC := hkA.trans (Upd.of_grown hg2) (fun _ _ x => x); have hc1c := HC1.out _ hkC; have hf1c := HF1.out _ hkC
      refine hK.out _ _ (by first | assumption | exact hH.new _) (fun hH => ?_)
      clear hK K
      try simp only [Act.put, List.setIfInBounds_toArray, List.set_cons_zero, List.set_cons_succ]
      refine wpK.late (i := 9) (by kernel_rfl) (by simp only [List.getElem?_toArray, List.getElem?_cons_succ, List.getElem?_cons_zero]; rfl) (by kernel_rfl) (fun K hK => ?_)
      go_simp
      refine hK.out _ _ ?_
      clear hK K
      try simp only [Act.put, List.setIfInBounds_toArray, List.set_cons_zero, List.set_cons_succ]
      refine wpK.late (i := 10) (by kernel_rfl) (by simp only [List.getElem?_toArray, List.getElem?_cons_succ, List.getElem?_cons_zero]; rfl) (by kernel_rfl) (fun K hK => ?_)
      go_simp
      refine hK.out _ _ ?_
      clear hK K
      try simp only [Act.put, List.setIfInBounds_toArray, List.set_cons_zero, List.set_cons_succ]
      refine wpK.late (i := 11) (by kernel_rfl) (by simp only [List.getElem?_toArray, List.getElem?_cons_succ, List.getElem?_cons_zero]; rfl) (by kernel_rfl) (fun K hK => ?_)
      go_simp
      refine hK.out _ _ ?_
      clear hK K
      try simp only [Act.put, List.setIfInBounds_toArray, List.set_cons_zero, List.set_cons_succ]
      refine wpK.done (by kernel_rfl) ?_ _
      have hp := HDD.out.push (wa := wA) (wb := wA) (g6 := g6) (by have := HG6.out; omega) hown6 hbA (Below.refl _ _) (by simpa using hown2) hg2 hwh2 h4
      have HP := hid hp
      have hsz6 := HSA.out
      have hg6 := HG6.out
      have hsd : w.heap.size ≤ wr.drew.heap.size := HB.out.size
      have HR2 : Hid (∀ j, (R j ∨ j = g6) → w.heap.size ≤ j) := hid (fun j hj => by rcases hj with q | q; exact HR.out j q; omega)
      have HV2 : Hid (∀ j, (Value.slice (some ⟨g2, 0, none⟩) (k + 1) c2).ownBlock = some j → w.heap.size ≤ j) := hid (fun j hj => by rcases hwh2 j hj with q | q; exact HV.out j q; omega)
      have HB2 : Hid (Below w.heap.size w (wC.setCell ⟨w.heap.size + 1, 1, none⟩ (.slice (some ⟨g2, 0, none⟩) (k + 1) c2))) := hid ((HB.out.trans (hkC.below (B := w.heap.size) HB.out.size (fun j _ q => HV.out j q))).setCell (p := ⟨w.heap.size + 1, 1, none⟩) (by simp) _)
      clear hp hown6 hbA hkA hown2 hg2 hnn2 hwh2 hkC hc1c hf1c hH hc1 hu0 hg6 hsz6
      go_wp2_with fail
      go_roundw
      case rel => exact ⟨k + 1, _, _, _, by go_num, by omega, HP, HR2, HV2, HB2⟩
      case measure => simp [intOf]; omega
    · obtain rfl : k = n := by omega
      have HPOST : Hid (DiskIs wr (w.heap.size + 1) (dkW (w.heap.size + 1) w.heap.size dv) R (dkNew k size)) := hid ⟨_, _, _, _, HD.out⟩
      have HW : Hid (∀ j, dkW (w.heap.size + 1) w.heap.size dv j → w.heap.size ≤ j) := hid (fun j hj => by
        rcases hj with q | q | q
        · omega
        · omega
        · exact HV.out j q)
      go_wp2_with fail
      go_ret
      exact ⟨_, _, R, rfl, HPOST.out, HW.out, HR.out, HB.out⟩
end Go.Proofs.Ytohknblokejldaa
end
