/- Joined texts, in this order: Ref05Math, Ref05. Each one's first remark says what it proves; no condition beyond those that its theorems name. -/
import Derived.Test.YtohknblokejldaaJLawDiskPlays09
import Derived.Test.YtohknblokejldaaJLawDiskPlays22
section
/- Plain: the document's disk, two lists of sectors; how it goes with the program's. -/
namespace Go.Proofs.Ytohknblokejldaa
open Go.RowKit
set_option linter.unusedVariables false

structure Rf where
  D : List (List UInt8)
  C : List (List UInt8)
  size : Nat
  armed : Bool
  down : Bool
  left : Int
  done : Int
def rfNew (n size : Nat) : Rf := ⟨List.replicate n (List.replicate size 0), List.replicate n [], size, false, false, 0, 0⟩
def rfCommand (x : Rf) : Int × Rf := if x.armed = true then (if x.left = 0 then (20, { x with down := true }) else (0, { x with left := wrap64 (x.left - 1), done := wrap64 (x.done + 1) })) else (0, { x with done := wrap64 (x.done + 1) })
def rfCheck (x : Rf) (i : Int) : Int := if x.down then 20 else if i < 0 ∨ (x.D.length : Int) ≤ i then 11 else 0
def rfWrite (x : Rf) (i : Int) (l : List UInt8) : Int × Rf :=
  if rfCheck x i ≠ 0 then (rfCheck x i, x) else if l.length ≠ x.size then (10, x) else rfCommand { x with C := x.C.set i.toNat l }
def rfSector (x : Rf) (i : Nat) : List UInt8 := if x.C.getD i [] = [] then x.D.getD i [] else x.C.getD i []
def rfRead (x : Rf) (i : Int) : List UInt8 × Int := if rfCheck x i ≠ 0 then ([], rfCheck x i) else (rfSector x i.toNat, 0)
def mixR (f : Int → List UInt8 → List UInt8 → List UInt8) (D C : List (List UInt8)) : List (List UInt8) := D.mapIdx fun i d => if C.getD i [] = [] then d else f (i : Int) (C.getD i []) d
def rfFlush (x : Rf) : Int × Rf := if x.down then (20, x) else if (rfCommand x).1 ≠ 0 then rfCommand x else (0, { (rfCommand x).2 with D := mixR (fun _ b _ => b) x.D x.C, C := List.replicate x.C.length [] })
def rfCrash (x : Rf) (keep : List Int) (torn cut : Int) : Rf := { x with D := mixR (crashF keep torn (cutN cut x.size)) x.D x.C, C := List.replicate x.C.length [], down := false, armed := false }
def rfArm (x : Rf) (n : Int) : Rf := { x with armed := decide (0 ≤ n), left := n }

structure RfRel (s : Dk) (x : Rf) : Prop where
  D : x.D = s.D
  len : x.C.length = s.D.length
  C : ∀ i : Nat, i < s.D.length → x.C.getD i [] = (s.C.lookup (i : Int)).getD []
  size : x.size = s.size
  armed : x.armed = s.armed
  down : x.down = s.down
  done : x.done = s.done
  left : s.armed = true → x.left = s.left
theorem getD_replicate {n i : Nat} : (List.replicate n ([] : List UInt8)).getD i [] = [] := by
  rw [List.getD_eq_getElem?_getD, List.getElem?_replicate]; split <;> rfl
theorem RfRel.new (n size : Nat) : RfRel (dkNew n size) (rfNew n size) :=
  ⟨rfl, by simp [rfNew, dkNew], fun i _ => by show (List.replicate n []).getD i [] = _; rw [getD_replicate]; rfl, rfl, rfl, rfl, rfl, fun h => by cases h⟩
theorem RfRel.check {s : Dk} {x : Rf} (h : RfRel s x) (i : Int) : rfCheck x i = dkCheck s i := by unfold rfCheck dkCheck; rw [h.down, h.D]
theorem RfRel.command {s : Dk} {x : Rf} (h : RfRel s x) : (rfCommand x).1 = (dkCommand s).1 ∧ RfRel (dkCommand s).2 (rfCommand x).2 := by
  unfold rfCommand dkCommand
  by_cases ha : s.armed = true
  · have hxa : x.armed = true := h.armed.trans ha
    have hl := h.left ha
    rw [if_pos hxa, if_pos ha]
    by_cases h0 : s.left = 0
    · rw [if_pos (hl.trans h0), if_pos h0]
      exact ⟨rfl, h.D, h.len, h.C, h.size, h.armed, rfl, h.done, h.left⟩
    · rw [if_neg (by rw [hl]; exact h0), if_neg h0]
      exact ⟨rfl, h.D, h.len, h.C, h.size, h.armed, h.down, by show wrap64 (x.done + 1) = wrap64 (s.done + 1); rw [h.done], fun _ => by show wrap64 (x.left - 1) = wrap64 (s.left - 1); rw [hl]⟩
  · have hxa : ¬ x.armed = true := by rw [h.armed]; exact ha
    rw [if_neg hxa, if_neg ha]
    exact ⟨rfl, h.D, h.len, h.C, h.size, h.armed, h.down, by show wrap64 (x.done + 1) = wrap64 (s.done + 1); rw [h.done], fun q => absurd q ha⟩
theorem Dk.Ok.command {s : Dk} (h : s.Ok) : (dkCommand s).2.Ok := h.of_same (dkCommand_same s).1 (dkCommand_same s).2.1 (dkCommand_same s).2.2
theorem RfRel.write {s : Dk} {x : Rf} (h : RfRel s x) (hok : s.Ok) (i : Int) (l : List UInt8) : (rfWrite x i l).1 = (dkWrite s i l).1 ∧ RfRel (dkWrite s i l).2 (rfWrite x i l).2 ∧ (dkWrite s i l).2.Ok := by
  by_cases hc : dkCheck s i = 0
  · by_cases hl : l.length = s.size
    · have e1 : rfWrite x i l = rfCommand { x with C := x.C.set i.toNat l } := by
        unfold rfWrite
        rw [if_neg (by rw [h.check]; simpa using hc), if_neg (by rw [h.size]; simpa using hl)]
      have e2 : dkWrite s i l = dkCommand { s with C := aput s.C i l } := by
        unfold dkWrite
        rw [if_neg (by simpa using hc), if_neg (by simpa using hl)]
      rw [e1, e2]
      have hb : 0 ≤ i ∧ i < (s.D.length : Int) := by
        unfold dkCheck at hc
        by_cases hd : s.down = true
        · rw [if_pos hd] at hc; omega
        · rw [if_neg hd] at hc
          by_cases hr : i < 0 ∨ (s.D.length : Int) ≤ i
          · rw [if_pos hr] at hc; omega
          · omega
      have hput := hok.put i l hb.1 hb.2 hl
      have hrel : RfRel { s with C := aput s.C i l } { x with C := x.C.set i.toNat l } := ⟨h.D, by simpa using h.len, fun j hj => by
        show (x.C.set i.toNat l).getD j [] = ((aput s.C i l).lookup (j : Int)).getD []
        have hj2 : j < s.D.length := hj
        have hlen := h.len
        rw [lookup_aput, List.getD_eq_getElem?_getD, List.getElem?_set]
        by_cases hij : i.toNat = j
        · rw [if_pos hij, if_pos (by omega), if_pos (by omega), Option.getD_some]
        · rw [if_neg hij, if_neg (by omega), ← h.C j hj, List.getD_eq_getElem?_getD], h.size, h.armed, h.down, h.done, h.left⟩
      exact ⟨hrel.command.1, hrel.command.2, hput.command⟩
    · have e1 : rfWrite x i l = (10, x) := by
        unfold rfWrite
        rw [if_neg (by rw [h.check]; simpa using hc), if_pos (by rw [h.size]; exact hl)]
      have e2 : dkWrite s i l = (10, s) := by
        unfold dkWrite
        rw [if_neg (by simpa using hc), if_pos hl]
      rw [e1, e2]
      exact ⟨rfl, h, hok⟩
  · have e1 : rfWrite x i l = (rfCheck x i, x) := by
      unfold rfWrite
      rw [if_pos (by rw [h.check]; exact hc)]
    have e2 : dkWrite s i l = (dkCheck s i, s) := by
      unfold dkWrite
      rw [if_pos hc]
    rw [e1, e2]
    exact ⟨h.check i, h, hok⟩
theorem Dk.Ok.lookup {s : Dk} (h : s.Ok) {k : Int} {l : List UInt8} (hl : s.C.lookup k = some l) : 0 ≤ k ∧ k < (s.D.length : Int) ∧ l.length = s.size ∧ l ≠ [] := by
  have := h.key _ (lookup_mem hl)
  refine ⟨this.1, this.2.1, this.2.2, fun e => ?_⟩
  have h2 := this.2.2
  have h3 := h.sz0
  rw [e] at h2
  simp at h2
  omega
theorem RfRel.sector {s : Dk} {x : Rf} (h : RfRel s x) (hok : s.Ok) (i : Nat) (hi : i < s.D.length) : rfSector x i = dkSector s (i : Int) := by
  unfold rfSector dkSector
  rw [h.C i hi, h.D]
  cases hl : s.C.lookup (i : Int) with
  | none => simp
  | some b =>
    rw [Option.getD_some, if_neg (hok.lookup hl).2.2.2]
    rfl
theorem RfRel.read {s : Dk} {x : Rf} (h : RfRel s x) (hok : s.Ok) (i : Int) : rfRead x i = dkRead s i := by
  unfold rfRead dkRead
  rw [h.check]
  by_cases hc : dkCheck s i = 0
  · rw [if_neg (by simpa using hc), if_neg (by simpa using hc)]
    have hb : 0 ≤ i ∧ i < (s.D.length : Int) := by
      unfold dkCheck at hc
      by_cases hd : s.down = true
      · rw [if_pos hd] at hc; omega
      · rw [if_neg hd] at hc
        by_cases hr : i < 0 ∨ (s.D.length : Int) ≤ i
        · rw [if_pos hr] at hc; omega
        · omega
    have := h.sector hok i.toNat (by omega)
    rw [this, show ((i.toNat : Nat) : Int) = i by omega]
  · rw [if_pos hc, if_pos hc]
theorem RfRel.mix {s : Dk} {x : Rf} (h : RfRel s x) (hok : s.Ok) (f : Int → List UInt8 → List UInt8 → List UInt8) : mixR f x.D x.C = mixF f s.D s.C [] := by
  apply List.ext_getElem?
  intro i
  rw [mixF_at]
  unfold mixR
  rw [List.getElem?_mapIdx, h.D]
  cases hd : s.D[i]? with
  | none => rfl
  | some d =>
    have hi : i < s.D.length := (List.getElem?_eq_some_iff.1 hd).1
    rw [Option.map_some, Option.map_some, h.C i hi]
    simp only [List.not_mem_nil, if_false]
    cases hl : s.C.lookup (i : Int) with
    | none => simp
    | some b => rw [Option.getD_some, if_neg (hok.lookup hl).2.2.2]
theorem RfRel.empty {s : Dk} {x : Rf} (h : RfRel s x) (i : Nat) : (List.replicate x.C.length ([] : List UInt8)).getD i [] = ((([] : List (Int × List UInt8))).lookup (i : Int)).getD [] := by rw [getD_replicate]; rfl
theorem RfRel.flush {s : Dk} {x : Rf} (h : RfRel s x) (hok : s.Ok) : (rfFlush x).1 = (dkFlush s).1 ∧ RfRel (dkFlush s).2 (rfFlush x).2 ∧ (dkFlush s).2.Ok := by
  have hcm := h.command
  have hcs := dkCommand_same s
  have hok1 := hok.command
  by_cases hd : s.down = true
  · have e1 : rfFlush x = (20, x) := by unfold rfFlush; rw [if_pos (h.down.trans hd)]
    have e2 : dkFlush s = (20, s) := by unfold dkFlush; rw [if_pos hd]
    rw [e1, e2]
    exact ⟨rfl, h, hok⟩
  · by_cases he : (dkCommand s).1 = 0
    · have e1 : rfFlush x = (0, { (rfCommand x).2 with D := mixR (fun _ b _ => b) x.D x.C, C := List.replicate x.C.length [] }) := by
        unfold rfFlush
        rw [if_neg (by rw [h.down]; exact hd), if_neg (by rw [hcm.1]; simpa using he)]
      have e2 : dkFlush s = (0, { (dkCommand s).2 with D := flushD (dkCommand s).2, C := [] }) := by
        unfold dkFlush
        rw [if_neg hd, if_neg (by simpa using he)]
      rw [e1, e2]
      have hm := h.mix hok (fun _ b _ => b)
      refine ⟨rfl, ⟨?_, ?_, ?_, hcm.2.size, hcm.2.armed, hcm.2.down, hcm.2.done, hcm.2.left⟩, hok1.flush⟩
      · show mixR (fun _ b _ => b) x.D x.C = flushD (dkCommand s).2
        unfold flushD
        rw [hcs.1, hcs.2.1]; exact hm
      · show (List.replicate x.C.length []).length = (flushD (dkCommand s).2).length
        unfold flushD
        rw [List.length_replicate, mixF_len, hcs.1]; exact h.len
      · intro i _; exact h.empty i
    · have e1 : rfFlush x = rfCommand x := by
        unfold rfFlush
        rw [if_neg (by rw [h.down]; exact hd), if_pos (by rw [hcm.1]; exact he)]
      have e2 : dkFlush s = dkCommand s := by
        unfold dkFlush
        rw [if_neg hd, if_pos he]
      rw [e1, e2]
      exact ⟨hcm.1, hcm.2, hok1⟩
theorem RfRel.arm {s : Dk} {x : Rf} (h : RfRel s x) (n : Int) : RfRel (dkArm s n) (rfArm x n) := ⟨h.D, h.len, h.C, h.size, rfl, h.down, h.done, fun _ => rfl⟩
theorem Dk.Ok.arm {s : Dk} (h : s.Ok) (n : Int) : (dkArm s n).Ok := h.of_same rfl rfl rfl
theorem RfRel.crash {s : Dk} {x : Rf} (h : RfRel s x) (hok : s.Ok) (keep : List Int) (torn cut : Int) : RfRel (dkCrash s keep torn cut) (rfCrash x keep torn cut) := by
  have hm := h.mix hok (crashF keep torn (cutN cut s.size))
  refine ⟨?_, ?_, ?_, h.size, rfl, rfl, h.done, fun q => by simp [dkCrash, dkArm] at q⟩
  · show mixR (crashF keep torn (cutN cut x.size)) x.D x.C = mixF _ s.D s.C []
    rw [h.size]; exact hm
  · show (List.replicate x.C.length []).length = (mixF _ s.D s.C []).length
    rw [List.length_replicate, mixF_len]; exact h.len
  · intro i _; exact h.empty i
end Go.Proofs.Ytohknblokejldaa
end
section
/- Contracts of the document's disk. -/
namespace Go.Proofs.Ytohknblokejldaa
open Go.RowKit
open Go.Lib (hid)
set_option linter.unusedVariables false

theorem T_strs : SlT Try.prog 92 9 (.string ByteArray.empty) 1 16 := SlT.mk' Try.underlying92 (by kernel_rfl) rfl (by decide) (by decide)
/-- bytes as strings in cells -/
def sv (L : List (List UInt8)) : List Value := L.map fun l => Value.string ⟨l.toArray⟩
theorem sv_len (L : List (List UInt8)) : (sv L).length = L.length := by simp [sv]
structure RfP where
  g : Nat
  gD : Nat
  gC : Nat
  cD : Nat
  cC : Nat
structure RfIs (w : World) (p : RfP) (x : Rf) : Prop where
  blk : Blk w p.g #[.slice (some ⟨p.gD, 0, none⟩) x.D.length p.cD, .slice (some ⟨p.gC, 0, none⟩) x.C.length p.cC, .int .i64 (x.size : Int), .bool x.armed, .bool x.down, .int .i64 x.left, .int .i64 x.done]
  oD : w.ownsRow 0 9 1 (.slice (some ⟨p.gD, 0, none⟩) x.D.length p.cD) x.D.length (sv x.D)
  oC : w.ownsRow 0 9 1 (.slice (some ⟨p.gC, 0, none⟩) x.C.length p.cC) x.C.length (sv x.C)
  n1 : p.g ≠ p.gD
  n2 : p.g ≠ p.gC
  n3 : p.gD ≠ p.gC
def RfW (p : RfP) (k : Nat) : Prop := k = p.g ∨ k = p.gD ∨ k = p.gC
theorem RfIs.lt {w : World} {p : RfP} {x : Rf} (h : RfIs w p x) : ∀ k, RfW p k → k < w.heap.size := by
  intro k hk
  rcases hk with rfl | rfl | rfl
  · exact h.blk.lt
  · exact (h.oD.lt _ rfl).2
  · exact (h.oC.lt _ rfl).2
theorem RfIs.upd {S : Nat → Prop} {w w' : World} {p : RfP} {x : Rf} (h : RfIs w p x) (hu : Upd S w w') (hS : ∀ k, RfW p k → ¬ S k) : RfIs w' p x :=
  ⟨h.blk.upd hu (hS _ (.inl rfl)), hu.owns h.oD (fun k hk => hS k (.inr (.inl (by simpa [Value.ownBlock] using hk.symm)))), hu.owns h.oC (fun k hk => hS k (.inr (.inr (by simpa [Value.ownBlock] using hk.symm)))), h.n1, h.n2, h.n3⟩
theorem RfIs.below {w w' : World} {p : RfP} {x : Rf} (h : RfIs w p x) (hb : Below w.heap.size w w') : RfIs w' p x := h.upd (S := fun _ => False) (Upd.of_below hb) (fun _ _ q => q)
theorem RfIs.cells {w : World} {p : RfP} {x : Rf} (h : RfIs w p x) : w.cell? ⟨p.g, 0, none⟩ = some (.slice (some ⟨p.gD, 0, none⟩) x.D.length p.cD) ∧ w.cell? ⟨p.g, 1, none⟩ = some (.slice (some ⟨p.gC, 0, none⟩) x.C.length p.cC) ∧ w.cell? ⟨p.g, 2, none⟩ = some (.int .i64 (x.size : Int)) ∧
    w.cell? ⟨p.g, 3, none⟩ = some (.bool x.armed) ∧ w.cell? ⟨p.g, 4, none⟩ = some (.bool x.down) ∧ w.cell? ⟨p.g, 5, none⟩ = some (.int .i64 x.left) ∧ w.cell? ⟨p.g, 6, none⟩ = some (.int .i64 x.done) :=
  ⟨by rw [h.blk.cell]; rfl, by rw [h.blk.cell]; rfl, by rw [h.blk.cell]; rfl, by rw [h.blk.cell]; rfl, by rw [h.blk.cell]; rfl, by rw [h.blk.cell]; rfl, by rw [h.blk.cell]; rfl⟩
theorem RfIs.reblk {w w' : World} {p : RfP} {x x' : Rf} (h : RfIs w p x) (hu : Upd (fun k => k = p.g) w w')
    (hb : Blk w' p.g #[.slice (some ⟨p.gD, 0, none⟩) x'.D.length p.cD, .slice (some ⟨p.gC, 0, none⟩) x'.C.length p.cC, .int .i64 (x'.size : Int), .bool x'.armed, .bool x'.down, .int .i64 x'.left, .int .i64 x'.done]) (hD : x'.D = x.D) (hC : x'.C = x.C) : RfIs w' p x' :=
  ⟨hb, by rw [hD]; exact hu.owns h.oD (fun k hk q => h.n1 (by rw [← q]; simpa [Value.ownBlock] using hk.symm)), by rw [hC]; exact hu.owns h.oC (fun k hk q => h.n2 (by rw [← q]; simpa [Value.ownBlock] using hk.symm)), h.n1, h.n2, h.n3⟩
theorem sv_set (L : List (List UInt8)) (k : Nat) (l : List UInt8) : sv (L.set k l) = (sv L).set k (.string ⟨l.toArray⟩) := by simp [sv, List.map_set]
theorem RfIs.setC {w : World} {p : RfP} {x : Rf} (h : RfIs w p x) (k : Nat) (l : List UInt8) : RfIs (w.setCell ⟨p.gC, k, none⟩ (.string ⟨l.toArray⟩)) p { x with C := x.C.set k l } := by
  have hu := Upd.setCell w p.gC k (.string ⟨l.toArray⟩)
  refine ⟨by simpa using h.blk.upd hu h.n2, hu.owns h.oD (fun j hj q => h.n3 (by rw [← q]; simpa [Value.ownBlock] using hj)), ?_, h.n1, h.n2, h.n3⟩
  have := (h.oC.stored k (.string ⟨l.toArray⟩)).1
  rw [← sv_set] at this
  simpa using this
theorem RfIs.setD {w : World} {p : RfP} {x : Rf} (h : RfIs w p x) (k : Nat) (l : List UInt8) : RfIs (w.setCell ⟨p.gD, k, none⟩ (.string ⟨l.toArray⟩)) p { x with D := x.D.set k l } := by
  have hu := Upd.setCell w p.gD k (.string ⟨l.toArray⟩)
  refine ⟨by simpa using h.blk.upd hu h.n1, ?_, hu.owns h.oC (fun j hj q => h.n3 (by rw [← q]; simpa [Value.ownBlock] using hj.symm)), h.n1, h.n2, h.n3⟩
  have := (h.oD.stored k (.string ⟨l.toArray⟩)).1
  rw [← sv_set] at this
  simpa using this
theorem RfIs.atC {w : World} {p : RfP} {x : Rf} (h : RfIs w p x) (k : Nat) (hk : k < x.C.length) : w.cell? ⟨p.gC, k, none⟩ = some (.string ⟨(x.C.getD k []).toArray⟩) ∧ w.frozen? ⟨p.gC, k, none⟩ = false :=
  ⟨by rw [h.oC.cellAt k (by omega)]; simp [sv, hk], h.oC.frozenAt k⟩
theorem RfIs.atD {w : World} {p : RfP} {x : Rf} (h : RfIs w p x) (k : Nat) (hk : k < x.D.length) : w.cell? ⟨p.gD, k, none⟩ = some (.string ⟨(x.D.getD k []).toArray⟩) ∧ w.frozen? ⟨p.gD, k, none⟩ = false :=
  ⟨by rw [h.oD.cellAt k (by omega)]; simp [sv, hk], h.oD.frozenAt k⟩

set_option maxRecDepth 100000 in
set_option maxHeartbeats 1000000 in
theorem rf_Command (p : RfP) (x : Rf) (w : World) (h : RfIs w p x) (e0 : Int) (x' : Rf) (hs : Hid (rfCommand x = (e0, x'))) :
    Calls Try.prog 111 #[.pointer (some ⟨p.g, 0, none⟩)] w fun e w' => e = .returned (.int .i64 e0) ∧ RfIs w' p x' ∧ Upd (RfW p) w w' := by
  obtain ⟨hc0, hc1, hc2, hc3, hc4, hc5, hc6⟩ := h.cells
  have hf4 := h.blk.unfrozen 4
  have hf5 := h.blk.unfrozen 5
  have hf6 := h.blk.unfrozen 6
  have HH := hid h
  have hs2 := hs.out
  unfold rfCommand at hs2
  clear h hs hc0 hc1 hc2 hc4
  cases ha : x.armed
  · rw [ha] at hs2 hc3
    simp only [Bool.false_eq_true, if_false, Prod.mk.injEq] at hs2
    obtain ⟨rfl, rfl⟩ := hs2
    have hu := Upd.setCell w p.g 6 (.int .i64 (wrap64 (x.done + 1)))
    have HPOST : Hid (RfIs (w.setCell ⟨p.g, 6, none⟩ (.int .i64 (wrap64 (x.done + 1)))) p { x with done := wrap64 (x.done + 1) } ∧ Upd (RfW p) w (w.setCell ⟨p.g, 6, none⟩ (.int .i64 (wrap64 (x.done + 1))))) := hid
      ⟨HH.out.reblk hu (by simpa [ha] using HH.out.blk.set 6 (.int .i64 (wrap64 (x.done + 1)))) rfl rfl, hu.mono (fun k _ q => .inl q)⟩
    have HA := hid ha
    clear hu ha
    go_enter Try.func111, Try.ntmps111
    go_wp2
    go_ret
    exact ⟨rfl, by have q := HPOST.out.1; rw [HA.out] at q; exact q, HPOST.out.2⟩
  · rw [ha] at hs2 hc3
    simp only [if_true] at hs2
    by_cases hl : x.left = 0
    · rw [if_pos hl] at hs2
      simp only [Prod.mk.injEq] at hs2
      obtain ⟨rfl, rfl⟩ := hs2
      rw [hl] at hc5
      have hc4 : w.cell? ⟨p.g, 4, none⟩ = some (.bool x.down) := HH.out.cells.2.2.2.2.1
      have hu := Upd.setCell w p.g 4 (.bool true)
      have HPOST : Hid (RfIs (w.setCell ⟨p.g, 4, none⟩ (.bool true)) p { x with down := true } ∧ Upd (RfW p) w (w.setCell ⟨p.g, 4, none⟩ (.bool true))) := hid
        ⟨HH.out.reblk hu (by simpa [ha] using HH.out.blk.set 4 (.bool true)) rfl rfl, hu.mono (fun k _ q => .inl q)⟩
      have HA := hid ha
      clear hu ha hl
      go_enter Try.func111, Try.ntmps111
      go_wp2
      go_ret
      exact ⟨rfl, by have q := HPOST.out.1; rw [HA.out] at q; exact q, HPOST.out.2⟩
    · rw [if_neg hl] at hs2
      simp only [Prod.mk.injEq] at hs2
      obtain ⟨rfl, rfl⟩ := hs2
      have hu := (Upd.setCell w p.g 5 (.int .i64 (wrap64 (x.left - 1)))).trans (Upd.setCell _ p.g 6 (.int .i64 (wrap64 (x.done + 1)))) (fun _ _ x => x)
      have HPOST : Hid (RfIs ((w.setCell ⟨p.g, 5, none⟩ (.int .i64 (wrap64 (x.left - 1)))).setCell ⟨p.g, 6, none⟩ (.int .i64 (wrap64 (x.done + 1)))) p { x with left := wrap64 (x.left - 1), done := wrap64 (x.done + 1) } ∧ Upd (RfW p) w ((w.setCell ⟨p.g, 5, none⟩ (.int .i64 (wrap64 (x.left - 1)))).setCell ⟨p.g, 6, none⟩ (.int .i64 (wrap64 (x.done + 1))))) := hid
        ⟨HH.out.reblk hu (by simpa [ha] using (HH.out.blk.set 5 (.int .i64 (wrap64 (x.left - 1)))).set 6 (.int .i64 (wrap64 (x.done + 1)))) rfl rfl, hu.mono (fun k _ q => .inl q)⟩
      have hlb : (x.left == 0) = false := by simpa using hl
      have HA := hid ha
      clear hu ha hl
      go_enter Try.func111, Try.ntmps111
      go_wp2
      go_ret
      exact ⟨rfl, by have q := HPOST.out.1; rw [HA.out] at q; exact q, HPOST.out.2⟩
theorem rfCheck_bad {x : Rf} {i : Int} (h : rfCheck x i ≠ 0) : (x.down = true ∧ rfCheck x i = 20) ∨ (x.down = false ∧ i < 0 ∧ rfCheck x i = 11) ∨ (x.down = false ∧ ¬ i < 0 ∧ (x.D.length : Int) ≤ i ∧ rfCheck x i = 11) := by
  unfold rfCheck at h ⊢
  cases hd : x.down
  · rw [hd] at h
    simp only [Bool.false_eq_true, if_false] at h ⊢
    by_cases h0 : i < 0
    · exact .inr (.inl ⟨trivial, h0, if_pos (.inl h0)⟩)
    · by_cases h1 : (x.D.length : Int) ≤ i
      · exact .inr (.inr ⟨trivial, h0, h1, if_pos (.inr h1)⟩)
      · rw [if_neg (by omega)] at h; exact absurd rfl h
  · exact .inl ⟨rfl, rfl⟩
theorem rfCheck_ok {x : Rf} {i : Int} (h : rfCheck x i = 0) : x.down = false ∧ 0 ≤ i ∧ i < (x.D.length : Int) := by
  by_cases hb : x.down = true
  · unfold rfCheck at h; rw [if_pos hb] at h; omega
  · have hd : x.down = false := by simpa using hb
    unfold rfCheck at h
    rw [if_neg hb] at h
    by_cases hr : i < 0 ∨ (x.D.length : Int) ≤ i
    · rw [if_pos hr] at h; omega
    · exact ⟨hd, by omega, by omega⟩
set_option maxRecDepth 100000 in
set_option maxHeartbeats 1000000 in
theorem rf_Write (p : RfP) (x : Rf) (hx : x.C.length = x.D.length) (i : Int) (l : List UInt8) (hl : l.length ≤ 1000000) (w : World) (h : RfIs w p x) (e0 : Int) (x' : Rf) (hs : Hid (rfWrite x i l = (e0, x'))) :
    Calls Try.prog 86 #[.pointer (some ⟨p.g, 0, none⟩), .int .i64 i, .string ⟨l.toArray⟩] w fun e w' => e = .returned (.int .i64 e0) ∧ RfIs w' p x' ∧ Upd (RfW p) w w' := by
  obtain ⟨hc0, hc1, hc2, -, hc4, -, -⟩ := h.cells
  have HH := hid h
  have hs2 := hs.out
  unfold rfWrite at hs2
  have hlen : (⟨l.toArray⟩ : ByteArray).size = l.length := rfl
  obtain ⟨q, hq⟩ : ∃ q : ByteArray, q = ⟨l.toArray⟩ := ⟨_, rfl⟩
  rw [← hq] at hlen ⊢
  have HQ := hid hq
  clear h hs hq
  by_cases hc : rfCheck x i = 0
  · rw [if_neg (by simpa using hc)] at hs2
    obtain ⟨hd, h0, h1⟩ := rfCheck_ok hc
    rw [hd] at hc4
    have h0' : ¬ i < 0 := by omega
    have h1' : ¬ (x.D.length : Int) ≤ i := by omega
    obtain ⟨k, rfl⟩ : ∃ k : Nat, i = (k : Int) := ⟨i.toNat, by omega⟩
    have HD := hid hd
    clear hd hc
    by_cases hz : l.length = x.size
    · rw [if_neg (by simpa using hz)] at hs2
      simp only [Int.toNat_natCast] at hs2
      have hzi : ((l.length : Int) != (x.size : Int)) = false := by simp; omega
      obtain ⟨hkc, hkf⟩ := HH.out.atC k (by omega)
      have hkl : (k : Int) < (x.C.length : Int) := by omega
      have HS := hid hs2
      have HI := hid (HH.out.setC k l)
      have HU : Hid (Upd (RfW p) w (w.setCell ⟨p.gC, k, none⟩ (.string q))) := hid ((Upd.setCell w p.gC k _).mono (fun j _ q => .inr (.inr q)))
      rw [← HQ.out] at HI
      clear hs2 hz
      go_enter Try.func86, Try.ntmps86
      go_wp2_with fail
      refine (rf_Command p _ _ HI.out e0 x' HS).mono ?_
      rintro e w2 ⟨rfl, hi2, hu2⟩
      have HI2 := hid hi2
      have HU2 := hid (HU.out.trans hu2 (fun _ _ q => q))
      clear hi2 hu2
      go_wp2_with fail
      go_ret
      exact ⟨rfl, HI2.out, HU2.out⟩
    · rw [if_pos hz] at hs2
      simp only [Prod.mk.injEq] at hs2
      obtain ⟨rfl, rfl⟩ := hs2
      have hzi : ((l.length : Int) != (x.size : Int)) = true := by simp; omega
      go_enter Try.func86, Try.ntmps86
      go_wp2_with fail
      go_ret
      exact ⟨rfl, HH.out, Upd.refl _ _⟩
  · rw [if_pos hc] at hs2
    simp only [Prod.mk.injEq] at hs2
    obtain ⟨hs3, rfl⟩ := hs2
    rcases rfCheck_bad hc with ⟨h1, h2⟩ | ⟨h1, h2, h3⟩ | ⟨h1, h2, h3, h4⟩
    · rw [h1] at hc4
      rw [h2] at hs3
      subst hs3
      clear h1 h2 hc
      go_enter Try.func86, Try.ntmps86
      go_wp2_with fail
      go_ret
      exact ⟨rfl, HH.out, Upd.refl _ _⟩
    · rw [h1] at hc4
      rw [h3] at hs3
      subst hs3
      clear h1 h3 hc
      go_enter Try.func86, Try.ntmps86
      go_wp2_with fail
      go_ret
      exact ⟨rfl, HH.out, Upd.refl _ _⟩
    · rw [h1] at hc4
      rw [h4] at hs3
      subst hs3
      clear h1 h4 hc
      go_enter Try.func86, Try.ntmps86
      go_wp2_with fail
      go_ret
      exact ⟨rfl, HH.out, Upd.refl _ _⟩
end Go.Proofs.Ytohknblokejldaa
end
