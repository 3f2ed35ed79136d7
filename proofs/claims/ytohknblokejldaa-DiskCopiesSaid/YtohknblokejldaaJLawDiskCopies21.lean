/- Joined texts, in this order: Ref05. Each one's first remark says what it proves; no condition beyond those that its theorems name. -/
import Derived.Test.YtohknblokejldaaJLawDiskCopies20
section
/- Contracts of the document's disk. -/
namespace Go.Proofs.Ytohknblokejldaa
open Go.RowKit
open Go.Lib (hid)
set_option linter.unusedVariables false

theorem T_strs : SlT Try.prog 92 9 (.string ByteArray.empty) 1 16 := SlT.mk' Try.underlying92 (by kernel_rfl) rfl (by decide) (by decide)
/-- bytes as strings in cells -/
def sv (L : List (List UInt8)) : List Value := L.map fun l => Value.string ⟨l.toArray⟩
theorem sv_len (L : List (List UInt8)) : (sv L).length = L.length := by simp [sv]
structure RfP where
  g : Nat
  gD : Nat
  gC : Nat
  cD : Nat
  cC : Nat
structure RfIs (w : World) (p : RfP) (x : Rf) : Prop where
  blk : Blk w p.g #[.slice (some ⟨p.gD, 0, none⟩) x.D.length p.cD, .slice (some ⟨p.gC, 0, none⟩) x.C.length p.cC, .int .i64 (x.size : Int), .bool x.armed, .bool x.down, .int .i64 x.left, .int .i64 x.done]
  oD : w.ownsRow 0 9 1 (.slice (some ⟨p.gD, 0, none⟩) x.D.length p.cD) x.D.length (sv x.D)
  oC : w.ownsRow 0 9 1 (.slice (some ⟨p.gC, 0, none⟩) x.C.length p.cC) x.C.length (sv x.C)
  n1 : p.g ≠ p.gD
  n2 : p.g ≠ p.gC
  n3 : p.gD ≠ p.gC
def RfW (p : RfP) (k : Nat) : Prop := k = p.g ∨ k = p.gD ∨ k = p.gC
theorem RfIs.lt {w : World} {p : RfP} {x : Rf} (h : RfIs w p x) : ∀ k, RfW p k → k < w.heap.size := by
  intro k hk
  rcases hk with rfl | rfl | rfl
  · exact h.blk.lt
  · exact (h.oD.lt _ rfl).2
  · exact (h.oC.lt _ rfl).2
theorem RfIs.upd {S : Nat → Prop} {w w' : World} {p : RfP} {x : Rf} (h : RfIs w p x) (hu : Upd S w w') (hS : ∀ k, RfW p k → ¬ S k) : RfIs w' p x :=
  ⟨h.blk.upd hu (hS _ (.inl rfl)), hu.owns h.oD (fun k hk => hS k (.inr (.inl (by simpa [Value.ownBlock] using hk.symm)))), hu.owns h.oC (fun k hk => hS k (.inr (.inr (by simpa [Value.ownBlock] using hk.symm)))), h.n1, h.n2, h.n3⟩
theorem RfIs.below {w w' : World} {p : RfP} {x : Rf} (h : RfIs w p x) (hb : Below w.heap.size w w') : RfIs w' p x := h.upd (S := fun _ => False) (Upd.of_below hb) (fun _ _ q => q)
theorem RfIs.cells {w : World} {p : RfP} {x : Rf} (h : RfIs w p x) : w.cell? ⟨p.g, 0, none⟩ = some (.slice (some ⟨p.gD, 0, none⟩) x.D.length p.cD) ∧ w.cell? ⟨p.g, 1, none⟩ = some (.slice (some ⟨p.gC, 0, none⟩) x.C.length p.cC) ∧ w.cell? ⟨p.g, 2, none⟩ = some (.int .i64 (x.size : Int)) ∧
    w.cell? ⟨p.g, 3, none⟩ = some (.bool x.armed) ∧ w.cell? ⟨p.g, 4, none⟩ = some (.bool x.down) ∧ w.cell? ⟨p.g, 5, none⟩ = some (.int .i64 x.left) ∧ w.cell? ⟨p.g, 6, none⟩ = some (.int .i64 x.done) :=
  ⟨by rw [h.blk.cell]; rfl, by rw [h.blk.cell]; rfl, by rw [h.blk.cell]; rfl, by rw [h.blk.cell]; rfl, by rw [h.blk.cell]; rfl, by rw [h.blk.cell]; rfl, by rw [h.blk.cell]; rfl⟩
theorem RfIs.reblk {w w' : World} {p : RfP} {x x' : Rf} (h : RfIs w p x) (hu : Upd (fun k => k = p.g) w w')
    (hb : Blk w' p.g #[.slice (some ⟨p.gD, 0, none⟩) x'.D.length p.cD, .slice (some ⟨p.gC, 0, none⟩) x'.C.length p.cC, .int .i64 (x'.size : Int), .bool x'.armed, .bool x'.down, .int .i64 x'.left, .int .i64 x'.done]) (hD : x'.D = x.D) (hC : x'.C = x.C) : RfIs w' p x' :=
  ⟨hb, by rw [hD]; exact hu.owns h.oD (fun k hk q => h.n1 (by rw [← q]; simpa [Value.ownBlock] using hk.symm)), by rw [hC]; exact hu.owns h.oC (fun k hk q => h.n2 (by rw [← q]; simpa [Value.ownBlock] using hk.symm)), h.n1, h.n2, h.n3⟩
theorem sv_set (L : List (List UInt8)) (k : Nat) (l : List UInt8) : sv (L.set k l) = (sv L).set k (.string ⟨l.toArray⟩) := by simp [sv, List.map_set]
theorem RfIs.setC {w : World} {p : RfP} {x : Rf} (h : RfIs w p x) (k : Nat) (l : List UInt8) : RfIs (w.setCell ⟨p.gC, k, none⟩ (.string ⟨l.toArray⟩)) p { x with C := x.C.set k l } := by
  have hu := Upd.setCell w p.gC k (.string ⟨l.toArray⟩)
  refine ⟨by simpa using h.blk.upd hu h.n2, hu.owns h.oD (fun j hj q => h.n3 (by rw [← q]; simpa [Value.ownBlock] using hj)), ?_, h.n1, h.n2, h.n3⟩
  have := (h.oC.stored k (.string ⟨l.toArray⟩)).1
  rw [← sv_set] at this
  simpa using this
theorem RfIs.setD {w : World} {p : RfP} {x : Rf} (h : RfIs w p x) (k : Nat) (l : List UInt8) : RfIs (w.setCell ⟨p.gD, k, none⟩ (.string ⟨l.toArray⟩)) p { x with D := x.D.set k l } := by
  have hu := Upd.setCell w p.gD k (.string ⟨l.toArray⟩)
  refine ⟨by simpa using h.blk.upd hu h.n1, ?_, hu.owns h.oC (fun j hj q => h.n3 (by rw [← q]; simpa [Value.ownBlock] using hj.symm)), h.n1, h.n2, h.n3⟩
  have := (h.oD.stored k (.string ⟨l.toArray⟩)).1
  rw [← sv_set] at this
  simpa using this
theorem RfIs.atC {w : World} {p : RfP} {x : Rf} (h : RfIs w p x) (k : Nat) (hk : k < x.C.length) : w.cell? ⟨p.gC, k, none⟩ = some (.string ⟨(x.C.getD k []).toArray⟩) ∧ w.frozen? ⟨p.gC, k, none⟩ = false :=
  ⟨by rw [h.oC.cellAt k (by omega)]; simp [sv, hk], h.oC.frozenAt k⟩
theorem RfIs.atD {w : World} {p : RfP} {x : Rf} (h : RfIs w p x) (k : Nat) (hk : k < x.D.length) : w.cell? ⟨p.gD, k, none⟩ = some (.string ⟨(x.D.getD k []).toArray⟩) ∧ w.frozen? ⟨p.gD, k, none⟩ = false :=
  ⟨by rw [h.oD.cellAt k (by omega)]; simp [sv, hk], h.oD.frozenAt k⟩

set_option maxRecDepth 100000 in
set_option maxHeartbeats 1000000 in
theorem rf_Command (p : RfP) (x : Rf) (w : World) (h : RfIs w p x) (e0 : Int) (x' : Rf) (hs : Hid (rfCommand x = (e0, x'))) :
    Calls Try.prog 111 #[.pointer (some ⟨p.g, 0, none⟩)] w fun e w' => e = .returned (.int .i64 e0) ∧ RfIs w' p x' ∧ Upd (RfW p) w w' := by
  obtain ⟨hc0, hc1, hc2, hc3, hc4, hc5, hc6⟩ := h.cells
  have hf4 := h.blk.unfrozen 4
  have hf5 := h.blk.unfrozen 5
  have hf6 := h.blk.unfrozen 6
  have HH := hid h
  have hs2 := hs.out
  unfold rfCommand at hs2
  clear h hs hc0 hc1 hc2 hc4
  cases ha : x.armed
  · rw [ha] at hs2 hc3
    simp only [Bool.false_eq_true, if_false, Prod.mk.injEq] at hs2
    obtain ⟨rfl, rfl⟩ := hs2
    have hu := Upd.setCell w p.g 6 (.int .i64 (wrap64 (x.done + 1)))
    have HPOST : Hid (RfIs (w.setCell ⟨p.g, 6, none⟩ (.int .i64 (wrap64 (x.done + 1)))) p { x with done := wrap64 (x.done + 1) } ∧ Upd (RfW p) w (w.setCell ⟨p.g, 6, none⟩ (.int .i64 (wrap64 (x.done + 1))))) := hid
      ⟨HH.out.reblk hu (by simpa [ha] using HH.out.blk.set 6 (.int .i64 (wrap64 (x.done + 1)))) rfl rfl, hu.mono (fun k _ q => .inl q)⟩
    have HA := hid ha
    clear hu ha
    go_enter Try.func111, Try.ntmps111
    go_wp2
    go_ret
    exact ⟨rfl, by have q := HPOST.out.1; rw [HA.out] at q; exact q, HPOST.out.2⟩
  · rw [ha] at hs2 hc3
    simp only [if_true] at hs2
    by_cases hl : x.left = 0
    · rw [if_pos hl] at hs2
      simp only [Prod.mk.injEq] at hs2
      obtain ⟨rfl, rfl⟩ := hs2
      rw [hl] at hc5
      have hc4 : w.cell? ⟨p.g, 4, none⟩ = some (.bool x.down) := HH.out.cells.2.2.2.2.1
      have hu := Upd.setCell w p.g 4 (.bool true)
      have HPOST : Hid (RfIs (w.setCell ⟨p.g, 4, none⟩ (.bool true)) p { x with down := true } ∧ Upd (RfW p) w (w.setCell ⟨p.g, 4, none⟩ (.bool true))) := hid
        ⟨HH.out.reblk hu (by simpa [ha] using HH.out.blk.set 4 (.bool true)) rfl rfl, hu.mono (fun k _ q => .inl q)⟩
      have HA := hid ha
      clear hu ha hl
      go_enter Try.func111, Try.ntmps111
      go_wp2
      go_ret
      exact ⟨rfl, by have q := HPOST.out.1; rw [HA.out] at q; exact q, HPOST.out.2⟩
    · rw [if_neg hl] at hs2
      simp only [Prod.mk.injEq] at hs2
      obtain ⟨rfl, rfl⟩ := hs2
      have hu := (Upd.setCell w p.g 5 (.int .i64 (wrap64 (x.left - 1)))).trans (Upd.setCell _ p.g 6 (.int .i64 (wrap64 (x.done + 1)))) (fun _ _ x => x)
      have HPOST : Hid (RfIs ((w.setCell ⟨p.g, 5, none⟩ (.int .i64 (wrap64 (x.left - 1)))).setCell ⟨p.g, 6, none⟩ (.int .i64 (wrap64 (x.done + 1)))) p { x with left := wrap64 (x.left - 1), done := wrap64 (x.done + 1) } ∧ Upd (RfW p) w ((w.setCell ⟨p.g, 5, none⟩ (.int .i64 (wrap64 (x.left - 1)))).setCell ⟨p.g, 6, none⟩ (.int .i64 (wrap64 (x.done + 1))))) := hid
        ⟨HH.out.reblk hu (by simpa [ha] using (HH.out.blk.set 5 (.int .i64 (wrap64 (x.left - 1)))).set 6 (.int .i64 (wrap64 (x.done + 1)))) rfl rfl, hu.mono (fun k _ q => .inl q)⟩
      have hlb : (x.left == 0) = false := by simpa using hl
      have HA := hid ha
      clear hu ha hl
      go_enter Try.func111, Try.ntmps111
      go_wp2
      go_ret
      exact ⟨rfl, by have q := HPOST.out.1; rw [HA.out] at q; exact q, HPOST.out.2⟩
theorem rfCheck_bad {x : Rf} {i : Int} (h : rfCheck x i ≠ 0) : (x.down = true ∧ rfCheck x i = 20) ∨ (x.down = false ∧ i < 0 ∧ rfCheck x i = 11) ∨ (x.down = false ∧ ¬ i < 0 ∧ (x.D.length : Int) ≤ i ∧ rfCheck x i = 11) := by
  unfold rfCheck at h ⊢
  cases hd : x.down
  · rw [hd] at h
    simp only [Bool.false_eq_true, if_false] at h ⊢
    by_cases h0 : i < 0
    · exact .inr (.inl ⟨trivial, h0, if_pos (.inl h0)⟩)
    · by_cases h1 : (x.D.length : Int) ≤ i
      · exact .inr (.inr ⟨trivial, h0, h1, if_pos (.inr h1)⟩)
      · rw [if_neg (by omega)] at h; exact absurd rfl h
  · exact .inl ⟨rfl, rfl⟩
theorem rfCheck_ok {x : Rf} {i : Int} (h : rfCheck x i = 0) : x.down = false ∧ 0 ≤ i ∧ i < (x.D.length : Int) := by
  by_cases hb : x.down = true
  · unfold rfCheck at h; rw [if_pos hb] at h; omega
  · have hd : x.down = false := by simpa using hb
    unfold rfCheck at h
    rw [if_neg hb] at h
    by_cases hr : i < 0 ∨ (x.D.length : Int) ≤ i
    · rw [if_pos hr] at h; omega
    · exact ⟨hd, by omega, by omega⟩
set_option maxRecDepth 100000 in
set_option maxHeartbeats 1000000 in
theorem rf_Write (p : RfP) (x : Rf) (hx : x.C.length = x.D.length) (i : Int) (l : List UInt8) (hl : l.length ≤ 1000000) (w : World) (h : RfIs w p x) (e0 : Int) (x' : Rf) (hs : Hid (rfWrite x i l = (e0, x'))) :
    Calls Try.prog 86 #[.pointer (some ⟨p.g, 0, none⟩), .int .i64 i, .string ⟨l.toArray⟩] w fun e w' => e = .returned (.int .i64 e0) ∧ RfIs w' p x' ∧ Upd (RfW p) w w' := by
  obtain ⟨hc0, hc1, hc2, -, hc4, -, -⟩ := h.cells
  have HH := hid h
  have hs2 := hs.out
  unfold rfWrite at hs2
  have hlen : (⟨l.toArray⟩ : ByteArray).size = l.length := rfl
  obtain ⟨q, hq⟩ : ∃ q : ByteArray, q = ⟨l.toArray⟩ := ⟨_, rfl⟩
  rw [← hq] at hlen ⊢
  have HQ := hid hq
  clear h hs hq
  by_cases hc : rfCheck x i = 0
  · rw [if_neg (by simpa using hc)] at hs2
    obtain ⟨hd, h0, h1⟩ := rfCheck_ok hc
    rw [hd] at hc4
    have h0' : ¬ i < 0 := by omega
    have h1' : ¬ (x.D.length : Int) ≤ i := by omega
    obtain ⟨k, rfl⟩ : ∃ k : Nat, i = (k : Int) := ⟨i.toNat, by omega⟩
    have HD := hid hd
    clear hd hc
    by_cases hz : l.length = x.size
    · rw [if_neg (by simpa using hz)] at hs2
      simp only [Int.toNat_natCast] at hs2
      have hzi : ((l.length : Int) != (x.size : Int)) = false := by simp; omega
      obtain ⟨hkc, hkf⟩ := HH.out.atC k (by omega)
      have hkl : (k : Int) < (x.C.length : Int) := by omega
      have HS := hid hs2
      have HI := hid (HH.out.setC k l)
      have HU : Hid (Upd (RfW p) w (w.setCell ⟨p.gC, k, none⟩ (.string q))) := hid ((Upd.setCell w p.gC k _).mono (fun j _ q => .inr (.inr q)))
      rw [← HQ.out] at HI
      clear hs2 hz
      go_enter Try.func86, Try.ntmps86
      go_wp2_with fail
      refine (rf_Command p _ _ HI.out e0 x' HS).mono ?_
      rintro e w2 ⟨rfl, hi2, hu2⟩
      have HI2 := hid hi2
      have HU2 := hid (HU.out.trans hu2 (fun _ _ q => q))
      clear hi2 hu2
      go_wp2_with fail
      go_ret
      exact ⟨rfl, HI2.out, HU2.out⟩
    · rw [if_pos hz] at hs2
      simp only [Prod.mk.injEq] at hs2
      obtain ⟨rfl, rfl⟩ := hs2
      have hzi : ((l.length : Int) != (x.size : Int)) = true := by simp; omega
      go_enter Try.func86, Try.ntmps86
      go_wp2_with fail
      go_ret
      exact ⟨rfl, HH.out, Upd.refl _ _⟩
  · rw [if_pos hc] at hs2
    simp only [Prod.mk.injEq] at hs2
    obtain ⟨hs3, rfl⟩ := hs2
    rcases rfCheck_bad hc with ⟨h1, h2⟩ | ⟨h1, h2, h3⟩ | ⟨h1, h2, h3, h4⟩
    · rw [h1] at hc4
      rw [h2] at hs3
      subst hs3
      clear h1 h2 hc
      go_enter Try.func86, Try.ntmps86
      go_wp2_with fail
      go_ret
      exact ⟨rfl, HH.out, Upd.refl _ _⟩
    · rw [h1] at hc4
      rw [h3] at hs3
      subst hs3
      clear h1 h3 hc
      go_enter Try.func86, Try.ntmps86
      go_wp2_with fail
      go_ret
      exact ⟨rfl, HH.out, Upd.refl _ _⟩
    · rw [h1] at hc4
      rw [h4] at hs3
      subst hs3
      clear h1 h4 hc
      go_enter Try.func86, Try.ntmps86
      go_wp2_with fail
      go_ret
      exact ⟨rfl, HH.out, Upd.refl _ _⟩
end Go.Proofs.Ytohknblokejldaa
end
