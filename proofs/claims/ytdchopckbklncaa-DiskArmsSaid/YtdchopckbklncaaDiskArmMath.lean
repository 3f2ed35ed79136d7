/- law05: what arming counts. Plain. -/
import Derived.Test.YtdchopckbklncaaDiskLaw
namespace Go.Proofs.Ytdchopckbklncaa
open Go.RowKit
open Go.Lib (hid)
set_option linter.unusedVariables false

theorem mixF_sec (f : Int → List UInt8 → List UInt8 → List UInt8) (z : Nat) (hf : ∀ k b d, b.length = z → d.length = z → (f k b d).length = z) (D : List (List UInt8)) (C : List (Int × List UInt8)) (left : List Int)
    (hD : ∀ d ∈ D, d.length = z) (hC : ∀ p ∈ C, p.2.length = z) : ∀ d ∈ mixF f D C left, d.length = z := by
  intro d hd
  obtain ⟨i, hi, he⟩ := List.getElem_of_mem hd
  have h := mixF_at f D C left i
  rw [List.getElem?_eq_getElem hi, he] at h
  rw [mixF_len] at hi
  rw [List.getElem?_eq_getElem hi, Option.map_some] at h
  have h := Option.some.inj h
  have hdi := hD _ (List.getElem_mem hi)
  split at h
  · rw [h]; exact hdi
  · split at h
    · rw [h]; exact hdi
    · rename_i b hb
      rw [h]; exact hf _ _ _ (hC _ (lookup_mem hb)) hdi
theorem Dk.Ok.put {s : Dk} (h : s.Ok) (i : Int) (l : List UInt8) (h0 : 0 ≤ i) (h1 : i < (s.D.length : Int)) (hl : l.length = s.size) : Dk.Ok { s with C := aput s.C i l } := by
  refine ⟨fun p hp => ?_, h.sec, h.pos, h.le, h.sz, h.sz0⟩
  rcases mem_aput hp with rfl | ⟨hp, -⟩
  · exact ⟨h0, h1, hl⟩
  · exact h.key p hp
theorem Dk.Ok.flush {s : Dk} (h : s.Ok) : Dk.Ok { s with D := flushD s, C := [] } := by
  refine ⟨fun p hp => by simp at hp, fun d hd => ?_, ?_, ?_, h.sz, h.sz0⟩
  · exact mixF_sec _ s.size (fun _ _ _ hb _ => hb) s.D s.C [] h.sec (fun p hp => (h.key p hp).2.2) d hd
  · simpa [flushD, mixF_len] using h.pos
  · simpa [flushD, mixF_len] using h.le
def wantE (n c : Int) : Int := if 0 ≤ n ∧ n < c then 20 else 0
structure ArmAt (n c : Int) (s : Dk) : Prop where
  ok : s.Ok
  len : s.D.length = 6
  sz : s.size = 16
  st : (n < 0 ∧ s.armed = false ∧ s.down = false ∧ s.done = c) ∨ (0 ≤ n ∧ s.armed = true ∧ ((c ≤ n ∧ s.left = n - c ∧ s.down = false ∧ s.done = c) ∨ (n < c ∧ s.down = true)))
theorem ArmAt.down {n c : Int} {s : Dk} (h : ArmAt n c s) : s.down = decide (wantE n c ≠ 0) := by
  unfold wantE
  rcases h.st with ⟨h1, -, h2, -⟩ | ⟨h1, -, ⟨h3, -, h4, -⟩ | ⟨h3, h4⟩⟩
  · rw [h2, if_neg (by omega)]; rfl
  · rw [h4, if_neg (by omega)]; rfl
  · rw [h4, if_pos (by omega)]; rfl
theorem ArmAt.done {n c : Int} {s : Dk} (h : ArmAt n c s) (hw : wantE n c = 0) : s.done = c := by
  unfold wantE at hw
  rcases h.st with ⟨-, -, -, h2⟩ | ⟨h1, -, ⟨-, -, -, h4⟩ | ⟨h3, h4⟩⟩
  · exact h2
  · exact h4
  · rw [if_pos ⟨h1, h3⟩] at hw; cases hw
theorem ArmAt.command {n c : Int} {s : Dk} (h : ArmAt n c s) (hd : s.down = false) (hc0 : 0 ≤ c) (hc : c ≤ 1000) (hn : n ≤ 1000) : (dkCommand s).1 = wantE n (c + 1) ∧ ArmAt n (c + 1) (dkCommand s).2 := by
  have hsame := dkCommand_same s
  have hwd : wrap64 (c + 1) = c + 1 := by unfold wrap64; omega
  rcases h.st with ⟨h1, h2, h3, h4⟩ | ⟨h1, h2, ⟨h3, h4, h5, h6⟩ | ⟨h3, h4⟩⟩
  · have e : dkCommand s = (0, { s with done := wrap64 (s.done + 1) }) := by simp [dkCommand, h2]
    rw [e]
    refine ⟨by unfold wantE; rw [if_neg (by omega)], h.ok.of_same rfl rfl rfl, h.len, h.sz, .inl ⟨h1, h2, h3, ?_⟩⟩
    simp only; rw [h4, hwd]
  · by_cases hl : s.left = 0
    · have e : dkCommand s = (20, { s with down := true }) := by simp [dkCommand, h2, hl]
      rw [e]
      refine ⟨by unfold wantE; rw [if_pos (by omega)], h.ok.of_same rfl rfl rfl, h.len, h.sz, .inr ⟨h1, h2, .inr ⟨by omega, rfl⟩⟩⟩
    · have e : dkCommand s = (0, { s with left := wrap64 (s.left - 1), done := wrap64 (s.done + 1) }) := by simp [dkCommand, h2, hl]
      have hwl : wrap64 (s.left - 1) = s.left - 1 := by unfold wrap64; omega
      rw [e]
      refine ⟨by unfold wantE; rw [if_neg (by omega)], h.ok.of_same rfl rfl rfl, h.len, h.sz, .inr ⟨h1, h2, .inl ⟨by omega, ?_, h5, ?_⟩⟩⟩
      · simp only; rw [hwl]; omega
      · simp only; rw [h6, hwd]
  · rw [hd] at h4; cases h4
theorem ArmAt.write {n c : Int} {s : Dk} (h : ArmAt n c s) (hc0 : 0 ≤ c) (hc : c ≤ 1000) (hn : n ≤ 1000) (i : Int) (h0 : 0 ≤ i) (h1 : i < 6) (l : List UInt8) (hl : l.length = 16) :
    ∃ s', dkWrite s i l = (wantE n (c + 1), s') ∧ ArmAt n (c + 1) s' := by
  cases hd : s.down with
  | true =>
    have hst : 0 ≤ n ∧ s.armed = true ∧ n < c := by
      rcases h.st with ⟨-, -, q, -⟩ | ⟨q1, q2, ⟨-, -, q, -⟩ | ⟨q3, q4⟩⟩
      · rw [hd] at q; cases q
      · rw [hd] at q; cases q
      · exact ⟨q1, q2, q3⟩
    refine ⟨s, ?_, h.ok, h.len, h.sz, .inr ⟨hst.1, hst.2.1, .inr ⟨by omega, hd⟩⟩⟩
    unfold dkWrite dkCheck wantE
    rw [if_pos (show (0 ≤ n ∧ n < c + 1) by omega)]
    simp [hd]
  | false =>
    have hck : dkCheck s i = 0 := by
      have := h.len
      simp [dkCheck, hd]; omega
    have hs1 : ArmAt n c { s with C := aput s.C i l } := ⟨h.ok.put i l h0 (by have := h.len; omega) (by rw [hl, h.sz]), h.len, h.sz, h.st⟩
    have hcm := hs1.command hd hc0 hc hn
    refine ⟨_, ?_, hcm.2⟩
    unfold dkWrite
    rw [if_neg (by rw [hck]; omega), if_neg (by rw [hl, h.sz]; omega), ← hcm.1]
theorem ArmAt.flush {n c : Int} {s : Dk} (h : ArmAt n c s) (hc0 : 0 ≤ c) (hc : c ≤ 1000) (hn : n ≤ 1000) : ∃ s', dkFlush s = (wantE n (c + 1), s') ∧ ArmAt n (c + 1) s' := by
  cases hd : s.down with
  | true =>
    have hst : 0 ≤ n ∧ s.armed = true ∧ n < c := by
      rcases h.st with ⟨-, -, q, -⟩ | ⟨q1, q2, ⟨-, -, q, -⟩ | ⟨q3, q4⟩⟩
      · rw [hd] at q; cases q
      · rw [hd] at q; cases q
      · exact ⟨q1, q2, q3⟩
    refine ⟨s, ?_, h.ok, h.len, h.sz, .inr ⟨hst.1, hst.2.1, .inr ⟨by omega, hd⟩⟩⟩
    unfold dkFlush wantE
    rw [if_pos (show (0 ≤ n ∧ n < c + 1) by omega), if_pos hd]
  | false =>
    have hcm := h.command hd hc0 hc hn
    unfold dkFlush
    rw [if_neg (by rw [hd]; decide)]
    by_cases he : (dkCommand s).1 = 0
    · rw [if_neg (fun q => q he)]
      refine ⟨_, by rw [← hcm.1, he], hcm.2.ok.flush, ?_, hcm.2.sz, hcm.2.st⟩
      simpa [flushD, mixF_len] using hcm.2.len
    · rw [if_pos he]
      exact ⟨_, by rw [← hcm.1], hcm.2⟩
theorem wantE_first (n c : Int) : (if wantE n c ≠ 0 then wantE n c else wantE n (c + 1)) = wantE n (c + 1) := by
  unfold wantE
  by_cases h : 0 ≤ n ∧ n < c
  · rw [if_pos h, if_pos (by omega), if_pos (by omega)]
  · rw [if_neg h, if_neg (by omega)]
theorem ArmAt.start (n : Int) : ArmAt n 0 (dkArm (dkNew 6 16) n) := by
  refine ⟨⟨fun p hp => by simp [dkArm, dkNew] at hp, fun d hd => ?_, by simp [dkArm, dkNew], by simp [dkArm, dkNew], by simp [dkArm, dkNew], by simp [dkArm, dkNew]⟩, by simp [dkArm, dkNew], rfl, ?_⟩
  · simp [dkArm, dkNew] at hd; subst hd; simp [dkArm, dkNew]
  · by_cases h : 0 ≤ n
    · exact .inr ⟨h, by simp [dkArm, h], .inl ⟨h, by simp [dkArm], rfl, rfl⟩⟩
    · exact .inl ⟨by omega, by simp [dkArm, h], rfl, rfl⟩
theorem ArmAt.after {n c : Int} {s : Dk} (h : ArmAt n c s) (l : List UInt8) (hl : l.length = 16) : ∃ s', dkWrite (dkCrash s [] (-1) 0) 0 l = (0, s') := by
  have hck : dkCheck (dkCrash s [] (-1) 0) 0 = 0 := by
    have h6 := h.len
    unfold dkCheck
    rw [if_neg (by simp [dkCrash, dkArm]), if_neg (by simp only [dkCrash, dkArm, mixF_len, h6]; omega)]
  refine ⟨(dkCommand { dkCrash s [] (-1) 0 with C := aput (dkCrash s [] (-1) 0).C 0 l }).2, ?_⟩
  unfold dkWrite
  rw [if_neg (by rw [hck]; omega), if_neg (by rw [hl]; simp [dkCrash, dkArm, h.sz])]
  simp [dkCommand, dkCrash, dkArm]
end Go.Proofs.Ytdchopckbklncaa
