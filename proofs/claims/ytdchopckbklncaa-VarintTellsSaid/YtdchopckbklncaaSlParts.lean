/- The parts of a slice of bytes that reads. -/
import Derived.Test.YtdchopckbklncaaKit
namespace Go.Proofs.Ytdchopckbklncaa
open Go.RowKit
set_option linter.unusedVariables false

theorem SlB.parts {w : World} {u : Value} {x y : List UInt8} (h : SlB w u (x ++ y)) (hy : 0 < y.length) :
    ∃ b off c, u = .slice (some ⟨b, off, none⟩) (x.length + y.length) c ∧ x.length + y.length ≤ c ∧ c ≤ 9223372036854775807 ∧ x.length + y.length ≤ 9223372036854775807 ∧
      SlB w (.slice (some ⟨b, off, none⟩) x.length c) x ∧ SlB w (.slice (some ⟨b, off + x.length, none⟩) y.length (c - x.length)) y := by
  obtain ⟨a, c, rfl, h1, h2, h3, h4, h5⟩ := h
  obtain ⟨b, off, rfl, -⟩ := h2 0 (by simp [bv]; omega)
  simp only [List.length_append] at h1 h3
  refine ⟨b, off, c, by simp, h3, h4, h1, ⟨_, c, rfl, by omega, ?_, by omega, h4, nofun⟩, ⟨_, _, rfl, by omega, ?_, by omega, by omega, nofun⟩⟩
  · have := h2.sub 0 x.length
    rw [bv_append] at this
    simpa [bv_length, List.take_left'] using this
  · have := h2.sub x.length y.length
    rw [bv_append] at this
    rw [show (bv x ++ bv y).drop x.length = bv y from by rw [← bv_length x, List.drop_left], List.take_of_length_le (by simp [bv_length])] at this
    exact this
end Go.Proofs.Ytdchopckbklncaa
