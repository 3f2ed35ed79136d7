/- Joined texts, in this order: Open. Each one's first remark says what it proves; no condition beyond those that its theorems name. -/
import Derived.Test.YtohknblokejldaaJLawChestCopies02
import Derived.Deep.Slices
import Derived.Deep.Fields
import Derived.ChangeSame
section
/- What comes in, opened: slices of structs of numbers. No program in sight. -/
namespace Go.Proofs.Ytohknblokejldaa
open Go.RowKit Go.ChangeShapes Go.WideShapes Go.Deep
open Go.Lib (hid)
set_option linter.unusedVariables false

/-- a slice of structs of n numbers -/
def SlS (w : World) (v : Value) (n : Nat) (L : List (List Int)) : Prop :=
  ∃ a c, v = .slice a L.length c ∧ L.length ≤ c ∧ c ≤ 9223372036854775807 ∧ (a = none → c = 0) ∧
    ∀ i r, L[i]? = some r → r.length = n ∧ (∀ x ∈ r, (Lit.int .i64 x).wf = true) ∧ ∃ b off, a = some ⟨b, off, none⟩ ∧ b < w.heap.size ∧ ∀ j x, r[j]? = some x → w.cell? ⟨b, off + i * n + j, none⟩ = some (.int .i64 x)
theorem SlS.below {w w' : World} {v : Value} {n : Nat} {L : List (List Int)} (h : SlS w v n L) (hb : Below w.heap.size w w') : SlS w' v n L := by
  obtain ⟨a, c, h1, h2, h3, h4, h5⟩ := h
  refine ⟨a, c, h1, h2, h3, h4, fun i r hr => ?_⟩
  obtain ⟨k1, k2, b, off, k3, k4, k5⟩ := h5 i r hr
  exact ⟨k1, k2, b, off, k3, Nat.lt_of_lt_of_le k4 hb.size, fun j x hx => by rw [← k5 j x hx]; exact World.cell?_of_block (hb.block b k4)⟩

theorem open_istructs {H : Type} {enc : TypeId × Value → H} {P : Program} {w : World} {r0 : Reach} {b0 : Nat} {t e : TypeId} {fs : Array Field} {v : Value} {d : DataW H} {p : List MemPlace}
    (ht : P.underlying t = some (.slice e)) (he : P.underlying e = some (.struct fs)) (hone : oneCellFields P fs = true) (hC : P.cellsOf e = fs.size) (hpos : 0 < fs.size) (hint : ∀ f ∈ fs, P.underlying f.type = some (.int .i64))
    (hok : Value.okWide P w r0 b0 t v) (h : DataW.Trod enc P w 0 (fun _ => true) true t v d p) : ∃ L, SlS w v fs.size L := by
  obtain ⟨a0, len0, cap0, rfl⟩ := okWide_slice ht hok
  obtain ⟨fuel, hf⟩ := h
  rcases open_slice ht hf with ⟨hcs, -⟩ | ⟨a, len, cap, m, n, D, Pl, hcs, hb, hl, hm, hmm, hx, hi⟩
  · simp [Value.cells] at hcs
    obtain ⟨rfl, rfl, rfl⟩ := hcs
    exact ⟨[], none, 0, rfl, by simp, by omega, fun _ => rfl, fun i r hr => by simp at hr⟩
  · simp [Value.cells] at hcs
    obtain ⟨rfl, rfl, rfl⟩ := hcs
    simp only [if_true] at hmm
    obtain rfl : cap0 = m := hmm.symm
    have key : ∀ i, i < cap0 → ∃ r : List Int, r.length = fs.size ∧ (∀ x ∈ r, (Lit.int .i64 x).wf = true) ∧ ∀ j x, r[j]? = some x → w.cell? (a.add (i * fs.size + j)) = some (.int .i64 x) := by
      intro i hic
      obtain ⟨cs', hc, ht'⟩ := hi i hic
      rw [hC] at hc
      obtain ⟨ys, n', hn', hy, hlen, hyl, hfld⟩ := DataW.trod_struct he ht'
      obtain ⟨-, hcl, hat⟩ := World.cells?_some hc
      have one : ∀ j, j < fs.size → ∃ x : Int, cs'[j]? = some (.int .i64 x) ∧ (Lit.int .i64 x).wf = true := by
        intro j hj
        have hfj : fs[j]? = some fs[j] := Array.getElem?_eq_getElem hj
        obtain ⟨ho, hk⟩ := hone_of hone j fs[j] hfj
        have h1 := hfld j fs[j] hfj
        rw [ho, hk, List.drop_eq_getElem_cons (by omega)] at h1
        have hys : ys[j]? = some (ys[j]'(by omega)) := List.getElem?_eq_getElem (by omega)
        rw [hys] at h1
        obtain ⟨x, hx, -, hw⟩ := DataW.trod_int (hint fs[j] (Array.getElem_mem hj)) h1
        refine ⟨x, ?_, hw⟩
        have hx0 := congrArg (fun l : List Value => l[0]?) hx
        simp only [List.take_succ_cons, List.take_zero, List.getElem?_cons_zero, List.getElem?_take, List.getElem?_drop] at hx0
        rw [List.getElem?_eq_getElem (by omega : j < cs'.length)]
        simpa using hx0
      obtain ⟨f, hfun⟩ := choose_lt one
      refine ⟨(List.range fs.size).map f, by simp, ?_, ?_⟩
      · intro x hx
        obtain ⟨j, hj, rfl⟩ := List.mem_map.1 hx
        exact (hfun j (List.mem_range.1 hj)).2
      · intro j x hx
        rw [List.getElem?_map] at hx
        by_cases hj : j < fs.size
        · rw [List.getElem?_range hj] at hx
          simp at hx
          subst hx
          rw [← Go.Deep.add_add, hat j hj, (hfun j hj).1]
        · rw [List.getElem?_eq_none (by simp; omega)] at hx; simp at hx
    obtain ⟨f, hfun⟩ := choose_lt key
    have hlen : ((List.range len0).map f).length = len0 := by simp
    refine ⟨(List.range len0).map f, some a, cap0, by rw [hlen], by rw [hlen]; exact hl, by unfold maxLen at hm; omega, nofun, ?_⟩
    intro i r hr
    rw [List.getElem?_map] at hr
    by_cases hil : i < len0
    · rw [List.getElem?_range hil] at hr
      simp at hr
      subst hr
      obtain ⟨q1, q2, q3⟩ := hfun i (by omega)
      obtain ⟨b, off, spot⟩ := a
      have hc0 := q3 0 _ (List.getElem?_eq_getElem (by omega))
      obtain ⟨p1, p2, p3⟩ := hfun 0 (by omega)
      have hspot : spot = none := by simpa [Addr.add] using World.cell?_spot (p3 0 _ (List.getElem?_eq_getElem (by omega)))
      subst hspot
      refine ⟨q1, q2, b, off, rfl, ?_, fun j x hx => ?_⟩
      · rw [Addr.add_lit] at hc0; exact World.block_lt_of_cell? w _ hc0
      · have := q3 j x hx
        rw [Addr.add_lit] at this
        rw [Nat.add_assoc]; exact this
    · rw [List.getElem?_eq_none (by simp; omega)] at hr; simp at hr
end Go.Proofs.Ytohknblokejldaa
end
