/- Joined texts, in this order: StallIn. Each one's first remark says what it proves; no condition beyond those that its theorems name. -/
import Derived.Test.YtajfjgekcjkedaaJLawStallRestores17
section
/- What comes in, opened: rows of a stall, with their goods. -/
namespace Go.Proofs.Ytajfjgekcjkedaa
open Go.RowKit Go.ChangeShapes Go.WideShapes Go.Deep Go.Joins
open Go.Lib (hid)
set_option linter.unusedVariables false

theorem open_slF {α : Type} [Inhabited α] {E : World → (Nat → Option Value) → α → Prop} {k : Nat} (K : Kept E k) {H : Type} {enc : TypeId × Value → H} {P : Program} {t e : TypeId} {w : World} {v : Value} {n0 : Nat} {y : DataW H × List MemPlace}
    (ht : P.underlying t = some (.slice e)) (hk : P.cellsOf e = k) (elem : ∀ (n : Nat) (cs : List Value) (x : DataW H × List MemPlace), DataW.trod enc P w 0 (fun _ => true) true n e cs = some x → ∃ t, E w (fun j => cs[j]?) t)
    (hf : DataW.trod enc P w 0 (fun _ => true) true n0 t [v] = some y) : ∃ L, SlE E k w v L := by
  rcases open_slice ht hf with ⟨hcs, -⟩ | ⟨a, len, cap, m, n, D, Pl, hcs, hb, hl, hm, hmm, hx, hi⟩
  · simp at hcs
    subst hcs
    exact ⟨[], none, 0, rfl, by simp, by omega, fun _ => rfl, fun i r hr => by simp at hr⟩
  · simp at hcs
    subst hcs
    simp only [if_true] at hmm
    obtain rfl : cap = m := hmm.symm
    have key : ∀ i, i < cap → ∃ q : α, E w (fun j => w.cell? (a.add (i * k + j))) q := by
      intro i hic
      obtain ⟨cs', hc, ht'⟩ := hi i hic
      rw [hk] at hc
      obtain ⟨t, ht⟩ := elem _ _ _ ht'
      obtain ⟨-, hcl, hat⟩ := World.cells?_some hc
      exact ⟨t, K.keep (Below.refl _ _) (fun j u hj hu => by rw [← Go.Deep.add_add, hat j hj]; exact hu) ht⟩
    obtain ⟨f, hfun⟩ := choose_lt key
    have hlen : ((List.range len).map f).length = len := by simp
    refine ⟨(List.range len).map f, some a, cap, by rw [hlen], by rw [hlen]; exact hl, by unfold maxLen at hm; omega, nofun, ?_⟩
    intro i r hr
    rw [List.getElem?_map] at hr
    by_cases hil : i < len
    · rw [List.getElem?_range hil] at hr
      simp at hr
      subst hr
      have q := hfun i (by omega)
      obtain ⟨b, off, spot⟩ := a
      obtain ⟨u0, p0⟩ := K.zero (hfun 0 (by omega))
      have hspot : spot = none := by simpa [Addr.add] using World.cell?_spot p0
      subst hspot
      obtain ⟨u1, q0⟩ := K.zero q
      simp only [Addr.add_lit] at q0
      refine ⟨b, off, rfl, World.block_lt_of_cell? w _ q0, K.keep (Below.refl _ _) (fun j u hj hu => ?_) q⟩
      rw [Addr.add_lit] at hu
      rw [Nat.add_assoc]; exact hu
    · rw [List.getElem?_eq_none (by simp; omega)] at hr; simp at hr
def In64 (x : Int) : Prop := -9223372036854775808 ≤ x ∧ x ≤ 9223372036854775807
def GoodE (w : World) (f : Nat → Option Value) (p : Int × Int) : Prop := f 0 = some (.int .i64 p.1) ∧ f 1 = some (.int .i64 p.2) ∧ In64 p.1 ∧ In64 p.2
theorem goodKept : Kept GoodE 2 := ⟨fun hb hf h => ⟨hf 0 _ (by omega) h.1, hf 1 _ (by omega) h.2.1, h.2.2⟩, fun h => ⟨_, h.1⟩⟩
set_option maxRecDepth 100000 in
theorem elem_good {H : Type} {enc : TypeId × Value → H} {w : World} (n : Nat) (cs : List Value) (x : DataW H × List MemPlace) (h : DataW.trod enc Try.prog w 0 (fun _ => true) true n 51 cs = some x) : ∃ t, GoodE w (fun j => cs[j]?) t := by
  obtain ⟨hlen, ys, n', hyl, one⟩ := structE_fields Try.underlying51 (by kernel_rfl) h
  have h2 : Try.prog.cellsOf 51 = 2 := by kernel_rfl
  rw [h2] at hlen
  obtain ⟨c0, c1, rfl⟩ := listOf2 hlen
  have hyl2 : ys.length = 2 := hyl
  obtain ⟨z0, z1, rfl⟩ := listOf2 hyl2
  have g0 : DataW.trod enc Try.prog w 0 (fun _ => true) true n' 3 [c0] = some z0 := one 0 _ rfl
  have g1 : DataW.trod enc Try.prog w 0 (fun _ => true) true n' 3 [c1] = some z1 := one 1 _ rfl
  obtain ⟨x0, e0, -, w0⟩ := DataW.trod_int Try.underlying3 g0
  obtain ⟨x1, e1, -, w1⟩ := DataW.trod_int Try.underlying3 g1
  simp only [List.cons.injEq, and_true] at e0 e1
  subst e0 e1
  exact ⟨(x0, x1), rfl, rfl, wf64 w0, wf64 w1⟩
theorem SlE.slp {w : World} {v : Value} {gs : List (Int × Int)} (h : SlE GoodE 2 w v gs) : SlP w v gs ∧ ∀ p ∈ gs, In64 p.1 ∧ In64 p.2 := by
  obtain ⟨a, c, rfl, h1, h2, h3, h4⟩ := h
  refine ⟨⟨a, c, rfl, fun i hi => ?_, h1, h2, h3⟩, fun p hp => ?_⟩
  · rw [pv_length] at hi
    have hx : gs[i / 2]? = some gs[i / 2] := List.getElem?_eq_getElem (by omega)
    obtain ⟨b, off, ha, -, k0, k1, -⟩ := h4 (i / 2) _ hx
    obtain ⟨p0, p1⟩ := pv_at gs (i / 2) _ hx
    refine ⟨b, off, ha, ?_⟩
    rcases Nat.mod_two_eq_zero_or_one i with q | q
    · have e : i = i / 2 * 2 := by omega
      rw [e, p0]; exact k0
    · have e : i = i / 2 * 2 + 1 := by omega
      rw [e, p1]; exact k1
  · obtain ⟨i, hi⟩ := List.getElem?_of_mem hp
    obtain ⟨b, off, -, -, -, -, q⟩ := h4 i p hi
    exact q
abbrev R3 := Int × Int × List (Int × Int)
def RowE23 (w : World) (f : Nat → Option Value) (x : R3) : Prop := f 0 = some (.int .i64 x.1) ∧ f 1 = some (.int .i64 x.2.1) ∧ In64 x.1 ∧ In64 x.2.1 ∧ (∀ p ∈ x.2.2, In64 p.1 ∧ In64 p.2) ∧ ∃ v, f 2 = some v ∧ SlP w v x.2.2
theorem rowKept23 : Kept RowE23 3 := ⟨fun hb hf h => ⟨hf 0 _ (by omega) h.1, hf 1 _ (by omega) h.2.1, h.2.2.1, h.2.2.2.1, h.2.2.2.2.1, by obtain ⟨v, h1, h2⟩ := h.2.2.2.2.2; exact ⟨v, hf 2 _ (by omega) h1, h2.below hb⟩⟩, fun h => ⟨_, h.1⟩⟩
set_option maxRecDepth 100000 in
theorem elem_row23 {H : Type} {enc : TypeId × Value → H} {w : World} (n : Nat) (cs : List Value) (x : DataW H × List MemPlace) (h : DataW.trod enc Try.prog w 0 (fun _ => true) true n 37 cs = some x) : ∃ t, RowE23 w (fun j => cs[j]?) t := by
  obtain ⟨hlen, ys, n', hyl, one⟩ := structE_fields Try.underlying37 (by kernel_rfl) h
  have h2 : Try.prog.cellsOf 37 = 3 := by kernel_rfl
  rw [h2] at hlen
  obtain ⟨c0, c1, c2, rfl⟩ := listOf3 hlen
  have hyl2 : ys.length = 3 := hyl
  obtain ⟨z0, z1, z2, rfl⟩ := listOf3 hyl2
  have g0 : DataW.trod enc Try.prog w 0 (fun _ => true) true n' 3 [c0] = some z0 := one 0 _ rfl
  have g1 : DataW.trod enc Try.prog w 0 (fun _ => true) true n' 3 [c1] = some z1 := one 1 _ rfl
  have g2 : DataW.trod enc Try.prog w 0 (fun _ => true) true n' 35 [c2] = some z2 := one 2 _ rfl
  obtain ⟨x0, e0, -, w0⟩ := DataW.trod_int Try.underlying3 g0
  obtain ⟨x1, e1, -, w1⟩ := DataW.trod_int Try.underlying3 g1
  simp only [List.cons.injEq, and_true] at e0 e1
  subst e0 e1
  obtain ⟨gs, hg⟩ := open_slF goodKept Try.underlying35 (by kernel_rfl) elem_good g2
  exact ⟨(x0, x1, gs), rfl, rfl, wf64 w0, wf64 w1, hg.slp.2, c2, rfl, hg.slp.1⟩
set_option maxRecDepth 100000 in
theorem open_rows23 {H : Type} {enc : TypeId × Value → H} {w : World} {b0 : Nat} {d0 : DataW H} {p0 : List MemPlace} {v0 : Value} (ok0 : Value.okWide Try.prog w .any b0 42 v0) (k0 : DataW.Trod enc Try.prog w 0 (fun _ => true) true 42 v0 d0 p0) : ∃ L, SlE RowE23 3 w v0 L :=
  open_slE rowKept23 Try.underlying42 (by kernel_rfl) elem_row23 ok0 k0
/-- one row that comes in -/
theorem SlE.row23 {w wr : World} {a : Option Addr} {n c : Nat} {L : List R3} (h : SlE RowE23 3 w (.slice a n c) L) (hb : Below w.heap.size w wr) {k : Nat} {p : R3} (hp : L[k]? = some p) :
    ∃ b off au cu, a = some ⟨b, off, none⟩ ∧ wr.cell? ⟨b, off + k * 3, none⟩ = some (.int .i64 p.1) ∧ wr.cell? ⟨b, off + k * 3 + 1, none⟩ = some (.int .i64 p.2.1) ∧ wr.cell? ⟨b, off + k * 3 + 2, none⟩ = some (.slice au p.2.2.length cu) ∧ SlP wr (.slice au p.2.2.length cu) p.2.2 ∧ In64 p.1 ∧ In64 p.2.1 ∧ ∀ q ∈ p.2.2, In64 q.1 ∧ In64 q.2 := by
  obtain ⟨a', c', e', -, -, -, hrows⟩ := h
  simp only [Value.slice.injEq] at e'
  obtain ⟨rfl, -, rfl⟩ := e'
  obtain ⟨b, off, rfl, hbs, hc0, hc1, i1, i2, i3, u, hc2, hsl⟩ := hrows k p hp
  obtain ⟨au, cu, rfl, -⟩ := id hsl
  have hc : ∀ j, wr.cell? ⟨b, j, none⟩ = w.cell? ⟨b, j, none⟩ := fun j => World.cell?_of_block (hb.block b hbs)
  exact ⟨b, off, au, cu, rfl, by rw [hc]; exact hc0, by rw [hc]; exact hc1, by rw [hc]; exact hc2, hsl.below hb, i1, i2, i3⟩
end Go.Proofs.Ytajfjgekcjkedaa
end
