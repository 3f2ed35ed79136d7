/- append to an empty row of the call's own ([]T{}): nothing that was there turns. No program in sight. -/
import Derived.Test.YtdchopckbklncaaMem2
namespace Go.Proofs.Ytdchopckbklncaa
open Go.RowKit
open Go.Lib (hid)
set_option linter.unusedVariables false

theorem run_app0 {P : Program} {t e : TypeId} {z : Value} {size bytes : Nat} (T : SlT P t e z size bytes) (w : World) (ty : TypeId) (base g : Nat) (hg : w.heap[g]? = some (.cells #[] e (0, 0))) (hb : base ≤ g)
    (ao : Option Addr) (m c : Nat) (news : List Value) (hl : news.length = m * size) (hc0 : m = 0 → ao = none → c = 0) (hrd : Rd w ao news) (h1 : ∀ u ∈ news, u.oneCell' = true) (hbytes : m * bytes ≤ 140737488355328) :
    ∃ v' w', (Builtin.append_ #[t, t] ty #[.slice (some ⟨g, 0, none⟩) 0 0, .slice ao m c]).run P w = .ok v' w' ∧ w'.ownsRow base e size v' m news ∧ Below w.heap.size w w' ∧ v' ≠ .slice none 0 0 := by
  obtain ⟨i, hi, hz, hsz, hby⟩ := T.info
  have hglt : g < w.heap.size := (Array.getElem?_eq_some_iff.1 hg).1
  have hown : w.ownsRow base e size (.slice (some ⟨g, 0, none⟩) 0 0) 0 [] := ⟨by simp, .inr ⟨g, 0, #[], rfl, hb, hg, Nat.le_refl _, by omega, by simp, by simp⟩⟩
  have hm2 : m * 1 ≤ m * bytes := Nat.mul_le_mul_left _ T.bpos
  cases ao with
  | none =>
    have hn : news = [] := by
      cases news with
      | nil => rfl
      | cons y ys => obtain ⟨b, off, had, _⟩ := hrd 0 (by simp); cases had
    subst hn
    have hm0 : m = 0 := by
      have := T.pos
      simp only [List.length_nil] at hl
      rcases Nat.eq_zero_or_pos m with h | h
      · exact h
      · have := Nat.mul_pos h T.pos; omega
    subst hm0
    obtain rfl := hc0 rfl rfl
    exact ⟨_, _, run_append_owned_none (P := P) w base t ty e i size T.u hi _ 0 [] hown, hown, Below.refl _ _, by simp⟩
  | some ad =>
    have hnews : ∀ j u, news[j]? = some u → w.cell? (ad.add j) = some u := by
      intro j u hu
      obtain ⟨b, off, had, hc⟩ := hrd j (by have := (List.getElem?_eq_some_iff.1 hu).1; exact this)
      obtain rfl := Option.some.inj had
      rw [Addr.add_lit, hc, hu]
    by_cases h0 : m = 0
    · subst h0
      have hn : news = [] := List.eq_nil_of_length_eq_zero (by simpa using hl)
      subst hn
      have h := run_append_room (P := P) w t ty e i T.u hi g 0 0 #[] hg ad 0 c [] (by simp) hnews h1 (Nat.le_refl _) (by simp)
      refine ⟨_, _, h, ⟨by simp, .inr ⟨g, 0, #[], rfl, hb, ?_, Nat.le_refl _, by omega, by simp, by simp⟩⟩, ?_, by simp⟩
      · rw [setRow_heap w g #[] _ e (0, 0) hg]; simp
      · refine ⟨rfl, rfl, rfl, by simp [World.setRow], fun k hk => ?_⟩
        by_cases hkg : k = g
        · subst hkg
          rw [setRow_heap w k #[] _ e (0, 0) hg, hg]; simp
        · exact setRow_other w g k _ hkg
    · have h := run_append_grow (P := P) w t ty e i z T.u hi hz ⟨g, 0, none⟩ 0 0 [] (by simp) (fun j v h => by simp at h) ad m c news (by rw [hsz]; exact hl) hnews (by omega) (by omega) (by rw [hby]; exact growslice_fits (by omega) (by simpa using hbytes))
      rw [Nat.zero_add] at h
      have hge := grownCap_ge w m 0 e
      have hle := grownCap_le_maxLen w m 0 e (by unfold maxLen; omega)
      refine ⟨_, _, h, ⟨hl, .inr ⟨w.heap.size, _, _, rfl, by omega, heap_alloc_new w.drew _, hge, hle, ?_, ?_⟩⟩, ((Below.refl _ _).drew).alloc (Nat.le_refl _) _, by simp⟩
      · have hzc : z.cells.size = size := T.zs
        simp only [Array.size_append, size_zeroCells, hzc, List.size_toArray, List.length_nil, hl]
        rw [Nat.zero_add, ← Nat.add_mul]; congr 1; omega
      · rw [← hl]; simp
/-- as a step of a region that draws its order -/
theorem step_app0 {P : Program} {t e : TypeId} {z : Value} {size bytes : Nat} (T : SlT P t e z size bytes) {w : World} {ops : Array Oper} {o : Oper} {a : Act} {K : Act → World → Prop} {Q : Exit → Act → World → Prop} {E : Prop}
    (hgd : o.guard = none) (s x : Operand) (ho : o.op = .call { callee := .builtin .append, args := #[s, x], argTypes := #[t, t] }) (base g : Nat) (hs : a.eval s = .slice (some ⟨g, 0, none⟩) 0 0) (hg : w.heap[g]? = some (.cells #[] e (0, 0))) (hb : base ≤ g)
    (ao : Option Addr) (m c : Nat) (news : List Value) (hx : a.eval x = .slice ao m c) (hl : news.length = m * size) (hc0 : m = 0 → ao = none → c = 0) (hrd : Rd w ao news) (h1 : ∀ u ∈ news, u.oneCell' = true) (hbytes : m * bytes ≤ 140737488355328)
    (h : ∀ v' w', w'.ownsRow base e size v' m news → Below w.heap.size w w' → v' ≠ .slice none 0 0 → K (a.put o.dst v') w') :
    if Region.wanted o (yielded ops a.tmps) = true then Oper.wp P o a w K Q else E := by
  have hw : Region.wanted o (yielded ops a.tmps) = true := by simp [Region.wanted, hgd]
  rw [if_pos hw]
  obtain ⟨v', w', hr, h2, h3, h4⟩ := run_app0 (P := P) T w o.type base g hg hb ao m c news hl hc0 hrd h1 hbytes
  unfold Oper.wp execOp
  simp only [ho, resolve, invoke, builtin, Sem.run_bind, Sem.run_pure, Result.andThen_ok, List.map_toArray, List.map_cons, List.map_nil, hs, hx, hr]
  exact h v' w' h2 h3 h4
end Go.Proofs.Ytdchopckbklncaa
