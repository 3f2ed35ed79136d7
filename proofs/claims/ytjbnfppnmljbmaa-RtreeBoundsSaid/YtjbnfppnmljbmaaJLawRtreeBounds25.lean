/- Joined texts, in this order: Law14Math. Each one's first remark says what it proves; no condition beyond those that its theorems name. -/
import Derived.Test.YtjbnfppnmljbmaaJLawRtreeBounds24
section
/- What a call of the law does to the document's list, and to both. -/
namespace Go.Proofs.Ytjbnfppnmljbmaa
open Go.RowKit
open Go.Lib (hid)
set_option linter.unusedVariables false

structure OpG where
  k : Int
  v : Int
  i : Int
  r : R4
def opV (o : OpG) : Value := .agg #[.int .i64 o.k, .int .i64 o.v, .int .i64 o.i, .int .i64 o.r.1, .int .i64 o.r.2.1, .int .i64 o.r.2.2.1, .int .i64 o.r.2.2.2]
def stepG (L : List Tg) (o : OpG) : List Tg :=
  if o.k = 1 then insL L o.r o.v
  else if o.k = 2 then L.erase (o.r, o.v)
  else if o.k = 3 ∧ 0 ≤ o.i ∧ o.i < (L.length : Int) then L.eraseIdx o.i.toNat
  else L
theorem eraseIdx_erase : ∀ {L : List Tg} {i : Nat} {x : Tg}, L.Nodup → L[i]? = some x → L.eraseIdx i = L.erase x
  | [], i, x, hn, h => by simp at h
  | y :: L, 0, x, hn, h => by simp at h; subst h; simp
  | y :: L, i + 1, x, hn, h => by
    simp at h
    obtain ⟨n1, n2⟩ := List.nodup_cons.1 hn
    have hne : y ≠ x := fun e => n1 (e ▸ List.mem_of_getElem? h)
    have e1 : (y == x) = false := by simpa using hne
    rw [List.eraseIdx_cons_succ, List.erase_cons_tail (by simpa using e1), eraseIdx_erase n2 h]
theorem insL_nodup {L : List Tg} {r : R4} {v : Int} (h : L.Nodup) : (insL L r v).Nodup := by
  unfold insL
  split
  · rename_i he
    rw [List.nodup_append]
    refine ⟨h, by simp, fun a ha b hb e => ?_⟩
    simp only [List.mem_singleton] at hb
    subst hb; subst e
    unfold insE at he
    split at he
    · simp at he
    · simp [ha] at he
  · exact h
theorem insL_len (L : List Tg) (r : R4) (v : Int) : (insL L r v).length ≤ L.length + 1 := by
  unfold insL; split <;> simp
theorem stepG_nodup {L : List Tg} {o : OpG} (h : L.Nodup) : (stepG L o).Nodup := by
  unfold stepG
  split
  · exact insL_nodup h
  · split
    · exact h.sublist List.erase_sublist
    · split
      · exact h.sublist (List.eraseIdx_sublist _ _)
      · exact h
theorem stepG_len (L : List Tg) (o : OpG) : (stepG L o).length ≤ L.length + 1 := by
  unfold stepG
  split
  · exact insL_len _ _ _
  · split
    · exact Nat.le_trans (List.erase_sublist.length_le) (Nat.le_succ _)
    · split
      · exact Nat.le_trans ((List.eraseIdx_sublist _ _).length_le) (Nat.le_succ _)
      · exact Nat.le_succ _
theorem TreeIs.perm {w : World} {s : Nat} {F : Nat → Prop} {L L' : List Tg} (h : TreeIs w s F L) (hp : L.Perm L') : TreeIs w s F L' := by
  obtain ⟨d, n, h1, h2, h3, h4⟩ := h
  exact ⟨d, n, by rw [← hp.length_eq]; exact h1, h2, h3, h4.trans hp⟩
/-- a tree and the document's list side by side -/
structure BothG (w : World) (s : Nat) (F : Nat → Prop) (v : Value) (L : List Tg) : Prop where
  t : TreeIs w s F L
  l : SlG w v L
  apart : ∀ k, v.ownBlock = some k → ¬ F k
  nd : L.Nodup
  low : ∀ k, v.ownBlock = some k → k < w.heap.size
theorem BothG.below {w w' : World} {s : Nat} {F : Nat → Prop} {v : Value} {L : List Tg} (h : BothG w s F v L) (hb : Below w.heap.size w w') : BothG w' s F v L := ⟨h.t.below hb, h.l.below hb, h.apart, h.nd, fun k hk => Nat.lt_of_lt_of_le (h.low k hk) hb.size⟩
/-- what a step leaves -/
def StepPostG (w : World) (F : Nat → Prop) (s : Nat) (L' : List Tg) (v : Value) (e : Ending) (w' : World) : Prop :=
  ∃ (F' : Nat → Prop) (v' : Value), e = .returned (.tuple #[v', .bool true]) ∧ BothG w' s F' v' L' ∧ Upd F w w' ∧ (∀ k, F' k → F k ∨ w.heap.size ≤ k) ∧ (v' = v ∨ ∀ k, v'.ownBlock = some k → w.heap.size ≤ k)
end Go.Proofs.Ytjbnfppnmljbmaa
end
