/- Joined texts, in this order: RtDropMath. Each one's first remark says what it proves; no condition beyond those that its theorems name. -/
import Derived.Test.YtjbnfppnmljbmaaJLawLandMany13
section
/- What rtree's drop leaves, and the laws that its walk wants. -/
namespace Go.Proofs.Ytjbnfppnmljbmaa
open Go.RowKit
open Go.Lib (hid)
set_option linter.unusedVariables false

/-- a node whose children are being changed; how they must be is not said -/
structure MidB (d : Nat) (w w1 : World) (n : Nd) (P : Nat → Prop) (ks : List Nd) (kv : Value) : Prop where
  blk : Blk w1 n.p (cells7 n.r kv n.v ((d + 1 : Nat) : Int))
  own : ownP w1 kv ks
  at' : ∀ k ∈ ks, NodeAt d w1 k
  nd : (n.p :: (kv.ownBlock.toList ++ blkF d ks)).Nodup
  fr : ∀ k ∈ n.p :: (kv.ownBlock.toList ++ blkF d ks), P k ∨ w.heap.size ≤ k
  upd : Upd P w w1
theorem Mid.b {d : Nat} {w w1 : World} {n : Nd} {P : Nat → Prop} {ks : List Nd} {kv : Value} (h : Mid d w w1 n P ks kv) : MidB d w w1 n P ks kv := ⟨h.blk, h.own, h.at', h.nd, h.fr, h.upd⟩
theorem MidB.lt {d : Nat} {w w1 : World} {n : Nd} {P : Nat → Prop} {ks : List Nd} {kv : Value} (h : MidB d w w1 n P ks kv) : ∀ k ∈ n.p :: (kv.ownBlock.toList ++ blkF d ks), k < w1.heap.size := by
  intro k hk
  simp only [List.mem_cons, List.mem_append, Option.mem_toList, List.mem_flatMap] at hk
  rcases hk with rfl | hk | ⟨m, hm, hk⟩
  · exact h.blk.lt
  · exact (h.own.lt k hk).2
  · exact (h.at' m hm).lt k hk
theorem MidB.repl {d : Nat} {w w1 : World} {n k k' : Nd} {l1 l2 : List Nd} {P Q : Nat → Prop} {E : List Nat} (h : MidB (d + 1) w w n P n.ks n.kv) (hks : n.ks = l1 ++ k :: l2)
    (hap : k'.p = k.p) (hat : NodeAt (d + 1) w1 k') (hnd : (blkN (d + 1) k' ++ E).Nodup) (hfr : ∀ j ∈ blkN (d + 1) k' ++ E, Q j ∨ w.heap.size ≤ j) (hupd : Upd Q w w1)
    (hQ : ∀ j, Q j → j ∈ blkN (d + 1) k ∨ (P j ∧ j ∉ n.p :: (n.kv.ownBlock.toList ++ blkF (d + 1) n.ks))) :
    MidB (d + 1) w w1 n P (l1 ++ k' :: l2) n.kv ∧ E.Nodup ∧ (∀ j ∈ E, j ∉ n.p :: (n.kv.ownBlock.toList ++ blkF (d + 1) (l1 ++ k' :: l2))) ∧ ∀ j ∈ E, P j ∨ w.heap.size ≤ j := by
  obtain ⟨n1, n2⟩ := List.nodup_cons.1 h.nd
  obtain ⟨n3, n4⟩ := nodup_own.1 n2
  have hkm : k ∈ n.ks := by rw [hks]; simp
  have hF : ∀ j, j ∈ blkF (d + 1) n.ks ↔ j ∈ blkF (d + 1) l1 ∨ j ∈ blkN (d + 1) k ∨ j ∈ blkF (d + 1) l2 := fun j => by rw [hks]; simp [blkF, List.flatMap_append, List.flatMap_cons]
  have n4' : (blkF (d + 1) l1 ++ (blkN (d + 1) k ++ blkF (d + 1) l2)).Nodup := by
    have : blkF (d + 1) n.ks = blkF (d + 1) l1 ++ (blkN (d + 1) k ++ blkF (d + 1) l2) := by rw [hks]; simp [blkF, List.flatMap_append, List.flatMap_cons]
    rw [← this]; exact n4
  obtain ⟨a1, a2, a3⟩ := List.nodup_append.1 n4'
  obtain ⟨a4, a5, a6⟩ := List.nodup_append.1 a2
  have hlt := h.lt
  -- where the blocks of the changed child, and of the second one, lie
  have hwh : ∀ j, j ∈ blkN (d + 1) k' ++ E → (j ∈ blkN (d + 1) k ∨ (P j ∧ j ∉ n.p :: (n.kv.ownBlock.toList ++ blkF (d + 1) n.ks))) ∨ w.heap.size ≤ j := fun j hj => by
    rcases hfr j hj with z | z
    · exact .inl (hQ j z)
    · exact .inr z
  have hapart : ∀ j, j ∈ blkN (d + 1) k' ++ E → j ≠ n.p ∧ n.kv.ownBlock ≠ some j ∧ j ∉ blkF (d + 1) l1 ∧ j ∉ blkF (d + 1) l2 := fun j hj => by
    have hlt2 : ∀ i, (i = n.p ∨ n.kv.ownBlock = some i ∨ i ∈ blkF (d + 1) l1 ∨ i ∈ blkF (d + 1) l2) → i < w.heap.size ∧ i ∈ n.p :: (n.kv.ownBlock.toList ++ blkF (d + 1) n.ks) := fun i hi => by
      have hm : i ∈ n.p :: (n.kv.ownBlock.toList ++ blkF (d + 1) n.ks) := by
        simp only [List.mem_cons, List.mem_append, Option.mem_toList]
        rcases hi with z | z | z | z
        · exact .inl z
        · exact .inr (.inl z)
        · exact .inr (.inr ((hF i).2 (.inl z)))
        · exact .inr (.inr ((hF i).2 (.inr (.inr z))))
      exact ⟨hlt i hm, hm⟩
    rcases hwh j hj with (z | ⟨-, z⟩) | z
    · refine ⟨fun e => n1 ?_, fun e => n3 j e ((hF j).2 (.inr (.inl z))), fun q => a3 j q j (List.mem_append_left _ z) rfl, fun q => a6 j z j q rfl⟩
      rw [← e]; exact List.mem_append_right _ ((hF j).2 (.inr (.inl z)))
    · exact ⟨fun e => z (hlt2 j (.inl e)).2, fun e => z (hlt2 j (.inr (.inl e))).2, fun e => z (hlt2 j (.inr (.inr (.inl e)))).2, fun e => z (hlt2 j (.inr (.inr (.inr e)))).2⟩
    · exact ⟨fun e => by have := (hlt2 j (.inl e)).1; omega, fun e => by have := (hlt2 j (.inr (.inl e))).1; omega, fun e => by have := (hlt2 j (.inr (.inr (.inl e)))).1; omega, fun e => by have := (hlt2 j (.inr (.inr (.inr e)))).1; omega⟩
  have hQn : ∀ j, j < w.heap.size → Q j → j ∉ n.p :: n.kv.ownBlock.toList ∧ j ∉ blkF (d + 1) l1 ∧ j ∉ blkF (d + 1) l2 := fun j hj q => by
    rcases hQ j q with z | ⟨-, z⟩
    · refine ⟨fun e => ?_, fun q => a3 j q j (List.mem_append_left _ z) rfl, fun q => a6 j z j q rfl⟩
      simp only [List.mem_cons, Option.mem_toList] at e
      rcases e with e | e
      · exact n1 (by rw [← e]; exact List.mem_append_right _ ((hF j).2 (.inr (.inl z))))
      · exact n3 j e ((hF j).2 (.inr (.inl z)))
    · refine ⟨fun e => z ?_, fun e => z ?_, fun e => z ?_⟩
      · simp only [List.mem_cons, List.mem_append, Option.mem_toList] at e ⊢
        rcases e with e | e
        · exact .inl e
        · exact .inr (.inl e)
      · exact List.mem_cons_of_mem _ (List.mem_append_right _ ((hF j).2 (.inl e)))
      · exact List.mem_cons_of_mem _ (List.mem_append_right _ ((hF j).2 (.inr (.inr e))))
  have hF' : blkF (d + 1) (l1 ++ k' :: l2) = blkF (d + 1) l1 ++ (blkN (d + 1) k' ++ blkF (d + 1) l2) := by simp [blkF, List.flatMap_append, List.flatMap_cons]
  have hptr : ptrs (l1 ++ k' :: l2) = ptrs n.ks := by
    have e : ptrN k' = ptrN k := by unfold ptrN; rw [hap]
    rw [hks]; simp [ptrs, e]
  have hlen : (l1 ++ k' :: l2).length = n.ks.length := by rw [hks]; simp
  have hl1 : ∀ m ∈ l1, NodeAt (d + 1) w1 m := fun m hm => (h.at' m (by rw [hks]; simp [hm])).upd hupd (fun j hj q => (hQn j ((h.at' m (by rw [hks]; simp [hm])).lt j hj) q).2.1 (List.mem_flatMap.2 ⟨m, hm, hj⟩))
  have hl2 : ∀ m ∈ l2, NodeAt (d + 1) w1 m := fun m hm => (h.at' m (by rw [hks]; simp [hm])).upd hupd (fun j hj q => (hQn j ((h.at' m (by rw [hks]; simp [hm])).lt j hj) q).2.2 (List.mem_flatMap.2 ⟨m, hm, hj⟩))
  obtain ⟨b1, b2, b3⟩ := List.nodup_append.1 hnd
  refine ⟨⟨h.blk.upd hupd (fun q => (hQn n.p h.blk.lt q).1 (by simp)), ?_, ?_, ?_, ?_, ?_⟩, b2, ?_, ?_⟩
  · have := hupd.owns h.own (fun j hj q => (hQn j (h.own.lt j hj).2 q).1 (by simp [hj]))
    show w1.ownsRow 0 _ 1 _ (l1 ++ k' :: l2).length (ptrs (l1 ++ k' :: l2))
    rw [hlen, hptr]; exact this
  · intro m hm
    rcases List.mem_append.1 hm with hm | hm
    · exact hl1 m hm
    · rcases List.mem_cons.1 hm with rfl | hm
      · exact hat
      · exact hl2 m hm
  · rw [hF', List.nodup_cons, nodup_own]
    refine ⟨?_, ?_, ?_⟩
    · simp only [List.mem_append, Option.mem_toList, not_or]
      refine ⟨fun q => n1 (by simp [q]), fun q => n1 (List.mem_append_right _ ((hF _).2 (.inl q))), fun q => (hapart n.p (List.mem_append_left _ q)).1 rfl, fun q => n1 (List.mem_append_right _ ((hF _).2 (.inr (.inr q))))⟩
    · intro j hj q
      simp only [List.mem_append] at q
      rcases q with q | q | q
      · exact n3 j hj ((hF j).2 (.inl q))
      · exact (hapart j (List.mem_append_left _ q)).2.1 hj
      · exact n3 j hj ((hF j).2 (.inr (.inr q)))
    · rw [List.nodup_append, List.nodup_append]
      exact ⟨a1, ⟨b1, a5, fun a ha2 b hb e => (hapart a (List.mem_append_left _ ha2)).2.2.2 (e ▸ hb)⟩, fun a ha2 b hb e => by
        rcases List.mem_append.1 hb with hb | hb
        · exact (hapart b (List.mem_append_left _ hb)).2.2.1 (e ▸ ha2)
        · exact a3 a ha2 b (List.mem_append_right _ hb) e⟩
  · intro j hj
    rw [hF'] at hj
    simp only [List.mem_cons, List.mem_append, Option.mem_toList] at hj
    rcases hj with rfl | hj | hj | hj | hj
    · exact h.fr _ (by simp)
    · exact h.fr j (by simp [hj])
    · exact h.fr j (List.mem_cons_of_mem _ (List.mem_append_right _ ((hF j).2 (.inl hj))))
    · rcases hwh j (List.mem_append_left _ hj) with (z | ⟨z, -⟩) | z
      · exact h.fr j (List.mem_cons_of_mem _ (List.mem_append_right _ ((hF j).2 (.inr (.inl z)))))
      · exact .inl z
      · exact .inr z
    · exact h.fr j (List.mem_cons_of_mem _ (List.mem_append_right _ ((hF j).2 (.inr (.inr hj)))))
  · refine hupd.mono (fun j hj q => ?_)
    rcases hQ j q with z | ⟨z, -⟩
    · rcases h.fr j (List.mem_cons_of_mem _ (List.mem_append_right _ ((hF j).2 (.inr (.inl z))))) with y | y
      · exact y
      · omega
    · exact z
  · intro j hj q
    have z := hapart j (List.mem_append_right _ hj)
    rw [hF'] at q
    simp only [List.mem_cons, List.mem_append, Option.mem_toList] at q
    rcases q with q | q | q | q | q
    · exact z.1 q
    · exact z.2.1 q
    · exact z.2.2.1 q
    · exact b3 j q j hj rfl
    · exact z.2.2.2 q
  · intro j hj
    rcases hwh j (List.mem_append_right _ hj) with (z | ⟨z, -⟩) | z
    · exact h.fr j (List.mem_cons_of_mem _ (List.mem_append_right _ ((hF j).2 (.inr (.inl z)))))
    · exact .inl z
    · exact .inr z
theorem subl_flat {f : Nd → List Nat} {l m : List Nd} (h : l.Sublist m) : (l.flatMap f).Sublist (m.flatMap f) := by
  induction h with
  | slnil => exact List.Sublist.refl _
  | cons a h ih => rw [List.flatMap_cons]; exact ih.trans (List.sublist_append_right _ _)
  | cons_cons a h ih => rw [List.flatMap_cons, List.flatMap_cons]; exact (List.Sublist.refl _).append ih
theorem MidB.rat {d : Nat} {w w1 : World} {n : Nd} {P : Nat → Prop} {ks : List Nd} {kv : Value} (h : MidB d w w1 n P ks kv) : ∀ k ∈ ks, RAt w1 k.p k.r := fun k hk => (h.at' k hk).rat
/-- one child is taken out -/
theorem MidB.del {d : Nat} {w w1 w2 w3 : World} {n : Nd} {P : Nat → Prop} {ks : List Nd} {kv kv' : Value} (h : MidB d w w1 n P ks kv) {i : Nat} (ho : ownP w2 kv' (ks.eraseIdx i)) (hu : Upd (fun k => kv.ownBlock = some k) w1 w2) (he : kv'.ownBlock = kv.ownBlock)
    (h3 : w3 = w2.setCell ⟨n.p, 4, none⟩ kv') : MidB d w w3 n P (ks.eraseIdx i) kv' ∧ Upd (fun k => kv.ownBlock = some k ∨ k = n.p) w1 w3 := by
  obtain ⟨n1, n2⟩ := List.nodup_cons.1 h.nd
  obtain ⟨n3, n4⟩ := nodup_own.1 n2
  have hsu : Upd (fun k => k = n.p) w2 w3 := by rw [h3]; exact Upd.setCell w2 n.p 4 kv'
  have hsub : (ks.eraseIdx i).Sublist ks := List.eraseIdx_sublist _ _
  have hmem : ∀ k ∈ ks.eraseIdx i, k ∈ ks := fun k hk => hsub.subset hk
  have hF : ∀ j ∈ blkF d (ks.eraseIdx i), j ∈ blkF d ks := fun j hj => by
    obtain ⟨k, hk, hj⟩ := List.mem_flatMap.1 hj
    exact List.mem_flatMap.2 ⟨k, hmem k hk, hj⟩
  have hFs : (blkF d (ks.eraseIdx i)).Sublist (blkF d ks) := subl_flat hsub
  have hnp : ∀ k, kv.ownBlock = some k → k ≠ n.p := fun k hk e => n1 (by rw [← e]; simp [hk])
  have hfp : ∀ k ∈ blkF d ks, k ≠ n.p := fun k hk e => n1 (by rw [← e]; exact List.mem_append_right _ hk)
  have hU : Upd (fun k => kv.ownBlock = some k ∨ k = n.p) w1 w3 := (hu.mono (fun _ _ q => .inl q)).trans hsu (fun _ _ q => .inr q)
  refine ⟨⟨?_, hsu.owns ho (fun k hk e => hnp k (by rw [← he]; exact hk) e), fun k hk => (h.at' k (hmem k hk)).upd hU (fun j hj q => ?_), ?_, fun k hk => h.fr k ?_, h.upd.trans hU (fun k hk q => ?_)⟩, hU⟩
  · have h1 := h.blk.upd hu (fun e => n1 (by simp [e]))
    rw [h3]
    simpa [cells7] using h1.set 4 kv'
  · have hj2 : j ∈ blkF d ks := List.mem_flatMap.2 ⟨k, hmem k hk, hj⟩
    rcases q with q | q
    · exact n3 j q hj2
    · exact hfp j hj2 q
  · rw [List.nodup_cons, nodup_own, he]
    refine ⟨?_, fun k hk q => n3 k hk (hF k q), n4.sublist hFs⟩
    simp only [List.mem_append, Option.mem_toList, not_or]
    exact ⟨fun q => hnp _ q rfl, fun q => hfp _ (hF _ q) rfl⟩
  · simp only [List.mem_cons, List.mem_append, Option.mem_toList] at hk ⊢
    rw [he] at hk
    rcases hk with q | q | q
    · exact .inl q
    · exact .inr (.inl q)
    · exact .inr (.inr (hF k q))
  · have hm : k ∈ n.p :: (kv.ownBlock.toList ++ blkF d ks) := by
      rcases q with q | q
      · simp [q]
      · simp [q]
    rcases h.fr k hm with z | z
    · exact z
    · omega
/-- the node is fitted -/
theorem MidB.fit {d : Nat} {w w1 w2 : World} {n : Nd} {P : Nat → Prop} {ks : List Nd} {kv : Value} (h : MidB d w w1 n P ks kv)
    (hb : Blk w2 n.p (cells7 (boundR (ks.map (·.r))) kv n.v ((d + 1 : Nat) : Int))) (hu : Upd (fun k => k = n.p) w1 w2) :
    NodeAt (d + 1) w2 ⟨n.p, boundR (ks.map (·.r)), kv, n.v, ks⟩ ∧ Upd P w w2 := by
  obtain ⟨n1, n2⟩ := List.nodup_cons.1 h.nd
  refine ⟨⟨hb, hu.owns h.own (fun k hk e => n1 (by rw [← e]; simp [hk])), fun k hk => (h.at' k hk).upd hu (fun j hj e => n1 (by rw [← e]; exact List.mem_append_right _ (List.mem_flatMap.2 ⟨k, hk, hj⟩)))⟩, h.upd.trans hu (fun k hk e => ?_)⟩
  subst e
  rcases h.fr n.p (by simp) with z | z
  · exact z
  · omega
abbrev DNd := Nat × Nd
abbrev blkA (A : List DNd) : List Nat := A.flatMap (fun y => blkN y.1 y.2)
abbrev thgA (A : List DNd) : List Tg := A.flatMap (fun y => thgN y.1 y.2)
/-- what drop leaves where the thing was there: the node, and what must be put in anew -/
structure DropOk (d : Nat) (w w' : World) (n : Nd) (x : Tg) (n' : Nd) (A : List DNd) (va : Value) : Prop where
  p : n'.p = n.p
  at' : NodeAt (d + 1) w' n'
  sh : Shape1 d n'
  own : w'.ownsRow 0 90 1 va A.length (ptrs (A.map (·.2)))
  rest : ∀ y ∈ A, y.1 < d ∧ NodeAt y.1 w' y.2 ∧ ShapeN y.1 y.2
  nd : (blkN (d + 1) n' ++ (va.ownBlock.toList ++ blkA A)).Nodup
  fr : ∀ k ∈ blkN (d + 1) n' ++ (va.ownBlock.toList ++ blkA A), k ∈ blkN (d + 1) n ∨ w.heap.size ≤ k
  th : (x :: (thgN (d + 1) n' ++ thgA A)).Perm (thgN (d + 1) n)
  c1 : n'.ks.length ≤ n.ks.length
  c2 : n.ks.length ≤ n'.ks.length + 1
  alen : A.length ≤ d
  upd : Upd (fun k => k ∈ blkN (d + 1) n) w w'
def DropPost (d : Nat) (w : World) (n : Nd) (x : Tg) (e : Ending) (w' : World) : Prop :=
  (x ∉ thgN (d + 1) n ∧ e = .returned (.tuple #[.slice none 0 0, .bool false]) ∧ Below w.heap.size w w') ∨
  ∃ n' A a c, e = .returned (.tuple #[.slice a A.length c, .bool true]) ∧ DropOk d w w' n x n' A (.slice a A.length c)
def DropSpec (d : Nat) : Prop := ∀ (n : Nd) (x : Tg) (w : World), d ≤ 1000 → NodeAt (d + 1) w n → (blkN (d + 1) n).Nodup → Shape1 d n →
  Calls Try.prog 71 #[ptrN n, rV x.1, .int .i64 x.2] w (DropPost d w n x)
end Go.Proofs.Ytjbnfppnmljbmaa
end
