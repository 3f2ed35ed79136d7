/- Joined texts, in this order: RtAddMath, RtAddMath2. Each one's first remark says what it proves; no condition beyond those that its theorems name. -/
import Derived.Test.YtjbnfppnmljbmaaGreatJLawLandFinds06
section
/- What rtree's add leaves, and the laws that its walk wants. -/
namespace Go.Proofs.YtjbnfppnmljbmaaGreat
open Go.RowKit
open Go.Lib (hid)
set_option linter.unusedVariables false

abbrev blkF (d : Nat) (l : List Nd) : List Nat := l.flatMap (blkN d)
abbrev thgF (d : Nat) (l : List Nd) : List Tg := l.flatMap (thgN d)
def optP : Option Nd → Value
  | none => .pointer none
  | some m => ptrN m
theorem cells7_of (d : Nat) (n : Nd) : cellsN d n = cells7 n.r n.kv n.v (d : Int) := rfl
/-- a node whose children are being changed: its rectangle is not yet fitted -/
structure Mid (d : Nat) (w w1 : World) (n : Nd) (P : Nat → Prop) (ks : List Nd) (kv : Value) : Prop where
  blk : Blk w1 n.p (cells7 n.r kv n.v ((d + 1 : Nat) : Int))
  own : ownP w1 kv ks
  at' : ∀ k ∈ ks, NodeAt d w1 k
  sh : ∀ k ∈ ks, ShapeN d k
  nd : (n.p :: (kv.ownBlock.toList ++ blkF d ks)).Nodup
  fr : ∀ k ∈ n.p :: (kv.ownBlock.toList ++ blkF d ks), P k ∨ w.heap.size ≤ k
  upd : Upd P w w1
theorem nodup_own {o : Option Nat} {L : List Nat} : (o.toList ++ L).Nodup ↔ (∀ k, o = some k → k ∉ L) ∧ L.Nodup := by
  cases o with
  | none => simp
  | some k => simp [List.nodup_cons]
theorem blkN_succ (d : Nat) (n : Nd) : blkN (d + 1) n = n.p :: (n.kv.ownBlock.toList ++ blkF d n.ks) := rfl
theorem Mid.start {d : Nat} {w : World} {n : Nd} {P : Nat → Prop} (h : NodeAt (d + 1) w n) (hs : Shape1 d n) (hn : (blkN (d + 1) n).Nodup) (hP : ∀ k ∈ blkN (d + 1) n, P k) : Mid d w w n P n.ks n.kv :=
  ⟨h.1, h.2.1, h.2.2, hs.kids, hn, fun k hk => .inl (hP k hk), Upd.of_below (Below.refl _ _)⟩
/-- all its blocks lie in the heap -/
theorem Mid.lt {d : Nat} {w w1 : World} {n : Nd} {P : Nat → Prop} {ks : List Nd} {kv : Value} (h : Mid d w w1 n P ks kv) : ∀ k ∈ n.p :: (kv.ownBlock.toList ++ blkF d ks), k < w1.heap.size := by
  intro k hk
  simp only [List.mem_cons, List.mem_append, Option.mem_toList, List.mem_flatMap] at hk
  rcases hk with rfl | hk | ⟨m, hm, hk⟩
  · exact h.blk.lt
  · exact (h.own.lt k hk).2
  · exact (h.at' m hm).lt k hk
/-- one more child -/
theorem Mid.app {d : Nat} {w w1 w2 w3 : World} {n y : Nd} {P : Nat → Prop} {ks : List Nd} {kv v' : Value} (h : Mid d w w1 n P ks kv) (hy : NodeAt d w1 y) (hys : ShapeN d y)
    (hyn : (blkN d y).Nodup) (hyd : ∀ k ∈ blkN d y, k ∉ n.p :: (kv.ownBlock.toList ++ blkF d ks)) (hyf : ∀ k ∈ blkN d y, P k ∨ w.heap.size ≤ k)
    (ho : w2.ownsRow 0 111 1 v' (ks ++ [y]).length (ptrs (ks ++ [y]))) (hg : w1.grownBy w2 kv.ownBlock) (hw : ∀ k, v'.ownBlock = some k → kv.ownBlock = some k ∨ w1.heap.size ≤ k)
    (h3 : w3 = w2.setCell ⟨n.p, 4, none⟩ v') : Mid d w w3 n P (ks ++ [y]) v' := by
  obtain ⟨n1, n2⟩ := List.nodup_cons.1 h.nd
  obtain ⟨n3, n4⟩ := nodup_own.1 n2
  have hgu : Upd (fun k => kv.ownBlock = some k) w1 w2 := Upd.of_grown hg
  have hsu : Upd (fun k => k = n.p) w2 w3 := by rw [h3]; exact Upd.setCell w2 n.p 4 v'
  have hlt := h.lt
  have hnp : ∀ k, v'.ownBlock = some k → k ≠ n.p := fun k hk e => by
    rcases hw k hk with q | q
    · exact n1 (by rw [← e]; simp [q])
    · have := h.blk.lt; omega
  have hfp : ∀ k ∈ blkF d ks, k ≠ n.p := fun k hk e => n1 (by rw [← e]; exact List.mem_append_right _ hk)
  have hyp : ∀ k ∈ blkN d y, k ≠ n.p := fun k hk e => hyd k hk (by rw [e]; simp)
  have hyo : ∀ k ∈ blkN d y, kv.ownBlock ≠ some k := fun k hk e => hyd k hk (by simp [e])
  have hfo : ∀ k ∈ blkF d ks, kv.ownBlock ≠ some k := fun k hk e => n3 k e hk
  have hyl := hy.lt
  have hfl : ∀ k ∈ blkF d ks, k < w1.heap.size := fun k hk => hlt k (by simp only [List.mem_cons, List.mem_append]; exact .inr (.inr hk))
  refine ⟨?_, hsu.owns ho (fun k hk e => hnp k hk e), ?_, ?_, ?_, ?_, ?_⟩
  · have h1 := h.blk.upd hgu (fun e => n1 (by simp [e]))
    rw [h3]
    simpa [cells7] using h1.set 4 v'
  · intro k hk
    rcases List.mem_append.1 hk with hk | hk
    · exact ((h.at' k hk).upd hgu (fun j hj e => hfo j (List.mem_flatMap.2 ⟨k, hk, hj⟩) e)).upd hsu (fun j hj e => hfp j (List.mem_flatMap.2 ⟨k, hk, hj⟩) e)
    · simp only [List.mem_singleton] at hk
      subst hk
      exact (hy.upd hgu (fun j hj e => hyo j hj e)).upd hsu (fun j hj e => hyp j hj e)
  · intro k hk
    rcases List.mem_append.1 hk with hk | hk
    · exact h.sh k hk
    · simp only [List.mem_singleton] at hk; subst hk; exact hys
  · have e : blkF d (ks ++ [y]) = blkF d ks ++ blkN d y := by unfold blkF; rw [List.flatMap_append]; simp
    rw [e, List.nodup_cons, nodup_own]
    refine ⟨?_, ?_, ?_⟩
    · simp only [List.mem_append, Option.mem_toList, not_or]
      exact ⟨fun q => hnp _ q rfl, fun q => hfp _ q rfl, fun q => hyp _ q rfl⟩
    · intro k hk q
      rcases List.mem_append.1 q with q | q
      · rcases hw k hk with z | z
        · exact hfo k q z
        · have := hfl k q; omega
      · rcases hw k hk with z | z
        · exact hyo k q z
        · have := hyl k q; omega
    · rw [List.nodup_append]
      exact ⟨n4, hyn, fun a ha b hb e => hyd b hb (by rw [← e]; simp only [List.mem_cons, List.mem_append]; exact .inr (.inr ha))⟩
  · intro k hk
    simp only [List.mem_cons, List.mem_append, Option.mem_toList, List.flatMap_append, List.flatMap_cons, List.flatMap_nil, List.append_nil] at hk
    rcases hk with rfl | hk | hk | hk
    · exact h.fr _ (by simp)
    · rcases hw k hk with z | z
      · exact h.fr k (by simp [z])
      · right; have := h.upd.size; omega
    · exact h.fr k (by simp only [List.mem_cons, List.mem_append]; exact .inr (.inr hk))
    · exact hyf k hk
  · have h1 : Upd P w w2 := h.upd.trans hgu (fun k hk e => by
      rcases h.fr k (by simp [e]) with z | z
      · exact z
      · omega)
    exact h1.trans hsu (fun k hk e => by
      subst e
      rcases h.fr n.p (by simp) with z | z
      · exact z
      · omega)
/-- what add leaves: the node, and a second one, if it was parted -/
structure AddOk (d : Nat) (w w' : World) (n : Nd) (P : Nat → Prop) (T : List Tg) (n' : Nd) (o : Option Nd) : Prop where
  p : n'.p = n.p
  v : n'.v = n.v
  at' : NodeAt (d + 1) w' n'
  sh : Shape1 d n'
  two : ∀ m ∈ o, NodeAt (d + 1) w' m ∧ ShapeN (d + 1) m
  nd : (blkN (d + 1) n' ++ o.toList.flatMap (blkN (d + 1))).Nodup
  fr : ∀ k ∈ blkN (d + 1) n' ++ o.toList.flatMap (blkN (d + 1)), P k ∨ w.heap.size ≤ k
  th : (thgN (d + 1) n' ++ o.toList.flatMap (thgN (d + 1))).Perm T
  cnt : n.ks.length ≤ n'.ks.length ∨ 2 ≤ n'.ks.length
  cnt1 : 1 ≤ n'.ks.length
  two2 : o ≠ none → 2 ≤ n'.ks.length
  upd : Upd P w w'
/-- not parted: fitted -/
theorem Mid.fit {d : Nat} {w w1 w2 : World} {n : Nd} {P : Nat → Prop} {T : List Tg} {ks : List Nd} {kv : Value} (h : Mid d w w1 n P ks kv) (h4 : ks.length ≤ 4) (h1 : 1 ≤ ks.length) (hc : n.ks.length ≤ ks.length) (ht : (thgF d ks).Perm T)
    (hb : Blk w2 n.p (cells7 (boundR (ks.map (·.r))) kv n.v ((d + 1 : Nat) : Int))) (hu : Upd (fun k => k = n.p) w1 w2) : AddOk d w w2 n P T ⟨n.p, boundR (ks.map (·.r)), kv, n.v, ks⟩ none := by
  obtain ⟨n1, n2⟩ := List.nodup_cons.1 h.nd
  refine ⟨rfl, rfl, ⟨hb, hu.owns h.own (fun k hk e => n1 (by rw [← e]; simp [hk])), fun k hk => (h.at' k hk).upd hu (fun j hj e => n1 (by rw [← e]; exact List.mem_append_right _ (List.mem_flatMap.2 ⟨k, hk, hj⟩)))⟩, ⟨h4, rfl, h.sh⟩, by simp, by simpa [blkN_succ] using h.nd, fun k hk => h.fr k (by simpa [blkN_succ] using hk), by simpa [thgN] using ht, .inl hc, h1, fun z => absurd rfl z, ?_⟩
  exact h.upd.trans hu (fun k hk e => by
    subst e
    rcases h.fr n.p (by simp) with z | z
    · exact z
    · omega)
/-- a child has been changed, in its place -/
theorem Mid.repl {d : Nat} {w w1 : World} {n k k' : Nd} {l1 l2 : List Nd} {P Q : Nat → Prop} {o : Option Nd} {T : List Tg} (h : Mid (d + 1) w w n P n.ks n.kv) (hks : n.ks = l1 ++ k :: l2) (ha : AddOk d w w1 k Q T k' o)
    (hQ : ∀ j, Q j → j ∈ blkN (d + 1) k ∨ (P j ∧ j ∉ n.p :: (n.kv.ownBlock.toList ++ blkF (d + 1) n.ks))) (hk2 : 2 ≤ k'.ks.length) :
    Mid (d + 1) w w1 n P (l1 ++ k' :: l2) n.kv ∧ (∀ m ∈ o, (blkN (d + 1) m).Nodup ∧ (∀ j ∈ blkN (d + 1) m, j ∉ n.p :: (n.kv.ownBlock.toList ++ blkF (d + 1) (l1 ++ k' :: l2))) ∧ ∀ j ∈ blkN (d + 1) m, P j ∨ w.heap.size ≤ j) := by
  obtain ⟨n1, n2⟩ := List.nodup_cons.1 h.nd
  obtain ⟨n3, n4⟩ := nodup_own.1 n2
  have hkm : k ∈ n.ks := by rw [hks]; simp
  have hF : ∀ j, j ∈ blkF (d + 1) n.ks ↔ j ∈ blkF (d + 1) l1 ∨ j ∈ blkN (d + 1) k ∨ j ∈ blkF (d + 1) l2 := fun j => by rw [hks]; simp [blkF, List.flatMap_append, List.flatMap_cons]
  have n4' : (blkF (d + 1) l1 ++ (blkN (d + 1) k ++ blkF (d + 1) l2)).Nodup := by
    have : blkF (d + 1) n.ks = blkF (d + 1) l1 ++ (blkN (d + 1) k ++ blkF (d + 1) l2) := by rw [hks]; simp [blkF, List.flatMap_append, List.flatMap_cons]
    rw [← this]; exact n4
  obtain ⟨a1, a2, a3⟩ := List.nodup_append.1 n4'
  obtain ⟨a4, a5, a6⟩ := List.nodup_append.1 a2
  have hlt := h.lt
  -- where the blocks of the changed child, and of the second one, lie
  have hwh : ∀ j, j ∈ blkN (d + 1) k' ++ o.toList.flatMap (blkN (d + 1)) → (j ∈ blkN (d + 1) k ∨ (P j ∧ j ∉ n.p :: (n.kv.ownBlock.toList ++ blkF (d + 1) n.ks))) ∨ w.heap.size ≤ j := fun j hj => by
    rcases ha.fr j hj with z | z
    · exact .inl (hQ j z)
    · exact .inr z
  have hapart : ∀ j, j ∈ blkN (d + 1) k' ++ o.toList.flatMap (blkN (d + 1)) → j ≠ n.p ∧ n.kv.ownBlock ≠ some j ∧ j ∉ blkF (d + 1) l1 ∧ j ∉ blkF (d + 1) l2 := fun j hj => by
    have hlt2 : ∀ i, (i = n.p ∨ n.kv.ownBlock = some i ∨ i ∈ blkF (d + 1) l1 ∨ i ∈ blkF (d + 1) l2) → i < w.heap.size ∧ i ∈ n.p :: (n.kv.ownBlock.toList ++ blkF (d + 1) n.ks) := fun i hi => by
      have hm : i ∈ n.p :: (n.kv.ownBlock.toList ++ blkF (d + 1) n.ks) := by
        simp only [List.mem_cons, List.mem_append, Option.mem_toList]
        rcases hi with z | z | z | z
        · exact .inl z
        · exact .inr (.inl z)
        · exact .inr (.inr ((hF i).2 (.inl z)))
        · exact .inr (.inr ((hF i).2 (.inr (.inr z))))
      exact ⟨hlt i hm, hm⟩
    rcases hwh j hj with (z | ⟨-, z⟩) | z
    · refine ⟨fun e => n1 ?_, fun e => n3 j e ((hF j).2 (.inr (.inl z))), fun q => a3 j q j (List.mem_append_left _ z) rfl, fun q => a6 j z j q rfl⟩
      rw [← e]; exact List.mem_append_right _ ((hF j).2 (.inr (.inl z)))
    · exact ⟨fun e => z (hlt2 j (.inl e)).2, fun e => z (hlt2 j (.inr (.inl e))).2, fun e => z (hlt2 j (.inr (.inr (.inl e)))).2, fun e => z (hlt2 j (.inr (.inr (.inr e)))).2⟩
    · exact ⟨fun e => by have := (hlt2 j (.inl e)).1; omega, fun e => by have := (hlt2 j (.inr (.inl e))).1; omega, fun e => by have := (hlt2 j (.inr (.inr (.inl e)))).1; omega, fun e => by have := (hlt2 j (.inr (.inr (.inr e)))).1; omega⟩
  have hQn : ∀ j, j < w.heap.size → Q j → j ∉ n.p :: n.kv.ownBlock.toList ∧ j ∉ blkF (d + 1) l1 ∧ j ∉ blkF (d + 1) l2 := fun j hj q => by
    rcases hQ j q with z | ⟨-, z⟩
    · refine ⟨fun e => ?_, fun q => a3 j q j (List.mem_append_left _ z) rfl, fun q => a6 j z j q rfl⟩
      simp only [List.mem_cons, Option.mem_toList] at e
      rcases e with e | e
      · exact n1 (by rw [← e]; exact List.mem_append_right _ ((hF j).2 (.inr (.inl z))))
      · exact n3 j e ((hF j).2 (.inr (.inl z)))
    · refine ⟨fun e => z ?_, fun e => z ?_, fun e => z ?_⟩
      · simp only [List.mem_cons, List.mem_append, Option.mem_toList] at e ⊢
        rcases e with e | e
        · exact .inl e
        · exact .inr (.inl e)
      · exact List.mem_cons_of_mem _ (List.mem_append_right _ ((hF j).2 (.inl e)))
      · exact List.mem_cons_of_mem _ (List.mem_append_right _ ((hF j).2 (.inr (.inr e))))
  have hF' : blkF (d + 1) (l1 ++ k' :: l2) = blkF (d + 1) l1 ++ (blkN (d + 1) k' ++ blkF (d + 1) l2) := by simp [blkF, List.flatMap_append, List.flatMap_cons]
  have hptr : ptrs (l1 ++ k' :: l2) = ptrs n.ks := by
    have e : ptrN k' = ptrN k := by unfold ptrN; rw [ha.p]
    rw [hks]; simp [ptrs, e]
  have hlen : (l1 ++ k' :: l2).length = n.ks.length := by rw [hks]; simp
  have hl1 : ∀ m ∈ l1, NodeAt (d + 1) w1 m := fun m hm => (h.at' m (by rw [hks]; simp [hm])).upd ha.upd (fun j hj q => (hQn j ((h.at' m (by rw [hks]; simp [hm])).lt j hj) q).2.1 (List.mem_flatMap.2 ⟨m, hm, hj⟩))
  have hl2 : ∀ m ∈ l2, NodeAt (d + 1) w1 m := fun m hm => (h.at' m (by rw [hks]; simp [hm])).upd ha.upd (fun j hj q => (hQn j ((h.at' m (by rw [hks]; simp [hm])).lt j hj) q).2.2 (List.mem_flatMap.2 ⟨m, hm, hj⟩))
  obtain ⟨b1, b2, b3⟩ := List.nodup_append.1 ha.nd
  have hin : ∀ m ∈ o, ∀ j ∈ blkN (d + 1) m, j ∈ o.toList.flatMap (blkN (d + 1)) := fun m hm j hj => List.mem_flatMap.2 ⟨m, Option.mem_toList.2 hm, hj⟩
  refine ⟨⟨h.blk.upd ha.upd (fun q => (hQn n.p h.blk.lt q).1 (by simp)), ?_, ?_, ?_, ?_, ?_, ?_⟩, ?_⟩
  · have := ha.upd.owns h.own (fun j hj q => (hQn j (h.own.lt j hj).2 q).1 (by simp [hj]))
    show w1.ownsRow 0 _ 1 _ (l1 ++ k' :: l2).length (ptrs (l1 ++ k' :: l2))
    rw [hlen, hptr]; exact this
  · intro m hm
    rcases List.mem_append.1 hm with hm | hm
    · exact hl1 m hm
    · rcases List.mem_cons.1 hm with rfl | hm
      · exact ha.at'
      · exact hl2 m hm
  · intro m hm
    rcases List.mem_append.1 hm with hm | hm
    · exact h.sh m (by rw [hks]; simp [hm])
    · rcases List.mem_cons.1 hm with rfl | hm
      · exact ha.sh.two hk2
      · exact h.sh m (by rw [hks]; simp [hm])
  · rw [hF', List.nodup_cons, nodup_own]
    refine ⟨?_, ?_, ?_⟩
    · simp only [List.mem_append, Option.mem_toList, not_or]
      refine ⟨fun q => n1 (by simp [q]), fun q => n1 (List.mem_append_right _ ((hF _).2 (.inl q))), fun q => (hapart n.p (List.mem_append_left _ q)).1 rfl, fun q => n1 (List.mem_append_right _ ((hF _).2 (.inr (.inr q))))⟩
    · intro j hj q
      simp only [List.mem_append] at q
      rcases q with q | q | q
      · exact n3 j hj ((hF j).2 (.inl q))
      · exact (hapart j (List.mem_append_left _ q)).2.1 hj
      · exact n3 j hj ((hF j).2 (.inr (.inr q)))
    · rw [List.nodup_append, List.nodup_append]
      exact ⟨a1, ⟨b1, a5, fun a ha2 b hb e => (hapart a (List.mem_append_left _ ha2)).2.2.2 (e ▸ hb)⟩, fun a ha2 b hb e => by
        rcases List.mem_append.1 hb with hb | hb
        · exact (hapart b (List.mem_append_left _ hb)).2.2.1 (e ▸ ha2)
        · exact a3 a ha2 b (List.mem_append_right _ hb) e⟩
  · intro j hj
    rw [hF'] at hj
    simp only [List.mem_cons, List.mem_append, Option.mem_toList] at hj
    rcases hj with rfl | hj | hj | hj | hj
    · exact h.fr _ (by simp)
    · exact h.fr j (by simp [hj])
    · exact h.fr j (List.mem_cons_of_mem _ (List.mem_append_right _ ((hF j).2 (.inl hj))))
    · rcases hwh j (List.mem_append_left _ hj) with (z | ⟨z, -⟩) | z
      · exact h.fr j (List.mem_cons_of_mem _ (List.mem_append_right _ ((hF j).2 (.inr (.inl z)))))
      · exact .inl z
      · exact .inr z
    · exact h.fr j (List.mem_cons_of_mem _ (List.mem_append_right _ ((hF j).2 (.inr (.inr hj)))))
  · refine ha.upd.mono (fun j hj q => ?_)
    rcases hQ j q with z | ⟨z, -⟩
    · rcases h.fr j (List.mem_cons_of_mem _ (List.mem_append_right _ ((hF j).2 (.inr (.inl z))))) with y | y
      · exact y
      · omega
    · exact z
  · intro m hm
    have hm2 : o.toList.flatMap (blkN (d + 1)) = blkN (d + 1) m := by
      rw [show o = some m from hm]; simp
    rw [hm2] at b2
    refine ⟨b2, fun j hj q => ?_, fun j hj => ?_⟩
    · have z := hapart j (List.mem_append_right _ (hin m hm j hj))
      rw [hF'] at q
      simp only [List.mem_cons, List.mem_append, Option.mem_toList] at q
      rcases q with q | q | q | q | q
      · exact z.1 q
      · exact z.2.1 q
      · exact z.2.2.1 q
      · exact b3 j q j (hin m hm j hj) rfl
      · exact z.2.2.2 q
    · rcases hwh j (List.mem_append_right _ (hin m hm j hj)) with (z | ⟨z, -⟩) | z
      · exact h.fr j (List.mem_cons_of_mem _ (List.mem_append_right _ ((hF j).2 (.inr (.inl z)))))
      · exact .inl z
      · exact .inr z
end Go.Proofs.YtjbnfppnmljbmaaGreat
end
section
/- What rtree's add leaves where a node is parted. -/
namespace Go.Proofs.YtjbnfppnmljbmaaGreat
open Go.RowKit
open Go.Lib (hid)
set_option linter.unusedVariables false

theorem Mid.part {d : Nat} {w w1 w2 w3 w4 w5 w6 : World} {n : Nd} {P : Nat → Prop} {T : List Tg} {ks la lb : List Nd} {kv kva kvb : Value} {p2 : Nat} (h : Mid d w w1 n P ks kv) (h5 : ks.length ≤ 5) (ht : (thgF d ks).Perm T)
    (hp : (la ++ lb).Perm ks) (ha2 : 2 ≤ la.length) (hb2 : 2 ≤ lb.length) (u12 : Below w1.heap.size w1 w2)
    (oa : ownB w1.heap.size w2 kva la) (ob : ownB w1.heap.size w2 kvb lb) (hab : ∀ k, kva.ownBlock = some k → kvb.ownBlock ≠ some k)
    (u23 : Upd (fun k => k = n.p) w2 w3) (b34 : Below w3.heap.size w3 w4) (hp2 : p2 = w3.heap.size) (u45 : Upd (fun k => k = p2) w4 w5) (bs : Blk w5 p2 (cells7 (boundR (lb.map (·.r))) kvb 0 ((d + 1 : Nat) : Int)))
    (u56 : Upd (fun k => k = n.p) w5 w6) (bn : Blk w6 n.p (cells7 (boundR (la.map (·.r))) kva n.v ((d + 1 : Nat) : Int))) :
    AddOk d w w6 n P T ⟨n.p, boundR (la.map (·.r)), kva, n.v, la⟩ (some ⟨p2, boundR (lb.map (·.r)), kvb, 0, lb⟩) := by
  obtain ⟨n1, n2⟩ := List.nodup_cons.1 h.nd
  obtain ⟨n3, n4⟩ := nodup_own.1 n2
  have hlen := hp.length_eq
  rw [List.length_append] at hlen
  have hlt := h.lt
  have z12 := u12.size
  have z23 := u23.size
  have z34 := b34.size
  have z45 := u45.size
  have hnp := h.blk.lt
  have hFp : (blkF d la ++ blkF d lb).Perm (blkF d ks) := by
    have := List.Perm.flatMap_right (blkN d) hp
    rwa [List.flatMap_append] at this
  have hTp : (thgF d la ++ thgF d lb).Perm (thgF d ks) := by
    have := List.Perm.flatMap_right (thgN d) hp
    rwa [List.flatMap_append] at this
  have hma : ∀ k ∈ la, k ∈ ks := fun k hk => hp.mem_iff.1 (by simp [hk])
  have hmb : ∀ k ∈ lb, k ∈ ks := fun k hk => hp.mem_iff.1 (by simp [hk])
  have hFa : ∀ j ∈ blkF d la, j ∈ blkF d ks := fun j hj => hFp.mem_iff.1 (by simp only [List.mem_append]; exact .inl hj)
  have hFb : ∀ j ∈ blkF d lb, j ∈ blkF d ks := fun j hj => hFp.mem_iff.1 (by simp only [List.mem_append]; exact .inr hj)
  have hfl : ∀ j ∈ blkF d ks, j < w1.heap.size ∧ j ≠ n.p := fun j hj => ⟨hlt j (List.mem_cons_of_mem _ (List.mem_append_right _ hj)), fun e => n1 (by rw [← e]; exact List.mem_append_right _ hj)⟩
  have hoa : ∀ k, kva.ownBlock = some k → w1.heap.size ≤ k ∧ k < w2.heap.size := fun k hk => oa.lt k hk
  have hob : ∀ k, kvb.ownBlock = some k → w1.heap.size ≤ k ∧ k < w2.heap.size := fun k hk => ob.lt k hk
  -- what lies below w1, the node itself apart, stays
  have hU : Upd (fun k => k = n.p ∨ w2.heap.size ≤ k) w2 w6 := ((((u23.mono (fun _ _ q => .inl q)).trans (Upd.of_below (S := fun k => k = n.p ∨ w2.heap.size ≤ k) b34) (fun _ _ q => q)).trans u45 (fun k _ q => .inr (by omega))).trans u56 (fun _ _ q => .inl q))
  have hat : ∀ k ∈ ks, NodeAt d w6 k := fun k hk => ((h.at' k hk).below u12).upd hU (fun j hj q => by
    have := hfl j (List.mem_flatMap.2 ⟨k, hk, hj⟩)
    rcases q with q | q
    · exact this.2 q
    · omega)
  have hown : ∀ (v : Value) (l : List Nd), ownB w1.heap.size w2 v l → ownP w6 v l := fun v l hv => owns_base0 (hU.owns hv (fun k hk q => by
    have := hv.lt k hk
    rcases q with q | q
    · omega
    · omega)) (Nat.zero_le _)
  have bs6 : Blk w6 p2 (cells7 (boundR (lb.map (·.r))) kvb 0 ((d + 1 : Nat) : Int)) := bs.upd u56 (fun q => by omega)
  have hnd : (n.p :: (kva.ownBlock.toList ++ blkF d la) ++ (p2 :: (kvb.ownBlock.toList ++ blkF d lb))).Nodup := by
    have hF := hFp.nodup_iff.2 n4
    obtain ⟨f1, f2, f3⟩ := List.nodup_append.1 hF
    rw [List.nodup_append, List.nodup_cons, List.nodup_cons, nodup_own, nodup_own]
    refine ⟨⟨?_, fun k hk q => ?_, f1⟩, ⟨?_, fun k hk q => ?_, f2⟩, ?_⟩
    · simp only [List.mem_append, Option.mem_toList, not_or]
      exact ⟨fun q => by have := hoa _ q; omega, fun q => (hfl _ (hFa _ q)).2 rfl⟩
    · have := hoa k hk; have := (hfl k (hFa k q)).1; omega
    · simp only [List.mem_append, Option.mem_toList, not_or]
      exact ⟨fun q => by have := hob _ q; omega, fun q => by have := (hfl _ (hFb _ q)).1; omega⟩
    · have := hob k hk; have := (hfl k (hFb k q)).1; omega
    · intro a ha b hb e
      subst e
      simp only [List.mem_cons, List.mem_append, Option.mem_toList] at ha hb
      rcases ha with rfl | ha | ha
      · rcases hb with hb | hb | hb
        · omega
        · have := hob _ hb; omega
        · exact (hfl _ (hFb _ hb)).2 rfl
      · have := hoa a ha
        rcases hb with hb | hb | hb
        · omega
        · exact hab a ha hb
        · have := (hfl _ (hFb _ hb)).1; omega
      · have := (hfl _ (hFa _ ha)).1
        rcases hb with hb | hb | hb
        · omega
        · have := hob _ hb; omega
        · exact f3 a ha a hb rfl
  refine ⟨rfl, rfl, ⟨bn, hown _ _ oa, fun k hk => hat k (hma k hk)⟩, ⟨by show la.length ≤ 4; omega, rfl, fun k hk => h.sh k (hma k hk)⟩, ?_, ?_, ?_, ?_, .inr ha2, by show 1 ≤ la.length; omega, fun _ => ha2, ?_⟩
  · intro m hm
    obtain rfl : _ = m := Option.some.inj hm
    exact ⟨⟨bs6, hown _ _ ob, fun k hk => hat k (hmb k hk)⟩, ⟨hb2, by show lb.length ≤ 4; omega⟩, rfl, fun k hk => h.sh k (hmb k hk)⟩
  · simpa [blkN_succ] using hnd
  · intro k hk
    simp only [blkN_succ, Option.toList_some, List.flatMap_cons, List.flatMap_nil, List.append_nil, List.mem_append, List.mem_cons, Option.mem_toList] at hk
    have hz := h.upd.size
    rcases hk with (rfl | hk | hk) | (rfl | hk | hk)
    · exact h.fr _ (by simp)
    · right; have := hoa k hk; omega
    · exact h.fr k (List.mem_cons_of_mem _ (List.mem_append_right _ (hFa k hk)))
    · right; omega
    · right; have := hob k hk; omega
    · exact h.fr k (List.mem_cons_of_mem _ (List.mem_append_right _ (hFb k hk)))
  · have : thgN (d + 1) ⟨n.p, boundR (la.map (·.r)), kva, n.v, la⟩ ++ (some (⟨p2, boundR (lb.map (·.r)), kvb, 0, lb⟩ : Nd)).toList.flatMap (thgN (d + 1)) = thgF d la ++ thgF d lb := by simp [thgN, thgF]
    rw [this]; exact hTp.trans ht
  · have h1 : Upd P w w2 := h.upd.trans (Upd.of_below u12) (fun _ _ q => q)
    refine h1.trans hU (fun k hk q => ?_)
    rcases q with q | q
    · subst q
      rcases h.fr n.p (by simp) with z | z
      · exact z
      · omega
    · have := h1.size; omega
end Go.Proofs.YtjbnfppnmljbmaaGreat
end
