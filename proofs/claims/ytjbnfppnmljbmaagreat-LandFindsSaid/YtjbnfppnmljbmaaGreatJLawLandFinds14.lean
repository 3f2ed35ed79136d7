/- Joined texts, in this order: RtDelMath, RtDelete, RtSmall, RtUse. Each one's first remark says what it proves; no condition beyond those that its theorems name. -/
import Derived.Test.YtjbnfppnmljbmaaGreatJLawLandFinds13
section
/- What rtree's Delete does behind drop: a tree, and nodes that must go into it again. -/
namespace Go.Proofs.YtjbnfppnmljbmaaGreat
open Go.RowKit
open Go.Lib (hid)
set_option linter.unusedVariables false

structure DelI (w wr : World) (s : Nat) (F : Nat → Prop) (L' : List Tg) (cnt : Int) (va : Value) (A R : List DNd) (d : Nat) (n : Nd) : Prop where
  tree : TreeAt wr s d n cnt
  own : ownP wr va (A.map (·.2))
  rest : ∀ y ∈ R, y.1 ≤ d ∧ NodeAt y.1 wr y.2 ∧ ShapeN y.1 y.2
  nd : (s :: (blkN (d + 1) n ++ (va.ownBlock.toList ++ blkA R))).Nodup
  fr : ∀ k ∈ s :: (blkN (d + 1) n ++ (va.ownBlock.toList ++ blkA R)), F k ∨ w.heap.size ≤ k
  th : (thgN (d + 1) n ++ thgA R).Perm L'
  ki : d = 0 ∨ 1 ≤ n.ks.length
  upd : Upd F w wr
theorem mem_blkA {R : List DNd} {k : Nat} : k ∈ blkA R ↔ ∃ y ∈ R, k ∈ blkN y.1 y.2 := List.mem_flatMap
theorem DelI.drew {w wr wz : World} {s : Nat} {F : Nat → Prop} {L' : List Tg} {cnt : Int} {va : Value} {A R : List DNd} {d : Nat} {n : Nd} (h : DelI w wr s F L' cnt va A R d n) (hb : Below wr.heap.size wr wz) : DelI w wz s F L' cnt va A R d n :=
  ⟨h.tree.below hb, owns_below h.own hb, fun y hy => ⟨(h.rest y hy).1, (h.rest y hy).2.1.below hb, (h.rest y hy).2.2⟩, h.nd, h.fr, h.th, h.ki, h.upd.trans (Upd.of_below hb) (fun _ _ q => q)⟩
theorem DelI.next {w wr w' : World} {s : Nat} {F : Nat → Prop} {L' : List Tg} {cnt : Int} {va : Value} {A R : List DNd} {y : DNd} {d d' : Nat} {n n' : Nd} (h : DelI w wr s F L' cnt va A (y :: R) d n)
    (hp : PutOk wr w' s d n cnt (AddP d y.1 n y.2) (thgN (d + 1) n ++ thgN y.1 y.2) d' n') : DelI w w' s F L' cnt va A R d' n' := by
  have hz := h.upd.size
  have hnd := h.nd
  have hbA : blkA (y :: R) = blkN y.1 y.2 ++ blkA R := rfl
  rw [hbA] at hnd
  obtain ⟨a1, a2⟩ := List.nodup_cons.1 hnd
  obtain ⟨a3, a4, a5⟩ := List.nodup_append.1 a2
  obtain ⟨a6, a7, a8⟩ := List.nodup_append.1 a4
  obtain ⟨a9, a10, a11⟩ := List.nodup_append.1 a7
  have hS : ∀ k, (k ∈ va.ownBlock.toList ∨ k ∈ blkA R) → k < wr.heap.size ∧ k ≠ s ∧ ¬ AddP d y.1 n y.2 k := fun k hk => by
    refine ⟨?_, ?_, ?_⟩
    · rcases hk with hk | hk
      · exact (h.own.lt k (by simpa using hk)).2
      · obtain ⟨z, hz, hk⟩ := mem_blkA.1 hk
        exact (h.rest z (by simp [hz])).2.1.lt k hk
    · intro e; subst e
      apply a1
      simp only [List.mem_append]
      rcases hk with hk | hk
      · exact .inr (.inl hk)
      · exact .inr (.inr (.inr hk))
    · rintro (q | q)
      · refine a5 k q k ?_ rfl
        simp only [List.mem_append]
        rcases hk with hk | hk
        · exact .inl hk
        · exact .inr (.inr hk)
      · rcases hk with hk | hk
        · exact a8 k hk k (List.mem_append_left _ q) rfl
        · exact a11 k q k hk rfl
  have hS2 : ∀ k, (k ∈ va.ownBlock.toList ∨ k ∈ blkA R) → ¬ (k = s ∨ AddP d y.1 n y.2 k) := fun k hk q => by
    rcases q with q | q
    · exact (hS k hk).2.1 q
    · exact (hS k hk).2.2 q
  have hw := hp.upd.size
  refine ⟨hp.tree, hp.upd.owns h.own (fun k hk => hS2 k (.inl (by simpa using hk))), fun z hz => ?_, ?_, ?_, ?_, .inr hp.cnt1, ?_⟩
  · obtain ⟨h1, h2, h3⟩ := h.rest z (by simp [hz])
    exact ⟨Nat.le_trans h1 hp.dep.1, h2.upd hp.upd (fun k hk => hS2 k (.inr (mem_blkA.2 ⟨z, hz, hk⟩))), h3⟩
  · obtain ⟨b1, b2⟩ := List.nodup_cons.1 hp.tree.nd
    rw [List.nodup_cons]
    refine ⟨?_, ?_⟩
    · simp only [List.mem_append, not_or]
      exact ⟨b1, fun q => (hS s (.inl q)).2.1 rfl, fun q => (hS s (.inr q)).2.1 rfl⟩
    · rw [List.nodup_append]
      refine ⟨b2, ?_, fun a ha b hb e => ?_⟩
      · rw [List.nodup_append]
        exact ⟨a6, a10, fun a ha b hb => a8 a ha b (List.mem_append_right _ hb)⟩
      · subst e
        have h3 := hS a (List.mem_append.1 hb)
        rcases hp.fr a ha with q | q
        · exact h3.2.2 q
        · omega
  · intro k hk
    simp only [List.mem_cons, List.mem_append] at hk
    have hfr := h.fr
    rw [hbA] at hfr
    rcases hk with rfl | hk | hk | hk
    · exact hfr _ (by simp)
    · rcases hp.fr k hk with (q | q) | q
      · exact hfr k (by simp only [List.mem_cons, List.mem_append]; exact .inr (.inl q))
      · exact hfr k (by simp only [List.mem_cons, List.mem_append]; exact .inr (.inr (.inr (.inl q))))
      · right; omega
    · exact hfr k (by simp only [List.mem_cons, List.mem_append]; exact .inr (.inr (.inl hk)))
    · exact hfr k (by simp only [List.mem_cons, List.mem_append]; exact .inr (.inr (.inr (.inr hk))))
  · refine (List.Perm.append_right _ hp.th).trans ?_
    rw [List.append_assoc]
    exact h.th
  · refine h.upd.trans hp.upd (fun k hk q => ?_)
    have hfr := h.fr
    rw [hbA] at hfr
    have : F k ∨ w.heap.size ≤ k := by
      rcases q with rfl | q | q
      · exact hfr _ (by simp)
      · exact hfr k (by simp only [List.mem_cons, List.mem_append]; exact .inr (.inl q))
      · exact hfr k (by simp only [List.mem_cons, List.mem_append]; exact .inr (.inr (.inr (.inl q))))
    rcases this with z | z
    · exact z
    · omega
/-- behind all of them: a tree whose root may have one child too few -/
structure DelE (w wr : World) (s : Nat) (F : Nat → Prop) (L' : List Tg) (cnt : Int) (d : Nat) (n : Nd) : Prop where
  tree : TreeAt wr s d n cnt
  fr : ∀ k ∈ s :: blkN (d + 1) n, F k ∨ w.heap.size ≤ k
  th : (thgN (d + 1) n).Perm L'
  ki : d = 0 ∨ 1 ≤ n.ks.length
  upd : Upd F w wr
theorem DelI.done {w wr : World} {s : Nat} {F : Nat → Prop} {L' : List Tg} {cnt : Int} {va : Value} {A : List DNd} {d : Nat} {n : Nd} (h : DelI w wr s F L' cnt va A [] d n) : DelE w wr s F L' cnt d n :=
  ⟨h.tree, fun k hk => h.fr k (by simp only [List.mem_cons, List.mem_append] at hk ⊢; rcases hk with q | q; · exact .inl q
                                  · exact .inr (.inl q)), by have := h.th; simpa [thgA] using this, h.ki, h.upd⟩
/-- a root of one child gives way to it -/
theorem DelE.less {w wr wz : World} {s : Nat} {F : Nat → Prop} {L' : List Tg} {cnt : Int} {d : Nat} {n k : Nd} (h : DelE w wr s F L' cnt (d + 1) n) (hk : n.ks = [k]) (hz : wz = wr.setCell ⟨s, 0, none⟩ (ptrN k)) : DelE w wz s F L' cnt d k := by
  have hu : Upd (fun j => j = s) wr wz := by rw [hz]; exact Upd.setCell wr s 0 _
  obtain ⟨n1, n2⟩ := List.nodup_cons.1 h.tree.nd
  have hkm : k ∈ n.ks := by rw [hk]; simp
  have hsub : ∀ j, j ∈ blkN (d + 1) k → j ∈ blkN (d + 2) n := fun j hj => by
    show j ∈ n.p :: (n.kv.ownBlock.toList ++ n.ks.flatMap (blkN (d + 1)))
    simp only [List.mem_cons, List.mem_append, List.mem_flatMap]
    exact .inr (.inr ⟨k, hkm, hj⟩)
  have hsk : s ∉ blkN (d + 1) k := fun q => n1 (hsub s q)
  have hnk : (blkN (d + 1) k).Nodup := by
    have n2' : (n.p :: (n.kv.ownBlock.toList ++ n.ks.flatMap (blkN (d + 1)))).Nodup := n2
    rw [hk] at n2'
    have n3 := (List.nodup_append.1 (List.nodup_cons.1 n2').2).2.1
    simpa using n3
  refine ⟨⟨?_, (h.tree.node.2.2 k hkm).upd hu (fun j hj q => hsk (by rw [← q]; exact hj)), List.nodup_cons.2 ⟨hsk, hnk⟩, (h.tree.sh.kids k hkm).one⟩, fun j hj => ?_, ?_, ?_, h.upd.trans hu (fun j hj q => ?_)⟩
  · rw [hz]; simpa using h.tree.blk.set 0 (ptrN k)
  · rcases List.mem_cons.1 hj with rfl | hj
    · exact h.fr _ (by simp)
    · exact h.fr j (List.mem_cons_of_mem _ (hsub j hj))
  · have : thgN (d + 2) n = thgN (d + 1) k := by show n.ks.flatMap (thgN (d + 1)) = _; rw [hk]; simp
    rw [← this]; exact h.th
  · right
    have := (h.tree.sh.kids k hkm).1.1
    omega
  · subst q
    have := h.fr j (by simp)
    rcases this with z | z
    · exact z
    · omega
def delE (L : List Tg) (x : Tg) : Int := if x ∈ L then 0 else 14
theorem DelE.post {w wr : World} {s : Nat} {F : Nat → Prop} {L' : List Tg} {cnt : Int} {d : Nat} {n : Nd} (h : DelE w wr s F L' cnt d n) (hc : (L'.length : Int) = cnt) (h2 : d = 0 ∨ 2 ≤ n.ks.length) (E : Int) : RtPost w s F E L' (.returned (.int .i64 E)) wr :=
  ⟨fun k => k ∈ s :: blkN (d + 1) n, rfl, ⟨d, n, by rw [hc]; exact h.tree, fun k hk => hk, h2, h.th⟩, h.upd, h.fr⟩
/-- what drop leaves, the number of things told again, and the nodes sorted -/
theorem DropOk.delI {d s : Nat} {w w1 w2 w3 : World} {n n' : Nd} {x : Tg} {A A' : List DNd} {va : Value} {F : Nat → Prop} {L : List Tg} {cnt cnt' : Int} (ht : TreeAt w s d n cnt) (hF : ∀ k ∈ s :: blkN (d + 1) n, F k) (h2 : d = 0 ∨ 2 ≤ n.ks.length) (hp : (thgN (d + 1) n).Perm L)
    (h : DropOk d w w1 n x n' A va) (e2 : w2 = w1.setCell ⟨s, 1, none⟩ (.int .i64 cnt')) (hA : A'.Perm A) (ho : ownP w3 va (A'.map (·.2))) (hu : Upd (fun k => va.ownBlock = some k) w2 w3) : DelI w w3 s F (L.erase x) cnt' va A' A' d n' := by
  have hz := h.upd.size
  obtain ⟨n1, n2⟩ := List.nodup_cons.1 ht.nd
  have hsl := ht.blk.lt
  have hsn : ∀ k ∈ blkN (d + 1) n' ++ (va.ownBlock.toList ++ blkA A), k ≠ s := fun k hk e => by
    subst e
    rcases h.fr k hk with z | z
    · exact n1 z
    · omega
  have hu2 : Upd (fun k => k = s) w1 w2 := by rw [e2]; exact Upd.setCell w1 s 1 _
  have hu3 : Upd (fun k => k = s ∨ va.ownBlock = some k) w1 w3 := (hu2.mono (fun k _ q => .inl q)).trans hu (fun k _ q => .inr q)
  obtain ⟨a1, a2, a3⟩ := List.nodup_append.1 h.nd
  obtain ⟨a4, a5, a6⟩ := List.nodup_append.1 a2
  have hmA : ∀ k, k ∈ blkA A' ↔ k ∈ blkA A := fun k => by
    rw [mem_blkA, mem_blkA]
    exact ⟨fun ⟨y, hy, q⟩ => ⟨y, hA.mem_iff.1 hy, q⟩, fun ⟨y, hy, q⟩ => ⟨y, hA.mem_iff.2 hy, q⟩⟩
  have hnd : (blkA A').Nodup := (List.Perm.nodup_iff (hA.flatMap_right _)).2 a5
  refine ⟨⟨?_, h.at'.upd hu3 (fun k hk q => ?_), List.nodup_cons.2 ⟨fun q => hsn s (List.mem_append_left _ q) rfl, a1⟩, h.sh⟩, ho, fun y hy => ?_, ?_, ?_, ?_, ?_, ?_⟩
  · have hb1 : Blk w1 s #[ptrN n, .int .i64 cnt] := ht.blk.upd h.upd n1
    have hb2 : Blk w2 s #[ptrN n, .int .i64 cnt'] := by rw [e2]; simpa using hb1.set 1 (.int .i64 cnt')
    have : ptrN n' = ptrN n := by unfold ptrN; rw [h.p]
    rw [this]
    refine hb2.upd hu (fun q => hsn s ?_ rfl)
    simp [q]
  · rcases q with q | q
    · exact hsn k (List.mem_append_left _ hk) q
    · exact a3 k hk k (by simp [q]) rfl
  · obtain ⟨h3, h4, h5⟩ := h.rest y (hA.mem_iff.1 hy)
    refine ⟨by omega, h4.upd hu3 (fun k hk q => ?_), h5⟩
    have hk2 : k ∈ blkA A := mem_blkA.2 ⟨y, hA.mem_iff.1 hy, hk⟩
    rcases q with q | q
    · exact hsn k (by simp only [List.mem_append]; exact .inr (.inr hk2)) q
    · exact a6 k (by simp [q]) k hk2 rfl
  · rw [List.nodup_cons]
    refine ⟨?_, ?_⟩
    · intro q
      refine hsn s ?_ rfl
      simp only [List.mem_append, hmA] at q ⊢
      exact q
    · rw [List.nodup_append, List.nodup_append]
      exact ⟨a1, ⟨a4, hnd, fun a ha b hb => a6 a ha b ((hmA b).1 hb)⟩, fun a ha b hb => a3 a ha b (by simp only [List.mem_append, hmA] at hb ⊢; exact hb)⟩
  · intro k hk
    rcases List.mem_cons.1 hk with rfl | hk
    · exact .inl (hF _ (by simp))
    · rcases h.fr k (by simp only [List.mem_append, hmA] at hk ⊢; exact hk) with z | z
      · exact .inl (hF k (by simp [z]))
      · exact .inr z
  · have h3 : (thgN (d + 1) n' ++ thgA A').Perm (thgN (d + 1) n' ++ thgA A) := List.Perm.append_left _ (hA.flatMap_right _)
    refine h3.trans ?_
    have h4 := h.th.trans hp
    have hx : x ∈ L := h4.mem_iff.1 (by simp)
    exact (h4.trans (List.perm_cons_erase hx)).cons_inv
  · have := h.c2; omega
  · have h3 : Upd F w w1 := h.upd.mono (fun k _ q => hF k (by simp [q]))
    refine h3.trans hu3 (fun k hk q => ?_)
    rcases q with rfl | q
    · exact hF _ (by simp)
    · rcases h.fr k (by simp [q]) with z | z
      · exact hF k (by simp [z])
      · omega
end Go.Proofs.YtjbnfppnmljbmaaGreat
end
section
/- Contract of rtree's Delete. -/
namespace Go.Proofs.YtjbnfppnmljbmaaGreat
open Go.RowKit
open Go.Lib (hid)
set_option linter.unusedVariables false
attribute [local go_sem] Oper.semAt_some

theorem dep_few {d : Nat} {n : Nd} {L : List Tg} (hs : Shape1 d n) (h2 : d = 0 ∨ 2 ≤ n.ks.length) (hp : (thgN (d + 1) n).Perm L) (hl : L.length ≤ 900) : d ≤ 15 := by
  rcases h2 with h | h
  · omega
  · have h1 := two_pow_le (hs.two h)
    rw [hp.length_eq] at h1
    rcases Nat.lt_or_ge 15 d with q | q
    · have h3 : 2 ^ 16 ≤ 2 ^ (d + 1) := Nat.pow_le_pow_right (by omega) (by omega)
      have h4 : (2 : Nat) ^ 16 = 65536 := by decide
      omega
    · exact q
def DelR (w : World) (s : Nat) (F : Nat → Prop) (L' : List Tg) (cnt : Int) (a : Option Addr) (N c : Nat) (A : List DNd) (v34 : Value) (wr : World) : Prop :=
  ∃ (i : Nat) (d : Nat) (n : Nd), v34 = .int .i64 (i : Int) ∧ i ≤ N ∧ Hid (d ≤ 15 + i) ∧ Hid (DelI w wr s F L' cnt (.slice a N c) A (A.drop i) d n)
def DelT (w : World) (s : Nat) (F : Nat → Prop) (L' : List Tg) (cnt : Int) (wr : World) : Prop := ∃ d n, DelE w wr s F L' cnt d n
def depOf (w : World) (s : Nat) : Nat := match w.cell? ⟨s, 0, none⟩ with
  | some (.pointer (some a)) => match w.cell? ⟨a.block, 6, none⟩ with
    | some v => (intOf v).toNat
    | none => 0
  | _ => 0
theorem DelE.dep {w wr : World} {s : Nat} {F : Nat → Prop} {L' : List Tg} {cnt : Int} {d : Nat} {n : Nd} (h : DelE w wr s F L' cnt d n) : depOf wr s = d + 1 := by
  unfold depOf
  rw [h.tree.blk.c2.1]
  simp only [ptrN]
  rw [h.tree.node.blk.c7.2.2.2]
  simp [intOf]
theorem RtPost.ahead {w wd : World} {s : Nat} {F : Nat → Prop} {E : Int} {L : List Tg} {e : Ending} {w' : World} (hb : Below w.heap.size w wd) (h : RtPost wd s F E L e w') : RtPost w s F E L e w' := by
  obtain ⟨F', h1, h2, h3, h4⟩ := h
  have := hb.size
  exact ⟨F', h1, h2, (Upd.of_below hb).trans h3 (fun _ _ q => q), fun k q => (h4 k q).imp id (fun z => by omega)⟩
/-- what the sort asks for, behind drop -/
theorem DropOk.srt {d s : Nat} {w w1 w2 : World} {n n' : Nd} {x : Tg} {A : List DNd} {va : Value} {cnt : Int} {u : Value} (ht : TreeAt w s d n cnt) (h : DropOk d w w1 n x n' A va) (e2 : w2 = w1.setCell ⟨s, 1, none⟩ u) :
    ownP w2 va (A.map (·.2)) ∧ ∀ k ∈ A.map (·.2), va.ownBlock ≠ some k.p ∧ ∃ E : Int, w2.cell? ⟨k.p, 6, none⟩ = some (.int .i64 E) := by
  have hz := h.upd.size
  have hsl := ht.blk.lt
  obtain ⟨n1, n2⟩ := List.nodup_cons.1 ht.nd
  have hsn : ∀ k ∈ blkN (d + 1) n' ++ (va.ownBlock.toList ++ blkA A), k ≠ s := fun k hk e => by
    subst e
    rcases h.fr k hk with z | z
    · exact n1 z
    · omega
  have hu2 : Upd (fun k => k = s) w1 w2 := by rw [e2]; exact Upd.setCell w1 s 1 _
  obtain ⟨a1, a2, a3⟩ := List.nodup_append.1 h.nd
  obtain ⟨a4, a5, a6⟩ := List.nodup_append.1 a2
  refine ⟨?_, fun k hk => ?_⟩
  · have := hu2.owns h.own (fun k hk q => hsn k (by simp [hk]) q)
    have e : (A.map (·.2)).length = A.length := by simp
    show w2.ownsRow 0 _ 1 _ (A.map (·.2)).length (ptrs (A.map (·.2)))
    rw [e]; exact this
  · obtain ⟨y, hy, rfl⟩ := List.mem_map.1 hk
    have hm : y.2.p ∈ blkA A := mem_blkA.2 ⟨y, hy, blkN_p _ _⟩
    refine ⟨fun q => a6 y.2.p (by simp [q]) y.2.p hm rfl, (y.1 : Int), ?_⟩
    have hN := (h.rest y hy).2.1.upd hu2 (fun k hk q => hsn k (by simp only [List.mem_append]; exact .inr (.inr (mem_blkA.2 ⟨y, hy, hk⟩))) q)
    exact hN.blk.c7.2.2.2
theorem DelI.at {w wr : World} {s : Nat} {F : Nat → Prop} {L' : List Tg} {cnt : Int} {a : Option Addr} {N c : Nat} {A : List DNd} {i d : Nat} {n : Nd} (h : DelI w wr s F L' cnt (.slice a N c) A (A.drop i) d n) (hN : A.length = N) (hi : i < N) :
    ∃ (y : DNd) (b off : Nat), A.drop i = y :: A.drop (i + 1) ∧ a = some ⟨b, off, none⟩ ∧ wr.cell? ⟨b, off + i, none⟩ = some (ptrN y.2) := by
  have hi2 : i < A.length := by omega
  obtain ⟨hrd, -⟩ := own_rd h.own
  obtain ⟨b, off, e, hc⟩ := hrd i (by simpa using hi2)
  refine ⟨A[i], b, off, List.drop_eq_getElem_cons hi2, e, ?_⟩
  rw [hc]; simp [List.getElem?_eq_getElem hi2]
set_option maxRecDepth 100000 in
set_option maxHeartbeats 4000000 in
theorem rt_Delete4 (w : World) (s : Nat) (F : Nat → Prop) (L : List Tg) (x y a b v : Int) (h : TreeIs w s F L) (hl : L.length ≤ 900) :
    Calls Tryz.prog 60 #[.pointer (some ⟨s, 0, none⟩), .agg #[.int .i64 x, .int .i64 y, .int .i64 a, .int .i64 b], .int .i64 v] w (RtPost w s F (delE L ((x, y, a, b), v)) (L.erase ((x, y, a, b), v))) := by
  have H := hid h
  obtain ⟨d, n, ht, hF, h2, hp⟩ := h
  have HT := hid ht
  have HF := hid hF
  have H2 := hid h2
  have HP := hid hp
  have HD : Hid (d ≤ 15) := hid (dep_few ht.sh h2 hp hl)
  obtain ⟨C, hC⟩ : ∃ C : Int, (L.length : Int) = C := ⟨_, rfl⟩
  have HC := hid (And.intro hC hl)
  have hdrop : ∀ wz, Below w.heap.size w wz → Calls Tryz.prog 91 #[ptrN n, .agg #[.int .i64 x, .int .i64 y, .int .i64 a, .int .i64 b], .int .i64 v] wz (DropPost d wz n ((x, y, a, b), v)) := fun wz hb =>
    drop_all d n ((x, y, a, b), v) wz (by have := HD.out; omega) (ht.node.below hb) (List.nodup_cons.1 ht.nd).2 ht.sh
  have b1 := ht.blk
  unfold ptrN at hdrop b1
  obtain ⟨p, hpp⟩ : ∃ z, n.p = z := ⟨_, rfl⟩
  rw [hpp] at hdrop b1
  have HDROP := hid hdrop
  have c0 := b1.c2.1
  have hns : Hid (s ∉ blkN (d + 1) n) := hid (List.nodup_cons.1 ht.nd).1
  have HLT := hid (fun k (hk : k ∈ blkN (d + 1) n) => ht.node.lt k hk)
  have hsl := ht.blk.lt
  have HSL := hid hsl
  clear hdrop ht hF h2 hp hC hl hpp b1
  go_enter Tryz.func60, Tryz.ntmps60
  go_upto_region 1 with fail
  obtain ⟨w1, hw⟩ : ∃ w1, w1 = w.alloc (.cells #[.int .i64 x, .int .i64 y, .int .i64 a, .int .i64 b] 25) := ⟨_, rfl⟩
  rw [← hw]
  obtain ⟨g, hg⟩ : ∃ g, g = w.heap.size := ⟨_, rfl⟩
  rw [← hg]
  have hb : Below w.heap.size w w1 := by rw [hw]; exact Below.new _ _
  have hX : Blk w1 g #[.int .i64 x, .int .i64 y, .int .i64 a, .int .i64 b] := by rw [hw, hg]; exact Blk.new _ _ _
  have HB := hid hb
  have HG : Hid (g ∉ blkN (d + 1) n) := hid (fun q => by have := HLT.out g q; omega)
  have k0 : w1.cell? ⟨s, 0, none⟩ = some (.pointer (some ⟨p, 0, none⟩)) := cellOf_belowR hb c0
  obtain ⟨e0, e1, e2, e3⟩ := hX.c4r
  have hlt0 := World.block_lt_of_cell? w1 _ k0
  have hlt1 := hX.lt
  replace k0 := fun (z : World) (hz : Upd (fun k => k ∈ blkN (d + 1) n) w1 z) => (World.cell?_of_block (hz.block s hlt0 hns.out) (a := ⟨s, 0, none⟩)).trans k0
  replace e0 := fun (z : World) (hz : Upd (fun k => k ∈ blkN (d + 1) n) w1 z) => (World.cell?_of_block (hz.block g hlt1 HG.out) (a := ⟨g, 0, none⟩)).trans e0
  replace e1 := fun (z : World) (hz : Upd (fun k => k ∈ blkN (d + 1) n) w1 z) => (World.cell?_of_block (hz.block g hlt1 HG.out) (a := ⟨g, 1, none⟩)).trans e1
  replace e2 := fun (z : World) (hz : Upd (fun k => k ∈ blkN (d + 1) n) w1 z) => (World.cell?_of_block (hz.block g hlt1 HG.out) (a := ⟨g, 2, none⟩)).trans e2
  replace e3 := fun (z : World) (hz : Upd (fun k => k ∈ blkN (d + 1) n) w1 z) => (World.cell?_of_block (hz.block g hlt1 HG.out) (a := ⟨g, 3, none⟩)).trans e3
  have hyd : Upd (fun k => k ∈ blkN (d + 1) n) w1 w1.drew := Upd.of_below (Below.refl w1.heap.size w1).drew
  have hbd := Below.next hb (Below.refl w1.heap.size w1).drew
  have HBD := hid hbd
  clear c0 hw hg hb hX hlt0 hlt1 hbd hsl
  by_cases hx : (((x, y, a, b), v) : Tg) ∈ thgN (d + 1) n
  · have hdr : Calls Tryz.prog 91 #[.pointer (some ⟨p, 0, none⟩), .agg #[.int .i64 x, .int .i64 y, .int .i64 a, .int .i64 b], .int .i64 v] w1.drew (fun e w' => ∃ (n' : Nd) (A : List DNd) (a2 : Option Addr) (N c2 : Nat), A.length = N ∧ e = .returned (.tuple #[.slice a2 N c2, .bool true]) ∧ DropOk d w1.drew w' n ((x, y, a, b), v) n' A (.slice a2 N c2)) := (HDROP.out _ HBD.out).mono (fun e w' q => by
      rcases q with ⟨q1, -, -⟩ | ⟨n', A, a2, c2, q1, q2⟩
      · exact absurd hx q1
      · exact ⟨n', A, a2, A.length, c2, rfl, q1, q2⟩)
    have HDR := hid hdr
    have HIX : Hid ((((x, y, a, b), v) : Tg) ∈ L) := hid (HP.out.mem_iff.1 hx)
    have HTD := hid (HT.out.below HBD.out)
    clear hdr hx
    refine wp_region_kept [11] (fun z => Upd (fun k => k ∈ blkN (d + 1) n) w1 z) (by kernel_rfl) (by assumption) (fun hH => ?_)
    refine wpK.take (i := 0) (v := _) (by simp only [List.getElem?_toArray, List.getElem?_cons_succ, List.getElem?_cons_zero]; rfl) (by kernel_rfl) (by kernel_rfl) (by kernel_rfl) (by kernel_rfl) (by kernel_rfl) (by exact fun _ _ _ h => h) (by first | exact Or.inl ⟨by rfl, by intro w hSw; go_simp; try with_reducible rfl⟩ | exact Or.inr ⟨by rfl, rfl⟩) hH ?_
    try simp only [Act.put, List.setIfInBounds_toArray, List.set_cons_zero, List.set_cons_succ]
    refine wpK.take (i := 1) (v := _) (by simp only [List.getElem?_toArray, List.getElem?_cons_succ, List.getElem?_cons_zero]; rfl) (by kernel_rfl) (by kernel_rfl) (by kernel_rfl) (by kernel_rfl) (by kernel_rfl) (by exact fun _ _ _ h => h) (by first | exact Or.inl ⟨by rfl, by intro w hSw; go_simp; try with_reducible rfl⟩ | exact Or.inr ⟨by rfl, rfl⟩) hH ?_
    try simp only [Act.put, List.setIfInBounds_toArray, List.set_cons_zero, List.set_cons_succ]
    refine wpK.take (i := 2) (v := _) (by simp only [List.getElem?_toArray, List.getElem?_cons_succ, List.getElem?_cons_zero]; rfl) (by kernel_rfl) (by kernel_rfl) (by kernel_rfl) (by kernel_rfl) (by kernel_rfl) (by exact fun _ _ _ h => h) (by first | exact Or.inl ⟨by rfl, by intro w hSw; go_simp; try with_reducible rfl⟩ | exact Or.inr ⟨by rfl, rfl⟩) hH ?_
    try simp only [Act.put, List.setIfInBounds_toArray, List.set_cons_zero, List.set_cons_succ]
    refine wpK.take (i := 3) (v := _) (by simp only [List.getElem?_toArray, List.getElem?_cons_succ, List.getElem?_cons_zero]; rfl) (by kernel_rfl) (by kernel_rfl) (by kernel_rfl) (by kernel_rfl) (by kernel_rfl) (by exact fun _ _ _ h => h) (by first | exact Or.inl ⟨by rfl, by intro w hSw; go_simp; try with_reducible rfl⟩ | exact Or.inr ⟨by rfl, rfl⟩) hH ?_
    try simp only [Act.put, List.setIfInBounds_toArray, List.set_cons_zero, List.set_cons_succ]
    refine wpK.take (i := 4) (v := _) (by simp only [List.getElem?_toArray, List.getElem?_cons_succ, List.getElem?_cons_zero]; rfl) (by kernel_rfl) (by kernel_rfl) (by kernel_rfl) (by kernel_rfl) (by kernel_rfl) (by exact fun _ _ _ h => h) (by first | exact Or.inl ⟨by rfl, by intro w hSw; go_simp; try with_reducible rfl⟩ | exact Or.inr ⟨by rfl, rfl⟩) hH ?_
    try simp only [Act.put, List.setIfInBounds_toArray, List.set_cons_zero, List.set_cons_succ]
    refine wpK.take (i := 5) (v := _) (by simp only [List.getElem?_toArray, List.getElem?_cons_succ, List.getElem?_cons_zero]; rfl) (by kernel_rfl) (by kernel_rfl) (by kernel_rfl) (by kernel_rfl) (by kernel_rfl) (by exact fun _ _ _ h => h) (by first | exact Or.inl ⟨by rfl, by intro w hSw; go_simp; try with_reducible rfl⟩ | exact Or.inr ⟨by rfl, rfl⟩) hH ?_
    try simp only [Act.put, List.setIfInBounds_toArray, List.set_cons_zero, List.set_cons_succ]
    refine wpK.step (i := 6) (by kernel_rfl) (by simp only [List.getElem?_toArray, List.getElem?_cons_succ, List.getElem?_cons_zero]; rfl) (fun K hK => ?_)
    go_simp
    (refine HDR.out.mono ?_); rintro e w2 ⟨n', A, a2, N, c2, hN, rfl, hdk⟩; (have HDK := hid hdk); (have HN := hid hN); (have hk2 := hyd.trans hdk.upd (fun _ _ q => q)); clear hdk hN; go_simp
    refine hK.out _ _ (by assumption) (fun hH => ?_)
    clear hK K
    try simp only [Act.put, List.setIfInBounds_toArray, List.set_cons_zero, List.set_cons_succ]
    refine wpK.take (i := 7) (v := _) (by simp only [List.getElem?_toArray, List.getElem?_cons_succ, List.getElem?_cons_zero]; rfl) (by kernel_rfl) (by kernel_rfl) (by kernel_rfl) (by kernel_rfl) (by kernel_rfl) (by exact fun _ _ _ h => h) (by first | exact Or.inl ⟨by rfl, by intro w hSw; go_simp; try with_reducible rfl⟩ | exact Or.inr ⟨by rfl, rfl⟩) hH ?_
    try simp only [Act.put, List.setIfInBounds_toArray, List.set_cons_zero, List.set_cons_succ]
    refine wpK.take (i := 8) (v := _) (by simp only [List.getElem?_toArray, List.getElem?_cons_succ, List.getElem?_cons_zero]; rfl) (by kernel_rfl) (by kernel_rfl) (by kernel_rfl) (by kernel_rfl) (by kernel_rfl) (by exact fun _ _ _ h => h) (by first | exact Or.inl ⟨by rfl, by intro w hSw; go_simp; try with_reducible rfl⟩ | exact Or.inr ⟨by rfl, rfl⟩) hH ?_
    try simp only [Act.put, List.setIfInBounds_toArray, List.set_cons_zero, List.set_cons_succ]
    refine wpK.take (i := 9) (v := _) (by simp only [List.getElem?_toArray, List.getElem?_cons_succ, List.getElem?_cons_zero]; rfl) (by kernel_rfl) (by kernel_rfl) (by kernel_rfl) (by kernel_rfl) (by kernel_rfl) (by exact fun _ _ _ h => h) (by first | exact Or.inl ⟨by rfl, by intro w hSw; go_simp; try with_reducible rfl⟩ | exact Or.inr ⟨by rfl, rfl⟩) hH ?_
    try simp only [Act.put, List.setIfInBounds_toArray, List.set_cons_zero, List.set_cons_succ]
    refine wpK.take (i := 10) (v := _) (by simp only [List.getElem?_toArray, List.getElem?_cons_succ, List.getElem?_cons_zero]; rfl) (by kernel_rfl) (by kernel_rfl) (by kernel_rfl) (by kernel_rfl) (by kernel_rfl) (by exact fun _ _ _ h => h) (by first | exact Or.inl ⟨by rfl, by intro w hSw; go_simp; try with_reducible rfl⟩ | exact Or.inr ⟨by rfl, rfl⟩) hH ?_
    try simp only [Act.put, List.setIfInBounds_toArray, List.set_cons_zero, List.set_cons_succ]
    refine wpK.late (i := 11) (by kernel_rfl) (by simp only [List.getElem?_toArray, List.getElem?_cons_succ, List.getElem?_cons_zero]; rfl) (by kernel_rfl) (fun K hK => ?_)
    go_simp
    refine hK.out _ _ ?_
    clear hK K
    try simp only [Act.put, List.setIfInBounds_toArray, List.set_cons_zero, List.set_cons_succ]
    refine wpK.done (by kernel_rfl) ?_ _
    have hN19 : N ≤ 15 := by have h1 := HDK.out.alen; have h2 := HN.out; have h3 := HD.out; omega
    clear k0 e0 e1 e2 e3 hyd hk2 hH
    have hT2 : Blk w2 s #[ptrN n, .int .i64 C] := by
      have := HTD.out.blk.upd HDK.out.upd hns.out
      rw [HC.out.1] at this; exact this
    obtain ⟨-, k1, -, f1⟩ := hT2.c2
    have hwC : IntKind.i64.wrap (C - 1) = C - 1 := by have := HC.out; rw [IntKind.wrap_i64]; omega
    clear hT2
    go_upto_region 5 with fail
    obtain ⟨w3, hw3⟩ : ∃ w3, w3 = w2.setCell ⟨s, 1, none⟩ (.int .i64 (C - 1)) := ⟨_, rfl⟩
    rw [← hw3]
    have hsrt := HDK.out.srt HTD.out hw3
    have hlm : (A.map (·.2)).length = N := by rw [List.length_map]; exact HN.out
    have hso := rt_SortStable w3 (A.map (·.2)) a2 c2 (by rw [hlm]; exact hsrt.1) (by rw [hlm]; exact hsrt.2) (by omega)
    rw [hlm] at hso
    have HSO := hid hso
    have HW3 := hid hw3
    clear hsrt hso hlm hw3 k1 f1 hwC
    go_wp2_with fail
    refine HSO.out.mono ?_
    intro e w4 hq
    have h0 : e = .returned (.tuple #[]) := hq.1
    subst h0
    obtain ⟨-, l', hpm, hol, hul⟩ := hq
    obtain ⟨A', hA1, hA2⟩ := perm_lift (fun y : DNd => y.2) hpm A rfl
    have hAN : Hid (A'.length = N) := hid (by rw [hA1.length_eq]; exact HN.out)
    subst hA2
    have HI0 : Hid (DelI w1.drew w4 s F (L.erase ((x, y, a, b), v)) (C - 1) (.slice a2 N c2) A' (A'.drop 0) d n') := hid (HDK.out.delI HTD.out HF.out H2.out HP.out HW3.out hA1 hol hul)
    clear hpm hol hul hA1
    go_wp2_with fail
    go_loopw [34] (fun v34 wr => DelR w1.drew s F (L.erase ((x, y, a, b), v)) (C - 1) a2 N c2 A' v34 wr) (fun v34 _ => N - (intOf v34).toNat)
    case atStart => exact ⟨0, d, n', rfl, by omega, hid (by have := HD.out; omega), HI0⟩
    case round =>
      clear HI0
      obtain ⟨i, d2, n2, rfl, hi, HD2, HI⟩ := hrel
      by_cases hlt : i < N
      · have j1 : (i : Int) < (N : Int) := by omega
        have j0 : (0 : Int) ≤ (i : Int) := by omega
        have j2 : (i : Int).toNat = i := by omega
        obtain ⟨y2, b2, off, hdr, rfl, hcl⟩ := HI.out.at hAN.out hlt
        have hi2 := HI.out
        rw [hdr] at hi2
        have hn1 := hi2.nd
        have hag := rt_again d2 y2.1 s n2 y2.2 (C - 1) wr (hi2.rest y2 (by simp)).1 (by have := HD2.out; omega) hi2.tree (hi2.rest y2 (by simp)).2.1 (by
          have e9 : blkA (y2 :: A'.drop (i + 1)) = blkN y2.1 y2.2 ++ blkA (A'.drop (i + 1)) := rfl
          rw [e9] at hn1
          refine hn1.sublist (List.Sublist.cons_cons _ (List.Sublist.append (List.Sublist.refl _) ?_))
          exact (List.sublist_append_left _ _).trans (List.sublist_append_right _ _)) hi2.ki (hi2.rest y2 (by simp)).2.2
        unfold ptrN at hag hcl
        obtain ⟨q, hq⟩ : ∃ z, y2.2.p = z := ⟨_, rfl⟩
        rw [hq] at hag hcl
        have HAG := hid hag
        have HI2 := hid hi2
        clear hag hi2 hn1 hq hdr
        go_wp2_with fail
        refine HAG.out.mono ?_
        intro e w5 hq
        have h0 : e = .returned (.tuple #[]) := hq.1
        subst h0
        obtain ⟨-, d3, n3, hpo⟩ := hq
        have HD3 : Hid (d3 ≤ 15 + (i + 1)) := hid (by have h1 := hpo.dep; have h2 := HD2.out; omega)
        have HI3 := hid (HI2.out.next hpo)
        clear hpo hcl
        go_wp2_with fail
        go_roundw
        case rel => exact ⟨i + 1, d3, n3, by go_num, by omega, HD3, HI3⟩
        case measure => simp [intOf]; omega
      · obtain rfl : i = N := by omega
        have j1 : ¬ (i : Int) < (i : Int) := by omega
        have HE : Hid (DelT w1.drew s F (L.erase ((x, y, a, b), v)) (C - 1) wr) := hid ⟨d2, n2, by
          have h1 := HI.out
          rw [List.drop_eq_nil_of_le (by rw [hAN.out]; exact Nat.le_refl _)] at h1
          exact h1.done⟩
        clear HI
        obtain ⟨w6, hw6⟩ : ∃ w6, w6 = wr := ⟨_, rfl⟩
        subst hw6
        go_wp2_with fail
        go_loopw [] (fun wr => DelT w1.drew s F (L.erase ((x, y, a, b), v)) (C - 1) wr) (fun wr => depOf wr s)
        case atStart => exact HE.out
        case round =>
          clear HE
          obtain ⟨d4, n4, he⟩ := hrel
          have HE4 := hid he
          have HPO : Hid (d4 = 0 ∨ 2 ≤ n4.ks.length → RtPost w s F (delE L ((x, y, a, b), v)) (L.erase ((x, y, a, b), v)) (.returned (.int .i64 0)) wr) := hid (fun h2 => by
            have e1 : delE L ((x, y, a, b), v) = 0 := by unfold delE; rw [if_pos HIX.out]
            rw [e1]
            refine RtPost.ahead HBD.out (HE4.out.post ?_ h2 0)
            have h3 := List.length_erase_of_mem HIX.out
            have h4 := List.length_pos_of_mem HIX.out
            have h5 := HC.out.1
            omega)
          obtain ⟨a4, c4, hkv, -⟩ := SlN.of_own he.tree.node.2.1 (fun k hk => (he.tree.node.2.2 k hk).rat)
          obtain ⟨M, hM⟩ : ∃ M, n4.ks.length = M := ⟨_, rfl⟩
          obtain ⟨q, hq⟩ : ∃ z, n4.p = z := ⟨_, rfl⟩
          have z1 := he.tree.blk
          unfold ptrN at z1
          have z2 := he.tree.node.blk.c7
          rw [hkv, hM, hq] at z2
          rw [hq] at z1
          obtain ⟨y0, -, g0, -⟩ := z1.c2
          obtain ⟨-, y1, -, y2⟩ := z2
          rw [hM] at hkv
          have HM : Hid (n4.ks.length = M ∧ n4.kv = .slice a4 M c4) := hid ⟨hM, hkv⟩
          have hki := he.ki
          rw [hM] at hki
          clear he hkv hM hq z1
          rcases Nat.eq_zero_or_pos d4 with hd4 | hd4
          · subst hd4
            have t1 : ¬ (1 : Int) < ((0 + 1 : Nat) : Int) := by omega
            go_wp2_with fail
            go_ret
            exact HPO.out (Or.inl (by trivial))
          · obtain ⟨d5, rfl⟩ : ∃ k, d4 = k + 1 := ⟨d4 - 1, by omega⟩
            have t1 : (1 : Int) < ((d5 + 1 + 1 : Nat) : Int) := by omega
            have t2 : (1 : Int) < (d5 : Int) + 1 + 1 := by omega
            by_cases hm : M = 1
            · subst hm
              have t3 : ((1 : Nat) : Int) = 1 := rfl
              obtain ⟨k5, hk5⟩ : ∃ k, n4.ks = [k] := List.length_eq_one_iff.1 HM.out.1
              have ho := HE4.out.tree.node.2.1
              rw [HM.out.2] at ho
              obtain ⟨hrd, -⟩ := own_rd ho
              obtain ⟨b5, off5, e5, hc5⟩ := hrd 0 (by rw [hk5]; simp)
              rw [hk5] at hc5
              simp only [Nat.add_zero, List.map_cons, List.getElem?_cons_zero] at hc5
              unfold ptrN at hc5
              obtain ⟨q5, hq5⟩ : ∃ z, k5.p = z := ⟨_, rfl⟩
              rw [hq5] at hc5
              subst e5
              have HL : Hid (DelE w1.drew (wr.setCell ⟨s, 0, none⟩ (.pointer (some ⟨q5, 0, none⟩))) s F (L.erase ((x, y, a, b), v)) (C - 1) d5 k5) := hid (HE4.out.less hk5 (by unfold ptrN; rw [hq5]))
              have HDE := hid HE4.out.dep
              clear hk5 ho hrd hq5 t1 t2
              have t1 : (1 : Int) < ((d5 + 1 + 1 : Nat) : Int) := by omega
              have t2 : (1 : Int) < (d5 : Int) + 1 + 1 := by omega
              go_wp2_with fail
              go_roundw
              case rel => exact ⟨d5, k5, HL.out⟩
              case measure => rw [HL.out.dep, HDE.out]; omega
            · have t3 : ¬ (M : Int) = 1 := by omega
              go_wp2_with fail
              go_ret
              exact HPO.out (.inr (by have := HM.out.1; omega))
  · have hdr : Calls Tryz.prog 91 #[.pointer (some ⟨p, 0, none⟩), .agg #[.int .i64 x, .int .i64 y, .int .i64 a, .int .i64 b], .int .i64 v] w1.drew (fun e w' => e = .returned (.tuple #[.slice none 0 0, .bool false]) ∧ Below w1.drew.heap.size w1.drew w') := (HDROP.out _ HBD.out).mono (fun e w' q => by
      rcases q with ⟨-, q1, q2⟩ | ⟨n', A, a2, c2, q1, q2⟩
      · exact ⟨q1, q2⟩
      · exact absurd (q2.th.mem_iff.1 (by simp)) hx)
    have HDR := hid hdr
    have HNX : Hid (¬ (((x, y, a, b), v) : Tg) ∈ L) := hid (fun q => hx (HP.out.mem_iff.2 q))
    clear hdr hx
    refine wp_region_kept [11] (fun z => Upd (fun k => k ∈ blkN (d + 1) n) w1 z) (by kernel_rfl) (by assumption) (fun hH => ?_)
    refine wpK.take (i := 0) (v := _) (by simp only [List.getElem?_toArray, List.getElem?_cons_succ, List.getElem?_cons_zero]; rfl) (by kernel_rfl) (by kernel_rfl) (by kernel_rfl) (by kernel_rfl) (by kernel_rfl) (by exact fun _ _ _ h => h) (by first | exact Or.inl ⟨by rfl, by intro w hSw; go_simp; try with_reducible rfl⟩ | exact Or.inr ⟨by rfl, rfl⟩) hH ?_
    try simp only [Act.put, List.setIfInBounds_toArray, List.set_cons_zero, List.set_cons_succ]
    refine wpK.take (i := 1) (v := _) (by simp only [List.getElem?_toArray, List.getElem?_cons_succ, List.getElem?_cons_zero]; rfl) (by kernel_rfl) (by kernel_rfl) (by kernel_rfl) (by kernel_rfl) (by kernel_rfl) (by exact fun _ _ _ h => h) (by first | exact Or.inl ⟨by rfl, by intro w hSw; go_simp; try with_reducible rfl⟩ | exact Or.inr ⟨by rfl, rfl⟩) hH ?_
    try simp only [Act.put, List.setIfInBounds_toArray, List.set_cons_zero, List.set_cons_succ]
    refine wpK.take (i := 2) (v := _) (by simp only [List.getElem?_toArray, List.getElem?_cons_succ, List.getElem?_cons_zero]; rfl) (by kernel_rfl) (by kernel_rfl) (by kernel_rfl) (by kernel_rfl) (by kernel_rfl) (by exact fun _ _ _ h => h) (by first | exact Or.inl ⟨by rfl, by intro w hSw; go_simp; try with_reducible rfl⟩ | exact Or.inr ⟨by rfl, rfl⟩) hH ?_
    try simp only [Act.put, List.setIfInBounds_toArray, List.set_cons_zero, List.set_cons_succ]
    refine wpK.take (i := 3) (v := _) (by simp only [List.getElem?_toArray, List.getElem?_cons_succ, List.getElem?_cons_zero]; rfl) (by kernel_rfl) (by kernel_rfl) (by kernel_rfl) (by kernel_rfl) (by kernel_rfl) (by exact fun _ _ _ h => h) (by first | exact Or.inl ⟨by rfl, by intro w hSw; go_simp; try with_reducible rfl⟩ | exact Or.inr ⟨by rfl, rfl⟩) hH ?_
    try simp only [Act.put, List.setIfInBounds_toArray, List.set_cons_zero, List.set_cons_succ]
    refine wpK.take (i := 4) (v := _) (by simp only [List.getElem?_toArray, List.getElem?_cons_succ, List.getElem?_cons_zero]; rfl) (by kernel_rfl) (by kernel_rfl) (by kernel_rfl) (by kernel_rfl) (by kernel_rfl) (by exact fun _ _ _ h => h) (by first | exact Or.inl ⟨by rfl, by intro w hSw; go_simp; try with_reducible rfl⟩ | exact Or.inr ⟨by rfl, rfl⟩) hH ?_
    try simp only [Act.put, List.setIfInBounds_toArray, List.set_cons_zero, List.set_cons_succ]
    refine wpK.take (i := 5) (v := _) (by simp only [List.getElem?_toArray, List.getElem?_cons_succ, List.getElem?_cons_zero]; rfl) (by kernel_rfl) (by kernel_rfl) (by kernel_rfl) (by kernel_rfl) (by kernel_rfl) (by exact fun _ _ _ h => h) (by first | exact Or.inl ⟨by rfl, by intro w hSw; go_simp; try with_reducible rfl⟩ | exact Or.inr ⟨by rfl, rfl⟩) hH ?_
    try simp only [Act.put, List.setIfInBounds_toArray, List.set_cons_zero, List.set_cons_succ]
    refine wpK.step (i := 6) (by kernel_rfl) (by simp only [List.getElem?_toArray, List.getElem?_cons_succ, List.getElem?_cons_zero]; rfl) (fun K hK => ?_)
    go_simp
    (refine HDR.out.mono ?_); rintro e w2 ⟨rfl, hb2⟩; (have HB2 := hid hb2); (have hk2 := hyd.trans (Upd.of_below (S := fun k => k ∈ blkN (d + 1) n) hb2) (fun _ _ q => q)); go_simp
    refine hK.out _ _ (by assumption) (fun hH => ?_)
    clear hK K
    try simp only [Act.put, List.setIfInBounds_toArray, List.set_cons_zero, List.set_cons_succ]
    refine wpK.take (i := 7) (v := _) (by simp only [List.getElem?_toArray, List.getElem?_cons_succ, List.getElem?_cons_zero]; rfl) (by kernel_rfl) (by kernel_rfl) (by kernel_rfl) (by kernel_rfl) (by kernel_rfl) (by exact fun _ _ _ h => h) (by first | exact Or.inl ⟨by rfl, by intro w hSw; go_simp; try with_reducible rfl⟩ | exact Or.inr ⟨by rfl, rfl⟩) hH ?_
    try simp only [Act.put, List.setIfInBounds_toArray, List.set_cons_zero, List.set_cons_succ]
    refine wpK.take (i := 8) (v := _) (by simp only [List.getElem?_toArray, List.getElem?_cons_succ, List.getElem?_cons_zero]; rfl) (by kernel_rfl) (by kernel_rfl) (by kernel_rfl) (by kernel_rfl) (by kernel_rfl) (by exact fun _ _ _ h => h) (by first | exact Or.inl ⟨by rfl, by intro w hSw; go_simp; try with_reducible rfl⟩ | exact Or.inr ⟨by rfl, rfl⟩) hH ?_
    try simp only [Act.put, List.setIfInBounds_toArray, List.set_cons_zero, List.set_cons_succ]
    refine wpK.take (i := 9) (v := _) (by simp only [List.getElem?_toArray, List.getElem?_cons_succ, List.getElem?_cons_zero]; rfl) (by kernel_rfl) (by kernel_rfl) (by kernel_rfl) (by kernel_rfl) (by kernel_rfl) (by exact fun _ _ _ h => h) (by first | exact Or.inl ⟨by rfl, by intro w hSw; go_simp; try with_reducible rfl⟩ | exact Or.inr ⟨by rfl, rfl⟩) hH ?_
    try simp only [Act.put, List.setIfInBounds_toArray, List.set_cons_zero, List.set_cons_succ]
    refine wpK.take (i := 10) (v := _) (by simp only [List.getElem?_toArray, List.getElem?_cons_succ, List.getElem?_cons_zero]; rfl) (by kernel_rfl) (by kernel_rfl) (by kernel_rfl) (by kernel_rfl) (by kernel_rfl) (by exact fun _ _ _ h => h) (by first | exact Or.inl ⟨by rfl, by intro w hSw; go_simp; try with_reducible rfl⟩ | exact Or.inr ⟨by rfl, rfl⟩) hH ?_
    try simp only [Act.put, List.setIfInBounds_toArray, List.set_cons_zero, List.set_cons_succ]
    refine wpK.late (i := 11) (by kernel_rfl) (by simp only [List.getElem?_toArray, List.getElem?_cons_succ, List.getElem?_cons_zero]; rfl) (by kernel_rfl) (fun K hK => ?_)
    go_simp
    refine hK.out _ _ ?_
    clear hK K
    try simp only [Act.put, List.setIfInBounds_toArray, List.set_cons_zero, List.set_cons_succ]
    refine wpK.done (by kernel_rfl) ?_ _
    have HR : Hid (RtPost w s F (delE L ((x, y, a, b), v)) (L.erase ((x, y, a, b), v)) (.returned (.int .i64 14)) w2) := hid (by
      have e1 : delE L ((x, y, a, b), v) = 14 := by unfold delE; rw [if_neg HNX.out]
      rw [e1, List.erase_of_not_mem HNX.out]
      exact RtPost.same H.out (Below.next HBD.out HB2.out) 14)
    clear k0 e0 e1 e2 e3 hyd hk2 hb2 hH
    go_wp2_with fail
    go_ret
    exact HR.out
end Go.Proofs.YtjbnfppnmljbmaaGreat
end
section
/- Contracts of rtree's New, Len, Deep. -/
namespace Go.Proofs.YtjbnfppnmljbmaaGreat
open Go.RowKit
open Go.Lib (hid)
set_option linter.unusedVariables false
attribute [local go_sem] Oper.semAt_some

theorem TreeIs.blk {w : World} {s : Nat} {F : Nat → Prop} {L : List Tg} (h : TreeIs w s F L) : ∃ p : Nat, Blk w s #[.pointer (some ⟨p, 0, none⟩), .int .i64 (L.length : Int)] := by
  obtain ⟨d, n, h1, -⟩ := h
  exact ⟨n.p, h1.blk⟩
theorem rt_New (w : World) : Calls Tryz.prog 49 #[] w fun e w' => ∃ s : Nat, e = .returned (.pointer (some ⟨s, 0, none⟩)) ∧ TreeIs w' s (fun k => w.heap.size ≤ k) [] ∧ Below w.heap.size w w' := by
  go_enter Tryz.func49, Tryz.ntmps49
  go_wp2_with fail
  go_ret
  obtain ⟨w1, hw1⟩ : ∃ w1, w1 = w.alloc (.cells #[.int .i64 0, .int .i64 0, .int .i64 0, .int .i64 0, .slice none 0 0, .int .i64 0, .int .i64 1] 120) := ⟨_, rfl⟩
  have hsz : w1.heap.size = w.heap.size + 1 := by rw [hw1]; simp
  have hk1 : Blk w1 w.heap.size #[.int .i64 0, .int .i64 0, .int .i64 0, .int .i64 0, .slice none 0 0, .int .i64 0, .int .i64 1] := by rw [hw1]; exact Blk.new _ _ _
  have hb1 : Below w.heap.size w w1 := by rw [hw1]; exact Below.new _ _
  rw [← hw1]
  obtain ⟨w2, hw2⟩ : ∃ w2, w2 = w1.alloc (.cells #[.pointer (some ⟨w.heap.size, 0, none⟩), .int .i64 0] 113) := ⟨_, rfl⟩
  have hk2 : Blk w2 (w.heap.size + 1) #[.pointer (some ⟨w.heap.size, 0, none⟩), .int .i64 0] := by rw [hw2, ← hsz]; exact Blk.new _ _ _
  have hb2 : Below w1.heap.size w1 w2 := by rw [hw2]; exact Below.new _ _
  rw [← hw2]
  refine ⟨_, rfl, ⟨0, ⟨w.heap.size, (0, 0, 0, 0), .slice none 0 0, 0, []⟩, ⟨hk2, ⟨hk1.below hb2, ⟨by simp, .inl ⟨rfl, by simp⟩⟩, by simp⟩, ?_, ⟨by simp, rfl, by simp⟩⟩, ?_, .inl rfl, .refl _⟩, Below.next hb1 hb2⟩
  · simp [blkN, Value.ownBlock]
  · intro k hk
    simp [blkN, Value.ownBlock] at hk
    show _ ≤ k
    omega
end Go.Proofs.YtjbnfppnmljbmaaGreat
end
section
/- A tree that is a list: Any. -/
namespace Go.Proofs.YtjbnfppnmljbmaaGreat
open Go.RowKit
open Go.Lib (hid)
set_option linter.unusedVariables false

theorem flR_perm {t : R4 → Bool} {A B : List Tg} (h : A.Perm B) : (flR t A).Perm (flR t B) := h.filter _
theorem TreeIs.open {w : World} {s : Nat} {F : Nat → Prop} {L : List Tg} (h : TreeIs w s F L) (hl : L.length ≤ 900) : ∃ d n, TreeAt w s d n (L.length : Int) ∧ d ≤ 15 ∧ (thgN (d + 1) n).Perm L ∧ (d = 0 ∨ 2 ≤ n.ks.length) := by
  obtain ⟨d, n, ht, -, h2, hp⟩ := h
  exact ⟨d, n, ht, dep_few ht.sh h2 hp hl, hp, h2⟩
theorem rt_AnyL (w : World) (s : Nat) (F : Nat → Prop) (L : List Tg) (x y a b : Int) (h : TreeIs w s F L) (hl : L.length ≤ 900) (q : Bool) (hq : decide (flR (tMeets (x, y, a, b)) L ≠ []) = q) :
    Calls Tryz.prog 38 #[.pointer (some ⟨s, 0, none⟩), .agg #[.int .i64 x, .int .i64 y, .int .i64 a, .int .i64 b]] w fun e w' => e = .returned (.bool q) ∧ Below w.heap.size w w' := by
  obtain ⟨d, n, ht, hd, hp, -⟩ := h.open hl
  have h1 := rt_Any4 w s d n _ x y a b ht (by omega)
  have h2 := flR_perm (t := tMeets (x, y, a, b)) hp
  have e : decide (flR (tMeets (x, y, a, b)) (thgN (d + 1) n) ≠ []) = q := by
    rw [← hq]
    refine decide_eq_decide.2 (not_congr ⟨fun e => ?_, fun e => ?_⟩)
    · rw [e] at h2; exact h2.symm.eq_nil
    · rw [e] at h2; exact h2.eq_nil
  rw [e] at h1
  exact h1
end Go.Proofs.YtjbnfppnmljbmaaGreat
end
