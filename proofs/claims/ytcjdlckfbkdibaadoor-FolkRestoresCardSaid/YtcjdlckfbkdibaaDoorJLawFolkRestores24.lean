/- Joined texts, in this order: FolkStep. Each one's first remark says what it proves; no condition beyond those that its theorems name. -/
import Derived.Test.YtcjdlckfbkdibaaDoorJLawFolkRestores20
import Derived.Test.YtcjdlckfbkdibaaDoorJLawFolkRestores23
section
/- The law's step: a call of both sides. -/
namespace Go.Proofs.YtcjdlckfbkdibaaDoor
open Go.RowKit Go.ChangeShapes Go.WideShapes Go.Deep Go.Joins
open Go.Lib (hid)
set_option linter.unusedVariables false

theorem addF_ok {L : List (List UInt8 × Int)} {held : Int} (h : FkOk L held) (x : List UInt8) : FkOk (addFL L x) held ∧ sumG (addFL L x) = sumG L := by
  unfold addFL
  by_cases h0 : addFE L x = 0
  · rw [if_pos h0]
    have hs : sumG (L ++ [(x, 0)]) = sumG L := by rw [sumG_append]; omega
    have hn : nameB x = true ∧ fkFind L x = 0 ∧ L.length < 256 := by
      unfold addFE at h0
      by_cases h1 : nameB x = true
      · rw [if_pos h1] at h0
        by_cases h2 : fkFind L x = 0
        · rw [if_pos h2] at h0
          by_cases h3 : L.length < 256
          · exact ⟨h1, h2, h3⟩
          · rw [if_neg h3] at h0; omega
        · rw [if_neg h2] at h0; omega
      · rw [if_neg h1] at h0; omega
    refine ⟨⟨?_, ?_, ?_, h.h0, by rw [hs]; exact h.tot, by simp; omega⟩, hs⟩
    · intro p hp
      rcases List.mem_append.1 hp with hp | hp
      · exact h.names p hp
      · simp at hp; subst hp; exact hn.1
    · rw [List.map_append, List.nodup_append]
      refine ⟨h.nodup, by simp, ?_⟩
      intro a ha b hb e
      subst e
      simp at hb
      obtain ⟨p, hp, e⟩ := List.mem_map.1 ha
      exact fkFind_zero.1 hn.2.1 p hp (by rw [e, hb])
    · intro p hp
      rcases List.mem_append.1 hp with hp | hp
      · exact h.pos p hp
      · simp at hp; subst hp; exact Int.le_refl _
  · rw [if_neg h0]; exact ⟨h, rfl⟩
/-- both sides in the midst of a step; what came in stands at block bb -/
structure MidF (w0 w : World) (bb : Nat) (cs : Array Value) (g b : Nat) (v : Value) (L : List (List UInt8 × Int)) (held total : Int) (d : Nat) (vn vg : Value) (M : List (List UInt8 × Int)) (hm : Int) : Prop where
  f : FkIs w g b v L held total
  r : RefIs w d vn vg M hm
  sep : SepF g b v d vn vg
  bl : Below w0.heap.size w0 w
  far : ∀ k, (k = g ∨ k = b ∨ v.ownBlock = some k) ∨ (k = d ∨ vn.ownBlock = some k ∨ vg.ownBlock = some k) → w0.heap.size ≤ k
  cm : Blk w bb cs
  ap : ∀ k, (k = g ∨ k = b ∨ v.ownBlock = some k) ∨ (k = d ∨ vn.ownBlock = some k ∨ vg.ownBlock = some k) → k ≠ bb
theorem BothF.mid {w0 w : World} {g b : Nat} {v : Value} {d : Nat} {vn vg : Value} {L : List (List UInt8 × Int)} {held total : Int} (h : BothF w0 w g b v d vn vg L held total) (cs : Array Value) (t : TypeId) :
    MidF w0 (w.alloc (.cells cs t)) w.heap.size cs g b v L held total d vn vg L held :=
  ⟨h.f.below (Below.new _ _), h.r.below (Below.new _ _), h.sep, Below.next h.bl (Below.new _ _), h.far, Blk.new _ _ _, fun k hk => by
    rcases hk with hk | hk
    · have := h.f.lt k hk; omega
    · have := h.r.lt k hk; omega⟩
theorem MidF.both {w0 w : World} {bb : Nat} {cs : Array Value} {g b : Nat} {v : Value} {d : Nat} {vn vg : Value} {L : List (List UInt8 × Int)} {held total : Int} (h : MidF w0 w bb cs g b v L held total d vn vg L held) : BothF w0 w g b v d vn vg L held total :=
  ⟨h.f, h.r, h.sep, h.bl, h.far⟩
theorem MidF.below {w0 w w' : World} {bb : Nat} {cs : Array Value} {g b : Nat} {v : Value} {d : Nat} {vn vg : Value} {L M : List (List UInt8 × Int)} {held total hm : Int} (h : MidF w0 w bb cs g b v L held total d vn vg M hm) (hb : Below w.heap.size w w') : MidF w0 w' bb cs g b v L held total d vn vg M hm :=
  ⟨h.f.below hb, h.r.below hb, h.sep, Below.next h.bl hb, h.far, h.cm.below hb, h.ap⟩
theorem MidF.fk {w0 w : World} {bb : Nat} {cs : Array Value} {g b : Nat} {v : Value} {d : Nat} {vn vg : Value} {L M : List (List UInt8 × Int)} {held total hm : Int} (h : MidF w0 w bb cs g b v L held total d vn vg M hm) {q : Int × List (List UInt8 × Int) × Int} {e : Ending} {w' : World} (hp : FkPost g b v w q e w') :
    ∃ v', e = .returned (.int .i64 q.1) ∧ MidF w0 w' bb cs g b v' q.2.1 q.2.2 (q.2.2 + sumG q.2.1) d vn vg M hm := by
  obtain ⟨v', rfl, hf, hs⟩ := hp
  have hz := h.bl.size
  refine ⟨v', rfl, hf, h.r.upd hs.upd (fun q => h.sep d q (.inl rfl)) (fun k hk q => h.sep k q (.inr (.inl hk))) (fun k hk q => h.sep k q (.inr (.inr hk))), ?_, h.bl.trans (hs.upd.below hz (fun k _ q => h.far k (.inl q))), ?_, h.cm.upd hs.upd (fun q => h.ap bb (.inl q) rfl), ?_⟩
  · intro k hk q
    rcases hk with hk | hk | hk
    · exact h.sep k (.inl hk) q
    · exact h.sep k (.inr (.inl hk)) q
    · rcases hs.wh k hk with e | e
      · exact h.sep k (.inr (.inr e)) q
      · have := h.r.lt k q; omega
  · intro k hk
    rcases hk with (hk | hk | hk) | hk
    · exact h.far k (.inl (.inl hk))
    · exact h.far k (.inl (.inr (.inl hk)))
    · rcases hs.wh k hk with e | e
      · exact h.far k (.inl (.inr (.inr e)))
      · omega
    · exact h.far k (.inr hk)
  · intro k hk
    rcases hk with (hk | hk | hk) | hk
    · exact h.ap k (.inl (.inl hk))
    · exact h.ap k (.inl (.inr (.inl hk)))
    · rcases hs.wh k hk with e | e
      · exact h.ap k (.inl (.inr (.inr e)))
      · have := h.cm.lt; omega
    · exact h.ap k (.inr hk)
theorem MidF.rf {w0 w : World} {bb : Nat} {cs : Array Value} {g b : Nat} {v : Value} {d : Nat} {vn vg : Value} {L M : List (List UInt8 × Int)} {held total hm : Int} (h : MidF w0 w bb cs g b v L held total d vn vg M hm) {q : Int × List (List UInt8 × Int) × Int} {e : Ending} {w' : World} (hp : RefPost d vn vg w q e w') :
    ∃ vn' vg', e = .returned (.int .i64 q.1) ∧ MidF w0 w' bb cs g b v L held total d vn' vg' q.2.1 q.2.2 := by
  obtain ⟨vn', vg', rfl, hr, hs⟩ := hp
  have hz := h.bl.size
  refine ⟨vn', vg', rfl, h.f.upd hs.upd (fun q => h.sep g (.inl rfl) q) (fun q => h.sep b (.inr (.inl rfl)) q) (fun k hk q => h.sep k (.inr (.inr hk)) q), hr, ?_, h.bl.trans (hs.upd.below hz (fun k _ q => h.far k (.inr q))), ?_, h.cm.upd hs.upd (fun q => h.ap bb (.inr q) rfl), ?_⟩
  · intro k hk q
    rcases q with q | q | q
    · exact h.sep k hk (.inl q)
    · rcases hs.w1 k q with e | e
      · exact h.sep k hk (.inr (.inl e))
      · have := h.f.lt k hk; omega
    · rcases hs.w2 k q with e | e
      · exact h.sep k hk (.inr (.inr e))
      · have := h.f.lt k hk; omega
  · intro k hk
    rcases hk with hk | (hk | hk | hk)
    · exact h.far k (.inl hk)
    · exact h.far k (.inr (.inl hk))
    · rcases hs.w1 k hk with e | e
      · exact h.far k (.inr (.inr (.inl e)))
      · omega
    · rcases hs.w2 k hk with e | e
      · exact h.far k (.inr (.inr (.inr e)))
      · omega
  · intro k hk
    rcases hk with hk | (hk | hk | hk)
    · exact h.ap k (.inl hk)
    · exact h.ap k (.inr (.inl hk))
    · rcases hs.w1 k hk with e | e
      · exact h.ap k (.inr (.inr (.inl e)))
      · have := h.cm.lt; omega
    · rcases hs.w2 k hk with e | e
      · exact h.ap k (.inr (.inr (.inr e)))
      · have := h.cm.lt; omega
def StepF (w0 : World) (g b d : Nat) (e : Ending) (w' : World) : Prop :=
  ∃ v vn vg L held, e = .returned (.bool true) ∧ BothF w0 w' g b v d vn vg L held (held + sumG L) ∧ FkOk L held
set_option maxRecDepth 100000 in
set_option maxHeartbeats 2000000 in
theorem law17_step2 (w0 : World) (g b : Nat) (v : Value) (d : Nat) (vn vg : Value) (L : List (List UInt8 × Int)) (held : Int) (w : World) (h : BothF w0 w g b v d vn vg L held (held + sumG L)) (hok : FkOk L held) (x : ByteArray) (a1 a2 a3 : Int) :
    Calls Tryd.prog 15 #[.pointer (some ⟨g, 0, none⟩), .pointer (some ⟨d, 0, none⟩), .agg #[.int .i64 2, .int .i64 a1, .int .i64 a2, .int .i64 a3, .string x]] w (StepF w0 g b d) := by
  obtain ⟨q, hq⟩ : ∃ q, gop 2 a1 a2 a3 L held = q := ⟨_, rfl⟩
  have HQ := hid hq
  have HOK := hid hok
  have HOK2 : Hid (FkOk q.2.1 q.2.2) := hid (by rw [← hq]; exact gop_ok 2 a1 a2 a3 L held (by omega) hok)
  have HM := hid (h.mid #[.int .i64 2, .int .i64 a1, .int .i64 a2, .int .i64 a3, .string x] 38)
  obtain ⟨bb, hbb⟩ : ∃ bb, bb = w.heap.size := ⟨_, rfl⟩
  rw [← hbb] at HM
  clear h hok hq
  go_enter Tryd.func15, Tryd.ntmps15
  go_upto_region 7 with fail
  rw [← hbb]
  clear hbb
  generalize World.alloc w _ = w1 at HM
  have HMD := hid (HM.out.below (Below.refl _ _).drew)
  have hKD : Blk w1.drew bb #[.int .i64 2, .int .i64 a1, .int .i64 a2, .int .i64 a3, .string x] := HMD.out.cm
  have k1 : ∀ y, Blk y bb #[.int .i64 2, .int .i64 a1, .int .i64 a2, .int .i64 a3, .string x] → y.cell? ⟨bb, 1, none⟩ = some (.int .i64 a1) := fun y hy => by rw [hy.cell]; rfl
  have k2 : ∀ y, Blk y bb #[.int .i64 2, .int .i64 a1, .int .i64 a2, .int .i64 a3, .string x] → y.cell? ⟨bb, 2, none⟩ = some (.int .i64 a2) := fun y hy => by rw [hy.cell]; rfl
  have k3 : ∀ y, Blk y bb #[.int .i64 2, .int .i64 a1, .int .i64 a2, .int .i64 a3, .string x] → y.cell? ⟨bb, 3, none⟩ = some (.int .i64 a3) := fun y hy => by rw [hy.cell]; rfl
  refine wp_region_kept [13] (fun y => Blk y bb #[.int .i64 2, .int .i64 a1, .int .i64 a2, .int .i64 a3, .string x]) (by kernel_rfl) (by assumption) (fun hH => ?_)
  refine wpK.take (i := 0) (v := _) (by simp only [List.getElem?_toArray, List.getElem?_cons_succ, List.getElem?_cons_zero]; rfl) (by kernel_rfl) (by kernel_rfl) (by kernel_rfl) (by kernel_rfl) (by kernel_rfl) (by exact fun _ _ _ h => h) (by first | exact Or.inl ⟨by rfl, by intro w hSw; go_simp; try with_reducible rfl⟩ | exact Or.inr ⟨by rfl, rfl⟩) hH ?_
  try simp only [Act.put, List.setIfInBounds_toArray, List.set_cons_zero, List.set_cons_succ]
  refine wpK.take (i := 1) (v := _) (by simp only [List.getElem?_toArray, List.getElem?_cons_succ, List.getElem?_cons_zero]; rfl) (by kernel_rfl) (by kernel_rfl) (by kernel_rfl) (by kernel_rfl) (by kernel_rfl) (by exact fun _ _ _ h => h) (by first | exact Or.inl ⟨by rfl, by intro w hSw; go_simp; try with_reducible rfl⟩ | exact Or.inr ⟨by rfl, rfl⟩) hH ?_
  try simp only [Act.put, List.setIfInBounds_toArray, List.set_cons_zero, List.set_cons_succ]
  refine wpK.take (i := 2) (v := _) (by simp only [List.getElem?_toArray, List.getElem?_cons_succ, List.getElem?_cons_zero]; rfl) (by kernel_rfl) (by kernel_rfl) (by kernel_rfl) (by kernel_rfl) (by kernel_rfl) (by exact fun _ _ _ h => h) (by first | exact Or.inl ⟨by rfl, by intro w hSw; go_simp; try with_reducible rfl⟩ | exact Or.inr ⟨by rfl, rfl⟩) hH ?_
  try simp only [Act.put, List.setIfInBounds_toArray, List.set_cons_zero, List.set_cons_succ]
  refine wpK.take (i := 3) (v := _) (by simp only [List.getElem?_toArray, List.getElem?_cons_succ, List.getElem?_cons_zero]; rfl) (by kernel_rfl) (by kernel_rfl) (by kernel_rfl) (by kernel_rfl) (by kernel_rfl) (by exact fun _ _ _ h => h) (by first | exact Or.inl ⟨by rfl, by intro w hSw; go_simp; try with_reducible rfl⟩ | exact Or.inr ⟨by rfl, rfl⟩) hH ?_
  try simp only [Act.put, List.setIfInBounds_toArray, List.set_cons_zero, List.set_cons_succ]
  refine wpK.take (i := 4) (v := _) (by simp only [List.getElem?_toArray, List.getElem?_cons_succ, List.getElem?_cons_zero]; rfl) (by kernel_rfl) (by kernel_rfl) (by kernel_rfl) (by kernel_rfl) (by kernel_rfl) (by exact fun _ _ _ h => h) (by first | exact Or.inl ⟨by rfl, by intro w hSw; go_simp; try with_reducible rfl⟩ | exact Or.inr ⟨by rfl, rfl⟩) hH ?_
  try simp only [Act.put, List.setIfInBounds_toArray, List.set_cons_zero, List.set_cons_succ]
  refine wpK.take (i := 6) (v := _) (by simp only [List.getElem?_toArray, List.getElem?_cons_succ, List.getElem?_cons_zero]; rfl) (by kernel_rfl) (by kernel_rfl) (by kernel_rfl) (by kernel_rfl) (by kernel_rfl) (by exact fun _ _ _ h => h) (by first | exact Or.inl ⟨by rfl, by intro w hSw; go_simp; try with_reducible rfl⟩ | exact Or.inr ⟨by rfl, rfl⟩) hH ?_
  try simp only [Act.put, List.setIfInBounds_toArray, List.set_cons_zero, List.set_cons_succ]
  refine wpK.take (i := 7) (v := _) (by simp only [List.getElem?_toArray, List.getElem?_cons_succ, List.getElem?_cons_zero]; rfl) (by kernel_rfl) (by kernel_rfl) (by kernel_rfl) (by kernel_rfl) (by kernel_rfl) (by exact fun _ _ _ h => h) (by first | exact Or.inl ⟨by rfl, by intro w hSw; go_simp; try with_reducible rfl⟩ | exact Or.inr ⟨by rfl, rfl⟩) hH ?_
  try simp only [Act.put, List.setIfInBounds_toArray, List.set_cons_zero, List.set_cons_succ]
  refine wpK.take (i := 8) (v := _) (by simp only [List.getElem?_toArray, List.getElem?_cons_succ, List.getElem?_cons_zero]; rfl) (by kernel_rfl) (by kernel_rfl) (by kernel_rfl) (by kernel_rfl) (by kernel_rfl) (by exact fun _ _ _ h => h) (by first | exact Or.inl ⟨by rfl, by intro w hSw; go_simp; try with_reducible rfl⟩ | exact Or.inr ⟨by rfl, rfl⟩) hH ?_
  try simp only [Act.put, List.setIfInBounds_toArray, List.set_cons_zero, List.set_cons_succ]
  refine wpK.take (i := 9) (v := _) (by simp only [List.getElem?_toArray, List.getElem?_cons_succ, List.getElem?_cons_zero]; rfl) (by kernel_rfl) (by kernel_rfl) (by kernel_rfl) (by kernel_rfl) (by kernel_rfl) (by exact fun _ _ _ h => h) (by first | exact Or.inl ⟨by rfl, by intro w hSw; go_simp; try with_reducible rfl⟩ | exact Or.inr ⟨by rfl, rfl⟩) hH ?_
  try simp only [Act.put, List.setIfInBounds_toArray, List.set_cons_zero, List.set_cons_succ]
  refine wpK.take (i := 10) (v := _) (by simp only [List.getElem?_toArray, List.getElem?_cons_succ, List.getElem?_cons_zero]; rfl) (by kernel_rfl) (by kernel_rfl) (by kernel_rfl) (by kernel_rfl) (by kernel_rfl) (by exact fun _ _ _ h => h) (by first | exact Or.inl ⟨by rfl, by intro w hSw; go_simp; try with_reducible rfl⟩ | exact Or.inr ⟨by rfl, rfl⟩) hH ?_
  try simp only [Act.put, List.setIfInBounds_toArray, List.set_cons_zero, List.set_cons_succ]
  refine wpK.step (i := 5) (by kernel_rfl) (by simp only [List.getElem?_toArray, List.getElem?_cons_succ, List.getElem?_cons_zero]; rfl) (fun K hK => ?_)
  go_simp
  (refine (folk_MintAll g b v L held _ HMD.out.f HOK.out a1 a3 a2).mono ?_); (intro e wA hpA); (rw [HQ.out] at hpA); (obtain ⟨vA, rfl, hmA⟩ := HMD.out.fk hpA); (have hKA := hmA.cm); (have HMA := hid hmA); (clear hpA hmA); go_simp
  refine hK.out _ _ (by assumption) (fun hH => ?_)
  clear hK K
  try simp only [Act.put, List.setIfInBounds_toArray, List.set_cons_zero, List.set_cons_succ]
  refine wpK.step (i := 11) (by kernel_rfl) (by simp only [List.getElem?_toArray, List.getElem?_cons_succ, List.getElem?_cons_zero]; rfl) (fun K hK => ?_)
  go_simp
  (refine (ref17_Mint d vn vg L held _ HMA.out.r HOK.out a1 a3 a2).mono ?_); (intro e wB hpB); (rw [HQ.out] at hpB); (obtain ⟨vnB, vgB, rfl, hmB⟩ := HMA.out.rf hpB); (have hKB := hmB.cm); (have HMB := hid hmB); (clear hpB hmB); go_simp
  refine hK.out _ _ (by assumption) (fun hH => ?_)
  clear hK K
  try simp only [Act.put, List.setIfInBounds_toArray, List.set_cons_zero, List.set_cons_succ]
  refine wpK.take (i := 12) (v := _) (by simp only [List.getElem?_toArray, List.getElem?_cons_succ, List.getElem?_cons_zero]; rfl) (by kernel_rfl) (by kernel_rfl) (by kernel_rfl) (by kernel_rfl) (by kernel_rfl) (by exact fun _ _ _ h => h) (by first | exact Or.inl ⟨by rfl, by intro w hSw; go_simp; try with_reducible rfl⟩ | exact Or.inr ⟨by rfl, rfl⟩) hH ?_
  try simp only [Act.put, List.setIfInBounds_toArray, List.set_cons_zero, List.set_cons_succ]
  refine wpK.late (i := 13) (by kernel_rfl) (by simp only [List.getElem?_toArray, List.getElem?_cons_succ, List.getElem?_cons_zero]; rfl) (by kernel_rfl) (fun K hK => ?_)
  go_simp
  refine hK.out _ _ ?_
  clear hK K
  try simp only [Act.put, List.setIfInBounds_toArray, List.set_cons_zero, List.set_cons_succ]
  refine wpK.done (by kernel_rfl) ?_ _
  clear k1 k2 k3 hKD hKA hKB hH
  go_wp2_with fail
  go_ret
  exact ⟨vA, vnB, vgB, q.2.1, q.2.2, rfl, HMB.out.both, HOK2.out⟩
set_option maxRecDepth 100000 in
set_option maxHeartbeats 2000000 in
theorem law17_step3 (w0 : World) (g b : Nat) (v : Value) (d : Nat) (vn vg : Value) (L : List (List UInt8 × Int)) (held : Int) (w : World) (h : BothF w0 w g b v d vn vg L held (held + sumG L)) (hok : FkOk L held) (x : ByteArray) (a1 a2 a3 : Int) :
    Calls Tryd.prog 15 #[.pointer (some ⟨g, 0, none⟩), .pointer (some ⟨d, 0, none⟩), .agg #[.int .i64 3, .int .i64 a1, .int .i64 a2, .int .i64 a3, .string x]] w (StepF w0 g b d) := by
  obtain ⟨q, hq⟩ : ∃ q, gop 3 a1 a2 a3 L held = q := ⟨_, rfl⟩
  have HQ := hid hq
  have HOK := hid hok
  have HOK2 : Hid (FkOk q.2.1 q.2.2) := hid (by rw [← hq]; exact gop_ok 3 a1 a2 a3 L held (by omega) hok)
  have HM := hid (h.mid #[.int .i64 3, .int .i64 a1, .int .i64 a2, .int .i64 a3, .string x] 38)
  obtain ⟨bb, hbb⟩ : ∃ bb, bb = w.heap.size := ⟨_, rfl⟩
  rw [← hbb] at HM
  clear h hok hq
  go_enter Tryd.func15, Tryd.ntmps15
  go_upto_region 9 with fail
  rw [← hbb]
  clear hbb
  generalize World.alloc w _ = w1 at HM
  have HMD := hid (HM.out.below (Below.refl _ _).drew)
  have hKD : Blk w1.drew bb #[.int .i64 3, .int .i64 a1, .int .i64 a2, .int .i64 a3, .string x] := HMD.out.cm
  have k1 : ∀ y, Blk y bb #[.int .i64 3, .int .i64 a1, .int .i64 a2, .int .i64 a3, .string x] → y.cell? ⟨bb, 1, none⟩ = some (.int .i64 a1) := fun y hy => by rw [hy.cell]; rfl
  have k2 : ∀ y, Blk y bb #[.int .i64 3, .int .i64 a1, .int .i64 a2, .int .i64 a3, .string x] → y.cell? ⟨bb, 2, none⟩ = some (.int .i64 a2) := fun y hy => by rw [hy.cell]; rfl
  have k3 : ∀ y, Blk y bb #[.int .i64 3, .int .i64 a1, .int .i64 a2, .int .i64 a3, .string x] → y.cell? ⟨bb, 3, none⟩ = some (.int .i64 a3) := fun y hy => by rw [hy.cell]; rfl
  refine wp_region_kept [13] (fun y => Blk y bb #[.int .i64 3, .int .i64 a1, .int .i64 a2, .int .i64 a3, .string x]) (by kernel_rfl) (by assumption) (fun hH => ?_)
  refine wpK.take (i := 0) (v := _) (by simp only [List.getElem?_toArray, List.getElem?_cons_succ, List.getElem?_cons_zero]; rfl) (by kernel_rfl) (by kernel_rfl) (by kernel_rfl) (by kernel_rfl) (by kernel_rfl) (by exact fun _ _ _ h => h) (by first | exact Or.inl ⟨by rfl, by intro w hSw; go_simp; try with_reducible rfl⟩ | exact Or.inr ⟨by rfl, rfl⟩) hH ?_
  try simp only [Act.put, List.setIfInBounds_toArray, List.set_cons_zero, List.set_cons_succ]
  refine wpK.take (i := 1) (v := _) (by simp only [List.getElem?_toArray, List.getElem?_cons_succ, List.getElem?_cons_zero]; rfl) (by kernel_rfl) (by kernel_rfl) (by kernel_rfl) (by kernel_rfl) (by kernel_rfl) (by exact fun _ _ _ h => h) (by first | exact Or.inl ⟨by rfl, by intro w hSw; go_simp; try with_reducible rfl⟩ | exact Or.inr ⟨by rfl, rfl⟩) hH ?_
  try simp only [Act.put, List.setIfInBounds_toArray, List.set_cons_zero, List.set_cons_succ]
  refine wpK.take (i := 2) (v := _) (by simp only [List.getElem?_toArray, List.getElem?_cons_succ, List.getElem?_cons_zero]; rfl) (by kernel_rfl) (by kernel_rfl) (by kernel_rfl) (by kernel_rfl) (by kernel_rfl) (by exact fun _ _ _ h => h) (by first | exact Or.inl ⟨by rfl, by intro w hSw; go_simp; try with_reducible rfl⟩ | exact Or.inr ⟨by rfl, rfl⟩) hH ?_
  try simp only [Act.put, List.setIfInBounds_toArray, List.set_cons_zero, List.set_cons_succ]
  refine wpK.take (i := 3) (v := _) (by simp only [List.getElem?_toArray, List.getElem?_cons_succ, List.getElem?_cons_zero]; rfl) (by kernel_rfl) (by kernel_rfl) (by kernel_rfl) (by kernel_rfl) (by kernel_rfl) (by exact fun _ _ _ h => h) (by first | exact Or.inl ⟨by rfl, by intro w hSw; go_simp; try with_reducible rfl⟩ | exact Or.inr ⟨by rfl, rfl⟩) hH ?_
  try simp only [Act.put, List.setIfInBounds_toArray, List.set_cons_zero, List.set_cons_succ]
  refine wpK.take (i := 4) (v := _) (by simp only [List.getElem?_toArray, List.getElem?_cons_succ, List.getElem?_cons_zero]; rfl) (by kernel_rfl) (by kernel_rfl) (by kernel_rfl) (by kernel_rfl) (by kernel_rfl) (by exact fun _ _ _ h => h) (by first | exact Or.inl ⟨by rfl, by intro w hSw; go_simp; try with_reducible rfl⟩ | exact Or.inr ⟨by rfl, rfl⟩) hH ?_
  try simp only [Act.put, List.setIfInBounds_toArray, List.set_cons_zero, List.set_cons_succ]
  refine wpK.take (i := 6) (v := _) (by simp only [List.getElem?_toArray, List.getElem?_cons_succ, List.getElem?_cons_zero]; rfl) (by kernel_rfl) (by kernel_rfl) (by kernel_rfl) (by kernel_rfl) (by kernel_rfl) (by exact fun _ _ _ h => h) (by first | exact Or.inl ⟨by rfl, by intro w hSw; go_simp; try with_reducible rfl⟩ | exact Or.inr ⟨by rfl, rfl⟩) hH ?_
  try simp only [Act.put, List.setIfInBounds_toArray, List.set_cons_zero, List.set_cons_succ]
  refine wpK.take (i := 7) (v := _) (by simp only [List.getElem?_toArray, List.getElem?_cons_succ, List.getElem?_cons_zero]; rfl) (by kernel_rfl) (by kernel_rfl) (by kernel_rfl) (by kernel_rfl) (by kernel_rfl) (by exact fun _ _ _ h => h) (by first | exact Or.inl ⟨by rfl, by intro w hSw; go_simp; try with_reducible rfl⟩ | exact Or.inr ⟨by rfl, rfl⟩) hH ?_
  try simp only [Act.put, List.setIfInBounds_toArray, List.set_cons_zero, List.set_cons_succ]
  refine wpK.take (i := 8) (v := _) (by simp only [List.getElem?_toArray, List.getElem?_cons_succ, List.getElem?_cons_zero]; rfl) (by kernel_rfl) (by kernel_rfl) (by kernel_rfl) (by kernel_rfl) (by kernel_rfl) (by exact fun _ _ _ h => h) (by first | exact Or.inl ⟨by rfl, by intro w hSw; go_simp; try with_reducible rfl⟩ | exact Or.inr ⟨by rfl, rfl⟩) hH ?_
  try simp only [Act.put, List.setIfInBounds_toArray, List.set_cons_zero, List.set_cons_succ]
  refine wpK.take (i := 9) (v := _) (by simp only [List.getElem?_toArray, List.getElem?_cons_succ, List.getElem?_cons_zero]; rfl) (by kernel_rfl) (by kernel_rfl) (by kernel_rfl) (by kernel_rfl) (by kernel_rfl) (by exact fun _ _ _ h => h) (by first | exact Or.inl ⟨by rfl, by intro w hSw; go_simp; try with_reducible rfl⟩ | exact Or.inr ⟨by rfl, rfl⟩) hH ?_
  try simp only [Act.put, List.setIfInBounds_toArray, List.set_cons_zero, List.set_cons_succ]
  refine wpK.take (i := 10) (v := _) (by simp only [List.getElem?_toArray, List.getElem?_cons_succ, List.getElem?_cons_zero]; rfl) (by kernel_rfl) (by kernel_rfl) (by kernel_rfl) (by kernel_rfl) (by kernel_rfl) (by exact fun _ _ _ h => h) (by first | exact Or.inl ⟨by rfl, by intro w hSw; go_simp; try with_reducible rfl⟩ | exact Or.inr ⟨by rfl, rfl⟩) hH ?_
  try simp only [Act.put, List.setIfInBounds_toArray, List.set_cons_zero, List.set_cons_succ]
  refine wpK.step (i := 5) (by kernel_rfl) (by simp only [List.getElem?_toArray, List.getElem?_cons_succ, List.getElem?_cons_zero]; rfl) (fun K hK => ?_)
  go_simp
  (refine (folk_BurnAll g b v L held _ HMD.out.f HOK.out a1 a3 a2).mono ?_); (intro e wA hpA); (rw [HQ.out] at hpA); (obtain ⟨vA, rfl, hmA⟩ := HMD.out.fk hpA); (have hKA := hmA.cm); (have HMA := hid hmA); (clear hpA hmA); go_simp
  refine hK.out _ _ (by assumption) (fun hH => ?_)
  clear hK K
  try simp only [Act.put, List.setIfInBounds_toArray, List.set_cons_zero, List.set_cons_succ]
  refine wpK.step (i := 11) (by kernel_rfl) (by simp only [List.getElem?_toArray, List.getElem?_cons_succ, List.getElem?_cons_zero]; rfl) (fun K hK => ?_)
  go_simp
  (refine (ref17_Less d vn vg L held _ HMA.out.r HOK.out a1 a3 a2).mono ?_); (intro e wB hpB); (rw [HQ.out] at hpB); (obtain ⟨vnB, vgB, rfl, hmB⟩ := HMA.out.rf hpB); (have hKB := hmB.cm); (have HMB := hid hmB); (clear hpB hmB); go_simp
  refine hK.out _ _ (by assumption) (fun hH => ?_)
  clear hK K
  try simp only [Act.put, List.setIfInBounds_toArray, List.set_cons_zero, List.set_cons_succ]
  refine wpK.take (i := 12) (v := _) (by simp only [List.getElem?_toArray, List.getElem?_cons_succ, List.getElem?_cons_zero]; rfl) (by kernel_rfl) (by kernel_rfl) (by kernel_rfl) (by kernel_rfl) (by kernel_rfl) (by exact fun _ _ _ h => h) (by first | exact Or.inl ⟨by rfl, by intro w hSw; go_simp; try with_reducible rfl⟩ | exact Or.inr ⟨by rfl, rfl⟩) hH ?_
  try simp only [Act.put, List.setIfInBounds_toArray, List.set_cons_zero, List.set_cons_succ]
  refine wpK.late (i := 13) (by kernel_rfl) (by simp only [List.getElem?_toArray, List.getElem?_cons_succ, List.getElem?_cons_zero]; rfl) (by kernel_rfl) (fun K hK => ?_)
  go_simp
  refine hK.out _ _ ?_
  clear hK K
  try simp only [Act.put, List.setIfInBounds_toArray, List.set_cons_zero, List.set_cons_succ]
  refine wpK.done (by kernel_rfl) ?_ _
  clear k1 k2 k3 hKD hKA hKB hH
  go_wp2_with fail
  go_ret
  exact ⟨vA, vnB, vgB, q.2.1, q.2.2, rfl, HMB.out.both, HOK2.out⟩
set_option maxRecDepth 100000 in
set_option maxHeartbeats 2000000 in
theorem law17_step4 (w0 : World) (g b : Nat) (v : Value) (d : Nat) (vn vg : Value) (L : List (List UInt8 × Int)) (held : Int) (w : World) (h : BothF w0 w g b v d vn vg L held (held + sumG L)) (hok : FkOk L held) (x : ByteArray) (a1 a2 a3 : Int) :
    Calls Tryd.prog 15 #[.pointer (some ⟨g, 0, none⟩), .pointer (some ⟨d, 0, none⟩), .agg #[.int .i64 4, .int .i64 a1, .int .i64 a2, .int .i64 a3, .string x]] w (StepF w0 g b d) := by
  obtain ⟨q, hq⟩ : ∃ q, gop 4 a1 a2 a3 L held = q := ⟨_, rfl⟩
  have HQ := hid hq
  have HOK := hid hok
  have HOK2 : Hid (FkOk q.2.1 q.2.2) := hid (by rw [← hq]; exact gop_ok 4 a1 a2 a3 L held (by omega) hok)
  have HM := hid (h.mid #[.int .i64 4, .int .i64 a1, .int .i64 a2, .int .i64 a3, .string x] 38)
  obtain ⟨bb, hbb⟩ : ∃ bb, bb = w.heap.size := ⟨_, rfl⟩
  rw [← hbb] at HM
  clear h hok hq
  go_enter Tryd.func15, Tryd.ntmps15
  go_upto_region 11 with fail
  rw [← hbb]
  clear hbb
  generalize World.alloc w _ = w1 at HM
  have HMD := hid (HM.out.below (Below.refl _ _).drew)
  have hKD : Blk w1.drew bb #[.int .i64 4, .int .i64 a1, .int .i64 a2, .int .i64 a3, .string x] := HMD.out.cm
  have k1 : ∀ y, Blk y bb #[.int .i64 4, .int .i64 a1, .int .i64 a2, .int .i64 a3, .string x] → y.cell? ⟨bb, 1, none⟩ = some (.int .i64 a1) := fun y hy => by rw [hy.cell]; rfl
  have k2 : ∀ y, Blk y bb #[.int .i64 4, .int .i64 a1, .int .i64 a2, .int .i64 a3, .string x] → y.cell? ⟨bb, 2, none⟩ = some (.int .i64 a2) := fun y hy => by rw [hy.cell]; rfl
  have k3 : ∀ y, Blk y bb #[.int .i64 4, .int .i64 a1, .int .i64 a2, .int .i64 a3, .string x] → y.cell? ⟨bb, 3, none⟩ = some (.int .i64 a3) := fun y hy => by rw [hy.cell]; rfl
  refine wp_region_kept [17] (fun y => Blk y bb #[.int .i64 4, .int .i64 a1, .int .i64 a2, .int .i64 a3, .string x]) (by kernel_rfl) (by assumption) (fun hH => ?_)
  refine wpK.take (i := 0) (v := _) (by simp only [List.getElem?_toArray, List.getElem?_cons_succ, List.getElem?_cons_zero]; rfl) (by kernel_rfl) (by kernel_rfl) (by kernel_rfl) (by kernel_rfl) (by kernel_rfl) (by exact fun _ _ _ h => h) (by first | exact Or.inl ⟨by rfl, by intro w hSw; go_simp; try with_reducible rfl⟩ | exact Or.inr ⟨by rfl, rfl⟩) hH ?_
  try simp only [Act.put, List.setIfInBounds_toArray, List.set_cons_zero, List.set_cons_succ]
  refine wpK.take (i := 1) (v := _) (by simp only [List.getElem?_toArray, List.getElem?_cons_succ, List.getElem?_cons_zero]; rfl) (by kernel_rfl) (by kernel_rfl) (by kernel_rfl) (by kernel_rfl) (by kernel_rfl) (by exact fun _ _ _ h => h) (by first | exact Or.inl ⟨by rfl, by intro w hSw; go_simp; try with_reducible rfl⟩ | exact Or.inr ⟨by rfl, rfl⟩) hH ?_
  try simp only [Act.put, List.setIfInBounds_toArray, List.set_cons_zero, List.set_cons_succ]
  refine wpK.take (i := 2) (v := _) (by simp only [List.getElem?_toArray, List.getElem?_cons_succ, List.getElem?_cons_zero]; rfl) (by kernel_rfl) (by kernel_rfl) (by kernel_rfl) (by kernel_rfl) (by kernel_rfl) (by exact fun _ _ _ h => h) (by first | exact Or.inl ⟨by rfl, by intro w hSw; go_simp; try with_reducible rfl⟩ | exact Or.inr ⟨by rfl, rfl⟩) hH ?_
  try simp only [Act.put, List.setIfInBounds_toArray, List.set_cons_zero, List.set_cons_succ]
  refine wpK.take (i := 3) (v := _) (by simp only [List.getElem?_toArray, List.getElem?_cons_succ, List.getElem?_cons_zero]; rfl) (by kernel_rfl) (by kernel_rfl) (by kernel_rfl) (by kernel_rfl) (by kernel_rfl) (by exact fun _ _ _ h => h) (by first | exact Or.inl ⟨by rfl, by intro w hSw; go_simp; try with_reducible rfl⟩ | exact Or.inr ⟨by rfl, rfl⟩) hH ?_
  try simp only [Act.put, List.setIfInBounds_toArray, List.set_cons_zero, List.set_cons_succ]
  refine wpK.take (i := 4) (v := _) (by simp only [List.getElem?_toArray, List.getElem?_cons_succ, List.getElem?_cons_zero]; rfl) (by kernel_rfl) (by kernel_rfl) (by kernel_rfl) (by kernel_rfl) (by kernel_rfl) (by exact fun _ _ _ h => h) (by first | exact Or.inl ⟨by rfl, by intro w hSw; go_simp; try with_reducible rfl⟩ | exact Or.inr ⟨by rfl, rfl⟩) hH ?_
  try simp only [Act.put, List.setIfInBounds_toArray, List.set_cons_zero, List.set_cons_succ]
  refine wpK.take (i := 5) (v := _) (by simp only [List.getElem?_toArray, List.getElem?_cons_succ, List.getElem?_cons_zero]; rfl) (by kernel_rfl) (by kernel_rfl) (by kernel_rfl) (by kernel_rfl) (by kernel_rfl) (by exact fun _ _ _ h => h) (by first | exact Or.inl ⟨by rfl, by intro w hSw; go_simp; try with_reducible rfl⟩ | exact Or.inr ⟨by rfl, rfl⟩) hH ?_
  try simp only [Act.put, List.setIfInBounds_toArray, List.set_cons_zero, List.set_cons_succ]
  refine wpK.take (i := 6) (v := _) (by simp only [List.getElem?_toArray, List.getElem?_cons_succ, List.getElem?_cons_zero]; rfl) (by kernel_rfl) (by kernel_rfl) (by kernel_rfl) (by kernel_rfl) (by kernel_rfl) (by exact fun _ _ _ h => h) (by first | exact Or.inl ⟨by rfl, by intro w hSw; go_simp; try with_reducible rfl⟩ | exact Or.inr ⟨by rfl, rfl⟩) hH ?_
  try simp only [Act.put, List.setIfInBounds_toArray, List.set_cons_zero, List.set_cons_succ]
  refine wpK.take (i := 8) (v := _) (by simp only [List.getElem?_toArray, List.getElem?_cons_succ, List.getElem?_cons_zero]; rfl) (by kernel_rfl) (by kernel_rfl) (by kernel_rfl) (by kernel_rfl) (by kernel_rfl) (by exact fun _ _ _ h => h) (by first | exact Or.inl ⟨by rfl, by intro w hSw; go_simp; try with_reducible rfl⟩ | exact Or.inr ⟨by rfl, rfl⟩) hH ?_
  try simp only [Act.put, List.setIfInBounds_toArray, List.set_cons_zero, List.set_cons_succ]
  refine wpK.take (i := 9) (v := _) (by simp only [List.getElem?_toArray, List.getElem?_cons_succ, List.getElem?_cons_zero]; rfl) (by kernel_rfl) (by kernel_rfl) (by kernel_rfl) (by kernel_rfl) (by kernel_rfl) (by exact fun _ _ _ h => h) (by first | exact Or.inl ⟨by rfl, by intro w hSw; go_simp; try with_reducible rfl⟩ | exact Or.inr ⟨by rfl, rfl⟩) hH ?_
  try simp only [Act.put, List.setIfInBounds_toArray, List.set_cons_zero, List.set_cons_succ]
  refine wpK.take (i := 10) (v := _) (by simp only [List.getElem?_toArray, List.getElem?_cons_succ, List.getElem?_cons_zero]; rfl) (by kernel_rfl) (by kernel_rfl) (by kernel_rfl) (by kernel_rfl) (by kernel_rfl) (by exact fun _ _ _ h => h) (by first | exact Or.inl ⟨by rfl, by intro w hSw; go_simp; try with_reducible rfl⟩ | exact Or.inr ⟨by rfl, rfl⟩) hH ?_
  try simp only [Act.put, List.setIfInBounds_toArray, List.set_cons_zero, List.set_cons_succ]
  refine wpK.take (i := 11) (v := _) (by simp only [List.getElem?_toArray, List.getElem?_cons_succ, List.getElem?_cons_zero]; rfl) (by kernel_rfl) (by kernel_rfl) (by kernel_rfl) (by kernel_rfl) (by kernel_rfl) (by exact fun _ _ _ h => h) (by first | exact Or.inl ⟨by rfl, by intro w hSw; go_simp; try with_reducible rfl⟩ | exact Or.inr ⟨by rfl, rfl⟩) hH ?_
  try simp only [Act.put, List.setIfInBounds_toArray, List.set_cons_zero, List.set_cons_succ]
  refine wpK.take (i := 12) (v := _) (by simp only [List.getElem?_toArray, List.getElem?_cons_succ, List.getElem?_cons_zero]; rfl) (by kernel_rfl) (by kernel_rfl) (by kernel_rfl) (by kernel_rfl) (by kernel_rfl) (by exact fun _ _ _ h => h) (by first | exact Or.inl ⟨by rfl, by intro w hSw; go_simp; try with_reducible rfl⟩ | exact Or.inr ⟨by rfl, rfl⟩) hH ?_
  try simp only [Act.put, List.setIfInBounds_toArray, List.set_cons_zero, List.set_cons_succ]
  refine wpK.take (i := 13) (v := _) (by simp only [List.getElem?_toArray, List.getElem?_cons_succ, List.getElem?_cons_zero]; rfl) (by kernel_rfl) (by kernel_rfl) (by kernel_rfl) (by kernel_rfl) (by kernel_rfl) (by exact fun _ _ _ h => h) (by first | exact Or.inl ⟨by rfl, by intro w hSw; go_simp; try with_reducible rfl⟩ | exact Or.inr ⟨by rfl, rfl⟩) hH ?_
  try simp only [Act.put, List.setIfInBounds_toArray, List.set_cons_zero, List.set_cons_succ]
  refine wpK.take (i := 14) (v := _) (by simp only [List.getElem?_toArray, List.getElem?_cons_succ, List.getElem?_cons_zero]; rfl) (by kernel_rfl) (by kernel_rfl) (by kernel_rfl) (by kernel_rfl) (by kernel_rfl) (by exact fun _ _ _ h => h) (by first | exact Or.inl ⟨by rfl, by intro w hSw; go_simp; try with_reducible rfl⟩ | exact Or.inr ⟨by rfl, rfl⟩) hH ?_
  try simp only [Act.put, List.setIfInBounds_toArray, List.set_cons_zero, List.set_cons_succ]
  refine wpK.step (i := 7) (by kernel_rfl) (by simp only [List.getElem?_toArray, List.getElem?_cons_succ, List.getElem?_cons_zero]; rfl) (fun K hK => ?_)
  go_simp
  (refine (folk_MoveAll g b v L held _ HMD.out.f HOK.out a1 a2 a3).mono ?_); (intro e wA hpA); (rw [HQ.out] at hpA); (obtain ⟨vA, rfl, hmA⟩ := HMD.out.fk hpA); (have hKA := hmA.cm); (have HMA := hid hmA); (clear hpA hmA); go_simp
  refine hK.out _ _ (by assumption) (fun hH => ?_)
  clear hK K
  try simp only [Act.put, List.setIfInBounds_toArray, List.set_cons_zero, List.set_cons_succ]
  refine wpK.step (i := 15) (by kernel_rfl) (by simp only [List.getElem?_toArray, List.getElem?_cons_succ, List.getElem?_cons_zero]; rfl) (fun K hK => ?_)
  go_simp
  (refine (ref17_Move d vn vg L held _ HMA.out.r HOK.out a1 a2 a3).mono ?_); (intro e wB hpB); (rw [HQ.out] at hpB); (obtain ⟨vnB, vgB, rfl, hmB⟩ := HMA.out.rf hpB); (have hKB := hmB.cm); (have HMB := hid hmB); (clear hpB hmB); go_simp
  refine hK.out _ _ (by assumption) (fun hH => ?_)
  clear hK K
  try simp only [Act.put, List.setIfInBounds_toArray, List.set_cons_zero, List.set_cons_succ]
  refine wpK.take (i := 16) (v := _) (by simp only [List.getElem?_toArray, List.getElem?_cons_succ, List.getElem?_cons_zero]; rfl) (by kernel_rfl) (by kernel_rfl) (by kernel_rfl) (by kernel_rfl) (by kernel_rfl) (by exact fun _ _ _ h => h) (by first | exact Or.inl ⟨by rfl, by intro w hSw; go_simp; try with_reducible rfl⟩ | exact Or.inr ⟨by rfl, rfl⟩) hH ?_
  try simp only [Act.put, List.setIfInBounds_toArray, List.set_cons_zero, List.set_cons_succ]
  refine wpK.late (i := 17) (by kernel_rfl) (by simp only [List.getElem?_toArray, List.getElem?_cons_succ, List.getElem?_cons_zero]; rfl) (by kernel_rfl) (fun K hK => ?_)
  go_simp
  refine hK.out _ _ ?_
  clear hK K
  try simp only [Act.put, List.setIfInBounds_toArray, List.set_cons_zero, List.set_cons_succ]
  refine wpK.done (by kernel_rfl) ?_ _
  clear k1 k2 k3 hKD hKA hKB hH
  go_wp2_with fail
  go_ret
  exact ⟨vA, vnB, vgB, q.2.1, q.2.2, rfl, HMB.out.both, HOK2.out⟩
set_option maxRecDepth 100000 in
set_option maxHeartbeats 2000000 in
theorem law17_step5 (w0 : World) (g b : Nat) (v : Value) (d : Nat) (vn vg : Value) (L : List (List UInt8 × Int)) (held : Int) (w : World) (h : BothF w0 w g b v d vn vg L held (held + sumG L)) (hok : FkOk L held) (x : ByteArray) (a1 a2 a3 : Int) :
    Calls Tryd.prog 15 #[.pointer (some ⟨g, 0, none⟩), .pointer (some ⟨d, 0, none⟩), .agg #[.int .i64 5, .int .i64 a1, .int .i64 a2, .int .i64 a3, .string x]] w (StepF w0 g b d) := by
  obtain ⟨q, hq⟩ : ∃ q, gop 5 a1 a2 a3 L held = q := ⟨_, rfl⟩
  have HQ := hid hq
  have HOK := hid hok
  have HOK2 : Hid (FkOk q.2.1 q.2.2) := hid (by rw [← hq]; exact gop_ok 5 a1 a2 a3 L held (by omega) hok)
  have HM := hid (h.mid #[.int .i64 5, .int .i64 a1, .int .i64 a2, .int .i64 a3, .string x] 38)
  obtain ⟨bb, hbb⟩ : ∃ bb, bb = w.heap.size := ⟨_, rfl⟩
  rw [← hbb] at HM
  clear h hok hq
  go_enter Tryd.func15, Tryd.ntmps15
  go_upto_region 13 with fail
  rw [← hbb]
  clear hbb
  generalize World.alloc w _ = w1 at HM
  have HMD := hid (HM.out.below (Below.refl _ _).drew)
  have hKD : Blk w1.drew bb #[.int .i64 5, .int .i64 a1, .int .i64 a2, .int .i64 a3, .string x] := HMD.out.cm
  have k1 : ∀ y, Blk y bb #[.int .i64 5, .int .i64 a1, .int .i64 a2, .int .i64 a3, .string x] → y.cell? ⟨bb, 1, none⟩ = some (.int .i64 a1) := fun y hy => by rw [hy.cell]; rfl
  have k2 : ∀ y, Blk y bb #[.int .i64 5, .int .i64 a1, .int .i64 a2, .int .i64 a3, .string x] → y.cell? ⟨bb, 2, none⟩ = some (.int .i64 a2) := fun y hy => by rw [hy.cell]; rfl
  have k3 : ∀ y, Blk y bb #[.int .i64 5, .int .i64 a1, .int .i64 a2, .int .i64 a3, .string x] → y.cell? ⟨bb, 3, none⟩ = some (.int .i64 a3) := fun y hy => by rw [hy.cell]; rfl
  refine wp_region_kept [13] (fun y => Blk y bb #[.int .i64 5, .int .i64 a1, .int .i64 a2, .int .i64 a3, .string x]) (by kernel_rfl) (by assumption) (fun hH => ?_)
  refine wpK.take (i := 0) (v := _) (by simp only [List.getElem?_toArray, List.getElem?_cons_succ, List.getElem?_cons_zero]; rfl) (by kernel_rfl) (by kernel_rfl) (by kernel_rfl) (by kernel_rfl) (by kernel_rfl) (by exact fun _ _ _ h => h) (by first | exact Or.inl ⟨by rfl, by intro w hSw; go_simp; try with_reducible rfl⟩ | exact Or.inr ⟨by rfl, rfl⟩) hH ?_
  try simp only [Act.put, List.setIfInBounds_toArray, List.set_cons_zero, List.set_cons_succ]
  refine wpK.take (i := 1) (v := _) (by simp only [List.getElem?_toArray, List.getElem?_cons_succ, List.getElem?_cons_zero]; rfl) (by kernel_rfl) (by kernel_rfl) (by kernel_rfl) (by kernel_rfl) (by kernel_rfl) (by exact fun _ _ _ h => h) (by first | exact Or.inl ⟨by rfl, by intro w hSw; go_simp; try with_reducible rfl⟩ | exact Or.inr ⟨by rfl, rfl⟩) hH ?_
  try simp only [Act.put, List.setIfInBounds_toArray, List.set_cons_zero, List.set_cons_succ]
  refine wpK.take (i := 2) (v := _) (by simp only [List.getElem?_toArray, List.getElem?_cons_succ, List.getElem?_cons_zero]; rfl) (by kernel_rfl) (by kernel_rfl) (by kernel_rfl) (by kernel_rfl) (by kernel_rfl) (by exact fun _ _ _ h => h) (by first | exact Or.inl ⟨by rfl, by intro w hSw; go_simp; try with_reducible rfl⟩ | exact Or.inr ⟨by rfl, rfl⟩) hH ?_
  try simp only [Act.put, List.setIfInBounds_toArray, List.set_cons_zero, List.set_cons_succ]
  refine wpK.take (i := 3) (v := _) (by simp only [List.getElem?_toArray, List.getElem?_cons_succ, List.getElem?_cons_zero]; rfl) (by kernel_rfl) (by kernel_rfl) (by kernel_rfl) (by kernel_rfl) (by kernel_rfl) (by exact fun _ _ _ h => h) (by first | exact Or.inl ⟨by rfl, by intro w hSw; go_simp; try with_reducible rfl⟩ | exact Or.inr ⟨by rfl, rfl⟩) hH ?_
  try simp only [Act.put, List.setIfInBounds_toArray, List.set_cons_zero, List.set_cons_succ]
  refine wpK.take (i := 4) (v := _) (by simp only [List.getElem?_toArray, List.getElem?_cons_succ, List.getElem?_cons_zero]; rfl) (by kernel_rfl) (by kernel_rfl) (by kernel_rfl) (by kernel_rfl) (by kernel_rfl) (by exact fun _ _ _ h => h) (by first | exact Or.inl ⟨by rfl, by intro w hSw; go_simp; try with_reducible rfl⟩ | exact Or.inr ⟨by rfl, rfl⟩) hH ?_
  try simp only [Act.put, List.setIfInBounds_toArray, List.set_cons_zero, List.set_cons_succ]
  refine wpK.take (i := 6) (v := _) (by simp only [List.getElem?_toArray, List.getElem?_cons_succ, List.getElem?_cons_zero]; rfl) (by kernel_rfl) (by kernel_rfl) (by kernel_rfl) (by kernel_rfl) (by kernel_rfl) (by exact fun _ _ _ h => h) (by first | exact Or.inl ⟨by rfl, by intro w hSw; go_simp; try with_reducible rfl⟩ | exact Or.inr ⟨by rfl, rfl⟩) hH ?_
  try simp only [Act.put, List.setIfInBounds_toArray, List.set_cons_zero, List.set_cons_succ]
  refine wpK.take (i := 7) (v := _) (by simp only [List.getElem?_toArray, List.getElem?_cons_succ, List.getElem?_cons_zero]; rfl) (by kernel_rfl) (by kernel_rfl) (by kernel_rfl) (by kernel_rfl) (by kernel_rfl) (by exact fun _ _ _ h => h) (by first | exact Or.inl ⟨by rfl, by intro w hSw; go_simp; try with_reducible rfl⟩ | exact Or.inr ⟨by rfl, rfl⟩) hH ?_
  try simp only [Act.put, List.setIfInBounds_toArray, List.set_cons_zero, List.set_cons_succ]
  refine wpK.take (i := 8) (v := _) (by simp only [List.getElem?_toArray, List.getElem?_cons_succ, List.getElem?_cons_zero]; rfl) (by kernel_rfl) (by kernel_rfl) (by kernel_rfl) (by kernel_rfl) (by kernel_rfl) (by exact fun _ _ _ h => h) (by first | exact Or.inl ⟨by rfl, by intro w hSw; go_simp; try with_reducible rfl⟩ | exact Or.inr ⟨by rfl, rfl⟩) hH ?_
  try simp only [Act.put, List.setIfInBounds_toArray, List.set_cons_zero, List.set_cons_succ]
  refine wpK.take (i := 9) (v := _) (by simp only [List.getElem?_toArray, List.getElem?_cons_succ, List.getElem?_cons_zero]; rfl) (by kernel_rfl) (by kernel_rfl) (by kernel_rfl) (by kernel_rfl) (by kernel_rfl) (by exact fun _ _ _ h => h) (by first | exact Or.inl ⟨by rfl, by intro w hSw; go_simp; try with_reducible rfl⟩ | exact Or.inr ⟨by rfl, rfl⟩) hH ?_
  try simp only [Act.put, List.setIfInBounds_toArray, List.set_cons_zero, List.set_cons_succ]
  refine wpK.take (i := 10) (v := _) (by simp only [List.getElem?_toArray, List.getElem?_cons_succ, List.getElem?_cons_zero]; rfl) (by kernel_rfl) (by kernel_rfl) (by kernel_rfl) (by kernel_rfl) (by kernel_rfl) (by exact fun _ _ _ h => h) (by first | exact Or.inl ⟨by rfl, by intro w hSw; go_simp; try with_reducible rfl⟩ | exact Or.inr ⟨by rfl, rfl⟩) hH ?_
  try simp only [Act.put, List.setIfInBounds_toArray, List.set_cons_zero, List.set_cons_succ]
  refine wpK.step (i := 5) (by kernel_rfl) (by simp only [List.getElem?_toArray, List.getElem?_cons_succ, List.getElem?_cons_zero]; rfl) (fun K hK => ?_)
  go_simp
  (refine (folk_HoldAll g b v L held _ HMD.out.f HOK.out a1 a3 a2).mono ?_); (intro e wA hpA); (rw [HQ.out] at hpA); (obtain ⟨vA, rfl, hmA⟩ := HMD.out.fk hpA); (have hKA := hmA.cm); (have HMA := hid hmA); (clear hpA hmA); go_simp
  refine hK.out _ _ (by assumption) (fun hH => ?_)
  clear hK K
  try simp only [Act.put, List.setIfInBounds_toArray, List.set_cons_zero, List.set_cons_succ]
  refine wpK.step (i := 11) (by kernel_rfl) (by simp only [List.getElem?_toArray, List.getElem?_cons_succ, List.getElem?_cons_zero]; rfl) (fun K hK => ?_)
  go_simp
  (refine (ref17_Hold d vn vg L held _ HMA.out.r HOK.out a1 a3 a2).mono ?_); (intro e wB hpB); (rw [HQ.out] at hpB); (obtain ⟨vnB, vgB, rfl, hmB⟩ := HMA.out.rf hpB); (have hKB := hmB.cm); (have HMB := hid hmB); (clear hpB hmB); go_simp
  refine hK.out _ _ (by assumption) (fun hH => ?_)
  clear hK K
  try simp only [Act.put, List.setIfInBounds_toArray, List.set_cons_zero, List.set_cons_succ]
  refine wpK.take (i := 12) (v := _) (by simp only [List.getElem?_toArray, List.getElem?_cons_succ, List.getElem?_cons_zero]; rfl) (by kernel_rfl) (by kernel_rfl) (by kernel_rfl) (by kernel_rfl) (by kernel_rfl) (by exact fun _ _ _ h => h) (by first | exact Or.inl ⟨by rfl, by intro w hSw; go_simp; try with_reducible rfl⟩ | exact Or.inr ⟨by rfl, rfl⟩) hH ?_
  try simp only [Act.put, List.setIfInBounds_toArray, List.set_cons_zero, List.set_cons_succ]
  refine wpK.late (i := 13) (by kernel_rfl) (by simp only [List.getElem?_toArray, List.getElem?_cons_succ, List.getElem?_cons_zero]; rfl) (by kernel_rfl) (fun K hK => ?_)
  go_simp
  refine hK.out _ _ ?_
  clear hK K
  try simp only [Act.put, List.setIfInBounds_toArray, List.set_cons_zero, List.set_cons_succ]
  refine wpK.done (by kernel_rfl) ?_ _
  clear k1 k2 k3 hKD hKA hKB hH
  go_wp2_with fail
  go_ret
  exact ⟨vA, vnB, vgB, q.2.1, q.2.2, rfl, HMB.out.both, HOK2.out⟩
set_option maxRecDepth 100000 in
set_option maxHeartbeats 2000000 in
theorem law17_step6 (w0 : World) (g b : Nat) (v : Value) (d : Nat) (vn vg : Value) (L : List (List UInt8 × Int)) (held : Int) (w : World) (h : BothF w0 w g b v d vn vg L held (held + sumG L)) (hok : FkOk L held) (x : ByteArray) (a1 a2 a3 : Int) :
    Calls Tryd.prog 15 #[.pointer (some ⟨g, 0, none⟩), .pointer (some ⟨d, 0, none⟩), .agg #[.int .i64 6, .int .i64 a1, .int .i64 a2, .int .i64 a3, .string x]] w (StepF w0 g b d) := by
  obtain ⟨q, hq⟩ : ∃ q, gop 6 a1 a2 a3 L held = q := ⟨_, rfl⟩
  have HQ := hid hq
  have HOK := hid hok
  have HOK2 : Hid (FkOk q.2.1 q.2.2) := hid (by rw [← hq]; exact gop_ok 6 a1 a2 a3 L held (by omega) hok)
  have HM := hid (h.mid #[.int .i64 6, .int .i64 a1, .int .i64 a2, .int .i64 a3, .string x] 38)
  obtain ⟨bb, hbb⟩ : ∃ bb, bb = w.heap.size := ⟨_, rfl⟩
  rw [← hbb] at HM
  clear h hok hq
  go_enter Tryd.func15, Tryd.ntmps15
  go_upto_region 15 with fail
  rw [← hbb]
  clear hbb
  generalize World.alloc w _ = w1 at HM
  have HMD := hid (HM.out.below (Below.refl _ _).drew)
  have hKD : Blk w1.drew bb #[.int .i64 6, .int .i64 a1, .int .i64 a2, .int .i64 a3, .string x] := HMD.out.cm
  have k1 : ∀ y, Blk y bb #[.int .i64 6, .int .i64 a1, .int .i64 a2, .int .i64 a3, .string x] → y.cell? ⟨bb, 1, none⟩ = some (.int .i64 a1) := fun y hy => by rw [hy.cell]; rfl
  have k2 : ∀ y, Blk y bb #[.int .i64 6, .int .i64 a1, .int .i64 a2, .int .i64 a3, .string x] → y.cell? ⟨bb, 2, none⟩ = some (.int .i64 a2) := fun y hy => by rw [hy.cell]; rfl
  have k3 : ∀ y, Blk y bb #[.int .i64 6, .int .i64 a1, .int .i64 a2, .int .i64 a3, .string x] → y.cell? ⟨bb, 3, none⟩ = some (.int .i64 a3) := fun y hy => by rw [hy.cell]; rfl
  refine wp_region_kept [13] (fun y => Blk y bb #[.int .i64 6, .int .i64 a1, .int .i64 a2, .int .i64 a3, .string x]) (by kernel_rfl) (by assumption) (fun hH => ?_)
  refine wpK.take (i := 0) (v := _) (by simp only [List.getElem?_toArray, List.getElem?_cons_succ, List.getElem?_cons_zero]; rfl) (by kernel_rfl) (by kernel_rfl) (by kernel_rfl) (by kernel_rfl) (by kernel_rfl) (by exact fun _ _ _ h => h) (by first | exact Or.inl ⟨by rfl, by intro w hSw; go_simp; try with_reducible rfl⟩ | exact Or.inr ⟨by rfl, rfl⟩) hH ?_
  try simp only [Act.put, List.setIfInBounds_toArray, List.set_cons_zero, List.set_cons_succ]
  refine wpK.take (i := 1) (v := _) (by simp only [List.getElem?_toArray, List.getElem?_cons_succ, List.getElem?_cons_zero]; rfl) (by kernel_rfl) (by kernel_rfl) (by kernel_rfl) (by kernel_rfl) (by kernel_rfl) (by exact fun _ _ _ h => h) (by first | exact Or.inl ⟨by rfl, by intro w hSw; go_simp; try with_reducible rfl⟩ | exact Or.inr ⟨by rfl, rfl⟩) hH ?_
  try simp only [Act.put, List.setIfInBounds_toArray, List.set_cons_zero, List.set_cons_succ]
  refine wpK.take (i := 2) (v := _) (by simp only [List.getElem?_toArray, List.getElem?_cons_succ, List.getElem?_cons_zero]; rfl) (by kernel_rfl) (by kernel_rfl) (by kernel_rfl) (by kernel_rfl) (by kernel_rfl) (by exact fun _ _ _ h => h) (by first | exact Or.inl ⟨by rfl, by intro w hSw; go_simp; try with_reducible rfl⟩ | exact Or.inr ⟨by rfl, rfl⟩) hH ?_
  try simp only [Act.put, List.setIfInBounds_toArray, List.set_cons_zero, List.set_cons_succ]
  refine wpK.take (i := 3) (v := _) (by simp only [List.getElem?_toArray, List.getElem?_cons_succ, List.getElem?_cons_zero]; rfl) (by kernel_rfl) (by kernel_rfl) (by kernel_rfl) (by kernel_rfl) (by kernel_rfl) (by exact fun _ _ _ h => h) (by first | exact Or.inl ⟨by rfl, by intro w hSw; go_simp; try with_reducible rfl⟩ | exact Or.inr ⟨by rfl, rfl⟩) hH ?_
  try simp only [Act.put, List.setIfInBounds_toArray, List.set_cons_zero, List.set_cons_succ]
  refine wpK.take (i := 4) (v := _) (by simp only [List.getElem?_toArray, List.getElem?_cons_succ, List.getElem?_cons_zero]; rfl) (by kernel_rfl) (by kernel_rfl) (by kernel_rfl) (by kernel_rfl) (by kernel_rfl) (by exact fun _ _ _ h => h) (by first | exact Or.inl ⟨by rfl, by intro w hSw; go_simp; try with_reducible rfl⟩ | exact Or.inr ⟨by rfl, rfl⟩) hH ?_
  try simp only [Act.put, List.setIfInBounds_toArray, List.set_cons_zero, List.set_cons_succ]
  refine wpK.take (i := 6) (v := _) (by simp only [List.getElem?_toArray, List.getElem?_cons_succ, List.getElem?_cons_zero]; rfl) (by kernel_rfl) (by kernel_rfl) (by kernel_rfl) (by kernel_rfl) (by kernel_rfl) (by exact fun _ _ _ h => h) (by first | exact Or.inl ⟨by rfl, by intro w hSw; go_simp; try with_reducible rfl⟩ | exact Or.inr ⟨by rfl, rfl⟩) hH ?_
  try simp only [Act.put, List.setIfInBounds_toArray, List.set_cons_zero, List.set_cons_succ]
  refine wpK.take (i := 7) (v := _) (by simp only [List.getElem?_toArray, List.getElem?_cons_succ, List.getElem?_cons_zero]; rfl) (by kernel_rfl) (by kernel_rfl) (by kernel_rfl) (by kernel_rfl) (by kernel_rfl) (by exact fun _ _ _ h => h) (by first | exact Or.inl ⟨by rfl, by intro w hSw; go_simp; try with_reducible rfl⟩ | exact Or.inr ⟨by rfl, rfl⟩) hH ?_
  try simp only [Act.put, List.setIfInBounds_toArray, List.set_cons_zero, List.set_cons_succ]
  refine wpK.take (i := 8) (v := _) (by simp only [List.getElem?_toArray, List.getElem?_cons_succ, List.getElem?_cons_zero]; rfl) (by kernel_rfl) (by kernel_rfl) (by kernel_rfl) (by kernel_rfl) (by kernel_rfl) (by exact fun _ _ _ h => h) (by first | exact Or.inl ⟨by rfl, by intro w hSw; go_simp; try with_reducible rfl⟩ | exact Or.inr ⟨by rfl, rfl⟩) hH ?_
  try simp only [Act.put, List.setIfInBounds_toArray, List.set_cons_zero, List.set_cons_succ]
  refine wpK.take (i := 9) (v := _) (by simp only [List.getElem?_toArray, List.getElem?_cons_succ, List.getElem?_cons_zero]; rfl) (by kernel_rfl) (by kernel_rfl) (by kernel_rfl) (by kernel_rfl) (by kernel_rfl) (by exact fun _ _ _ h => h) (by first | exact Or.inl ⟨by rfl, by intro w hSw; go_simp; try with_reducible rfl⟩ | exact Or.inr ⟨by rfl, rfl⟩) hH ?_
  try simp only [Act.put, List.setIfInBounds_toArray, List.set_cons_zero, List.set_cons_succ]
  refine wpK.take (i := 10) (v := _) (by simp only [List.getElem?_toArray, List.getElem?_cons_succ, List.getElem?_cons_zero]; rfl) (by kernel_rfl) (by kernel_rfl) (by kernel_rfl) (by kernel_rfl) (by kernel_rfl) (by exact fun _ _ _ h => h) (by first | exact Or.inl ⟨by rfl, by intro w hSw; go_simp; try with_reducible rfl⟩ | exact Or.inr ⟨by rfl, rfl⟩) hH ?_
  try simp only [Act.put, List.setIfInBounds_toArray, List.set_cons_zero, List.set_cons_succ]
  refine wpK.step (i := 5) (by kernel_rfl) (by simp only [List.getElem?_toArray, List.getElem?_cons_succ, List.getElem?_cons_zero]; rfl) (fun K hK => ?_)
  go_simp
  (refine (folk_GiveAll g b v L held _ HMD.out.f HOK.out a1 a3 a2).mono ?_); (intro e wA hpA); (rw [HQ.out] at hpA); (obtain ⟨vA, rfl, hmA⟩ := HMD.out.fk hpA); (have hKA := hmA.cm); (have HMA := hid hmA); (clear hpA hmA); go_simp
  refine hK.out _ _ (by assumption) (fun hH => ?_)
  clear hK K
  try simp only [Act.put, List.setIfInBounds_toArray, List.set_cons_zero, List.set_cons_succ]
  refine wpK.step (i := 11) (by kernel_rfl) (by simp only [List.getElem?_toArray, List.getElem?_cons_succ, List.getElem?_cons_zero]; rfl) (fun K hK => ?_)
  go_simp
  (refine (ref17_Give d vn vg L held _ HMA.out.r HOK.out a1 a3 a2).mono ?_); (intro e wB hpB); (rw [HQ.out] at hpB); (obtain ⟨vnB, vgB, rfl, hmB⟩ := HMA.out.rf hpB); (have hKB := hmB.cm); (have HMB := hid hmB); (clear hpB hmB); go_simp
  refine hK.out _ _ (by assumption) (fun hH => ?_)
  clear hK K
  try simp only [Act.put, List.setIfInBounds_toArray, List.set_cons_zero, List.set_cons_succ]
  refine wpK.take (i := 12) (v := _) (by simp only [List.getElem?_toArray, List.getElem?_cons_succ, List.getElem?_cons_zero]; rfl) (by kernel_rfl) (by kernel_rfl) (by kernel_rfl) (by kernel_rfl) (by kernel_rfl) (by exact fun _ _ _ h => h) (by first | exact Or.inl ⟨by rfl, by intro w hSw; go_simp; try with_reducible rfl⟩ | exact Or.inr ⟨by rfl, rfl⟩) hH ?_
  try simp only [Act.put, List.setIfInBounds_toArray, List.set_cons_zero, List.set_cons_succ]
  refine wpK.late (i := 13) (by kernel_rfl) (by simp only [List.getElem?_toArray, List.getElem?_cons_succ, List.getElem?_cons_zero]; rfl) (by kernel_rfl) (fun K hK => ?_)
  go_simp
  refine hK.out _ _ ?_
  clear hK K
  try simp only [Act.put, List.setIfInBounds_toArray, List.set_cons_zero, List.set_cons_succ]
  refine wpK.done (by kernel_rfl) ?_ _
  clear k1 k2 k3 hKD hKA hKB hH
  go_wp2_with fail
  go_ret
  exact ⟨vA, vnB, vgB, q.2.1, q.2.2, rfl, HMB.out.both, HOK2.out⟩
set_option maxRecDepth 100000 in
set_option maxHeartbeats 2000000 in
theorem law17_step (w0 : World) (g b : Nat) (v : Value) (d : Nat) (vn vg : Value) (L : List (List UInt8 × Int)) (held : Int) (w : World) (h : BothF w0 w g b v d vn vg L held (held + sumG L)) (hok : FkOk L held) (x : List UInt8) (hx : x.length ≤ 1000) (k a1 a2 a3 : Int) :
    Calls Tryd.prog 15 #[.pointer (some ⟨g, 0, none⟩), .pointer (some ⟨d, 0, none⟩), .agg #[.int .i64 k, .int .i64 a1, .int .i64 a2, .int .i64 a3, .string ⟨x.toArray⟩]] w (StepF w0 g b d) := by
  by_cases h1 : k = 1
  · subst h1
    refine (law17_step1 w0 g b v d vn vg L held _ w h hok.len x hx a1 a2 a3).mono ?_
    rintro e w' ⟨v', vn', vg', rfl, hb⟩
    obtain ⟨q1, q2⟩ := addF_ok hok x
    refine ⟨v', vn', vg', addFL L x, held, rfl, ?_, q1⟩
    rw [q2]; exact hb
  by_cases h2 : k = 2
  · subst h2; exact law17_step2 w0 g b v d vn vg L held w h hok _ a1 a2 a3
  by_cases h3 : k = 3
  · subst h3; exact law17_step3 w0 g b v d vn vg L held w h hok _ a1 a2 a3
  by_cases h4 : k = 4
  · subst h4; exact law17_step4 w0 g b v d vn vg L held w h hok _ a1 a2 a3
  by_cases h5 : k = 5
  · subst h5; exact law17_step5 w0 g b v d vn vg L held w h hok _ a1 a2 a3
  by_cases h6 : k = 6
  · subst h6; exact law17_step6 w0 g b v d vn vg L held w h hok _ a1 a2 a3
  have HM := hid (h.mid #[.int .i64 k, .int .i64 a1, .int .i64 a2, .int .i64 a3, .string ⟨x.toArray⟩] 38)
  have HOK := hid hok
  have e1 : (k == 1) = false := by simpa using h1
  have e2 : (k == 2) = false := by simpa using h2
  have e3 : (k == 3) = false := by simpa using h3
  have e4 : (k == 4) = false := by simpa using h4
  have e5 : (k == 5) = false := by simpa using h5
  have e6 : (k == 6) = false := by simpa using h6
  clear h hok h1 h2 h3 h4 h5 h6
  go_enter Tryd.func15, Tryd.ntmps15
  go_wp2_with fail
  go_ret
  exact ⟨v, vn, vg, L, held, rfl, HM.out.both, HOK.out⟩
end Go.Proofs.YtcjdlckfbkdibaaDoor
end
