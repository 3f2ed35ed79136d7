/- Joined texts, in this order: StallStep. Each one's first remark says what it proves; no condition beyond those that its theorems name. -/
import Derived.Test.YtajfjgekcjkedaaJLawStallRestores20
section
/- The law's step: one call of both. -/
namespace Go.Proofs.Ytajfjgekcjkedaa
open Go.RowKit
open Go.Lib (hid)
set_option linter.unusedVariables false

/-- both, side by side -/
structure Both (w : World) (s : Nat) (F : Nat → Prop) (at_ : Option Addr) (ct : Nat) (ag : Option Addr) (cg : Nat) (X : StX) : Prop where
  st : StallIs w s F X
  rx : RefX w at_ ct ag cg X
  fl : ∀ k, F k → k < w.heap.size
  low : Low at_ ag w.heap.size
  far : ∀ k, (aB at_ k ∨ aB ag k) → ¬ F k
def StepPost (w : World) (s : Nat) (F : Nat → Prop) (at_ ag : Option Addr) (X' : StX) (e : Ending) (w' : World) : Prop :=
  ∃ F' at' ct' ag' cg', e = .returned (.tuple #[.agg #[.slice at' X'.tills.length ct', .slice ag' X'.goods.length cg'], .bool true]) ∧ Both w' s F' at' ct' ag' cg' X' ∧ Upd F w w' ∧ (∀ k, F' k → F k ∨ w.heap.size ≤ k) ∧ (∀ k, (aB at' k ∨ aB ag' k) → (aB at_ k ∨ aB ag k) ∨ w.heap.size ≤ k)
theorem RefX.upd {S : Nat → Prop} {w w' : World} {at_ ag : Option Addr} {ct cg : Nat} {X : StX} (h : RefX w at_ ct ag cg X) (hu : Upd S w w') (hS : ∀ k, (aB at_ k ∨ aB ag k) → ¬ S k) : RefX w' at_ ct ag cg X :=
  ⟨h.t.upd hu (fun k hk => hS k (.inl (aB_own hk))), h.g.upd hu (fun k hk => hS k (.inr (aB_own hk))), h.lt, h.lg⟩
theorem Both.fin {w wB w9 : World} {s b4 : Nat} {F G : Nat → Prop} {at_ ag at' ag' : Option Addr} {ct cg ct' cg' : Nat} {X X' : StX} (hB : Both w s F at_ ct ag cg X)
    (hr : RefX wB at' ct' ag' cg' X') (hs : StallIs wB s G X') (hG : ∀ k, G k → F k ∨ w.heap.size ≤ k)
    (hfar : ∀ k, (aB at' k ∨ aB ag' k) → ¬ G k ∧ k < wB.heap.size ∧ ((aB at_ k ∨ aB ag k) ∨ w.heap.size ≤ k))
    (hu : Upd F w wB) (h4 : w.heap.size ≤ b4) (hG4 : ¬ G b4) (hr4 : ∀ k, (aB at' k ∨ aB ag' k) → k ≠ b4) (hu9 : Upd (fun k => k = b4) wB w9) :
    StepPost w s F at_ ag X' (.returned (.tuple #[.agg #[.slice at' X'.tills.length ct', .slice ag' X'.goods.length cg'], .bool true])) w9 := by
  have hz := hu9.size
  refine ⟨fun k => G k ∧ k < w9.heap.size, at', ct', ag', cg', rfl, ⟨?_, ?_, fun k hk => hk.2, fun k hk => ?_, fun k hk q => (hfar k hk).1 q.1⟩, ?_, fun k hk => hG k hk.1, fun k hk => (hfar k hk).2.2⟩
  · exact (hs.upd hu9 (fun k q hk => by subst q; exact hG4 hk)).weaken (fun k q q2 => ⟨q, q2⟩)
  · exact hr.upd hu9 (fun k hk q => hr4 k hk q)
  · have := (hfar k hk).2.1; omega
  · exact hu.trans hu9 (fun k hk q => by omega)
set_option maxRecDepth 100000 in
set_option maxHeartbeats 4000000 in
theorem law23_step1 {s : Nat} {F : Nat → Prop} {at_ ag : Option Addr} {ct cg : Nat} {X : StX} (w : World) (h : Both w s F at_ ct ag cg X) (hnt : X.tills.length < 100000) (hng : X.goods.length < 100000) (kd oh ot op : Int) (hoh : oh ≤ 9223372036854775807) (hot : ot ≤ 9223372036854775807) (hkd : kd = 1) :
    Calls Try.prog 23 #[.pointer (some ⟨s, 0, none⟩), .agg #[.slice at_ X.tills.length ct, .slice ag X.goods.length cg], .agg #[.int .i64 kd, .int .i64 oh, .int .i64 ot, .int .i64 op]] w (StepPost w s F at_ ag ((openX X oh).1)) := by
  have HBT := hid h
  have HI := hid h.st.inv
  clear h
  subst hkd
  obtain ⟨X', hX'⟩ : ∃ X', (openX X oh).1 = X' := ⟨_, rfl⟩
  obtain ⟨E, hE⟩ : ∃ E, (openX X oh).2 = E := ⟨_, rfl⟩
  rw [hX']
  have HXN := hid hX'
  have HEN := hid hE
  clear hX' hE
  go_enter Try.func23, Try.ntmps23
  go_upto_region 1 with fail
  generalize hw2 : World.alloc (World.alloc (World.alloc w _) _) _ = w2
  obtain ⟨bs, hbs⟩ : ∃ b, b = w.heap.size := ⟨_, rfl⟩
  obtain ⟨bo, hbo⟩ : ∃ b, b = w.heap.size + 1 := ⟨_, rfl⟩
  obtain ⟨b4, hb4⟩ : ∃ b, b = w.heap.size + 1 + 1 := ⟨_, rfl⟩
  have hz1 : (World.alloc w (.cells #[.slice at_ X.tills.length ct, .slice ag X.goods.length cg] 46)).heap.size = w.heap.size + 1 := by simp
  have hz2 : (World.alloc (World.alloc w (.cells #[.slice at_ X.tills.length ct, .slice ag X.goods.length cg] 46)) (.cells #[.int .i64 1, .int .i64 oh, .int .i64 ot, .int .i64 op] 27)).heap.size = w.heap.size + 1 + 1 := by simp
  try rw [hz2]
  try rw [hz1]
  try rw [← hb4]
  try rw [← hbo]
  try rw [← hbs]
  have hb2 : Below w.heap.size w w2 := by rw [← hw2]; exact Below.next (Below.next (Below.new _ _) (Below.new _ _)) (Below.new _ _)
  have HK : Hid (Blk w2 bs #[.slice at_ X.tills.length ct, .slice ag X.goods.length cg]) := hid (by rw [← hw2, hbs]; exact ((Blk.new w _ _).below (Below.new _ _)).below (Below.new _ _))
  have HO : Hid (Blk w2 bo #[.int .i64 1, .int .i64 oh, .int .i64 ot, .int .i64 op]) := hid (by rw [← hw2, hbo, ← hz1]; exact (Blk.new _ _ _).below (Below.new _ _))
  have HK4 : Hid (Blk w2 b4 #[.slice none 0 0, .slice none 0 0]) := hid (by rw [← hw2, hb4, ← hz2]; exact Blk.new _ _ _)
  have HX2 := hid (HBT.out.rx.below hb2)
  have H2 := hid (HBT.out.st.below hb2)
  have HB2 := hid hb2
  have HB4 : Hid (bs = w.heap.size ∧ bo = w.heap.size + 1 ∧ b4 = w.heap.size + 2 ∧ b4 < w2.heap.size) := hid (by have := HK4.out.lt; omega)
  clear hw2 hbs hbo hb4 hz1 hz2 hb2
  have o0 : w2.cell? ⟨bo, 0, none⟩ = some (.int .i64 1) := by rw [HO.out.cell]; rfl
  have o1 : w2.cell? ⟨bo, 1, none⟩ = some (.int .i64 oh) := by rw [HO.out.cell]; rfl
  have o2 : w2.cell? ⟨bo, 2, none⟩ = some (.int .i64 ot) := by rw [HO.out.cell]; rfl
  have o3 : w2.cell? ⟨bo, 3, none⟩ = some (.int .i64 op) := by rw [HO.out.cell]; rfl
  have c0 : w2.cell? ⟨bs, 0, none⟩ = some (.slice at_ X.tills.length ct) := by rw [HK.out.cell]; rfl
  have c1 : w2.cell? ⟨bs, 1, none⟩ = some (.slice ag X.goods.length cg) := by rw [HK.out.cell]; rfl
  go_wp2_with fail
  have hq := ref23_Open w2 HX2.out (fun k hk => by have := HBT.out.low k hk; have := HB2.out.size; omega) HI.out.t1 hnt oh
  rw [HXN.out, HEN.out] at hq
  refine hq.mono ?_
  rintro e w3 ⟨at', ct', ag', cg', rfl, hr3, hb3, hlow3⟩
  clear hq
  have HR3 := hid hr3
  have HL3 := hid hlow3
  have HO3 := hid (HO.out.below hb3)
  have HK43 := hid (HK4.out.below hb3)
  have H3 := hid (H2.out.below hb3)
  have HB3 := hid (Below.next HB2.out hb3)
  clear hr3 hb3 hlow3 c0 c1 o0 o1 o2 o3
  go_upto_region 4 with fail
  obtain ⟨w5, hw5⟩ : ∃ w5, w5 = w3.alloc (.cells #[.slice at' X'.tills.length ct', .slice ag' X'.goods.length cg'] 46) := ⟨_, rfl⟩
  rw [← hw5]
  obtain ⟨bx, hbx⟩ : ∃ b, b = w3.heap.size := ⟨_, rfl⟩
  rw [← hbx]
  have hb5 : Below w3.heap.size w3 w5 := by rw [hw5]; exact Below.new _ _
  have HX5 := hid (show Blk w5 bx #[.slice at' X'.tills.length ct', .slice ag' X'.goods.length cg'] by rw [hw5, hbx]; exact Blk.new w3 _ _)
  have HO5 := hid (HO3.out.below hb5)
  have HK45 := hid (HK43.out.below hb5)
  have H5 := hid (H3.out.below hb5)
  have HR5 := hid (HR3.out.below hb5)
  have HB5 := hid (Below.next HB3.out hb5)
  have HZ5 := hid hb5.size
  have HZ3 := hid HB3.out.size
  have hyb := (Below.refl w5.heap.size w5).drew
  have HBX : Hid (bx = w3.heap.size) := hid hbx
  clear hw5 hbx hb5
  have hyd : Upd (fun k => F k ∨ k = b4) w5 w5.drew := Upd.of_below hyb
  have HFL : Hid (∀ k, F k → k < w.heap.size) := hid HBT.out.fl
  have e0 : ∀ y, Upd (fun k => F k ∨ k = b4) w5 y → y.cell? ⟨bx, 0, none⟩ = some (.slice at' X'.tills.length ct') := fun y hy => by rw [(HX5.out.upd hy (fun q => by rcases q with q | q <;> first | (have := HFL.out _ q; have := HBX.out; have := HZ3.out; omega) | (have := HBX.out; have := HK43.out.lt; omega))).cell]; rfl
  have e1 : ∀ y, Upd (fun k => F k ∨ k = b4) w5 y → y.cell? ⟨bx, 1, none⟩ = some (.slice ag' X'.goods.length cg') := fun y hy => by rw [(HX5.out.upd hy (fun q => by rcases q with q | q <;> first | (have := HFL.out _ q; have := HBX.out; have := HZ3.out; omega) | (have := HBX.out; have := HK43.out.lt; omega))).cell]; rfl
  have e2 : ∀ y, Upd (fun k => F k ∨ k = b4) w5 y → y.cell? ⟨bo, 1, none⟩ = some (.int .i64 oh) := fun y hy => by rw [(HO5.out.upd hy (fun q => by rcases q with q | q <;> first | (have := HFL.out _ q; have := HB4.out; omega) | (have := HB4.out; omega))).cell]; rfl
  have e3 : ∀ y, Upd (fun k => F k ∨ k = b4) w5 y → y.cell? ⟨bo, 2, none⟩ = some (.int .i64 ot) := fun y hy => by rw [(HO5.out.upd hy (fun q => by rcases q with q | q <;> first | (have := HFL.out _ q; have := HB4.out; omega) | (have := HB4.out; omega))).cell]; rfl
  have e4 : ∀ y, Upd (fun k => F k ∨ k = b4) w5 y → y.cell? ⟨bo, 3, none⟩ = some (.int .i64 op) := fun y hy => by rw [(HO5.out.upd hy (fun q => by rcases q with q | q <;> first | (have := HFL.out _ q; have := HB4.out; omega) | (have := HB4.out; omega))).cell]; rfl
  refine wp_region_kept [8] (fun y => Upd (fun k => F k ∨ k = b4) w5 y) (by kernel_rfl) (by assumption) (fun hH => ?_)
  refine wpK.take (i := 0) (v := _) (by simp only [List.getElem?_toArray, List.getElem?_cons_succ, List.getElem?_cons_zero]; rfl) (by kernel_rfl) (by kernel_rfl) (by kernel_rfl) (by kernel_rfl) (by kernel_rfl) (by exact fun _ _ _ h => h) (by first | exact Or.inl ⟨by rfl, by intro w hSw; go_simp; try with_reducible rfl⟩ | exact Or.inr ⟨by rfl, rfl⟩) hH ?_
  try simp only [Act.put, List.setIfInBounds_toArray, List.set_cons_zero, List.set_cons_succ]
  refine wpK.take (i := 1) (v := _) (by simp only [List.getElem?_toArray, List.getElem?_cons_succ, List.getElem?_cons_zero]; rfl) (by kernel_rfl) (by kernel_rfl) (by kernel_rfl) (by kernel_rfl) (by kernel_rfl) (by exact fun _ _ _ h => h) (by first | exact Or.inl ⟨by rfl, by intro w hSw; go_simp; try with_reducible rfl⟩ | exact Or.inr ⟨by rfl, rfl⟩) hH ?_
  try simp only [Act.put, List.setIfInBounds_toArray, List.set_cons_zero, List.set_cons_succ]
  refine wpK.take (i := 2) (v := _) (by simp only [List.getElem?_toArray, List.getElem?_cons_succ, List.getElem?_cons_zero]; rfl) (by kernel_rfl) (by kernel_rfl) (by kernel_rfl) (by kernel_rfl) (by kernel_rfl) (by exact fun _ _ _ h => h) (by first | exact Or.inl ⟨by rfl, by intro w hSw; go_simp; try with_reducible rfl⟩ | exact Or.inr ⟨by rfl, rfl⟩) hH ?_
  try simp only [Act.put, List.setIfInBounds_toArray, List.set_cons_zero, List.set_cons_succ]
  refine wpK.take (i := 3) (v := _) (by simp only [List.getElem?_toArray, List.getElem?_cons_succ, List.getElem?_cons_zero]; rfl) (by kernel_rfl) (by kernel_rfl) (by kernel_rfl) (by kernel_rfl) (by kernel_rfl) (by exact fun _ _ _ h => h) (by first | exact Or.inl ⟨by rfl, by intro w hSw; go_simp; try with_reducible rfl⟩ | exact Or.inr ⟨by rfl, rfl⟩) hH ?_
  try simp only [Act.put, List.setIfInBounds_toArray, List.set_cons_zero, List.set_cons_succ]
  refine wpK.take (i := 5) (v := _) (by simp only [List.getElem?_toArray, List.getElem?_cons_succ, List.getElem?_cons_zero]; rfl) (by kernel_rfl) (by kernel_rfl) (by kernel_rfl) (by kernel_rfl) (by kernel_rfl) (by exact fun _ _ _ h => h) (by first | exact Or.inl ⟨by rfl, by intro w hSw; go_simp; try with_reducible rfl⟩ | exact Or.inr ⟨by rfl, rfl⟩) hH ?_
  try simp only [Act.put, List.setIfInBounds_toArray, List.set_cons_zero, List.set_cons_succ]
  refine wpK.step (i := 4) (by kernel_rfl) (by simp only [List.getElem?_toArray, List.getElem?_cons_succ, List.getElem?_cons_zero]; rfl) (fun K hK => ?_)
  go_simp
  (have hq := stall_Open w5.drew (H5.out.below hyb) oh hoh); (rw [HXN.out, HEN.out] at hq); (refine hq.mono ?_); rintro e wB ⟨rfl, hsB, huB⟩; (have hkF : Upd F w5 wB := (Upd.of_below hyb).trans huB (fun _ _ q => q)); (have hkB : Upd (fun k => F k ∨ k = b4) w5 wB := hkF.mono (fun _ _ q => .inl q)); (have HK4B := hid (HK45.out.upd hkF (fun q => by have := HFL.out _ q; have := HB4.out; omega))); (have hk9 : Upd (fun k => F k ∨ k = b4) w5 ((wB.setCell ⟨b4, 0, none⟩ (.slice at' X'.tills.length ct')).setCell ⟨b4, 1, none⟩ (.slice ag' X'.goods.length cg')) := (hkB.trans (Upd.setCell wB b4 0 _) (fun _ _ q => .inr q)).trans (Upd.setCell _ b4 1 _) (fun _ _ q => .inr q)); (have q0 : wB.cell? ⟨b4, 0, none⟩ = some (.slice none 0 0) := by rw [HK4B.out.cell]; rfl); (have q1 : wB.cell? ⟨b4, 1, none⟩ = some (.slice none 0 0) := by rw [HK4B.out.cell]; rfl); (have f0 : wB.frozen? ⟨b4, 0, none⟩ = false := HK4B.out.unfrozen 0); (have f1 : wB.frozen? ⟨b4, 1, none⟩ = false := HK4B.out.unfrozen 1); go_simp
  refine hK.out _ _ (by assumption) (fun hH => ?_)
  clear hK K
  try simp only [Act.put, List.setIfInBounds_toArray, List.set_cons_zero, List.set_cons_succ]
  refine wpK.take (i := 6) (v := _) (by simp only [List.getElem?_toArray, List.getElem?_cons_succ, List.getElem?_cons_zero]; rfl) (by kernel_rfl) (by kernel_rfl) (by kernel_rfl) (by kernel_rfl) (by kernel_rfl) (by exact fun _ _ _ h => h) (by first | exact Or.inl ⟨by rfl, by intro w hSw; go_simp; try with_reducible rfl⟩ | exact Or.inr ⟨by rfl, rfl⟩) hH ?_
  try simp only [Act.put, List.setIfInBounds_toArray, List.set_cons_zero, List.set_cons_succ]
  refine wpK.step (i := 7) (by kernel_rfl) (by simp only [List.getElem?_toArray, List.getElem?_cons_succ, List.getElem?_cons_zero]; rfl) (fun K hK => ?_)
  go_simp
  refine hK.out _ _ (by assumption) (fun hH => ?_)
  clear hK K
  try simp only [Act.put, List.setIfInBounds_toArray, List.set_cons_zero, List.set_cons_succ]
  refine wpK.late (i := 8) (by kernel_rfl) (by simp only [List.getElem?_toArray, List.getElem?_cons_succ, List.getElem?_cons_zero]; rfl) (by kernel_rfl) (fun K hK => ?_)
  go_simp
  refine hK.out _ _ ?_
  clear hK K
  try simp only [Act.put, List.setIfInBounds_toArray, List.set_cons_zero, List.set_cons_succ]
  refine wpK.done (by kernel_rfl) ?_ _
  have HS9 := hid hsB
  have HUB := hid hkF
  clear e0 e1 e2 e3 e4 hyd hyb hsB huB hkB hkF hk9 hq q0 q1 f0 f1
  have HK5 : Hid (Blk ((wB.setCell ⟨b4, 0, none⟩ (.slice at' X'.tills.length ct')).setCell ⟨b4, 1, none⟩ (.slice ag' X'.goods.length cg')) b4 #[.slice at' X'.tills.length ct', .slice ag' X'.goods.length cg']) := hid (by simpa using (HK4B.out.set 0 (.slice at' X'.tills.length ct')).set 1 (.slice ag' X'.goods.length cg'))
  have HU9 := hid ((Upd.setCell wB b4 0 (.slice at' X'.tills.length ct')).trans (Upd.setCell _ b4 1 (.slice ag' X'.goods.length cg')) (fun _ _ q => q))
  generalize World.setCell (World.setCell wB _ _) _ _ = w9 at HK5 HU9
  have k0 : w9.cell? ⟨b4, 0, none⟩ = some (.slice at' X'.tills.length ct') := by rw [HK5.out.cell]; rfl
  have k1 : w9.cell? ⟨b4, 1, none⟩ = some (.slice ag' X'.goods.length cg') := by rw [HK5.out.cell]; rfl
  go_wp2_with fail
  refine bodyPost_ret (res_cell_tmp rfl _ _ _ rfl (by go_simp; rfl)) rfl ?_
  have hFar : ∀ k, (aB at' k ∨ aB ag' k) → ¬ F k := fun k hk q => by
    rcases (HL3.out k hk).2 with q2 | q2
    · exact HBT.out.far k q2 q
    · have := HFL.out k q; have := HB2.out.size; omega
  have hz5 : w5.drew.heap.size = w5.heap.size := rfl
  have hUw : Upd F w wB := (Upd.of_below HB5.out).trans HUB.out (fun _ _ q => q)
  have a1 := HZ5.out
  have a3 := HZ3.out
  have a2 := HB2.out.size
  have a4 := HB4.out
  have a5 := HUB.out.size
  refine HBT.out.fin (HR5.out.upd HUB.out hFar) HS9.out (fun k hk => ?_) (fun k hk => ?_) hUw (b4 := b4) (by omega) ?_ (fun k hk q => ?_) HU9.out
  · rcases hk with hk | hk
    · exact .inl hk
    · right; rw [hz5] at hk; omega
  · have h3 := HL3.out k hk
    refine ⟨fun q => ?_, by omega, h3.2.imp id (fun q => by omega)⟩
    rcases q with q | q
    · exact hFar k hk q
    · rw [hz5] at q; omega
  · rintro (q | q)
    · have := HFL.out _ q; omega
    · rw [hz5] at q; have := HK45.out.lt; omega
  · rcases (HL3.out k hk).2 with q2 | q2
    · have := HBT.out.low k q2; omega
    · omega
set_option maxRecDepth 100000 in
set_option maxHeartbeats 4000000 in
theorem law23_step2 {s : Nat} {F : Nat → Prop} {at_ ag : Option Addr} {ct cg : Nat} {X : StX} (w : World) (h : Both w s F at_ ct ag cg X) (hnt : X.tills.length < 100000) (hng : X.goods.length < 100000) (kd oh ot op : Int) (hoh : oh ≤ 9223372036854775807) (hot : ot ≤ 9223372036854775807) (hkd : kd = 2) :
    Calls Try.prog 23 #[.pointer (some ⟨s, 0, none⟩), .agg #[.slice at_ X.tills.length ct, .slice ag X.goods.length cg], .agg #[.int .i64 kd, .int .i64 oh, .int .i64 ot, .int .i64 op]] w (StepPost w s F at_ ag (putX X oh ot op)) := by
  have HBT := hid h
  have HI := hid h.st.inv
  clear h
  subst hkd
  obtain ⟨X', hX'⟩ : ∃ X', putX X oh ot op = X' := ⟨_, rfl⟩
  obtain ⟨E, hE⟩ : ∃ E, putE X oh ot op = E := ⟨_, rfl⟩
  rw [hX']
  have HXN := hid hX'
  have HEN := hid hE
  clear hX' hE
  go_enter Try.func23, Try.ntmps23
  go_upto_region 1 with fail
  generalize hw2 : World.alloc (World.alloc (World.alloc w _) _) _ = w2
  obtain ⟨bs, hbs⟩ : ∃ b, b = w.heap.size := ⟨_, rfl⟩
  obtain ⟨bo, hbo⟩ : ∃ b, b = w.heap.size + 1 := ⟨_, rfl⟩
  obtain ⟨b4, hb4⟩ : ∃ b, b = w.heap.size + 1 + 1 := ⟨_, rfl⟩
  have hz1 : (World.alloc w (.cells #[.slice at_ X.tills.length ct, .slice ag X.goods.length cg] 46)).heap.size = w.heap.size + 1 := by simp
  have hz2 : (World.alloc (World.alloc w (.cells #[.slice at_ X.tills.length ct, .slice ag X.goods.length cg] 46)) (.cells #[.int .i64 2, .int .i64 oh, .int .i64 ot, .int .i64 op] 27)).heap.size = w.heap.size + 1 + 1 := by simp
  try rw [hz2]
  try rw [hz1]
  try rw [← hb4]
  try rw [← hbo]
  try rw [← hbs]
  have hb2 : Below w.heap.size w w2 := by rw [← hw2]; exact Below.next (Below.next (Below.new _ _) (Below.new _ _)) (Below.new _ _)
  have HK : Hid (Blk w2 bs #[.slice at_ X.tills.length ct, .slice ag X.goods.length cg]) := hid (by rw [← hw2, hbs]; exact ((Blk.new w _ _).below (Below.new _ _)).below (Below.new _ _))
  have HO : Hid (Blk w2 bo #[.int .i64 2, .int .i64 oh, .int .i64 ot, .int .i64 op]) := hid (by rw [← hw2, hbo, ← hz1]; exact (Blk.new _ _ _).below (Below.new _ _))
  have HK4 : Hid (Blk w2 b4 #[.slice none 0 0, .slice none 0 0]) := hid (by rw [← hw2, hb4, ← hz2]; exact Blk.new _ _ _)
  have HX2 := hid (HBT.out.rx.below hb2)
  have H2 := hid (HBT.out.st.below hb2)
  have HB2 := hid hb2
  have HB4 : Hid (bs = w.heap.size ∧ bo = w.heap.size + 1 ∧ b4 = w.heap.size + 2 ∧ b4 < w2.heap.size) := hid (by have := HK4.out.lt; omega)
  clear hw2 hbs hbo hb4 hz1 hz2 hb2
  have o0 : w2.cell? ⟨bo, 0, none⟩ = some (.int .i64 2) := by rw [HO.out.cell]; rfl
  have o1 : w2.cell? ⟨bo, 1, none⟩ = some (.int .i64 oh) := by rw [HO.out.cell]; rfl
  have o2 : w2.cell? ⟨bo, 2, none⟩ = some (.int .i64 ot) := by rw [HO.out.cell]; rfl
  have o3 : w2.cell? ⟨bo, 3, none⟩ = some (.int .i64 op) := by rw [HO.out.cell]; rfl
  have c0 : w2.cell? ⟨bs, 0, none⟩ = some (.slice at_ X.tills.length ct) := by rw [HK.out.cell]; rfl
  have c1 : w2.cell? ⟨bs, 1, none⟩ = some (.slice ag X.goods.length cg) := by rw [HK.out.cell]; rfl
  go_wp2_with fail
  have hq := ref23_Put w2 HX2.out (fun k hk => by have := HBT.out.low k hk; have := HB2.out.size; omega) HI.out.g1 hng oh ot op
  rw [HXN.out, HEN.out] at hq
  refine hq.mono ?_
  rintro e w3 ⟨at', ct', ag', cg', rfl, hr3, hb3, hlow3⟩
  clear hq
  have HR3 := hid hr3
  have HL3 := hid hlow3
  have HO3 := hid (HO.out.below hb3)
  have HK43 := hid (HK4.out.below hb3)
  have H3 := hid (H2.out.below hb3)
  have HB3 := hid (Below.next HB2.out hb3)
  clear hr3 hb3 hlow3 c0 c1 o0 o1 o2 o3
  go_upto_region 7 with fail
  obtain ⟨w5, hw5⟩ : ∃ w5, w5 = w3.alloc (.cells #[.slice at' X'.tills.length ct', .slice ag' X'.goods.length cg'] 46) := ⟨_, rfl⟩
  rw [← hw5]
  obtain ⟨bx, hbx⟩ : ∃ b, b = w3.heap.size := ⟨_, rfl⟩
  rw [← hbx]
  have hb5 : Below w3.heap.size w3 w5 := by rw [hw5]; exact Below.new _ _
  have HX5 := hid (show Blk w5 bx #[.slice at' X'.tills.length ct', .slice ag' X'.goods.length cg'] by rw [hw5, hbx]; exact Blk.new w3 _ _)
  have HO5 := hid (HO3.out.below hb5)
  have HK45 := hid (HK43.out.below hb5)
  have H5 := hid (H3.out.below hb5)
  have HR5 := hid (HR3.out.below hb5)
  have HB5 := hid (Below.next HB3.out hb5)
  have HZ5 := hid hb5.size
  have HZ3 := hid HB3.out.size
  have hyb := (Below.refl w5.heap.size w5).drew
  have HBX : Hid (bx = w3.heap.size) := hid hbx
  clear hw5 hbx hb5
  have hyd : Upd (fun k => F k ∨ k = b4) w5 w5.drew := Upd.of_below hyb
  have HFL : Hid (∀ k, F k → k < w.heap.size) := hid HBT.out.fl
  have e0 : ∀ y, Upd (fun k => F k ∨ k = b4) w5 y → y.cell? ⟨bx, 0, none⟩ = some (.slice at' X'.tills.length ct') := fun y hy => by rw [(HX5.out.upd hy (fun q => by rcases q with q | q <;> first | (have := HFL.out _ q; have := HBX.out; have := HZ3.out; omega) | (have := HBX.out; have := HK43.out.lt; omega))).cell]; rfl
  have e1 : ∀ y, Upd (fun k => F k ∨ k = b4) w5 y → y.cell? ⟨bx, 1, none⟩ = some (.slice ag' X'.goods.length cg') := fun y hy => by rw [(HX5.out.upd hy (fun q => by rcases q with q | q <;> first | (have := HFL.out _ q; have := HBX.out; have := HZ3.out; omega) | (have := HBX.out; have := HK43.out.lt; omega))).cell]; rfl
  have e2 : ∀ y, Upd (fun k => F k ∨ k = b4) w5 y → y.cell? ⟨bo, 1, none⟩ = some (.int .i64 oh) := fun y hy => by rw [(HO5.out.upd hy (fun q => by rcases q with q | q <;> first | (have := HFL.out _ q; have := HB4.out; omega) | (have := HB4.out; omega))).cell]; rfl
  have e3 : ∀ y, Upd (fun k => F k ∨ k = b4) w5 y → y.cell? ⟨bo, 2, none⟩ = some (.int .i64 ot) := fun y hy => by rw [(HO5.out.upd hy (fun q => by rcases q with q | q <;> first | (have := HFL.out _ q; have := HB4.out; omega) | (have := HB4.out; omega))).cell]; rfl
  have e4 : ∀ y, Upd (fun k => F k ∨ k = b4) w5 y → y.cell? ⟨bo, 3, none⟩ = some (.int .i64 op) := fun y hy => by rw [(HO5.out.upd hy (fun q => by rcases q with q | q <;> first | (have := HFL.out _ q; have := HB4.out; omega) | (have := HB4.out; omega))).cell]; rfl
  refine wp_region_kept [12] (fun y => Upd (fun k => F k ∨ k = b4) w5 y) (by kernel_rfl) (by assumption) (fun hH => ?_)
  refine wpK.take (i := 0) (v := _) (by simp only [List.getElem?_toArray, List.getElem?_cons_succ, List.getElem?_cons_zero]; rfl) (by kernel_rfl) (by kernel_rfl) (by kernel_rfl) (by kernel_rfl) (by kernel_rfl) (by exact fun _ _ _ h => h) (by first | exact Or.inl ⟨by rfl, by intro w hSw; go_simp; try with_reducible rfl⟩ | exact Or.inr ⟨by rfl, rfl⟩) hH ?_
  try simp only [Act.put, List.setIfInBounds_toArray, List.set_cons_zero, List.set_cons_succ]
  refine wpK.take (i := 1) (v := _) (by simp only [List.getElem?_toArray, List.getElem?_cons_succ, List.getElem?_cons_zero]; rfl) (by kernel_rfl) (by kernel_rfl) (by kernel_rfl) (by kernel_rfl) (by kernel_rfl) (by exact fun _ _ _ h => h) (by first | exact Or.inl ⟨by rfl, by intro w hSw; go_simp; try with_reducible rfl⟩ | exact Or.inr ⟨by rfl, rfl⟩) hH ?_
  try simp only [Act.put, List.setIfInBounds_toArray, List.set_cons_zero, List.set_cons_succ]
  refine wpK.take (i := 2) (v := _) (by simp only [List.getElem?_toArray, List.getElem?_cons_succ, List.getElem?_cons_zero]; rfl) (by kernel_rfl) (by kernel_rfl) (by kernel_rfl) (by kernel_rfl) (by kernel_rfl) (by exact fun _ _ _ h => h) (by first | exact Or.inl ⟨by rfl, by intro w hSw; go_simp; try with_reducible rfl⟩ | exact Or.inr ⟨by rfl, rfl⟩) hH ?_
  try simp only [Act.put, List.setIfInBounds_toArray, List.set_cons_zero, List.set_cons_succ]
  refine wpK.take (i := 3) (v := _) (by simp only [List.getElem?_toArray, List.getElem?_cons_succ, List.getElem?_cons_zero]; rfl) (by kernel_rfl) (by kernel_rfl) (by kernel_rfl) (by kernel_rfl) (by kernel_rfl) (by exact fun _ _ _ h => h) (by first | exact Or.inl ⟨by rfl, by intro w hSw; go_simp; try with_reducible rfl⟩ | exact Or.inr ⟨by rfl, rfl⟩) hH ?_
  try simp only [Act.put, List.setIfInBounds_toArray, List.set_cons_zero, List.set_cons_succ]
  refine wpK.take (i := 4) (v := _) (by simp only [List.getElem?_toArray, List.getElem?_cons_succ, List.getElem?_cons_zero]; rfl) (by kernel_rfl) (by kernel_rfl) (by kernel_rfl) (by kernel_rfl) (by kernel_rfl) (by exact fun _ _ _ h => h) (by first | exact Or.inl ⟨by rfl, by intro w hSw; go_simp; try with_reducible rfl⟩ | exact Or.inr ⟨by rfl, rfl⟩) hH ?_
  try simp only [Act.put, List.setIfInBounds_toArray, List.set_cons_zero, List.set_cons_succ]
  refine wpK.take (i := 5) (v := _) (by simp only [List.getElem?_toArray, List.getElem?_cons_succ, List.getElem?_cons_zero]; rfl) (by kernel_rfl) (by kernel_rfl) (by kernel_rfl) (by kernel_rfl) (by kernel_rfl) (by exact fun _ _ _ h => h) (by first | exact Or.inl ⟨by rfl, by intro w hSw; go_simp; try with_reducible rfl⟩ | exact Or.inr ⟨by rfl, rfl⟩) hH ?_
  try simp only [Act.put, List.setIfInBounds_toArray, List.set_cons_zero, List.set_cons_succ]
  refine wpK.take (i := 6) (v := _) (by simp only [List.getElem?_toArray, List.getElem?_cons_succ, List.getElem?_cons_zero]; rfl) (by kernel_rfl) (by kernel_rfl) (by kernel_rfl) (by kernel_rfl) (by kernel_rfl) (by exact fun _ _ _ h => h) (by first | exact Or.inl ⟨by rfl, by intro w hSw; go_simp; try with_reducible rfl⟩ | exact Or.inr ⟨by rfl, rfl⟩) hH ?_
  try simp only [Act.put, List.setIfInBounds_toArray, List.set_cons_zero, List.set_cons_succ]
  refine wpK.take (i := 7) (v := _) (by simp only [List.getElem?_toArray, List.getElem?_cons_succ, List.getElem?_cons_zero]; rfl) (by kernel_rfl) (by kernel_rfl) (by kernel_rfl) (by kernel_rfl) (by kernel_rfl) (by exact fun _ _ _ h => h) (by first | exact Or.inl ⟨by rfl, by intro w hSw; go_simp; try with_reducible rfl⟩ | exact Or.inr ⟨by rfl, rfl⟩) hH ?_
  try simp only [Act.put, List.setIfInBounds_toArray, List.set_cons_zero, List.set_cons_succ]
  refine wpK.take (i := 9) (v := _) (by simp only [List.getElem?_toArray, List.getElem?_cons_succ, List.getElem?_cons_zero]; rfl) (by kernel_rfl) (by kernel_rfl) (by kernel_rfl) (by kernel_rfl) (by kernel_rfl) (by exact fun _ _ _ h => h) (by first | exact Or.inl ⟨by rfl, by intro w hSw; go_simp; try with_reducible rfl⟩ | exact Or.inr ⟨by rfl, rfl⟩) hH ?_
  try simp only [Act.put, List.setIfInBounds_toArray, List.set_cons_zero, List.set_cons_succ]
  refine wpK.step (i := 8) (by kernel_rfl) (by simp only [List.getElem?_toArray, List.getElem?_cons_succ, List.getElem?_cons_zero]; rfl) (fun K hK => ?_)
  go_simp
  (have hq := stall_Put w5.drew (H5.out.below hyb) oh ot op hot); (rw [HXN.out, HEN.out] at hq); (refine hq.mono ?_); rintro e wB ⟨rfl, hsB, huB⟩; (have hkF : Upd F w5 wB := (Upd.of_below hyb).trans huB (fun _ _ q => q)); (have hkB : Upd (fun k => F k ∨ k = b4) w5 wB := hkF.mono (fun _ _ q => .inl q)); (have HK4B := hid (HK45.out.upd hkF (fun q => by have := HFL.out _ q; have := HB4.out; omega))); (have hk9 : Upd (fun k => F k ∨ k = b4) w5 ((wB.setCell ⟨b4, 0, none⟩ (.slice at' X'.tills.length ct')).setCell ⟨b4, 1, none⟩ (.slice ag' X'.goods.length cg')) := (hkB.trans (Upd.setCell wB b4 0 _) (fun _ _ q => .inr q)).trans (Upd.setCell _ b4 1 _) (fun _ _ q => .inr q)); (have q0 : wB.cell? ⟨b4, 0, none⟩ = some (.slice none 0 0) := by rw [HK4B.out.cell]; rfl); (have q1 : wB.cell? ⟨b4, 1, none⟩ = some (.slice none 0 0) := by rw [HK4B.out.cell]; rfl); (have f0 : wB.frozen? ⟨b4, 0, none⟩ = false := HK4B.out.unfrozen 0); (have f1 : wB.frozen? ⟨b4, 1, none⟩ = false := HK4B.out.unfrozen 1); go_simp
  refine hK.out _ _ (by assumption) (fun hH => ?_)
  clear hK K
  try simp only [Act.put, List.setIfInBounds_toArray, List.set_cons_zero, List.set_cons_succ]
  refine wpK.take (i := 10) (v := _) (by simp only [List.getElem?_toArray, List.getElem?_cons_succ, List.getElem?_cons_zero]; rfl) (by kernel_rfl) (by kernel_rfl) (by kernel_rfl) (by kernel_rfl) (by kernel_rfl) (by exact fun _ _ _ h => h) (by first | exact Or.inl ⟨by rfl, by intro w hSw; go_simp; try with_reducible rfl⟩ | exact Or.inr ⟨by rfl, rfl⟩) hH ?_
  try simp only [Act.put, List.setIfInBounds_toArray, List.set_cons_zero, List.set_cons_succ]
  refine wpK.step (i := 11) (by kernel_rfl) (by simp only [List.getElem?_toArray, List.getElem?_cons_succ, List.getElem?_cons_zero]; rfl) (fun K hK => ?_)
  go_simp
  refine hK.out _ _ (by assumption) (fun hH => ?_)
  clear hK K
  try simp only [Act.put, List.setIfInBounds_toArray, List.set_cons_zero, List.set_cons_succ]
  refine wpK.late (i := 12) (by kernel_rfl) (by simp only [List.getElem?_toArray, List.getElem?_cons_succ, List.getElem?_cons_zero]; rfl) (by kernel_rfl) (fun K hK => ?_)
  go_simp
  refine hK.out _ _ ?_
  clear hK K
  try simp only [Act.put, List.setIfInBounds_toArray, List.set_cons_zero, List.set_cons_succ]
  refine wpK.done (by kernel_rfl) ?_ _
  have HS9 := hid hsB
  have HUB := hid hkF
  clear e0 e1 e2 e3 e4 hyd hyb hsB huB hkB hkF hk9 hq q0 q1 f0 f1
  have HK5 : Hid (Blk ((wB.setCell ⟨b4, 0, none⟩ (.slice at' X'.tills.length ct')).setCell ⟨b4, 1, none⟩ (.slice ag' X'.goods.length cg')) b4 #[.slice at' X'.tills.length ct', .slice ag' X'.goods.length cg']) := hid (by simpa using (HK4B.out.set 0 (.slice at' X'.tills.length ct')).set 1 (.slice ag' X'.goods.length cg'))
  have HU9 := hid ((Upd.setCell wB b4 0 (.slice at' X'.tills.length ct')).trans (Upd.setCell _ b4 1 (.slice ag' X'.goods.length cg')) (fun _ _ q => q))
  generalize World.setCell (World.setCell wB _ _) _ _ = w9 at HK5 HU9
  have k0 : w9.cell? ⟨b4, 0, none⟩ = some (.slice at' X'.tills.length ct') := by rw [HK5.out.cell]; rfl
  have k1 : w9.cell? ⟨b4, 1, none⟩ = some (.slice ag' X'.goods.length cg') := by rw [HK5.out.cell]; rfl
  go_wp2_with fail
  refine bodyPost_ret (res_cell_tmp rfl _ _ _ rfl (by go_simp; rfl)) rfl ?_
  have hFar : ∀ k, (aB at' k ∨ aB ag' k) → ¬ F k := fun k hk q => by
    rcases (HL3.out k hk).2 with q2 | q2
    · exact HBT.out.far k q2 q
    · have := HFL.out k q; have := HB2.out.size; omega
  have hz5 : w5.drew.heap.size = w5.heap.size := rfl
  have hUw : Upd F w wB := (Upd.of_below HB5.out).trans HUB.out (fun _ _ q => q)
  have a1 := HZ5.out
  have a3 := HZ3.out
  have a2 := HB2.out.size
  have a4 := HB4.out
  have a5 := HUB.out.size
  refine HBT.out.fin (HR5.out.upd HUB.out hFar) HS9.out (fun k hk => ?_) (fun k hk => ?_) hUw (b4 := b4) (by omega) ?_ (fun k hk q => ?_) HU9.out
  · rcases hk with hk | hk
    · exact .inl hk
    · right; rw [hz5] at hk; omega
  · have h3 := HL3.out k hk
    refine ⟨fun q => ?_, by omega, h3.2.imp id (fun q => by omega)⟩
    rcases q with q | q
    · exact hFar k hk q
    · rw [hz5] at q; omega
  · rintro (q | q)
    · have := HFL.out _ q; omega
    · rw [hz5] at q; have := HK45.out.lt; omega
  · rcases (HL3.out k hk).2 with q2 | q2
    · have := HBT.out.low k q2; omega
    · omega
set_option maxRecDepth 100000 in
set_option maxHeartbeats 4000000 in
theorem law23_step3 {s : Nat} {F : Nat → Prop} {at_ ag : Option Addr} {ct cg : Nat} {X : StX} (w : World) (h : Both w s F at_ ct ag cg X) (hnt : X.tills.length < 100000) (hng : X.goods.length < 100000) (kd oh ot op : Int) (hoh : oh ≤ 9223372036854775807) (hot : ot ≤ 9223372036854775807) (hkd : kd = 3) :
    Calls Try.prog 23 #[.pointer (some ⟨s, 0, none⟩), .agg #[.slice at_ X.tills.length ct, .slice ag X.goods.length cg], .agg #[.int .i64 kd, .int .i64 oh, .int .i64 ot, .int .i64 op]] w (StepPost w s F at_ ag ((if takeE X ot = 0 then takeX X ot else X))) := by
  have HBT := hid h
  have HI := hid h.st.inv
  clear h
  subst hkd
  obtain ⟨X', hX'⟩ : ∃ X', (if takeE X ot = 0 then takeX X ot else X) = X' := ⟨_, rfl⟩
  obtain ⟨E, hE⟩ : ∃ E, takeE X ot = E := ⟨_, rfl⟩
  rw [hX']
  have HXN := hid hX'
  have HEN := hid hE
  clear hX' hE
  go_enter Try.func23, Try.ntmps23
  go_upto_region 1 with fail
  generalize hw2 : World.alloc (World.alloc (World.alloc w _) _) _ = w2
  obtain ⟨bs, hbs⟩ : ∃ b, b = w.heap.size := ⟨_, rfl⟩
  obtain ⟨bo, hbo⟩ : ∃ b, b = w.heap.size + 1 := ⟨_, rfl⟩
  obtain ⟨b4, hb4⟩ : ∃ b, b = w.heap.size + 1 + 1 := ⟨_, rfl⟩
  have hz1 : (World.alloc w (.cells #[.slice at_ X.tills.length ct, .slice ag X.goods.length cg] 46)).heap.size = w.heap.size + 1 := by simp
  have hz2 : (World.alloc (World.alloc w (.cells #[.slice at_ X.tills.length ct, .slice ag X.goods.length cg] 46)) (.cells #[.int .i64 3, .int .i64 oh, .int .i64 ot, .int .i64 op] 27)).heap.size = w.heap.size + 1 + 1 := by simp
  try rw [hz2]
  try rw [hz1]
  try rw [← hb4]
  try rw [← hbo]
  try rw [← hbs]
  have hb2 : Below w.heap.size w w2 := by rw [← hw2]; exact Below.next (Below.next (Below.new _ _) (Below.new _ _)) (Below.new _ _)
  have HK : Hid (Blk w2 bs #[.slice at_ X.tills.length ct, .slice ag X.goods.length cg]) := hid (by rw [← hw2, hbs]; exact ((Blk.new w _ _).below (Below.new _ _)).below (Below.new _ _))
  have HO : Hid (Blk w2 bo #[.int .i64 3, .int .i64 oh, .int .i64 ot, .int .i64 op]) := hid (by rw [← hw2, hbo, ← hz1]; exact (Blk.new _ _ _).below (Below.new _ _))
  have HK4 : Hid (Blk w2 b4 #[.slice none 0 0, .slice none 0 0]) := hid (by rw [← hw2, hb4, ← hz2]; exact Blk.new _ _ _)
  have HX2 := hid (HBT.out.rx.below hb2)
  have H2 := hid (HBT.out.st.below hb2)
  have HB2 := hid hb2
  have HB4 : Hid (bs = w.heap.size ∧ bo = w.heap.size + 1 ∧ b4 = w.heap.size + 2 ∧ b4 < w2.heap.size) := hid (by have := HK4.out.lt; omega)
  clear hw2 hbs hbo hb4 hz1 hz2 hb2
  have o0 : w2.cell? ⟨bo, 0, none⟩ = some (.int .i64 3) := by rw [HO.out.cell]; rfl
  have o1 : w2.cell? ⟨bo, 1, none⟩ = some (.int .i64 oh) := by rw [HO.out.cell]; rfl
  have o2 : w2.cell? ⟨bo, 2, none⟩ = some (.int .i64 ot) := by rw [HO.out.cell]; rfl
  have o3 : w2.cell? ⟨bo, 3, none⟩ = some (.int .i64 op) := by rw [HO.out.cell]; rfl
  have c0 : w2.cell? ⟨bs, 0, none⟩ = some (.slice at_ X.tills.length ct) := by rw [HK.out.cell]; rfl
  have c1 : w2.cell? ⟨bs, 1, none⟩ = some (.slice ag X.goods.length cg) := by rw [HK.out.cell]; rfl
  go_wp2_with fail
  have hq := ref23_Take w2 HX2.out (fun k hk => by have := HBT.out.low k hk; have := HB2.out.size; omega) HI.out ot
  rw [HXN.out, HEN.out] at hq
  refine hq.mono ?_
  rintro e w3 ⟨at', ct', ag', cg', rfl, hr3, hb3, hlow3⟩
  clear hq
  have HR3 := hid hr3
  have HL3 := hid hlow3
  have HO3 := hid (HO.out.below hb3)
  have HK43 := hid (HK4.out.below hb3)
  have H3 := hid (H2.out.below hb3)
  have HB3 := hid (Below.next HB2.out hb3)
  clear hr3 hb3 hlow3 c0 c1 o0 o1 o2 o3
  go_upto_region 10 with fail
  obtain ⟨w5, hw5⟩ : ∃ w5, w5 = w3.alloc (.cells #[.slice at' X'.tills.length ct', .slice ag' X'.goods.length cg'] 46) := ⟨_, rfl⟩
  rw [← hw5]
  obtain ⟨bx, hbx⟩ : ∃ b, b = w3.heap.size := ⟨_, rfl⟩
  rw [← hbx]
  have hb5 : Below w3.heap.size w3 w5 := by rw [hw5]; exact Below.new _ _
  have HX5 := hid (show Blk w5 bx #[.slice at' X'.tills.length ct', .slice ag' X'.goods.length cg'] by rw [hw5, hbx]; exact Blk.new w3 _ _)
  have HO5 := hid (HO3.out.below hb5)
  have HK45 := hid (HK43.out.below hb5)
  have H5 := hid (H3.out.below hb5)
  have HR5 := hid (HR3.out.below hb5)
  have HB5 := hid (Below.next HB3.out hb5)
  have HZ5 := hid hb5.size
  have HZ3 := hid HB3.out.size
  have hyb := (Below.refl w5.heap.size w5).drew
  have HBX : Hid (bx = w3.heap.size) := hid hbx
  clear hw5 hbx hb5
  have hyd : Upd (fun k => F k ∨ k = b4) w5 w5.drew := Upd.of_below hyb
  have HFL : Hid (∀ k, F k → k < w.heap.size) := hid HBT.out.fl
  have e0 : ∀ y, Upd (fun k => F k ∨ k = b4) w5 y → y.cell? ⟨bx, 0, none⟩ = some (.slice at' X'.tills.length ct') := fun y hy => by rw [(HX5.out.upd hy (fun q => by rcases q with q | q <;> first | (have := HFL.out _ q; have := HBX.out; have := HZ3.out; omega) | (have := HBX.out; have := HK43.out.lt; omega))).cell]; rfl
  have e1 : ∀ y, Upd (fun k => F k ∨ k = b4) w5 y → y.cell? ⟨bx, 1, none⟩ = some (.slice ag' X'.goods.length cg') := fun y hy => by rw [(HX5.out.upd hy (fun q => by rcases q with q | q <;> first | (have := HFL.out _ q; have := HBX.out; have := HZ3.out; omega) | (have := HBX.out; have := HK43.out.lt; omega))).cell]; rfl
  have e2 : ∀ y, Upd (fun k => F k ∨ k = b4) w5 y → y.cell? ⟨bo, 1, none⟩ = some (.int .i64 oh) := fun y hy => by rw [(HO5.out.upd hy (fun q => by rcases q with q | q <;> first | (have := HFL.out _ q; have := HB4.out; omega) | (have := HB4.out; omega))).cell]; rfl
  have e3 : ∀ y, Upd (fun k => F k ∨ k = b4) w5 y → y.cell? ⟨bo, 2, none⟩ = some (.int .i64 ot) := fun y hy => by rw [(HO5.out.upd hy (fun q => by rcases q with q | q <;> first | (have := HFL.out _ q; have := HB4.out; omega) | (have := HB4.out; omega))).cell]; rfl
  have e4 : ∀ y, Upd (fun k => F k ∨ k = b4) w5 y → y.cell? ⟨bo, 3, none⟩ = some (.int .i64 op) := fun y hy => by rw [(HO5.out.upd hy (fun q => by rcases q with q | q <;> first | (have := HFL.out _ q; have := HB4.out; omega) | (have := HB4.out; omega))).cell]; rfl
  refine wp_region_kept [8] (fun y => Upd (fun k => F k ∨ k = b4) w5 y) (by kernel_rfl) (by assumption) (fun hH => ?_)
  refine wpK.take (i := 0) (v := _) (by simp only [List.getElem?_toArray, List.getElem?_cons_succ, List.getElem?_cons_zero]; rfl) (by kernel_rfl) (by kernel_rfl) (by kernel_rfl) (by kernel_rfl) (by kernel_rfl) (by exact fun _ _ _ h => h) (by first | exact Or.inl ⟨by rfl, by intro w hSw; go_simp; try with_reducible rfl⟩ | exact Or.inr ⟨by rfl, rfl⟩) hH ?_
  try simp only [Act.put, List.setIfInBounds_toArray, List.set_cons_zero, List.set_cons_succ]
  refine wpK.take (i := 1) (v := _) (by simp only [List.getElem?_toArray, List.getElem?_cons_succ, List.getElem?_cons_zero]; rfl) (by kernel_rfl) (by kernel_rfl) (by kernel_rfl) (by kernel_rfl) (by kernel_rfl) (by exact fun _ _ _ h => h) (by first | exact Or.inl ⟨by rfl, by intro w hSw; go_simp; try with_reducible rfl⟩ | exact Or.inr ⟨by rfl, rfl⟩) hH ?_
  try simp only [Act.put, List.setIfInBounds_toArray, List.set_cons_zero, List.set_cons_succ]
  refine wpK.take (i := 2) (v := _) (by simp only [List.getElem?_toArray, List.getElem?_cons_succ, List.getElem?_cons_zero]; rfl) (by kernel_rfl) (by kernel_rfl) (by kernel_rfl) (by kernel_rfl) (by kernel_rfl) (by exact fun _ _ _ h => h) (by first | exact Or.inl ⟨by rfl, by intro w hSw; go_simp; try with_reducible rfl⟩ | exact Or.inr ⟨by rfl, rfl⟩) hH ?_
  try simp only [Act.put, List.setIfInBounds_toArray, List.set_cons_zero, List.set_cons_succ]
  refine wpK.take (i := 3) (v := _) (by simp only [List.getElem?_toArray, List.getElem?_cons_succ, List.getElem?_cons_zero]; rfl) (by kernel_rfl) (by kernel_rfl) (by kernel_rfl) (by kernel_rfl) (by kernel_rfl) (by exact fun _ _ _ h => h) (by first | exact Or.inl ⟨by rfl, by intro w hSw; go_simp; try with_reducible rfl⟩ | exact Or.inr ⟨by rfl, rfl⟩) hH ?_
  try simp only [Act.put, List.setIfInBounds_toArray, List.set_cons_zero, List.set_cons_succ]
  refine wpK.take (i := 5) (v := _) (by simp only [List.getElem?_toArray, List.getElem?_cons_succ, List.getElem?_cons_zero]; rfl) (by kernel_rfl) (by kernel_rfl) (by kernel_rfl) (by kernel_rfl) (by kernel_rfl) (by exact fun _ _ _ h => h) (by first | exact Or.inl ⟨by rfl, by intro w hSw; go_simp; try with_reducible rfl⟩ | exact Or.inr ⟨by rfl, rfl⟩) hH ?_
  try simp only [Act.put, List.setIfInBounds_toArray, List.set_cons_zero, List.set_cons_succ]
  refine wpK.step (i := 4) (by kernel_rfl) (by simp only [List.getElem?_toArray, List.getElem?_cons_succ, List.getElem?_cons_zero]; rfl) (fun K hK => ?_)
  go_simp
  (have hq := stall_Take w5.drew (H5.out.below hyb) ot); (rw [HXN.out, HEN.out] at hq); (refine hq.mono ?_); rintro e wB ⟨rfl, hsB, huB⟩; (have hkF : Upd F w5 wB := (Upd.of_below hyb).trans huB (fun _ _ q => q)); (have hkB : Upd (fun k => F k ∨ k = b4) w5 wB := hkF.mono (fun _ _ q => .inl q)); (have HK4B := hid (HK45.out.upd hkF (fun q => by have := HFL.out _ q; have := HB4.out; omega))); (have hk9 : Upd (fun k => F k ∨ k = b4) w5 ((wB.setCell ⟨b4, 0, none⟩ (.slice at' X'.tills.length ct')).setCell ⟨b4, 1, none⟩ (.slice ag' X'.goods.length cg')) := (hkB.trans (Upd.setCell wB b4 0 _) (fun _ _ q => .inr q)).trans (Upd.setCell _ b4 1 _) (fun _ _ q => .inr q)); (have q0 : wB.cell? ⟨b4, 0, none⟩ = some (.slice none 0 0) := by rw [HK4B.out.cell]; rfl); (have q1 : wB.cell? ⟨b4, 1, none⟩ = some (.slice none 0 0) := by rw [HK4B.out.cell]; rfl); (have f0 : wB.frozen? ⟨b4, 0, none⟩ = false := HK4B.out.unfrozen 0); (have f1 : wB.frozen? ⟨b4, 1, none⟩ = false := HK4B.out.unfrozen 1); go_simp
  refine hK.out _ _ (by assumption) (fun hH => ?_)
  clear hK K
  try simp only [Act.put, List.setIfInBounds_toArray, List.set_cons_zero, List.set_cons_succ]
  refine wpK.take (i := 6) (v := _) (by simp only [List.getElem?_toArray, List.getElem?_cons_succ, List.getElem?_cons_zero]; rfl) (by kernel_rfl) (by kernel_rfl) (by kernel_rfl) (by kernel_rfl) (by kernel_rfl) (by exact fun _ _ _ h => h) (by first | exact Or.inl ⟨by rfl, by intro w hSw; go_simp; try with_reducible rfl⟩ | exact Or.inr ⟨by rfl, rfl⟩) hH ?_
  try simp only [Act.put, List.setIfInBounds_toArray, List.set_cons_zero, List.set_cons_succ]
  refine wpK.step (i := 7) (by kernel_rfl) (by simp only [List.getElem?_toArray, List.getElem?_cons_succ, List.getElem?_cons_zero]; rfl) (fun K hK => ?_)
  go_simp
  refine hK.out _ _ (by assumption) (fun hH => ?_)
  clear hK K
  try simp only [Act.put, List.setIfInBounds_toArray, List.set_cons_zero, List.set_cons_succ]
  refine wpK.late (i := 8) (by kernel_rfl) (by simp only [List.getElem?_toArray, List.getElem?_cons_succ, List.getElem?_cons_zero]; rfl) (by kernel_rfl) (fun K hK => ?_)
  go_simp
  refine hK.out _ _ ?_
  clear hK K
  try simp only [Act.put, List.setIfInBounds_toArray, List.set_cons_zero, List.set_cons_succ]
  refine wpK.done (by kernel_rfl) ?_ _
  have HS9 := hid hsB
  have HUB := hid hkF
  clear e0 e1 e2 e3 e4 hyd hyb hsB huB hkB hkF hk9 hq q0 q1 f0 f1
  have HK5 : Hid (Blk ((wB.setCell ⟨b4, 0, none⟩ (.slice at' X'.tills.length ct')).setCell ⟨b4, 1, none⟩ (.slice ag' X'.goods.length cg')) b4 #[.slice at' X'.tills.length ct', .slice ag' X'.goods.length cg']) := hid (by simpa using (HK4B.out.set 0 (.slice at' X'.tills.length ct')).set 1 (.slice ag' X'.goods.length cg'))
  have HU9 := hid ((Upd.setCell wB b4 0 (.slice at' X'.tills.length ct')).trans (Upd.setCell _ b4 1 (.slice ag' X'.goods.length cg')) (fun _ _ q => q))
  generalize World.setCell (World.setCell wB _ _) _ _ = w9 at HK5 HU9
  have k0 : w9.cell? ⟨b4, 0, none⟩ = some (.slice at' X'.tills.length ct') := by rw [HK5.out.cell]; rfl
  have k1 : w9.cell? ⟨b4, 1, none⟩ = some (.slice ag' X'.goods.length cg') := by rw [HK5.out.cell]; rfl
  go_wp2_with fail
  refine bodyPost_ret (res_cell_tmp rfl _ _ _ rfl (by go_simp; rfl)) rfl ?_
  have hFar : ∀ k, (aB at' k ∨ aB ag' k) → ¬ F k := fun k hk q => by
    rcases (HL3.out k hk).2 with q2 | q2
    · exact HBT.out.far k q2 q
    · have := HFL.out k q; have := HB2.out.size; omega
  have hz5 : w5.drew.heap.size = w5.heap.size := rfl
  have hUw : Upd F w wB := (Upd.of_below HB5.out).trans HUB.out (fun _ _ q => q)
  have a1 := HZ5.out
  have a3 := HZ3.out
  have a2 := HB2.out.size
  have a4 := HB4.out
  have a5 := HUB.out.size
  refine HBT.out.fin (HR5.out.upd HUB.out hFar) HS9.out (fun k hk => ?_) (fun k hk => ?_) hUw (b4 := b4) (by omega) ?_ (fun k hk q => ?_) HU9.out
  · rcases hk with hk | hk
    · exact .inl hk
    · right; rw [hz5] at hk; omega
  · have h3 := HL3.out k hk
    refine ⟨fun q => ?_, by omega, h3.2.imp id (fun q => by omega)⟩
    rcases q with q | q
    · exact hFar k hk q
    · rw [hz5] at q; omega
  · rintro (q | q)
    · have := HFL.out _ q; omega
    · rw [hz5] at q; have := HK45.out.lt; omega
  · rcases (HL3.out k hk).2 with q2 | q2
    · have := HBT.out.low k q2; omega
    · omega
end Go.Proofs.Ytajfjgekcjkedaa
end
