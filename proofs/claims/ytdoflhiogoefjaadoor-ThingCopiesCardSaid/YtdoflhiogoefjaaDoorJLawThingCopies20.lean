/- Joined texts, in this order: ThingStep. Each one's first remark says what it proves; no condition beyond those that its theorems name. -/
import Derived.Test.YtdoflhiogoefjaaDoorJLawThingCopies19
section
/- The law's step: one call of both. -/
namespace Go.Proofs.YtdoflhiogoefjaaDoor
open Go.RowKit
open Go.Lib (hid)
set_option linter.unusedVariables false

/-- things, and the document's beside them -/
structure BothT (w : World) (s : Nat) (F : Nat → Prop) (a : Option Addr) (c : Nat) (X : ThX) : Prop where
  st : ThingIs w s F X
  rx : RefT w a c X.L
  fl : ∀ k, F k → k < w.heap.size
  low : ∀ k, aB a k → k < w.heap.size
  far : ∀ k, aB a k → ¬ F k
theorem BothT.below {w w' : World} {s : Nat} {F : Nat → Prop} {a : Option Addr} {c : Nat} {X : ThX} (h : BothT w s F a c X) (hb : Below w.heap.size w w') : BothT w' s F a c X :=
  ⟨h.st.below hb, h.rx.below hb, fun k q => by have := h.fl k q; have := hb.size; omega, fun k q => by have := h.low k q; have := hb.size; omega, h.far⟩
def StepT (w : World) (s : Nat) (F : Nat → Prop) (a : Option Addr) (X' : ThX) (e : Ending) (w' : World) : Prop :=
  ∃ F' a' c', e = .returned (.tuple #[.agg #[.slice a' X'.L.length c', .int .i64 X'.nx], .bool true]) ∧ BothT w' s F' a' c' X' ∧ Upd F w w' ∧ (∀ k, F' k → F k ∨ w.heap.size ≤ k) ∧ (∀ k, aB a' k → aB a k ∨ w.heap.size ≤ k)
theorem BothT.fin {w wB w9 : World} {s b6 : Nat} {F G : Nat → Prop} {a a' : Option Addr} {c c' : Nat} {X X' : ThX} (hB : BothT w s F a c X)
    (hr : RefT wB a' c' X'.L) (hs : ThingIs wB s G X') (hG : ∀ k, G k → F k ∨ w.heap.size ≤ k)
    (hfar : ∀ k, aB a' k → ¬ G k ∧ k < wB.heap.size ∧ (aB a k ∨ w.heap.size ≤ k))
    (hu : Upd F w wB) (h6 : w.heap.size ≤ b6) (hG6 : ¬ G b6) (hr6 : ∀ k, aB a' k → k ≠ b6) (hu9 : Upd (fun k => k = b6) wB w9) :
    StepT w s F a X' (.returned (.tuple #[.agg #[.slice a' X'.L.length c', .int .i64 X'.nx], .bool true])) w9 := by
  have hz := hu9.size
  refine ⟨fun k => G k ∧ k < w9.heap.size, a', c', rfl, ⟨?_, ?_, fun k hk => hk.2, fun k hk => ?_, fun k hk q => (hfar k hk).1 q.1⟩, ?_, fun k hk => hG k hk.1, fun k hk => (hfar k hk).2.2⟩
  · exact (hs.upd hu9 (fun k q hk => by subst q; exact hG6 hk)).weaken (fun k q q2 => ⟨q, q2⟩)
  · exact hr.upd hu9 (fun k hk q => hr6 k hk q)
  · have := (hfar k hk).2.1; omega
  · exact hu.trans hu9 (fun k hk q => by omega)
set_option maxRecDepth 100000 in
set_option maxHeartbeats 8000000 in
theorem law21_step1 {s : Nat} {F : Nat → Prop} {a : Option Addr} {c : Nat} {X : ThX} (w : World) (h : BothT w s F a c X) (hl9 : X.L.length ≤ 800) (hnx : X.nx ≤ 4611686018427387904) (kd id o pk ph ps : Int) (nm : List UInt8) (hnm : nm.length ≤ 1000000) (ho63 : o ≤ 9223372036854775807) (hkd : kd = 1) :
    Calls Tryd.prog 13 #[.pointer (some ⟨s, 0, none⟩), .agg #[.slice a X.L.length c, .int .i64 X.nx], .agg #[.int .i64 kd, .int .i64 id, .int .i64 o, .string ⟨nm.toArray⟩, .int .i64 pk, .int .i64 ph, .int .i64 ps]] w (StepT w s F a (makeX X nm o)) := by
  have HBT := hid h
  have HI := hid h.st.2
  have HL9 := hid hl9
  have HNX := hid hnx
  have HNM := hid hnm
  have HO63 := hid ho63
  clear h hl9 hnx hnm ho63
  obtain ⟨nx, hx⟩ : ∃ nx, nx = X.nx := ⟨_, rfl⟩
  have HX := hid hx
  rw [← hx]
  subst hkd
  obtain ⟨X', hX'⟩ : ∃ X', makeX X nm o = X' := ⟨_, rfl⟩
  obtain ⟨I, hI⟩ : ∃ I, makeI X nm o = I := ⟨_, rfl⟩
  obtain ⟨E, hE⟩ : ∃ E, makeE X.L nm o = E := ⟨_, rfl⟩
  rw [hX']
  have HXN := hid hX'
  have HIN := hid hI
  have HEN := hid hE
  clear hX' hI hE
  clear hx
  go_enter Tryd.func13, Tryd.ntmps13
  go_upto_region 1 with fail
  generalize hw2 : World.alloc (World.alloc (World.alloc w _) _) _ = w2
  obtain ⟨bs, hbs⟩ : ∃ b, b = w.heap.size := ⟨_, rfl⟩
  obtain ⟨bo, hbo⟩ : ∃ b, b = w.heap.size + 1 := ⟨_, rfl⟩
  obtain ⟨b6, hb6⟩ : ∃ b, b = w.heap.size + 1 + 1 := ⟨_, rfl⟩
  have hz1 : (World.alloc w (.cells #[.slice a X.L.length c, .int .i64 nx] 34)).heap.size = w.heap.size + 1 := by simp
  have hz2 : (World.alloc (World.alloc w (.cells #[.slice a X.L.length c, .int .i64 nx] 34)) (.cells #[.int .i64 1, .int .i64 id, .int .i64 o, .string ⟨nm.toArray⟩, .int .i64 pk, .int .i64 ph, .int .i64 ps] 36)).heap.size = w.heap.size + 1 + 1 := by simp
  try rw [hz2]
  try rw [hz1]
  try rw [← hb6]
  try rw [← hbo]
  try rw [← hbs]
  have hb2 : Below w.heap.size w w2 := by rw [← hw2]; exact Below.next (Below.next (Below.new _ _) (Below.new _ _)) (Below.new _ _)
  have HK : Hid (Blk w2 bs #[.slice a X.L.length c, .int .i64 nx]) := hid (by rw [← hw2, hbs]; exact ((Blk.new w _ _).below (Below.new _ _)).below (Below.new _ _))
  have HO : Hid (Blk w2 bo #[.int .i64 1, .int .i64 id, .int .i64 o, .string ⟨nm.toArray⟩, .int .i64 pk, .int .i64 ph, .int .i64 ps]) := hid (by rw [← hw2, hbo, ← hz1]; exact (Blk.new _ _ _).below (Below.new _ _))
  have HK6 : Hid (Blk w2 b6 #[.slice none 0 0, .int .i64 0]) := hid (by rw [← hw2, hb6, ← hz2]; exact Blk.new _ _ _)
  have HX2 := hid (HBT.out.rx.below hb2)
  have H2 := hid (HBT.out.st.below hb2)
  have HB2 := hid hb2
  have HB6 : Hid (bs = w.heap.size ∧ bo = w.heap.size + 1 ∧ b6 = w.heap.size + 2 ∧ b6 < w2.heap.size) := hid (by have := HK6.out.lt; omega)
  clear hw2 hbs hbo hb6 hz1 hz2 hb2
  have o0 : w2.cell? ⟨bo, 0, none⟩ = some (.int .i64 1) := by rw [HO.out.cell]; rfl
  have o1 : w2.cell? ⟨bo, 1, none⟩ = some (.int .i64 id) := by rw [HO.out.cell]; rfl
  have o2 : w2.cell? ⟨bo, 2, none⟩ = some (.int .i64 o) := by rw [HO.out.cell]; rfl
  have o3 : w2.cell? ⟨bo, 3, none⟩ = some (.string ⟨nm.toArray⟩) := by rw [HO.out.cell]; rfl
  have o4 : w2.cell? ⟨bo, 4, none⟩ = some (.int .i64 pk) := by rw [HO.out.cell]; rfl
  have o5 : w2.cell? ⟨bo, 5, none⟩ = some (.int .i64 ph) := by rw [HO.out.cell]; rfl
  have o6 : w2.cell? ⟨bo, 6, none⟩ = some (.int .i64 ps) := by rw [HO.out.cell]; rfl
  have c0 : w2.cell? ⟨bs, 0, none⟩ = some (.slice a X.L.length c) := by rw [HK.out.cell]; rfl
  have c1 : w2.cell? ⟨bs, 1, none⟩ = some (.int .i64 nx) := by rw [HK.out.cell]; rfl
  go_wp2_with fail
  have hq : Calls Tryd.prog 30 #[.agg #[.slice a X.L.length c, .int .i64 nx], .string ⟨nm.toArray⟩, .int .i64 o] w2 (R21Post w2 a (makeX X nm o) [.int .i64 (makeI X nm o), .int .i64 (makeE X.L nm o)]) := by
    have := ref21_Make (L := X.L) nx w2 HX2.out (fun k hk => by have := HBT.out.low k hk; have := HB2.out.size; omega) (by have := HL9.out; omega) (by have := HI.out.n; have := HX.out; have := HNX.out; omega) nm HNM.out o
    rw [show (⟨X.L, nx⟩ : ThX) = X by rw [HX.out]] at this
    exact this
  rw [HXN.out, HIN.out, HEN.out] at hq
  refine hq.mono ?_
  rintro e w3 ⟨a', c', rfl, hr3, hb3, hlow3⟩
  clear hq
  have HR3 := hid hr3
  have HL3 := hid hlow3
  have HO3 := hid (HO.out.below hb3)
  have HK63 := hid (HK6.out.below hb3)
  have H3 := hid (H2.out.below hb3)
  have HB3 := hid (Below.next HB2.out hb3)
  clear hr3 hb3 hlow3 c0 c1 o0 o1 o2 o3 o4 o5 o6
  have o2 : w3.cell? ⟨bo, 2, none⟩ = some (.int .i64 o) := by rw [HO3.out.cell]; rfl
  have o3 : w3.cell? ⟨bo, 3, none⟩ = some (.string ⟨nm.toArray⟩) := by rw [HO3.out.cell]; rfl
  go_upto_region 4 with fail
  obtain ⟨w5, hw5⟩ : ∃ w5, w5 = w3.alloc (.cells #[.slice a' X'.L.length c', .int .i64 X'.nx] 34) := ⟨_, rfl⟩
  rw [← hw5]
  obtain ⟨bx, hbx⟩ : ∃ b, b = w3.heap.size := ⟨_, rfl⟩
  rw [← hbx]
  have hb5 : Below w3.heap.size w3 w5 := by rw [hw5]; exact Below.new _ _
  have HX5 := hid (show Blk w5 bx #[.slice a' X'.L.length c', .int .i64 X'.nx] by rw [hw5, hbx]; exact Blk.new w3 _ _)
  have HO5 := hid (HO3.out.below hb5)
  have HK65 := hid (HK63.out.below hb5)
  have H5 := hid (H3.out.below hb5)
  have HR5 := hid (HR3.out.below hb5)
  have HB5 := hid (Below.next HB3.out hb5)
  have HZ5 := hid hb5.size
  have HZ3 := hid HB3.out.size
  have HBX : Hid (bx = w3.heap.size) := hid hbx
  have HFL : Hid (∀ k, F k → k < w.heap.size) := hid HBT.out.fl
  clear hw5 hbx hb5
  clear o2 o3
  have o2 : w5.cell? ⟨bo, 2, none⟩ = some (.int .i64 o) := by rw [HO5.out.cell]; rfl
  have o3 : w5.cell? ⟨bo, 3, none⟩ = some (.string ⟨nm.toArray⟩) := by rw [HO5.out.cell]; rfl
  go_wp2_with fail
  have hq := thing_Make w5 H5.out (by have := HL9.out; omega) HNX.out nm HNM.out o HO63.out
  rw [HXN.out, HIN.out, HEN.out] at hq
  refine hq.mono ?_
  rintro e wB ⟨rfl, hsB, huB⟩
  have HS9 := hid hsB
  have HUB := hid huB
  have HK6B := hid (HK65.out.upd huB (fun q => by have := HFL.out _ q; have := HB6.out; omega))
  have HXB := hid (HX5.out.upd huB (fun q => by have := HFL.out _ q; have := HBX.out; have := HZ3.out; omega))
  clear hq hsB huB o2 o3
  have c0 : wB.cell? ⟨bx, 0, none⟩ = some (.slice a' X'.L.length c') := by rw [HXB.out.cell]; rfl
  have c1 : wB.cell? ⟨bx, 1, none⟩ = some (.int .i64 X'.nx) := by rw [HXB.out.cell]; rfl
  have q0 : wB.cell? ⟨b6, 0, none⟩ = some (.slice none 0 0) := by rw [HK6B.out.cell]; rfl
  have q1 : wB.cell? ⟨b6, 1, none⟩ = some (.int .i64 0) := by rw [HK6B.out.cell]; rfl
  have f0 : wB.frozen? ⟨b6, 0, none⟩ = false := HK6B.out.unfrozen 0
  have f1 : wB.frozen? ⟨b6, 1, none⟩ = false := HK6B.out.unfrozen 1
  have i1 : (I == I) = true := by simp
  have i2 : (E == E) = true := by simp
  have HK9 : Hid (Blk ((wB.setCell ⟨b6, 0, none⟩ (.slice a' X'.L.length c')).setCell ⟨b6, 1, none⟩ (.int .i64 X'.nx)) b6 #[.slice a' X'.L.length c', .int .i64 X'.nx]) := hid (by simpa using (HK6B.out.set 0 (.slice a' X'.L.length c')).set 1 (.int .i64 X'.nx))
  have HU9 := hid ((Upd.setCell wB b6 0 (.slice a' X'.L.length c')).trans (Upd.setCell _ b6 1 (.int .i64 X'.nx)) (fun _ _ q => q))
  go_wp2_with fail
  generalize World.setCell (World.setCell wB _ _) _ _ = w9 at HK9 HU9
  have k0 : w9.cell? ⟨b6, 0, none⟩ = some (.slice a' X'.L.length c') := by rw [HK9.out.cell]; rfl
  have k1 : w9.cell? ⟨b6, 1, none⟩ = some (.int .i64 X'.nx) := by rw [HK9.out.cell]; rfl
  refine bodyPost_ret (res_cell_tmp rfl _ _ _ rfl (by go_simp; rfl)) rfl ?_
  have hz5 : w5.heap.size = w5.heap.size := rfl
  have hUw : Upd F w wB := (Upd.of_below HB5.out).trans HUB.out (fun _ _ q => q)
  have hFar : ∀ k, aB a' k → ¬ F k := fun k hk q => by
    rcases (HL3.out k hk).2 with q2 | q2
    · exact HBT.out.far k q2 q
    · have := HFL.out k q; have := HB2.out.size; omega
  have a1 := HZ5.out
  have a3 := HZ3.out
  have a2 := HB2.out.size
  have a4 := HB6.out
  have a5 := HUB.out.size
  refine HBT.out.fin (HR5.out.upd HUB.out hFar) HS9.out (fun k hk => ?_) (fun k hk => ?_) hUw (b6 := b6) (by omega) ?_ (fun k hk q => ?_) HU9.out
  · rcases hk with hk | hk
    · exact .inl hk
    · right; try rw [hz5] at hk
      omega
  · have h3 := HL3.out k hk
    refine ⟨fun q => ?_, by omega, h3.2.imp (fun q => q) (fun q => by omega)⟩
    rcases q with q | q
    · exact hFar k hk q
    · try rw [hz5] at q
      omega
  · rintro (q | q)
    · have := HFL.out _ q; omega
    · try rw [hz5] at q
      have := HK65.out.lt; omega
  · rcases (HL3.out k hk).2 with q2 | q2
    · have := HBT.out.low k q2; omega
    · omega
set_option maxRecDepth 100000 in
set_option maxHeartbeats 8000000 in
theorem law21_step2 {s : Nat} {F : Nat → Prop} {a : Option Addr} {c : Nat} {X : ThX} (w : World) (h : BothT w s F a c X) (hl9 : X.L.length ≤ 800) (hnx : X.nx ≤ 4611686018427387904) (kd id o pk ph ps : Int) (nm : List UInt8) (hnm : nm.length ≤ 1000000) (ho63 : o ≤ 9223372036854775807) (hkd : kd = 2) :
    Calls Tryd.prog 13 #[.pointer (some ⟨s, 0, none⟩), .agg #[.slice a X.L.length c, .int .i64 X.nx], .agg #[.int .i64 kd, .int .i64 id, .int .i64 o, .string ⟨nm.toArray⟩, .int .i64 pk, .int .i64 ph, .int .i64 ps]] w (StepT w s F a (moveX X id (pk, ph, ps) o)) := by
  have HBT := hid h
  have HI := hid h.st.2
  have HL9 := hid hl9
  have HNX := hid hnx
  have HNM := hid hnm
  have HO63 := hid ho63
  clear h hl9 hnx hnm ho63
  obtain ⟨nx, hx⟩ : ∃ nx, nx = X.nx := ⟨_, rfl⟩
  have HX := hid hx
  rw [← hx]
  subst hkd
  obtain ⟨X', hX'⟩ : ∃ X', moveX X id (pk, ph, ps) o = X' := ⟨_, rfl⟩
  obtain ⟨E, hE⟩ : ∃ E, moveE X.L id (pk, ph, ps) o = E := ⟨_, rfl⟩
  rw [hX']
  have HXN := hid hX'
  have HEN := hid hE
  have hee : (E == E) = true := by simp
  clear hX' hE
  clear hx
  go_enter Tryd.func13, Tryd.ntmps13
  go_upto_region 1 with fail
  generalize hw2 : World.alloc (World.alloc (World.alloc w _) _) _ = w2
  obtain ⟨bs, hbs⟩ : ∃ b, b = w.heap.size := ⟨_, rfl⟩
  obtain ⟨bo, hbo⟩ : ∃ b, b = w.heap.size + 1 := ⟨_, rfl⟩
  obtain ⟨b6, hb6⟩ : ∃ b, b = w.heap.size + 1 + 1 := ⟨_, rfl⟩
  have hz1 : (World.alloc w (.cells #[.slice a X.L.length c, .int .i64 nx] 34)).heap.size = w.heap.size + 1 := by simp
  have hz2 : (World.alloc (World.alloc w (.cells #[.slice a X.L.length c, .int .i64 nx] 34)) (.cells #[.int .i64 2, .int .i64 id, .int .i64 o, .string ⟨nm.toArray⟩, .int .i64 pk, .int .i64 ph, .int .i64 ps] 36)).heap.size = w.heap.size + 1 + 1 := by simp
  try rw [hz2]
  try rw [hz1]
  try rw [← hb6]
  try rw [← hbo]
  try rw [← hbs]
  have hb2 : Below w.heap.size w w2 := by rw [← hw2]; exact Below.next (Below.next (Below.new _ _) (Below.new _ _)) (Below.new _ _)
  have HK : Hid (Blk w2 bs #[.slice a X.L.length c, .int .i64 nx]) := hid (by rw [← hw2, hbs]; exact ((Blk.new w _ _).below (Below.new _ _)).below (Below.new _ _))
  have HO : Hid (Blk w2 bo #[.int .i64 2, .int .i64 id, .int .i64 o, .string ⟨nm.toArray⟩, .int .i64 pk, .int .i64 ph, .int .i64 ps]) := hid (by rw [← hw2, hbo, ← hz1]; exact (Blk.new _ _ _).below (Below.new _ _))
  have HK6 : Hid (Blk w2 b6 #[.slice none 0 0, .int .i64 0]) := hid (by rw [← hw2, hb6, ← hz2]; exact Blk.new _ _ _)
  have HX2 := hid (HBT.out.rx.below hb2)
  have H2 := hid (HBT.out.st.below hb2)
  have HB2 := hid hb2
  have HB6 : Hid (bs = w.heap.size ∧ bo = w.heap.size + 1 ∧ b6 = w.heap.size + 2 ∧ b6 < w2.heap.size) := hid (by have := HK6.out.lt; omega)
  clear hw2 hbs hbo hb6 hz1 hz2 hb2
  have o0 : w2.cell? ⟨bo, 0, none⟩ = some (.int .i64 2) := by rw [HO.out.cell]; rfl
  have o1 : w2.cell? ⟨bo, 1, none⟩ = some (.int .i64 id) := by rw [HO.out.cell]; rfl
  have o2 : w2.cell? ⟨bo, 2, none⟩ = some (.int .i64 o) := by rw [HO.out.cell]; rfl
  have o3 : w2.cell? ⟨bo, 3, none⟩ = some (.string ⟨nm.toArray⟩) := by rw [HO.out.cell]; rfl
  have o4 : w2.cell? ⟨bo, 4, none⟩ = some (.int .i64 pk) := by rw [HO.out.cell]; rfl
  have o5 : w2.cell? ⟨bo, 5, none⟩ = some (.int .i64 ph) := by rw [HO.out.cell]; rfl
  have o6 : w2.cell? ⟨bo, 6, none⟩ = some (.int .i64 ps) := by rw [HO.out.cell]; rfl
  have c0 : w2.cell? ⟨bs, 0, none⟩ = some (.slice a X.L.length c) := by rw [HK.out.cell]; rfl
  have c1 : w2.cell? ⟨bs, 1, none⟩ = some (.int .i64 nx) := by rw [HK.out.cell]; rfl
  go_wp2_with fail
  have hq : Calls Tryd.prog 31 #[.agg #[.slice a X.L.length c, .int .i64 nx], .int .i64 id, .agg #[.int .i64 pk, .int .i64 ph, .int .i64 ps], .int .i64 o] w2 (R21Post w2 a (moveX X id (pk, ph, ps) o) [.int .i64 (moveE X.L id (pk, ph, ps) o)]) := by
    have := ref21_Move (L := X.L) nx w2 HX2.out (fun k hk => by have := HBT.out.low k hk; have := HB2.out.size; omega) HI.out.s id pk ph ps o
    rw [show (⟨X.L, nx⟩ : ThX) = X by rw [HX.out]] at this
    exact this
  rw [HXN.out, HEN.out] at hq
  refine hq.mono ?_
  rintro e w3 ⟨a', c', rfl, hr3, hb3, hlow3⟩
  clear hq
  have HR3 := hid hr3
  have HL3 := hid hlow3
  have HO3 := hid (HO.out.below hb3)
  have HK63 := hid (HK6.out.below hb3)
  have H3 := hid (H2.out.below hb3)
  have HB3 := hid (Below.next HB2.out hb3)
  clear hr3 hb3 hlow3 c0 c1 o0 o1 o2 o3 o4 o5 o6
  go_upto_region 8 with fail
  obtain ⟨w5, hw5⟩ : ∃ w5, w5 = w3.alloc (.cells #[.slice a' X'.L.length c', .int .i64 X'.nx] 34) := ⟨_, rfl⟩
  rw [← hw5]
  obtain ⟨bx, hbx⟩ : ∃ b, b = w3.heap.size := ⟨_, rfl⟩
  rw [← hbx]
  have hb5 : Below w3.heap.size w3 w5 := by rw [hw5]; exact Below.new _ _
  have HX5 := hid (show Blk w5 bx #[.slice a' X'.L.length c', .int .i64 X'.nx] by rw [hw5, hbx]; exact Blk.new w3 _ _)
  have HO5 := hid (HO3.out.below hb5)
  have HK65 := hid (HK63.out.below hb5)
  have H5 := hid (H3.out.below hb5)
  have HR5 := hid (HR3.out.below hb5)
  have HB5 := hid (Below.next HB3.out hb5)
  have HZ5 := hid hb5.size
  have HZ3 := hid HB3.out.size
  have HBX : Hid (bx = w3.heap.size) := hid hbx
  have HFL : Hid (∀ k, F k → k < w.heap.size) := hid HBT.out.fl
  clear hw5 hbx hb5
  have hyb := (Below.refl w5.heap.size w5).drew
  have hyd : Upd (fun k => F k ∨ k = b6) w5 w5.drew := Upd.of_below hyb
  have e0 : ∀ y, Upd (fun k => F k ∨ k = b6) w5 y → y.cell? ⟨bx, 0, none⟩ = some (.slice a' X'.L.length c') := fun y hy => by rw [(HX5.out.upd hy (fun q => by rcases q with q | q <;> first | (have := HFL.out _ q; have := HBX.out; have := HZ3.out; have := HB6.out; omega) | (have := HBX.out; have := HK63.out.lt; have := HB6.out; omega))).cell]; rfl
  have e1 : ∀ y, Upd (fun k => F k ∨ k = b6) w5 y → y.cell? ⟨bx, 1, none⟩ = some (.int .i64 X'.nx) := fun y hy => by rw [(HX5.out.upd hy (fun q => by rcases q with q | q <;> first | (have := HFL.out _ q; have := HBX.out; have := HZ3.out; have := HB6.out; omega) | (have := HBX.out; have := HK63.out.lt; have := HB6.out; omega))).cell]; rfl
  have e2 : ∀ y, Upd (fun k => F k ∨ k = b6) w5 y → y.cell? ⟨bo, 1, none⟩ = some (.int .i64 id) := fun y hy => by rw [(HO5.out.upd hy (fun q => by rcases q with q | q <;> first | (have := HFL.out _ q; have := HBX.out; have := HZ3.out; have := HB6.out; omega) | (have := HBX.out; have := HK63.out.lt; have := HB6.out; omega))).cell]; rfl
  have e3 : ∀ y, Upd (fun k => F k ∨ k = b6) w5 y → y.cell? ⟨bo, 2, none⟩ = some (.int .i64 o) := fun y hy => by rw [(HO5.out.upd hy (fun q => by rcases q with q | q <;> first | (have := HFL.out _ q; have := HBX.out; have := HZ3.out; have := HB6.out; omega) | (have := HBX.out; have := HK63.out.lt; have := HB6.out; omega))).cell]; rfl
  have e4 : ∀ y, Upd (fun k => F k ∨ k = b6) w5 y → y.cell? ⟨bo, 4, none⟩ = some (.int .i64 pk) := fun y hy => by rw [(HO5.out.upd hy (fun q => by rcases q with q | q <;> first | (have := HFL.out _ q; have := HBX.out; have := HZ3.out; have := HB6.out; omega) | (have := HBX.out; have := HK63.out.lt; have := HB6.out; omega))).cell]; rfl
  have e5 : ∀ y, Upd (fun k => F k ∨ k = b6) w5 y → y.cell? ⟨bo, 5, none⟩ = some (.int .i64 ph) := fun y hy => by rw [(HO5.out.upd hy (fun q => by rcases q with q | q <;> first | (have := HFL.out _ q; have := HBX.out; have := HZ3.out; have := HB6.out; omega) | (have := HBX.out; have := HK63.out.lt; have := HB6.out; omega))).cell]; rfl
  have e6 : ∀ y, Upd (fun k => F k ∨ k = b6) w5 y → y.cell? ⟨bo, 6, none⟩ = some (.int .i64 ps) := fun y hy => by rw [(HO5.out.upd hy (fun q => by rcases q with q | q <;> first | (have := HFL.out _ q; have := HBX.out; have := HZ3.out; have := HB6.out; omega) | (have := HBX.out; have := HK63.out.lt; have := HB6.out; omega))).cell]; rfl
  go_upto_region 8 with fail
  refine wp_region_kept [12] (fun y => Upd (fun k => F k ∨ k = b6) w5 y) (by kernel_rfl) (by assumption) (fun hH => ?_)
  refine wpK.take (i := 0) (v := _) (by simp only [List.getElem?_toArray, List.getElem?_cons_succ, List.getElem?_cons_zero]; rfl) (by kernel_rfl) (by kernel_rfl) (by kernel_rfl) (by kernel_rfl) (by kernel_rfl) (by exact fun _ _ _ h => h) (by first | exact Or.inl ⟨by rfl, by intro w hSw; go_simp; try with_reducible rfl⟩ | exact Or.inr ⟨by rfl, rfl⟩) hH ?_
  try simp only [Act.put, List.setIfInBounds_toArray, List.set_cons_zero, List.set_cons_succ]
  refine wpK.take (i := 1) (v := _) (by simp only [List.getElem?_toArray, List.getElem?_cons_succ, List.getElem?_cons_zero]; rfl) (by kernel_rfl) (by kernel_rfl) (by kernel_rfl) (by kernel_rfl) (by kernel_rfl) (by exact fun _ _ _ h => h) (by first | exact Or.inl ⟨by rfl, by intro w hSw; go_simp; try with_reducible rfl⟩ | exact Or.inr ⟨by rfl, rfl⟩) hH ?_
  try simp only [Act.put, List.setIfInBounds_toArray, List.set_cons_zero, List.set_cons_succ]
  refine wpK.take (i := 2) (v := _) (by simp only [List.getElem?_toArray, List.getElem?_cons_succ, List.getElem?_cons_zero]; rfl) (by kernel_rfl) (by kernel_rfl) (by kernel_rfl) (by kernel_rfl) (by kernel_rfl) (by exact fun _ _ _ h => h) (by first | exact Or.inl ⟨by rfl, by intro w hSw; go_simp; try with_reducible rfl⟩ | exact Or.inr ⟨by rfl, rfl⟩) hH ?_
  try simp only [Act.put, List.setIfInBounds_toArray, List.set_cons_zero, List.set_cons_succ]
  refine wpK.take (i := 3) (v := _) (by simp only [List.getElem?_toArray, List.getElem?_cons_succ, List.getElem?_cons_zero]; rfl) (by kernel_rfl) (by kernel_rfl) (by kernel_rfl) (by kernel_rfl) (by kernel_rfl) (by exact fun _ _ _ h => h) (by first | exact Or.inl ⟨by rfl, by intro w hSw; go_simp; try with_reducible rfl⟩ | exact Or.inr ⟨by rfl, rfl⟩) hH ?_
  try simp only [Act.put, List.setIfInBounds_toArray, List.set_cons_zero, List.set_cons_succ]
  refine wpK.take (i := 4) (v := _) (by simp only [List.getElem?_toArray, List.getElem?_cons_succ, List.getElem?_cons_zero]; rfl) (by kernel_rfl) (by kernel_rfl) (by kernel_rfl) (by kernel_rfl) (by kernel_rfl) (by exact fun _ _ _ h => h) (by first | exact Or.inl ⟨by rfl, by intro w hSw; go_simp; try with_reducible rfl⟩ | exact Or.inr ⟨by rfl, rfl⟩) hH ?_
  try simp only [Act.put, List.setIfInBounds_toArray, List.set_cons_zero, List.set_cons_succ]
  refine wpK.take (i := 5) (v := _) (by simp only [List.getElem?_toArray, List.getElem?_cons_succ, List.getElem?_cons_zero]; rfl) (by kernel_rfl) (by kernel_rfl) (by kernel_rfl) (by kernel_rfl) (by kernel_rfl) (by exact fun _ _ _ h => h) (by first | exact Or.inl ⟨by rfl, by intro w hSw; go_simp; try with_reducible rfl⟩ | exact Or.inr ⟨by rfl, rfl⟩) hH ?_
  try simp only [Act.put, List.setIfInBounds_toArray, List.set_cons_zero, List.set_cons_succ]
  refine wpK.take (i := 6) (v := _) (by simp only [List.getElem?_toArray, List.getElem?_cons_succ, List.getElem?_cons_zero]; rfl) (by kernel_rfl) (by kernel_rfl) (by kernel_rfl) (by kernel_rfl) (by kernel_rfl) (by exact fun _ _ _ h => h) (by first | exact Or.inl ⟨by rfl, by intro w hSw; go_simp; try with_reducible rfl⟩ | exact Or.inr ⟨by rfl, rfl⟩) hH ?_
  try simp only [Act.put, List.setIfInBounds_toArray, List.set_cons_zero, List.set_cons_succ]
  refine wpK.take (i := 7) (v := _) (by simp only [List.getElem?_toArray, List.getElem?_cons_succ, List.getElem?_cons_zero]; rfl) (by kernel_rfl) (by kernel_rfl) (by kernel_rfl) (by kernel_rfl) (by kernel_rfl) (by exact fun _ _ _ h => h) (by first | exact Or.inl ⟨by rfl, by intro w hSw; go_simp; try with_reducible rfl⟩ | exact Or.inr ⟨by rfl, rfl⟩) hH ?_
  try simp only [Act.put, List.setIfInBounds_toArray, List.set_cons_zero, List.set_cons_succ]
  refine wpK.take (i := 9) (v := _) (by simp only [List.getElem?_toArray, List.getElem?_cons_succ, List.getElem?_cons_zero]; rfl) (by kernel_rfl) (by kernel_rfl) (by kernel_rfl) (by kernel_rfl) (by kernel_rfl) (by exact fun _ _ _ h => h) (by first | exact Or.inl ⟨by rfl, by intro w hSw; go_simp; try with_reducible rfl⟩ | exact Or.inr ⟨by rfl, rfl⟩) hH ?_
  try simp only [Act.put, List.setIfInBounds_toArray, List.set_cons_zero, List.set_cons_succ]
  refine wpK.step (i := 8) (by kernel_rfl) (by simp only [List.getElem?_toArray, List.getElem?_cons_succ, List.getElem?_cons_zero]; rfl) (fun K hK => ?_)
  go_simp
  (have hq := thing_Move w5.drew (H5.out.below hyb) (by have := HL9.out; omega) id pk ph ps o HO63.out); (rw [HXN.out, HEN.out] at hq); (refine hq.mono ?_); rintro e wB ⟨rfl, hsB, huB⟩; (have hkF : Upd F w5 wB := (Upd.of_below hyb).trans huB (fun _ _ q => q)); (have hkB : Upd (fun k => F k ∨ k = b6) w5 wB := hkF.mono (fun _ _ q => .inl q)); (have HK6B := hid (HK65.out.upd hkF (fun q => by have := HFL.out _ q; have := HB6.out; omega))); (have hk9 : Upd (fun k => F k ∨ k = b6) w5 ((wB.setCell ⟨b6, 0, none⟩ (.slice a' X'.L.length c')).setCell ⟨b6, 1, none⟩ (.int .i64 X'.nx)) := (hkB.trans (Upd.setCell wB b6 0 _) (fun _ _ q => .inr q)).trans (Upd.setCell _ b6 1 _) (fun _ _ q => .inr q)); (have q0 : wB.cell? ⟨b6, 0, none⟩ = some (.slice none 0 0) := by rw [HK6B.out.cell]; rfl); (have q1 : wB.cell? ⟨b6, 1, none⟩ = some (.int .i64 0) := by rw [HK6B.out.cell]; rfl); (have f0 : wB.frozen? ⟨b6, 0, none⟩ = false := HK6B.out.unfrozen 0); (have f1 : wB.frozen? ⟨b6, 1, none⟩ = false := HK6B.out.unfrozen 1); go_simp
  refine hK.out _ _ (by assumption) (fun hH => ?_)
  clear hK K
  try simp only [Act.put, List.setIfInBounds_toArray, List.set_cons_zero, List.set_cons_succ]
  refine wpK.take (i := 10) (v := _) (by simp only [List.getElem?_toArray, List.getElem?_cons_succ, List.getElem?_cons_zero]; rfl) (by kernel_rfl) (by kernel_rfl) (by kernel_rfl) (by kernel_rfl) (by kernel_rfl) (by exact fun _ _ _ h => h) (by first | exact Or.inl ⟨by rfl, by intro w hSw; go_simp; try with_reducible rfl⟩ | exact Or.inr ⟨by rfl, rfl⟩) hH ?_
  try simp only [Act.put, List.setIfInBounds_toArray, List.set_cons_zero, List.set_cons_succ]
  refine wpK.step (i := 11) (by kernel_rfl) (by simp only [List.getElem?_toArray, List.getElem?_cons_succ, List.getElem?_cons_zero]; rfl) (fun K hK => ?_)
  go_simp
  refine hK.out _ _ (by assumption) (fun hH => ?_)
  clear hK K
  try simp only [Act.put, List.setIfInBounds_toArray, List.set_cons_zero, List.set_cons_succ]
  refine wpK.late (i := 12) (by kernel_rfl) (by simp only [List.getElem?_toArray, List.getElem?_cons_succ, List.getElem?_cons_zero]; rfl) (by kernel_rfl) (fun K hK => ?_)
  go_simp
  refine hK.out _ _ ?_
  clear hK K
  try simp only [Act.put, List.setIfInBounds_toArray, List.set_cons_zero, List.set_cons_succ]
  refine wpK.done (by kernel_rfl) ?_ _
  have HS9 := hid hsB
  have HUB := hid hkF
  clear e0 e1 e2 e3 e4 e5 e6 hyd hyb hsB huB hkB hkF hk9 hq q0 q1 f0 f1
  have HK9 : Hid (Blk ((wB.setCell ⟨b6, 0, none⟩ (.slice a' X'.L.length c')).setCell ⟨b6, 1, none⟩ (.int .i64 X'.nx)) b6 #[.slice a' X'.L.length c', .int .i64 X'.nx]) := hid (by simpa using (HK6B.out.set 0 (.slice a' X'.L.length c')).set 1 (.int .i64 X'.nx))
  have HU9 := hid ((Upd.setCell wB b6 0 (.slice a' X'.L.length c')).trans (Upd.setCell _ b6 1 (.int .i64 X'.nx)) (fun _ _ q => q))
  generalize World.setCell (World.setCell wB _ _) _ _ = w9 at HK9 HU9
  have k0 : w9.cell? ⟨b6, 0, none⟩ = some (.slice a' X'.L.length c') := by rw [HK9.out.cell]; rfl
  have k1 : w9.cell? ⟨b6, 1, none⟩ = some (.int .i64 X'.nx) := by rw [HK9.out.cell]; rfl
  go_wp2_with fail
  refine bodyPost_ret (res_cell_tmp rfl _ _ _ rfl (by go_simp; rfl)) rfl ?_
  have hz5 : w5.drew.heap.size = w5.heap.size := rfl
  have hUw : Upd F w wB := (Upd.of_below HB5.out).trans HUB.out (fun _ _ q => q)
  have hFar : ∀ k, aB a' k → ¬ F k := fun k hk q => by
    rcases (HL3.out k hk).2 with q2 | q2
    · exact HBT.out.far k q2 q
    · have := HFL.out k q; have := HB2.out.size; omega
  have a1 := HZ5.out
  have a3 := HZ3.out
  have a2 := HB2.out.size
  have a4 := HB6.out
  have a5 := HUB.out.size
  refine HBT.out.fin (HR5.out.upd HUB.out hFar) HS9.out (fun k hk => ?_) (fun k hk => ?_) hUw (b6 := b6) (by omega) ?_ (fun k hk q => ?_) HU9.out
  · rcases hk with hk | hk
    · exact .inl hk
    · right; try rw [hz5] at hk
      omega
  · have h3 := HL3.out k hk
    refine ⟨fun q => ?_, by omega, h3.2.imp (fun q => q) (fun q => by omega)⟩
    rcases q with q | q
    · exact hFar k hk q
    · try rw [hz5] at q
      omega
  · rintro (q | q)
    · have := HFL.out _ q; omega
    · try rw [hz5] at q
      have := HK65.out.lt; omega
  · rcases (HL3.out k hk).2 with q2 | q2
    · have := HBT.out.low k q2; omega
    · omega
set_option maxRecDepth 100000 in
set_option maxHeartbeats 8000000 in
theorem law21_step3 {s : Nat} {F : Nat → Prop} {a : Option Addr} {c : Nat} {X : ThX} (w : World) (h : BothT w s F a c X) (hl9 : X.L.length ≤ 800) (hnx : X.nx ≤ 4611686018427387904) (kd id o pk ph ps : Int) (nm : List UInt8) (hnm : nm.length ≤ 1000000) (ho63 : o ≤ 9223372036854775807) (hkd : kd = 3) :
    Calls Tryd.prog 13 #[.pointer (some ⟨s, 0, none⟩), .agg #[.slice a X.L.length c, .int .i64 X.nx], .agg #[.int .i64 kd, .int .i64 id, .int .i64 o, .string ⟨nm.toArray⟩, .int .i64 pk, .int .i64 ph, .int .i64 ps]] w (StepT w s F a (destX X id)) := by
  have HBT := hid h
  have HI := hid h.st.2
  have HL9 := hid hl9
  have HNX := hid hnx
  have HNM := hid hnm
  have HO63 := hid ho63
  clear h hl9 hnx hnm ho63
  obtain ⟨nx, hx⟩ : ∃ nx, nx = X.nx := ⟨_, rfl⟩
  have HX := hid hx
  rw [← hx]
  subst hkd
  obtain ⟨X', hX'⟩ : ∃ X', destX X id = X' := ⟨_, rfl⟩
  obtain ⟨E, hE⟩ : ∃ E, destE X.L id = E := ⟨_, rfl⟩
  rw [hX']
  have HXN := hid hX'
  have HEN := hid hE
  have hee : (E == E) = true := by simp
  clear hX' hE
  clear hx
  go_enter Tryd.func13, Tryd.ntmps13
  go_upto_region 1 with fail
  generalize hw2 : World.alloc (World.alloc (World.alloc w _) _) _ = w2
  obtain ⟨bs, hbs⟩ : ∃ b, b = w.heap.size := ⟨_, rfl⟩
  obtain ⟨bo, hbo⟩ : ∃ b, b = w.heap.size + 1 := ⟨_, rfl⟩
  obtain ⟨b6, hb6⟩ : ∃ b, b = w.heap.size + 1 + 1 := ⟨_, rfl⟩
  have hz1 : (World.alloc w (.cells #[.slice a X.L.length c, .int .i64 nx] 34)).heap.size = w.heap.size + 1 := by simp
  have hz2 : (World.alloc (World.alloc w (.cells #[.slice a X.L.length c, .int .i64 nx] 34)) (.cells #[.int .i64 3, .int .i64 id, .int .i64 o, .string ⟨nm.toArray⟩, .int .i64 pk, .int .i64 ph, .int .i64 ps] 36)).heap.size = w.heap.size + 1 + 1 := by simp
  try rw [hz2]
  try rw [hz1]
  try rw [← hb6]
  try rw [← hbo]
  try rw [← hbs]
  have hb2 : Below w.heap.size w w2 := by rw [← hw2]; exact Below.next (Below.next (Below.new _ _) (Below.new _ _)) (Below.new _ _)
  have HK : Hid (Blk w2 bs #[.slice a X.L.length c, .int .i64 nx]) := hid (by rw [← hw2, hbs]; exact ((Blk.new w _ _).below (Below.new _ _)).below (Below.new _ _))
  have HO : Hid (Blk w2 bo #[.int .i64 3, .int .i64 id, .int .i64 o, .string ⟨nm.toArray⟩, .int .i64 pk, .int .i64 ph, .int .i64 ps]) := hid (by rw [← hw2, hbo, ← hz1]; exact (Blk.new _ _ _).below (Below.new _ _))
  have HK6 : Hid (Blk w2 b6 #[.slice none 0 0, .int .i64 0]) := hid (by rw [← hw2, hb6, ← hz2]; exact Blk.new _ _ _)
  have HX2 := hid (HBT.out.rx.below hb2)
  have H2 := hid (HBT.out.st.below hb2)
  have HB2 := hid hb2
  have HB6 : Hid (bs = w.heap.size ∧ bo = w.heap.size + 1 ∧ b6 = w.heap.size + 2 ∧ b6 < w2.heap.size) := hid (by have := HK6.out.lt; omega)
  clear hw2 hbs hbo hb6 hz1 hz2 hb2
  have o0 : w2.cell? ⟨bo, 0, none⟩ = some (.int .i64 3) := by rw [HO.out.cell]; rfl
  have o1 : w2.cell? ⟨bo, 1, none⟩ = some (.int .i64 id) := by rw [HO.out.cell]; rfl
  have o2 : w2.cell? ⟨bo, 2, none⟩ = some (.int .i64 o) := by rw [HO.out.cell]; rfl
  have o3 : w2.cell? ⟨bo, 3, none⟩ = some (.string ⟨nm.toArray⟩) := by rw [HO.out.cell]; rfl
  have o4 : w2.cell? ⟨bo, 4, none⟩ = some (.int .i64 pk) := by rw [HO.out.cell]; rfl
  have o5 : w2.cell? ⟨bo, 5, none⟩ = some (.int .i64 ph) := by rw [HO.out.cell]; rfl
  have o6 : w2.cell? ⟨bo, 6, none⟩ = some (.int .i64 ps) := by rw [HO.out.cell]; rfl
  have c0 : w2.cell? ⟨bs, 0, none⟩ = some (.slice a X.L.length c) := by rw [HK.out.cell]; rfl
  have c1 : w2.cell? ⟨bs, 1, none⟩ = some (.int .i64 nx) := by rw [HK.out.cell]; rfl
  go_wp2_with fail
  have hq : Calls Tryd.prog 32 #[.agg #[.slice a X.L.length c, .int .i64 nx], .int .i64 id] w2 (R21Post w2 a (destX X id) [.int .i64 (destE X.L id)]) := by
    have := ref21_Destroy (L := X.L) nx w2 HX2.out (fun k hk => by have := HBT.out.low k hk; have := HB2.out.size; omega) HI.out.s id
    rw [show (⟨X.L, nx⟩ : ThX) = X by rw [HX.out]] at this
    exact this
  rw [HXN.out, HEN.out] at hq
  refine hq.mono ?_
  rintro e w3 ⟨a', c', rfl, hr3, hb3, hlow3⟩
  clear hq
  have HR3 := hid hr3
  have HL3 := hid hlow3
  have HO3 := hid (HO.out.below hb3)
  have HK63 := hid (HK6.out.below hb3)
  have H3 := hid (H2.out.below hb3)
  have HB3 := hid (Below.next HB2.out hb3)
  clear hr3 hb3 hlow3 c0 c1 o0 o1 o2 o3 o4 o5 o6
  go_upto_region 11 with fail
  obtain ⟨w5, hw5⟩ : ∃ w5, w5 = w3.alloc (.cells #[.slice a' X'.L.length c', .int .i64 X'.nx] 34) := ⟨_, rfl⟩
  rw [← hw5]
  obtain ⟨bx, hbx⟩ : ∃ b, b = w3.heap.size := ⟨_, rfl⟩
  rw [← hbx]
  have hb5 : Below w3.heap.size w3 w5 := by rw [hw5]; exact Below.new _ _
  have HX5 := hid (show Blk w5 bx #[.slice a' X'.L.length c', .int .i64 X'.nx] by rw [hw5, hbx]; exact Blk.new w3 _ _)
  have HO5 := hid (HO3.out.below hb5)
  have HK65 := hid (HK63.out.below hb5)
  have H5 := hid (H3.out.below hb5)
  have HR5 := hid (HR3.out.below hb5)
  have HB5 := hid (Below.next HB3.out hb5)
  have HZ5 := hid hb5.size
  have HZ3 := hid HB3.out.size
  have HBX : Hid (bx = w3.heap.size) := hid hbx
  have HFL : Hid (∀ k, F k → k < w.heap.size) := hid HBT.out.fl
  clear hw5 hbx hb5
  have hyb := (Below.refl w5.heap.size w5).drew
  have hyd : Upd (fun k => F k ∨ k = b6) w5 w5.drew := Upd.of_below hyb
  have e0 : ∀ y, Upd (fun k => F k ∨ k = b6) w5 y → y.cell? ⟨bx, 0, none⟩ = some (.slice a' X'.L.length c') := fun y hy => by rw [(HX5.out.upd hy (fun q => by rcases q with q | q <;> first | (have := HFL.out _ q; have := HBX.out; have := HZ3.out; have := HB6.out; omega) | (have := HBX.out; have := HK63.out.lt; have := HB6.out; omega))).cell]; rfl
  have e1 : ∀ y, Upd (fun k => F k ∨ k = b6) w5 y → y.cell? ⟨bx, 1, none⟩ = some (.int .i64 X'.nx) := fun y hy => by rw [(HX5.out.upd hy (fun q => by rcases q with q | q <;> first | (have := HFL.out _ q; have := HBX.out; have := HZ3.out; have := HB6.out; omega) | (have := HBX.out; have := HK63.out.lt; have := HB6.out; omega))).cell]; rfl
  have e2 : ∀ y, Upd (fun k => F k ∨ k = b6) w5 y → y.cell? ⟨bo, 1, none⟩ = some (.int .i64 id) := fun y hy => by rw [(HO5.out.upd hy (fun q => by rcases q with q | q <;> first | (have := HFL.out _ q; have := HBX.out; have := HZ3.out; have := HB6.out; omega) | (have := HBX.out; have := HK63.out.lt; have := HB6.out; omega))).cell]; rfl
  have e3 : ∀ y, Upd (fun k => F k ∨ k = b6) w5 y → y.cell? ⟨bo, 2, none⟩ = some (.int .i64 o) := fun y hy => by rw [(HO5.out.upd hy (fun q => by rcases q with q | q <;> first | (have := HFL.out _ q; have := HBX.out; have := HZ3.out; have := HB6.out; omega) | (have := HBX.out; have := HK63.out.lt; have := HB6.out; omega))).cell]; rfl
  have e4 : ∀ y, Upd (fun k => F k ∨ k = b6) w5 y → y.cell? ⟨bo, 4, none⟩ = some (.int .i64 pk) := fun y hy => by rw [(HO5.out.upd hy (fun q => by rcases q with q | q <;> first | (have := HFL.out _ q; have := HBX.out; have := HZ3.out; have := HB6.out; omega) | (have := HBX.out; have := HK63.out.lt; have := HB6.out; omega))).cell]; rfl
  have e5 : ∀ y, Upd (fun k => F k ∨ k = b6) w5 y → y.cell? ⟨bo, 5, none⟩ = some (.int .i64 ph) := fun y hy => by rw [(HO5.out.upd hy (fun q => by rcases q with q | q <;> first | (have := HFL.out _ q; have := HBX.out; have := HZ3.out; have := HB6.out; omega) | (have := HBX.out; have := HK63.out.lt; have := HB6.out; omega))).cell]; rfl
  have e6 : ∀ y, Upd (fun k => F k ∨ k = b6) w5 y → y.cell? ⟨bo, 6, none⟩ = some (.int .i64 ps) := fun y hy => by rw [(HO5.out.upd hy (fun q => by rcases q with q | q <;> first | (have := HFL.out _ q; have := HBX.out; have := HZ3.out; have := HB6.out; omega) | (have := HBX.out; have := HK63.out.lt; have := HB6.out; omega))).cell]; rfl
  go_upto_region 11 with fail
  refine wp_region_kept [8] (fun y => Upd (fun k => F k ∨ k = b6) w5 y) (by kernel_rfl) (by assumption) (fun hH => ?_)
  refine wpK.take (i := 0) (v := _) (by simp only [List.getElem?_toArray, List.getElem?_cons_succ, List.getElem?_cons_zero]; rfl) (by kernel_rfl) (by kernel_rfl) (by kernel_rfl) (by kernel_rfl) (by kernel_rfl) (by exact fun _ _ _ h => h) (by first | exact Or.inl ⟨by rfl, by intro w hSw; go_simp; try with_reducible rfl⟩ | exact Or.inr ⟨by rfl, rfl⟩) hH ?_
  try simp only [Act.put, List.setIfInBounds_toArray, List.set_cons_zero, List.set_cons_succ]
  refine wpK.take (i := 1) (v := _) (by simp only [List.getElem?_toArray, List.getElem?_cons_succ, List.getElem?_cons_zero]; rfl) (by kernel_rfl) (by kernel_rfl) (by kernel_rfl) (by kernel_rfl) (by kernel_rfl) (by exact fun _ _ _ h => h) (by first | exact Or.inl ⟨by rfl, by intro w hSw; go_simp; try with_reducible rfl⟩ | exact Or.inr ⟨by rfl, rfl⟩) hH ?_
  try simp only [Act.put, List.setIfInBounds_toArray, List.set_cons_zero, List.set_cons_succ]
  refine wpK.take (i := 2) (v := _) (by simp only [List.getElem?_toArray, List.getElem?_cons_succ, List.getElem?_cons_zero]; rfl) (by kernel_rfl) (by kernel_rfl) (by kernel_rfl) (by kernel_rfl) (by kernel_rfl) (by exact fun _ _ _ h => h) (by first | exact Or.inl ⟨by rfl, by intro w hSw; go_simp; try with_reducible rfl⟩ | exact Or.inr ⟨by rfl, rfl⟩) hH ?_
  try simp only [Act.put, List.setIfInBounds_toArray, List.set_cons_zero, List.set_cons_succ]
  refine wpK.take (i := 3) (v := _) (by simp only [List.getElem?_toArray, List.getElem?_cons_succ, List.getElem?_cons_zero]; rfl) (by kernel_rfl) (by kernel_rfl) (by kernel_rfl) (by kernel_rfl) (by kernel_rfl) (by exact fun _ _ _ h => h) (by first | exact Or.inl ⟨by rfl, by intro w hSw; go_simp; try with_reducible rfl⟩ | exact Or.inr ⟨by rfl, rfl⟩) hH ?_
  try simp only [Act.put, List.setIfInBounds_toArray, List.set_cons_zero, List.set_cons_succ]
  refine wpK.take (i := 5) (v := _) (by simp only [List.getElem?_toArray, List.getElem?_cons_succ, List.getElem?_cons_zero]; rfl) (by kernel_rfl) (by kernel_rfl) (by kernel_rfl) (by kernel_rfl) (by kernel_rfl) (by exact fun _ _ _ h => h) (by first | exact Or.inl ⟨by rfl, by intro w hSw; go_simp; try with_reducible rfl⟩ | exact Or.inr ⟨by rfl, rfl⟩) hH ?_
  try simp only [Act.put, List.setIfInBounds_toArray, List.set_cons_zero, List.set_cons_succ]
  refine wpK.step (i := 4) (by kernel_rfl) (by simp only [List.getElem?_toArray, List.getElem?_cons_succ, List.getElem?_cons_zero]; rfl) (fun K hK => ?_)
  go_simp
  (have hq := thing_Destroy w5.drew (H5.out.below hyb) (by have := HL9.out; omega) id); (rw [HXN.out, HEN.out] at hq); (refine hq.mono ?_); rintro e wB ⟨rfl, hsB, huB⟩; (have hkF : Upd F w5 wB := (Upd.of_below hyb).trans huB (fun _ _ q => q)); (have hkB : Upd (fun k => F k ∨ k = b6) w5 wB := hkF.mono (fun _ _ q => .inl q)); (have HK6B := hid (HK65.out.upd hkF (fun q => by have := HFL.out _ q; have := HB6.out; omega))); (have hk9 : Upd (fun k => F k ∨ k = b6) w5 ((wB.setCell ⟨b6, 0, none⟩ (.slice a' X'.L.length c')).setCell ⟨b6, 1, none⟩ (.int .i64 X'.nx)) := (hkB.trans (Upd.setCell wB b6 0 _) (fun _ _ q => .inr q)).trans (Upd.setCell _ b6 1 _) (fun _ _ q => .inr q)); (have q0 : wB.cell? ⟨b6, 0, none⟩ = some (.slice none 0 0) := by rw [HK6B.out.cell]; rfl); (have q1 : wB.cell? ⟨b6, 1, none⟩ = some (.int .i64 0) := by rw [HK6B.out.cell]; rfl); (have f0 : wB.frozen? ⟨b6, 0, none⟩ = false := HK6B.out.unfrozen 0); (have f1 : wB.frozen? ⟨b6, 1, none⟩ = false := HK6B.out.unfrozen 1); go_simp
  refine hK.out _ _ (by assumption) (fun hH => ?_)
  clear hK K
  try simp only [Act.put, List.setIfInBounds_toArray, List.set_cons_zero, List.set_cons_succ]
  refine wpK.take (i := 6) (v := _) (by simp only [List.getElem?_toArray, List.getElem?_cons_succ, List.getElem?_cons_zero]; rfl) (by kernel_rfl) (by kernel_rfl) (by kernel_rfl) (by kernel_rfl) (by kernel_rfl) (by exact fun _ _ _ h => h) (by first | exact Or.inl ⟨by rfl, by intro w hSw; go_simp; try with_reducible rfl⟩ | exact Or.inr ⟨by rfl, rfl⟩) hH ?_
  try simp only [Act.put, List.setIfInBounds_toArray, List.set_cons_zero, List.set_cons_succ]
  refine wpK.step (i := 7) (by kernel_rfl) (by simp only [List.getElem?_toArray, List.getElem?_cons_succ, List.getElem?_cons_zero]; rfl) (fun K hK => ?_)
  go_simp
  refine hK.out _ _ (by assumption) (fun hH => ?_)
  clear hK K
  try simp only [Act.put, List.setIfInBounds_toArray, List.set_cons_zero, List.set_cons_succ]
  refine wpK.late (i := 8) (by kernel_rfl) (by simp only [List.getElem?_toArray, List.getElem?_cons_succ, List.getElem?_cons_zero]; rfl) (by kernel_rfl) (fun K hK => ?_)
  go_simp
  refine hK.out _ _ ?_
  clear hK K
  try simp only [Act.put, List.setIfInBounds_toArray, List.set_cons_zero, List.set_cons_succ]
  refine wpK.done (by kernel_rfl) ?_ _
  have HS9 := hid hsB
  have HUB := hid hkF
  clear e0 e1 e2 e3 e4 e5 e6 hyd hyb hsB huB hkB hkF hk9 hq q0 q1 f0 f1
  have HK9 : Hid (Blk ((wB.setCell ⟨b6, 0, none⟩ (.slice a' X'.L.length c')).setCell ⟨b6, 1, none⟩ (.int .i64 X'.nx)) b6 #[.slice a' X'.L.length c', .int .i64 X'.nx]) := hid (by simpa using (HK6B.out.set 0 (.slice a' X'.L.length c')).set 1 (.int .i64 X'.nx))
  have HU9 := hid ((Upd.setCell wB b6 0 (.slice a' X'.L.length c')).trans (Upd.setCell _ b6 1 (.int .i64 X'.nx)) (fun _ _ q => q))
  generalize World.setCell (World.setCell wB _ _) _ _ = w9 at HK9 HU9
  have k0 : w9.cell? ⟨b6, 0, none⟩ = some (.slice a' X'.L.length c') := by rw [HK9.out.cell]; rfl
  have k1 : w9.cell? ⟨b6, 1, none⟩ = some (.int .i64 X'.nx) := by rw [HK9.out.cell]; rfl
  go_wp2_with fail
  refine bodyPost_ret (res_cell_tmp rfl _ _ _ rfl (by go_simp; rfl)) rfl ?_
  have hz5 : w5.drew.heap.size = w5.heap.size := rfl
  have hUw : Upd F w wB := (Upd.of_below HB5.out).trans HUB.out (fun _ _ q => q)
  have hFar : ∀ k, aB a' k → ¬ F k := fun k hk q => by
    rcases (HL3.out k hk).2 with q2 | q2
    · exact HBT.out.far k q2 q
    · have := HFL.out k q; have := HB2.out.size; omega
  have a1 := HZ5.out
  have a3 := HZ3.out
  have a2 := HB2.out.size
  have a4 := HB6.out
  have a5 := HUB.out.size
  refine HBT.out.fin (HR5.out.upd HUB.out hFar) HS9.out (fun k hk => ?_) (fun k hk => ?_) hUw (b6 := b6) (by omega) ?_ (fun k hk q => ?_) HU9.out
  · rcases hk with hk | hk
    · exact .inl hk
    · right; try rw [hz5] at hk
      omega
  · have h3 := HL3.out k hk
    refine ⟨fun q => ?_, by omega, h3.2.imp (fun q => q) (fun q => by omega)⟩
    rcases q with q | q
    · exact hFar k hk q
    · try rw [hz5] at q
      omega
  · rintro (q | q)
    · have := HFL.out _ q; omega
    · try rw [hz5] at q
      have := HK65.out.lt; omega
  · rcases (HL3.out k hk).2 with q2 | q2
    · have := HBT.out.low k q2; omega
    · omega
set_option maxRecDepth 100000 in
set_option maxHeartbeats 8000000 in
theorem law21_step0 {s : Nat} {F : Nat → Prop} {a : Option Addr} {c : Nat} {X : ThX} (w : World) (h : BothT w s F a c X) (hl9 : X.L.length ≤ 800) (hnx : X.nx ≤ 4611686018427387904) (kd id o pk ph ps : Int) (nm : List UInt8) (hnm : nm.length ≤ 1000000) (ho63 : o ≤ 9223372036854775807) (h1 : kd ≠ 1) (h2 : kd ≠ 2) (h3 : kd ≠ 3) :
    Calls Tryd.prog 13 #[.pointer (some ⟨s, 0, none⟩), .agg #[.slice a X.L.length c, .int .i64 X.nx], .agg #[.int .i64 kd, .int .i64 id, .int .i64 o, .string ⟨nm.toArray⟩, .int .i64 pk, .int .i64 ph, .int .i64 ps]] w (StepT w s F a (X)) := by
  have HBT := hid h
  have HI := hid h.st.2
  have HL9 := hid hl9
  have HNX := hid hnx
  have HNM := hid hnm
  have HO63 := hid ho63
  clear h hl9 hnx hnm ho63
  obtain ⟨nx, hx⟩ : ∃ nx, nx = X.nx := ⟨_, rfl⟩
  have HX := hid hx
  rw [← hx]
  have k1 : (kd == 1) = false := by simpa using h1
  have k2 : (kd == 2) = false := by simpa using h2
  have k3 : (kd == 3) = false := by simpa using h3
  clear h1 h2 h3
  clear hx
  go_enter Tryd.func13, Tryd.ntmps13
  go_upto_region 1 with fail
  generalize hw2 : World.alloc (World.alloc (World.alloc w _) _) _ = w2
  obtain ⟨bs, hbs⟩ : ∃ b, b = w.heap.size := ⟨_, rfl⟩
  obtain ⟨bo, hbo⟩ : ∃ b, b = w.heap.size + 1 := ⟨_, rfl⟩
  obtain ⟨b6, hb6⟩ : ∃ b, b = w.heap.size + 1 + 1 := ⟨_, rfl⟩
  have hz1 : (World.alloc w (.cells #[.slice a X.L.length c, .int .i64 nx] 34)).heap.size = w.heap.size + 1 := by simp
  have hz2 : (World.alloc (World.alloc w (.cells #[.slice a X.L.length c, .int .i64 nx] 34)) (.cells #[.int .i64 kd, .int .i64 id, .int .i64 o, .string ⟨nm.toArray⟩, .int .i64 pk, .int .i64 ph, .int .i64 ps] 36)).heap.size = w.heap.size + 1 + 1 := by simp
  try rw [hz2]
  try rw [hz1]
  try rw [← hb6]
  try rw [← hbo]
  try rw [← hbs]
  have hb2 : Below w.heap.size w w2 := by rw [← hw2]; exact Below.next (Below.next (Below.new _ _) (Below.new _ _)) (Below.new _ _)
  have HK : Hid (Blk w2 bs #[.slice a X.L.length c, .int .i64 nx]) := hid (by rw [← hw2, hbs]; exact ((Blk.new w _ _).below (Below.new _ _)).below (Below.new _ _))
  have HO : Hid (Blk w2 bo #[.int .i64 kd, .int .i64 id, .int .i64 o, .string ⟨nm.toArray⟩, .int .i64 pk, .int .i64 ph, .int .i64 ps]) := hid (by rw [← hw2, hbo, ← hz1]; exact (Blk.new _ _ _).below (Below.new _ _))
  have HK6 : Hid (Blk w2 b6 #[.slice none 0 0, .int .i64 0]) := hid (by rw [← hw2, hb6, ← hz2]; exact Blk.new _ _ _)
  have HX2 := hid (HBT.out.rx.below hb2)
  have H2 := hid (HBT.out.st.below hb2)
  have HB2 := hid hb2
  have HB6 : Hid (bs = w.heap.size ∧ bo = w.heap.size + 1 ∧ b6 = w.heap.size + 2 ∧ b6 < w2.heap.size) := hid (by have := HK6.out.lt; omega)
  clear hw2 hbs hbo hb6 hz1 hz2 hb2
  have o0 : w2.cell? ⟨bo, 0, none⟩ = some (.int .i64 kd) := by rw [HO.out.cell]; rfl
  have o1 : w2.cell? ⟨bo, 1, none⟩ = some (.int .i64 id) := by rw [HO.out.cell]; rfl
  have o2 : w2.cell? ⟨bo, 2, none⟩ = some (.int .i64 o) := by rw [HO.out.cell]; rfl
  have o3 : w2.cell? ⟨bo, 3, none⟩ = some (.string ⟨nm.toArray⟩) := by rw [HO.out.cell]; rfl
  have o4 : w2.cell? ⟨bo, 4, none⟩ = some (.int .i64 pk) := by rw [HO.out.cell]; rfl
  have o5 : w2.cell? ⟨bo, 5, none⟩ = some (.int .i64 ph) := by rw [HO.out.cell]; rfl
  have o6 : w2.cell? ⟨bo, 6, none⟩ = some (.int .i64 ps) := by rw [HO.out.cell]; rfl
  have c0 : w2.cell? ⟨bs, 0, none⟩ = some (.slice a X.L.length c) := by rw [HK.out.cell]; rfl
  have c1 : w2.cell? ⟨bs, 1, none⟩ = some (.int .i64 nx) := by rw [HK.out.cell]; rfl
  have q0 : w2.cell? ⟨b6, 0, none⟩ = some (.slice none 0 0) := by rw [HK6.out.cell]; rfl
  have q1 : w2.cell? ⟨b6, 1, none⟩ = some (.int .i64 0) := by rw [HK6.out.cell]; rfl
  have f0 : w2.frozen? ⟨b6, 0, none⟩ = false := HK6.out.unfrozen 0
  have f1 : w2.frozen? ⟨b6, 1, none⟩ = false := HK6.out.unfrozen 1
  have HK9 : Hid (Blk ((w2.setCell ⟨b6, 0, none⟩ (.slice a X.L.length c)).setCell ⟨b6, 1, none⟩ (.int .i64 nx)) b6 #[.slice a X.L.length c, .int .i64 nx]) := hid (by simpa using (HK6.out.set 0 (.slice a X.L.length c)).set 1 (.int .i64 nx))
  have HU9 := hid ((Upd.setCell w2 b6 0 (.slice a X.L.length c)).trans (Upd.setCell _ b6 1 (.int .i64 nx)) (fun _ _ q => q))
  go_wp2_with fail
  generalize World.setCell (World.setCell w2 _ _) _ _ = w9 at HK9 HU9
  have z0 : w9.cell? ⟨b6, 0, none⟩ = some (.slice a X.L.length c) := by rw [HK9.out.cell]; rfl
  have z1 : w9.cell? ⟨b6, 1, none⟩ = some (.int .i64 nx) := by rw [HK9.out.cell]; rfl
  refine bodyPost_ret (res_cell_tmp rfl _ _ _ rfl (by go_simp; rfl)) rfl ?_
  have a4 := HB6.out
  have hq := HBT.out.fin HX2.out H2.out (fun k hk => .inl hk) (fun k hk => ⟨HBT.out.far k hk, by have := HBT.out.low k hk; have := HB2.out.size; omega, .inl hk⟩) (Upd.of_below HB2.out) (b6 := b6) (by omega) (fun q => by have := HBT.out.fl _ q; omega) (fun k hk q => by have := HBT.out.low k hk; omega) HU9.out
  rw [← HX.out] at hq
  exact hq
end Go.Proofs.YtdoflhiogoefjaaDoor
end
