/- Joined texts, in this order: StallStep4. Each one's first remark says what it proves; no condition beyond those that its theorems name. -/
import Derived.Test.YtajfjgekcjkedaaJLawStallRestores23
section
/- The law's step: Sell. -/
namespace Go.Proofs.Ytajfjgekcjkedaa
open Go.RowKit
open Go.Lib (hid)
set_option linter.unusedVariables false

theorem FindG.at {G : List G3} {t r h p : Int} {i : Nat} (hr : FindG G t r) (hs : SortK kG G) (hi : G[i]? = some (h, t, p)) : r = (i : Int) := by
  rcases hr with ⟨j, g', rfl, q, q3⟩ | ⟨-, q⟩
  · rw [sortK_idx kG hs q hi ((fdX_some hs).1 q3).2]
  · exact absurd rfl (fdX_none.1 q _ (List.mem_of_getElem? hi))
theorem Blk.c3 {w : World} {g : Nat} {a b c : Value} (h : Blk w g #[a, b, c]) : w.cell? ⟨g, 0, none⟩ = some a ∧ w.cell? ⟨g, 1, none⟩ = some b ∧ w.cell? ⟨g, 2, none⟩ = some c ∧ w.frozen? ⟨g, 0, none⟩ = false ∧ w.frozen? ⟨g, 1, none⟩ = false ∧ w.frozen? ⟨g, 2, none⟩ = false :=
  ⟨by rw [h.cell]; rfl, by rw [h.cell]; rfl, by rw [h.cell]; rfl, h.unfrozen _, h.unfrozen _, h.unfrozen _⟩
theorem set3_of {x : World} {g : Nat} {c0 c1 c2 : Value} (h : Blk x g #[c0, c1, c2]) (u0 u1 u2 : Value) : ∃ wz, wz = ((x.setCell ⟨g, 0, none⟩ u0).setCell ⟨g, 1, none⟩ u1).setCell ⟨g, 2, none⟩ u2 ∧ Blk wz g #[u0, u1, u2] ∧ Upd (fun k => k = g) x wz :=
  ⟨_, rfl, by simpa using ((h.set 0 u0).set 1 u1).set 2 u2, ((Upd.setCell x g 0 u0).trans (Upd.setCell _ g 1 u1) (fun _ _ q => q)).trans (Upd.setCell _ g 2 u2) (fun _ _ q => q)⟩
theorem ref23_SellTo {at_ ag : Option Addr} {ct cg : Nat} {X X' : StX} (w : World) (h : RefX w at_ ct ag cg X) (hlow : Low at_ ag w.heap.size) (hi : XInv X) {t hh pp E : Int} (e : sellX X t = (X', hh, pp, E)) :
    Calls Try.prog 44 #[.agg #[.slice at_ X.tills.length ct, .slice ag X.goods.length cg], .int .i64 t] w (R23Post w at_ ag X' E) := by
  have := ref23_Sell w h hlow hi t
  rw [e] at this
  exact this
theorem stall_SellTo {s : Nat} {F : Nat → Prop} {X X' : StX} (w : World) (h : StallIs w s F X) {t hh pp E : Int} (e : sellX X t = (X', hh, pp, E)) :
    Calls Try.prog 12 #[.pointer (some ⟨s, 0, none⟩), .int .i64 t] w (StPost w s F X' (.tuple #[.int .i64 hh, .int .i64 pp, .int .i64 E])) := by
  have := stall_Sell w h t
  rw [e] at this
  exact this
set_option maxRecDepth 100000 in
set_option maxHeartbeats 4000000 in
theorem law23_step4no {s : Nat} {F : Nat → Prop} {at_ ag : Option Addr} {ct cg : Nat} {X : StX} (w : World) (h : Both w s F at_ ct ag cg X) (hnt : X.tills.length < 100000) (hng : X.goods.length < 100000) (kd oh ot op : Int) (hoh : oh ≤ 9223372036854775807) (hot : ot ≤ 9223372036854775807) (hkd : kd = 4) {X' : StX} {E : Int} (hsx : sellX X ot = (X', 0, 0, E)) (hE : E ≠ 0) :
    Calls Try.prog 23 #[.pointer (some ⟨s, 0, none⟩), .agg #[.slice at_ X.tills.length ct, .slice ag X.goods.length cg], .agg #[.int .i64 kd, .int .i64 oh, .int .i64 ot, .int .i64 op]] w (StepPost w s F at_ ag (X')) := by
  have HBT := hid h
  have HI := hid h.st.inv
  clear h
  subst hkd
  have HSX := hid hsx
  have hE1 : (E != 0) = true := by simpa using hE
  have hE2 : (E == E) = true := by simp
  clear hsx
  go_enter Try.func23, Try.ntmps23
  go_upto_region 1 with fail
  generalize hw2 : World.alloc (World.alloc (World.alloc w _) _) _ = w2
  obtain ⟨bs, hbs⟩ : ∃ b, b = w.heap.size := ⟨_, rfl⟩
  obtain ⟨bo, hbo⟩ : ∃ b, b = w.heap.size + 1 := ⟨_, rfl⟩
  obtain ⟨b4, hb4⟩ : ∃ b, b = w.heap.size + 1 + 1 := ⟨_, rfl⟩
  have hz1 : (World.alloc w (.cells #[.slice at_ X.tills.length ct, .slice ag X.goods.length cg] 46)).heap.size = w.heap.size + 1 := by simp
  have hz2 : (World.alloc (World.alloc w (.cells #[.slice at_ X.tills.length ct, .slice ag X.goods.length cg] 46)) (.cells #[.int .i64 4, .int .i64 oh, .int .i64 ot, .int .i64 op] 27)).heap.size = w.heap.size + 1 + 1 := by simp
  try rw [hz2]
  try rw [hz1]
  try rw [← hb4]
  try rw [← hbo]
  try rw [← hbs]
  have hb2 : Below w.heap.size w w2 := by rw [← hw2]; exact Below.next (Below.next (Below.new _ _) (Below.new _ _)) (Below.new _ _)
  have HK : Hid (Blk w2 bs #[.slice at_ X.tills.length ct, .slice ag X.goods.length cg]) := hid (by rw [← hw2, hbs]; exact ((Blk.new w _ _).below (Below.new _ _)).below (Below.new _ _))
  have HO : Hid (Blk w2 bo #[.int .i64 4, .int .i64 oh, .int .i64 ot, .int .i64 op]) := hid (by rw [← hw2, hbo, ← hz1]; exact (Blk.new _ _ _).below (Below.new _ _))
  have HK4 : Hid (Blk w2 b4 #[.slice none 0 0, .slice none 0 0]) := hid (by rw [← hw2, hb4, ← hz2]; exact Blk.new _ _ _)
  have HX2 := hid (HBT.out.rx.below hb2)
  have H2 := hid (HBT.out.st.below hb2)
  have HB2 := hid hb2
  have HB4 : Hid (bs = w.heap.size ∧ bo = w.heap.size + 1 ∧ b4 = w.heap.size + 2 ∧ b4 < w2.heap.size) := hid (by have := HK4.out.lt; omega)
  clear hw2 hbs hbo hb4 hz1 hz2 hb2
  have o0 : w2.cell? ⟨bo, 0, none⟩ = some (.int .i64 4) := by rw [HO.out.cell]; rfl
  have o1 : w2.cell? ⟨bo, 1, none⟩ = some (.int .i64 oh) := by rw [HO.out.cell]; rfl
  have o2 : w2.cell? ⟨bo, 2, none⟩ = some (.int .i64 ot) := by rw [HO.out.cell]; rfl
  have o3 : w2.cell? ⟨bo, 3, none⟩ = some (.int .i64 op) := by rw [HO.out.cell]; rfl
  have c0 : w2.cell? ⟨bs, 0, none⟩ = some (.slice at_ X.tills.length ct) := by rw [HK.out.cell]; rfl
  have c1 : w2.cell? ⟨bs, 1, none⟩ = some (.slice ag X.goods.length cg) := by rw [HK.out.cell]; rfl
  go_wp2_with fail
  refine (ref23_SellTo w2 HX2.out (fun k hk => by have := HBT.out.low k hk; have := HB2.out.size; omega) HI.out HSX.out).mono ?_
  rintro e w3 ⟨at', ct', ag', cg', rfl, hr3, hb3, hlow3⟩
  have HR3 := hid hr3
  have HL3 := hid hlow3
  have HO3 := hid (HO.out.below hb3)
  have HK3 := hid (HK.out.below hb3)
  have HK43 := hid (HK4.out.below hb3)
  have H3 := hid (H2.out.below hb3)
  have HB3 := hid (Below.next HB2.out hb3)
  have HRO3 := hid (HX2.out.below hb3)
  clear hr3 hb3 hlow3 c0 c1 o0 o1 o2 o3
  go_upto_region 13 with fail
  obtain ⟨w5, hw5⟩ : ∃ w5, w5 = w3.alloc (.cells #[.slice at' X'.tills.length ct', .slice ag' X'.goods.length cg'] 46) := ⟨_, rfl⟩
  rw [← hw5]
  obtain ⟨bx, hbx⟩ : ∃ b, b = w3.heap.size := ⟨_, rfl⟩
  rw [← hbx]
  have hb5 : Below w3.heap.size w3 w5 := by rw [hw5]; exact Below.new _ _
  have HX5 := hid (show Blk w5 bx #[.slice at' X'.tills.length ct', .slice ag' X'.goods.length cg'] by rw [hw5, hbx]; exact Blk.new w3 _ _)
  have HO5 := hid (HO3.out.below hb5)
  have HK5_ := hid (HK3.out.below hb5)
  have HK45 := hid (HK43.out.below hb5)
  have H5 := hid (H3.out.below hb5)
  have HR5 := hid (HR3.out.below hb5)
  have HRO5 := hid (HRO3.out.below hb5)
  have HB5 := hid (Below.next HB3.out hb5)
  have HZ5 := hid hb5.size
  have HZ3 := hid HB3.out.size
  have HBX : Hid (bx = w3.heap.size) := hid hbx
  have HFL : Hid (∀ k, F k → k < w.heap.size) := hid HBT.out.fl
  clear hw5 hbx hb5
  have o2 : w5.cell? ⟨bo, 2, none⟩ = some (.int .i64 ot) := by rw [HO5.out.cell]; rfl
  go_wp2_with fail
  refine (stall_SellTo w5 H5.out HSX.out).mono ?_
  rintro e wB ⟨rfl, hsB, huB⟩
  have HS9 := hid hsB
  have HUB := hid huB
  have HFar : Hid (∀ k, (aB at' k ∨ aB ag' k) → ¬ F k) := hid (fun k hk q => by
    rcases (HL3.out k hk).2 with q2 | q2
    · exact HBT.out.far k q2 q
    · have := HFL.out k q; have := HB2.out.size; omega)
  have HXB := hid (HX5.out.upd huB (fun q => by have := HFL.out _ q; have := HBX.out; have := HZ3.out; omega))
  have HOB := hid (HO5.out.upd huB (fun q => by have := HFL.out _ q; have := HB4.out; omega))
  have HKB := hid (HK5_.out.upd huB (fun q => by have := HFL.out _ q; have := HB4.out; omega))
  have HK4B0 := hid (HK45.out.upd huB (fun q => by have := HFL.out _ q; have := HB4.out; omega))
  have HRB := hid (HR5.out.upd huB HFar.out)
  have HROB := hid (HRO5.out.upd huB HBT.out.far)
  have HZB := hid huB.size
  clear hsB huB o2
  have k0 : wB.cell? ⟨bx, 0, none⟩ = some (.slice at' X'.tills.length ct') := by rw [HXB.out.cell]; rfl
  have k1 : wB.cell? ⟨bx, 1, none⟩ = some (.slice ag' X'.goods.length cg') := by rw [HXB.out.cell]; rfl
  have HK4B := HK4B0
  have q0 : wB.cell? ⟨b4, 0, none⟩ = some (.slice none 0 0) := by rw [HK4B.out.cell]; rfl
  have q1 : wB.cell? ⟨b4, 1, none⟩ = some (.slice none 0 0) := by rw [HK4B.out.cell]; rfl
  have f0 : wB.frozen? ⟨b4, 0, none⟩ = false := HK4B.out.unfrozen 0
  have f1 : wB.frozen? ⟨b4, 1, none⟩ = false := HK4B.out.unfrozen 1
  go_wp2_with fail
  clear k0 k1
  have HK5 : Hid (Blk ((wB.setCell ⟨b4, 0, none⟩ (.slice at' X'.tills.length ct')).setCell ⟨b4, 1, none⟩ (.slice ag' X'.goods.length cg')) b4 #[.slice at' X'.tills.length ct', .slice ag' X'.goods.length cg']) := hid (by simpa using (HK4B.out.set 0 (.slice at' X'.tills.length ct')).set 1 (.slice ag' X'.goods.length cg'))
  have HU9 := hid ((Upd.setCell wB b4 0 (.slice at' X'.tills.length ct')).trans (Upd.setCell _ b4 1 (.slice ag' X'.goods.length cg')) (fun _ _ q => q))
  generalize World.setCell (World.setCell wB _ _) _ _ = w9 at HK5 HU9
  have k0 : w9.cell? ⟨b4, 0, none⟩ = some (.slice at' X'.tills.length ct') := by rw [HK5.out.cell]; rfl
  have k1 : w9.cell? ⟨b4, 1, none⟩ = some (.slice ag' X'.goods.length cg') := by rw [HK5.out.cell]; rfl
  clear q0 q1 f0 f1
  refine bodyPost_ret (res_cell_tmp rfl _ _ _ rfl (by go_simp; rfl)) rfl ?_
  have HBE := hid (Below.refl wB.heap.size wB)
  have a1 := HZ5.out
  have a3 := HZ3.out
  have a2 := HB2.out.size
  have a4 := HB4.out
  have a5 := HZB.out
  have a6 := HBE.out.size
  refine HBT.out.fin (HRB.out.below HBE.out) (HS9.out.below HBE.out |>.weaken (G := fun k => (F k ∨ w5.heap.size ≤ k)) (fun k q _ => q)) (fun k hk => ?_) (fun k hk => ?_) (((Upd.of_below (S := F) HB5.out).trans HUB.out (fun _ _ q => q)).trans (Upd.of_below HBE.out) (fun _ _ q => q)) (b4 := b4) (by omega) ?_ (fun k hk q => ?_) HU9.out
  · rcases hk with hk | hk
    · exact .inl hk
    · right; omega
  · have h3 := HL3.out k hk
    refine ⟨fun q => ?_, by omega, h3.2.imp id (fun q => by omega)⟩
    rcases q with q | q
    · exact HFar.out k hk q
    · omega
  · rintro (q | q)
    · have := HFL.out _ q; omega
    · have := HK45.out.lt; have := HK43.out.lt; omega
  · rcases (HL3.out k hk).2 with q2 | q2
    · have := HBT.out.low k q2; omega
    · omega
set_option maxRecDepth 100000 in
set_option maxHeartbeats 4000000 in
theorem law23_step4yes {s : Nat} {F : Nat → Prop} {at_ ag : Option Addr} {ct cg : Nat} {X : StX} (w : World) (h : Both w s F at_ ct ag cg X) (hnt : X.tills.length < 100000) (hng : X.goods.length < 100000) (kd oh ot op : Int) (hoh : oh ≤ 9223372036854775807) (hot : ot ≤ 9223372036854775807) (hkd : kd = 4) {X' : StX} {hh pp : Int} (hsx : sellX X ot = (X', hh, pp, 0)) (hfd : fdX X.goods ot = some (hh, ot, pp)) :
    Calls Try.prog 23 #[.pointer (some ⟨s, 0, none⟩), .agg #[.slice at_ X.tills.length ct, .slice ag X.goods.length cg], .agg #[.int .i64 kd, .int .i64 oh, .int .i64 ot, .int .i64 op]] w (StepPost w s F at_ ag (X')) := by
  have HBT := hid h
  have HI := hid h.st.inv
  clear h
  subst hkd
  have HSX := hid hsx
  have HFD := hid hfd
  have HSORT := hid HI.out.g1
  have hm := ((fdX_some HI.out.g1).1 hfd).1
  obtain ⟨i1, hI1⟩ := List.mem_iff_getElem?.1 hm
  have i11 : (i1 : Int) < (X.goods.length : Int) := by have := (List.getElem?_eq_some_iff.1 hI1).1; omega
  have i10 : (0 : Int) ≤ (i1 : Int) := by omega
  have HI1 := hid hI1
  obtain ⟨a', c', e', hrd, -⟩ := HBT.out.rx.g
  simp only [Value.slice.injEq, true_and] at e'
  obtain ⟨rfl, rfl⟩ := e'
  obtain ⟨bg, og, -, -, -, rfl, -⟩ := hrd.triple 0 (by omega)
  clear hI1 hrd hm hsx hfd
  go_enter Try.func23, Try.ntmps23
  go_upto_region 1 with fail
  generalize hw2 : World.alloc (World.alloc (World.alloc w _) _) _ = w2
  obtain ⟨bs, hbs⟩ : ∃ b, b = w.heap.size := ⟨_, rfl⟩
  obtain ⟨bo, hbo⟩ : ∃ b, b = w.heap.size + 1 := ⟨_, rfl⟩
  obtain ⟨b4, hb4⟩ : ∃ b, b = w.heap.size + 1 + 1 := ⟨_, rfl⟩
  have hz1 : (World.alloc w (.cells #[.slice at_ X.tills.length ct, .slice (some ⟨bg, og, none⟩) X.goods.length cg] 46)).heap.size = w.heap.size + 1 := by simp
  have hz2 : (World.alloc (World.alloc w (.cells #[.slice at_ X.tills.length ct, .slice (some ⟨bg, og, none⟩) X.goods.length cg] 46)) (.cells #[.int .i64 4, .int .i64 oh, .int .i64 ot, .int .i64 op] 27)).heap.size = w.heap.size + 1 + 1 := by simp
  try rw [hz2]
  try rw [hz1]
  try rw [← hb4]
  try rw [← hbo]
  try rw [← hbs]
  have hb2 : Below w.heap.size w w2 := by rw [← hw2]; exact Below.next (Below.next (Below.new _ _) (Below.new _ _)) (Below.new _ _)
  have HK : Hid (Blk w2 bs #[.slice at_ X.tills.length ct, .slice (some ⟨bg, og, none⟩) X.goods.length cg]) := hid (by rw [← hw2, hbs]; exact ((Blk.new w _ _).below (Below.new _ _)).below (Below.new _ _))
  have HO : Hid (Blk w2 bo #[.int .i64 4, .int .i64 oh, .int .i64 ot, .int .i64 op]) := hid (by rw [← hw2, hbo, ← hz1]; exact (Blk.new _ _ _).below (Below.new _ _))
  have HK4 : Hid (Blk w2 b4 #[.slice none 0 0, .slice none 0 0]) := hid (by rw [← hw2, hb4, ← hz2]; exact Blk.new _ _ _)
  have HX2 := hid (HBT.out.rx.below hb2)
  have H2 := hid (HBT.out.st.below hb2)
  have HB2 := hid hb2
  have HB4 : Hid (bs = w.heap.size ∧ bo = w.heap.size + 1 ∧ b4 = w.heap.size + 2 ∧ b4 < w2.heap.size) := hid (by have := HK4.out.lt; omega)
  clear hw2 hbs hbo hb4 hz1 hz2 hb2
  have o0 : w2.cell? ⟨bo, 0, none⟩ = some (.int .i64 4) := by rw [HO.out.cell]; rfl
  have o1 : w2.cell? ⟨bo, 1, none⟩ = some (.int .i64 oh) := by rw [HO.out.cell]; rfl
  have o2 : w2.cell? ⟨bo, 2, none⟩ = some (.int .i64 ot) := by rw [HO.out.cell]; rfl
  have o3 : w2.cell? ⟨bo, 3, none⟩ = some (.int .i64 op) := by rw [HO.out.cell]; rfl
  have c0 : w2.cell? ⟨bs, 0, none⟩ = some (.slice at_ X.tills.length ct) := by rw [HK.out.cell]; rfl
  have c1 : w2.cell? ⟨bs, 1, none⟩ = some (.slice (some ⟨bg, og, none⟩) X.goods.length cg) := by rw [HK.out.cell]; rfl
  go_wp2_with fail
  refine (ref23_SellTo w2 HX2.out (fun k hk => by have := HBT.out.low k hk; have := HB2.out.size; omega) HI.out HSX.out).mono ?_
  rintro e w3 ⟨at', ct', ag', cg', rfl, hr3, hb3, hlow3⟩
  have HR3 := hid hr3
  have HL3 := hid hlow3
  have HO3 := hid (HO.out.below hb3)
  have HK3 := hid (HK.out.below hb3)
  have HK43 := hid (HK4.out.below hb3)
  have H3 := hid (H2.out.below hb3)
  have HB3 := hid (Below.next HB2.out hb3)
  have HRO3 := hid (HX2.out.below hb3)
  clear hr3 hb3 hlow3 c0 c1 o0 o1 o2 o3
  go_upto_region 13 with fail
  obtain ⟨w5, hw5⟩ : ∃ w5, w5 = w3.alloc (.cells #[.slice at' X'.tills.length ct', .slice ag' X'.goods.length cg'] 46) := ⟨_, rfl⟩
  rw [← hw5]
  obtain ⟨bx, hbx⟩ : ∃ b, b = w3.heap.size := ⟨_, rfl⟩
  rw [← hbx]
  have hb5 : Below w3.heap.size w3 w5 := by rw [hw5]; exact Below.new _ _
  have HX5 := hid (show Blk w5 bx #[.slice at' X'.tills.length ct', .slice ag' X'.goods.length cg'] by rw [hw5, hbx]; exact Blk.new w3 _ _)
  have HO5 := hid (HO3.out.below hb5)
  have HK5_ := hid (HK3.out.below hb5)
  have HK45 := hid (HK43.out.below hb5)
  have H5 := hid (H3.out.below hb5)
  have HR5 := hid (HR3.out.below hb5)
  have HRO5 := hid (HRO3.out.below hb5)
  have HB5 := hid (Below.next HB3.out hb5)
  have HZ5 := hid hb5.size
  have HZ3 := hid HB3.out.size
  have HBX : Hid (bx = w3.heap.size) := hid hbx
  have HFL : Hid (∀ k, F k → k < w.heap.size) := hid HBT.out.fl
  clear hw5 hbx hb5
  have o2 : w5.cell? ⟨bo, 2, none⟩ = some (.int .i64 ot) := by rw [HO5.out.cell]; rfl
  go_wp2_with fail
  refine (stall_SellTo w5 H5.out HSX.out).mono ?_
  rintro e wB ⟨rfl, hsB, huB⟩
  have HS9 := hid hsB
  have HUB := hid huB
  have HFar : Hid (∀ k, (aB at' k ∨ aB ag' k) → ¬ F k) := hid (fun k hk q => by
    rcases (HL3.out k hk).2 with q2 | q2
    · exact HBT.out.far k q2 q
    · have := HFL.out k q; have := HB2.out.size; omega)
  have HXB := hid (HX5.out.upd huB (fun q => by have := HFL.out _ q; have := HBX.out; have := HZ3.out; omega))
  have HOB := hid (HO5.out.upd huB (fun q => by have := HFL.out _ q; have := HB4.out; omega))
  have HKB := hid (HK5_.out.upd huB (fun q => by have := HFL.out _ q; have := HB4.out; omega))
  have HK4B0 := hid (HK45.out.upd huB (fun q => by have := HFL.out _ q; have := HB4.out; omega))
  have HRB := hid (HR5.out.upd huB HFar.out)
  have HROB := hid (HRO5.out.upd huB HBT.out.far)
  have HZB := hid huB.size
  clear hsB huB o2
  go_upto_region 16 with fail
  have e0 : ∀ y, Below wB.heap.size wB y → y.cell? ⟨bs, 0, none⟩ = some (.slice at_ X.tills.length ct) := fun y hy => by rw [(HKB.out.below hy).cell]; rfl
  have e1 : ∀ y, Below wB.heap.size wB y → y.cell? ⟨bs, 1, none⟩ = some (.slice (some ⟨bg, og, none⟩) X.goods.length cg) := fun y hy => by rw [(HKB.out.below hy).cell]; rfl
  have e2 : ∀ y, Below wB.heap.size wB y → y.cell? ⟨bo, 2, none⟩ = some (.int .i64 ot) := fun y hy => by rw [(HOB.out.below hy).cell]; rfl
  have eg : ∀ y, Below wB.heap.size wB y → y.cell? ⟨bg, og + i1 * 3, none⟩ = some (.int .i64 hh) ∧ y.cell? ⟨bg, og + i1 * 3 + 1, none⟩ = some (.int .i64 ot) ∧ y.cell? ⟨bg, og + i1 * 3 + 2, none⟩ = some (.int .i64 pp) := fun y hy => by
    obtain ⟨a', c', e', hrd, -⟩ := HROB.out.g.below hy
    simp only [Value.slice.injEq, true_and] at e'
    obtain ⟨rfl, rfl⟩ := e'
    exact hrd.triple_at HI1.out
  have e3 : ∀ y, Below wB.heap.size wB y → y.cell? ⟨bg, og + i1 * 3, none⟩ = some (.int .i64 hh) := fun y hy => (eg y hy).1
  have e4 : ∀ y, Below wB.heap.size wB y → y.cell? ⟨bg, og + i1 * 3 + 1, none⟩ = some (.int .i64 ot) := fun y hy => (eg y hy).2.1
  have e5 : ∀ y, Below wB.heap.size wB y → y.cell? ⟨bg, og + i1 * 3 + 2, none⟩ = some (.int .i64 pp) := fun y hy => (eg y hy).2.2
  clear eg
  go_cut [19] (fun v19 wx => ∃ b8, v19 = .pointer (some ⟨b8, 0, none⟩) ∧ Hid (Blk wx b8 #[.int .i64 hh, .int .i64 ot, .int .i64 pp]) ∧ Hid (wB.heap.size ≤ b8) ∧ Hid (Below wB.heap.size wB wx))
  case first =>
    have hyd := (Below.refl wB.heap.size wB).drew
    refine wp_region_kept [9] (fun y => Below wB.heap.size wB y) (by kernel_rfl) (by assumption) (fun hH => ?_)
    refine wpK.take (i := 0) (v := _) (by simp only [List.getElem?_toArray, List.getElem?_cons_succ, List.getElem?_cons_zero]; rfl) (by kernel_rfl) (by kernel_rfl) (by kernel_rfl) (by kernel_rfl) (by kernel_rfl) (by exact fun _ _ _ h => h) (by first | exact Or.inl ⟨by rfl, by intro w hSw; go_simp; try with_reducible rfl⟩ | exact Or.inr ⟨by rfl, rfl⟩) hH ?_
    try simp only [Act.put, List.setIfInBounds_toArray, List.set_cons_zero, List.set_cons_succ]
    refine wpK.take (i := 1) (v := _) (by simp only [List.getElem?_toArray, List.getElem?_cons_succ, List.getElem?_cons_zero]; rfl) (by kernel_rfl) (by kernel_rfl) (by kernel_rfl) (by kernel_rfl) (by kernel_rfl) (by exact fun _ _ _ h => h) (by first | exact Or.inl ⟨by rfl, by intro w hSw; go_simp; try with_reducible rfl⟩ | exact Or.inr ⟨by rfl, rfl⟩) hH ?_
    try simp only [Act.put, List.setIfInBounds_toArray, List.set_cons_zero, List.set_cons_succ]
    refine wpK.take (i := 2) (v := _) (by simp only [List.getElem?_toArray, List.getElem?_cons_succ, List.getElem?_cons_zero]; rfl) (by kernel_rfl) (by kernel_rfl) (by kernel_rfl) (by kernel_rfl) (by kernel_rfl) (by exact fun _ _ _ h => h) (by first | exact Or.inl ⟨by rfl, by intro w hSw; go_simp; try with_reducible rfl⟩ | exact Or.inr ⟨by rfl, rfl⟩) hH ?_
    try simp only [Act.put, List.setIfInBounds_toArray, List.set_cons_zero, List.set_cons_succ]
    refine wpK.take (i := 3) (v := _) (by simp only [List.getElem?_toArray, List.getElem?_cons_succ, List.getElem?_cons_zero]; rfl) (by kernel_rfl) (by kernel_rfl) (by kernel_rfl) (by kernel_rfl) (by kernel_rfl) (by exact fun _ _ _ h => h) (by first | exact Or.inl ⟨by rfl, by intro w hSw; go_simp; try with_reducible rfl⟩ | exact Or.inr ⟨by rfl, rfl⟩) hH ?_
    try simp only [Act.put, List.setIfInBounds_toArray, List.set_cons_zero, List.set_cons_succ]
    refine wpK.take (i := 4) (v := _) (by simp only [List.getElem?_toArray, List.getElem?_cons_succ, List.getElem?_cons_zero]; rfl) (by kernel_rfl) (by kernel_rfl) (by kernel_rfl) (by kernel_rfl) (by kernel_rfl) (by exact fun _ _ _ h => h) (by first | exact Or.inl ⟨by rfl, by intro w hSw; go_simp; try with_reducible rfl⟩ | exact Or.inr ⟨by rfl, rfl⟩) hH ?_
    try simp only [Act.put, List.setIfInBounds_toArray, List.set_cons_zero, List.set_cons_succ]
    refine wpK.two (i := 5) (j := 8) (by kernel_rfl) (by simp only [List.getElem?_toArray, List.getElem?_cons_succ, List.getElem?_cons_zero]; rfl) (by simp only [List.getElem?_toArray, List.getElem?_cons_succ, List.getElem?_cons_zero]; rfl) (fun K hK => ?_) (fun K hK => ?_)
    · go_simp
      (refine (ref23_Find _ (HROB.out.below hH) ot).mono ?_); rintro e w6 ⟨r, rfl, hr, hb6⟩; (obtain rfl : r = (i1 : Int) := hr.at HSORT.out HI1.out); (have hk6 := Below.next hH hb6); (try (have hblk8 := hblk8.below hb6)); (try (obtain ⟨hy0, hy1, hy2, hz0, hz1, hz2⟩ := hblk8.c3)); clear hr; go_simp
      refine hK.out _ _ (by assumption) (fun hH => ?_)
      clear hK K
      try simp only [Act.put, List.setIfInBounds_toArray, List.set_cons_zero, List.set_cons_succ]
      refine wpK.take (i := 6) (v := _) (by simp only [List.getElem?_toArray, List.getElem?_cons_succ, List.getElem?_cons_zero]; rfl) (by kernel_rfl) (by kernel_rfl) (by kernel_rfl) (by kernel_rfl) (by kernel_rfl) (by exact fun _ _ _ h => h) (by first | exact Or.inl ⟨by rfl, by intro w hSw; go_simp; try with_reducible rfl⟩ | exact Or.inr ⟨by rfl, rfl⟩) hH ?_
      try simp only [Act.put, List.setIfInBounds_toArray, List.set_cons_zero, List.set_cons_succ]
      refine wpK.take (i := 7) (v := _) (by simp only [List.getElem?_toArray, List.getElem?_cons_succ, List.getElem?_cons_zero]; rfl) (by kernel_rfl) (by kernel_rfl) (by kernel_rfl) (by kernel_rfl) (by kernel_rfl) (by exact fun _ _ _ h => h) (by first | exact Or.inl ⟨by rfl, by intro w hSw; go_simp; try with_reducible rfl⟩ | exact Or.inr ⟨by rfl, rfl⟩) hH ?_
      try simp only [Act.put, List.setIfInBounds_toArray, List.set_cons_zero, List.set_cons_succ]
      refine wpK.step (i := 8) (by kernel_rfl) (by simp only [List.getElem?_toArray, List.getElem?_cons_succ, List.getElem?_cons_zero]; rfl) (fun K hK => ?_)
      go_simp
      (first | refine K_alloc (K := K) ?_ | refine K_allocD (K := K) ?_); intro g8 wn hg8 hs8 hb8 hblk8; rw [← hg8]; (have hk8 : Below wB.heap.size wB wn := Below.next (by first | exact hH | exact Below.refl _ _) hb8); (have HG8 : Hid (wB.heap.size ≤ g8) := hid (by have := hH.size; omega)); clear hg8 hs8; (obtain ⟨hy0, hy1, hy2, hz0, hz1, hz2⟩ := hblk8.c3)
      refine hK.out _ _ (by assumption) (fun hH => ?_)
      clear hK K
      try simp only [Act.put, List.setIfInBounds_toArray, List.set_cons_zero, List.set_cons_succ]
      refine wpK.late (i := 9) (by kernel_rfl) (by simp only [List.getElem?_toArray, List.getElem?_cons_succ, List.getElem?_cons_zero]; rfl) (by kernel_rfl) (fun K hK => ?_)
      go_simp
      refine hK.out _ _ ?_
      clear hK K
      try simp only [Act.put, List.setIfInBounds_toArray, List.set_cons_zero, List.set_cons_succ]
      refine wpK.done (by kernel_rfl) ?_ _
      obtain ⟨wz, hwz, hblkZ, huZ⟩ := set3_of hblk8 (.int .i64 hh) (.int .i64 ot) (.int .i64 pp)
      rw [← hwz]
      have hBZ : Below wB.heap.size wB wz := Below.trans hH (huZ.below hH.size (fun k _ q => q ▸ HG8.out))
      go_wp2_with fail
      go_meet
      exact ⟨_, rfl, hid hblkZ, HG8, hid hBZ⟩
    · go_simp
      (first | refine K_alloc (K := K) ?_ | refine K_allocD (K := K) ?_); intro g8 wn hg8 hs8 hb8 hblk8; rw [← hg8]; (have hk8 : Below wB.heap.size wB wn := Below.next (by first | exact hH | exact Below.refl _ _) hb8); (have HG8 : Hid (wB.heap.size ≤ g8) := hid (by have := hH.size; omega)); clear hg8 hs8; (obtain ⟨hy0, hy1, hy2, hz0, hz1, hz2⟩ := hblk8.c3)
      refine hK.out _ _ (by assumption) (fun hH => ?_)
      clear hK K
      try simp only [Act.put, List.setIfInBounds_toArray, List.set_cons_zero, List.set_cons_succ]
      refine wpK.step (i := 5) (by kernel_rfl) (by simp only [List.getElem?_toArray, List.getElem?_cons_succ, List.getElem?_cons_zero]; rfl) (fun K hK => ?_)
      go_simp
      (refine (ref23_Find _ (HROB.out.below hH) ot).mono ?_); rintro e w6 ⟨r, rfl, hr, hb6⟩; (obtain rfl : r = (i1 : Int) := hr.at HSORT.out HI1.out); (have hk6 := Below.next hH hb6); (try (have hblk8 := hblk8.below hb6)); (try (obtain ⟨hy0, hy1, hy2, hz0, hz1, hz2⟩ := hblk8.c3)); clear hr; go_simp
      refine hK.out _ _ (by assumption) (fun hH => ?_)
      clear hK K
      try simp only [Act.put, List.setIfInBounds_toArray, List.set_cons_zero, List.set_cons_succ]
      refine wpK.take (i := 6) (v := _) (by simp only [List.getElem?_toArray, List.getElem?_cons_succ, List.getElem?_cons_zero]; rfl) (by kernel_rfl) (by kernel_rfl) (by kernel_rfl) (by kernel_rfl) (by kernel_rfl) (by exact fun _ _ _ h => h) (by first | exact Or.inl ⟨by rfl, by intro w hSw; go_simp; try with_reducible rfl⟩ | exact Or.inr ⟨by rfl, rfl⟩) hH ?_
      try simp only [Act.put, List.setIfInBounds_toArray, List.set_cons_zero, List.set_cons_succ]
      refine wpK.take (i := 7) (v := _) (by simp only [List.getElem?_toArray, List.getElem?_cons_succ, List.getElem?_cons_zero]; rfl) (by kernel_rfl) (by kernel_rfl) (by kernel_rfl) (by kernel_rfl) (by kernel_rfl) (by exact fun _ _ _ h => h) (by first | exact Or.inl ⟨by rfl, by intro w hSw; go_simp; try with_reducible rfl⟩ | exact Or.inr ⟨by rfl, rfl⟩) hH ?_
      try simp only [Act.put, List.setIfInBounds_toArray, List.set_cons_zero, List.set_cons_succ]
      refine wpK.late (i := 9) (by kernel_rfl) (by simp only [List.getElem?_toArray, List.getElem?_cons_succ, List.getElem?_cons_zero]; rfl) (by kernel_rfl) (fun K hK => ?_)
      go_simp
      refine hK.out _ _ ?_
      clear hK K
      try simp only [Act.put, List.setIfInBounds_toArray, List.set_cons_zero, List.set_cons_succ]
      refine wpK.done (by kernel_rfl) ?_ _
      obtain ⟨wz, hwz, hblkZ, huZ⟩ := set3_of hblk8 (.int .i64 hh) (.int .i64 ot) (.int .i64 pp)
      rw [← hwz]
      have hBZ : Below wB.heap.size wB wz := Below.trans hH (huZ.below hH.size (fun k _ q => q ▸ HG8.out))
      go_wp2_with fail
      go_meet
      exact ⟨_, rfl, hid hblkZ, HG8, hid hBZ⟩
  case rest =>
  obtain ⟨b8, rfl, HB8, HGE, HBE⟩ := hcut
  clear e0 e1 e2 e3 e4 e5
  go_upto_region 17 with fail
  have HXX := hid (HXB.out.below HBE.out)
  have HK4B := hid (HK4B0.out.below HBE.out)
  have HB4N : Hid (b4 < wB.heap.size) := hid HK4B0.out.lt
  have e0 : ∀ y, Upd (fun k => k = b4) wc y → y.cell? ⟨bx, 0, none⟩ = some (.slice at' X'.tills.length ct') := fun y hy => by rw [(HXX.out.upd hy (fun q => by have := HB4.out; have := HBX.out; have := HZ3.out; have := HB2.out.size; have := HK43.out.lt; omega)).cell]; rfl
  have e1 : ∀ y, Upd (fun k => k = b4) wc y → y.cell? ⟨bx, 1, none⟩ = some (.slice ag' X'.goods.length cg') := fun y hy => by rw [(HXX.out.upd hy (fun q => by have := HB4.out; have := HBX.out; have := HZ3.out; have := HB2.out.size; have := HK43.out.lt; omega)).cell]; rfl
  have e2 : ∀ y, Upd (fun k => k = b4) wc y → y.cell? ⟨b8, 0, none⟩ = some (.int .i64 hh) := fun y hy => by rw [(HB8.out.upd hy (fun q => by have := HB4N.out; have := HGE.out; omega)).cell]; rfl
  have e3 : ∀ y, Upd (fun k => k = b4) wc y → y.cell? ⟨b8, 2, none⟩ = some (.int .i64 pp) := fun y hy => by rw [(HB8.out.upd hy (fun q => by have := HB4N.out; have := HGE.out; omega)).cell]; rfl
  have hyb := (Below.refl wc.heap.size wc).drew
  have hyd : Upd (fun k => k = b4) wc wc.drew := Upd.of_below hyb
  have q0 : wc.cell? ⟨b4, 0, none⟩ = some (.slice none 0 0) := by rw [HK4B.out.cell]; rfl
  have q1 : wc.cell? ⟨b4, 1, none⟩ = some (.slice none 0 0) := by rw [HK4B.out.cell]; rfl
  have f0 : wc.frozen? ⟨b4, 0, none⟩ = false := HK4B.out.unfrozen 0
  have f1 : wc.frozen? ⟨b4, 1, none⟩ = false := HK4B.out.unfrozen 1
  have hk9 : Upd (fun k => k = b4) wc (((wc.setCell ⟨b4, 0, none⟩ (.slice at' X'.tills.length ct')).setCell ⟨b4, 1, none⟩ (.slice ag' X'.goods.length cg'))).drew := ((Upd.setCell wc b4 0 _).trans (Upd.setCell _ b4 1 _) (fun _ _ q => q)).drew
  refine wp_region_kept [16] (fun y => Upd (fun k => k = b4) wc y) (by kernel_rfl) (by assumption) (fun hH => ?_)
  refine wpK.take (i := 0) (v := _) (by simp only [List.getElem?_toArray, List.getElem?_cons_succ, List.getElem?_cons_zero]; rfl) (by kernel_rfl) (by kernel_rfl) (by kernel_rfl) (by kernel_rfl) (by kernel_rfl) (by exact fun _ _ _ h => h) (by first | exact Or.inl ⟨by rfl, by intro w hSw; go_simp; try with_reducible rfl⟩ | exact Or.inr ⟨by rfl, rfl⟩) hH ?_
  try simp only [Act.put, List.setIfInBounds_toArray, List.set_cons_zero, List.set_cons_succ]
  refine wpK.take (i := 1) (v := _) (by simp only [List.getElem?_toArray, List.getElem?_cons_succ, List.getElem?_cons_zero]; rfl) (by kernel_rfl) (by kernel_rfl) (by kernel_rfl) (by kernel_rfl) (by kernel_rfl) (by exact fun _ _ _ h => h) (by first | exact Or.inl ⟨by rfl, by intro w hSw; go_simp; try with_reducible rfl⟩ | exact Or.inr ⟨by rfl, rfl⟩) hH ?_
  try simp only [Act.put, List.setIfInBounds_toArray, List.set_cons_zero, List.set_cons_succ]
  refine wpK.take (i := 2) (v := _) (by simp only [List.getElem?_toArray, List.getElem?_cons_succ, List.getElem?_cons_zero]; rfl) (by kernel_rfl) (by kernel_rfl) (by kernel_rfl) (by kernel_rfl) (by kernel_rfl) (by exact fun _ _ _ h => h) (by first | exact Or.inl ⟨by rfl, by intro w hSw; go_simp; try with_reducible rfl⟩ | exact Or.inr ⟨by rfl, rfl⟩) hH ?_
  try simp only [Act.put, List.setIfInBounds_toArray, List.set_cons_zero, List.set_cons_succ]
  refine wpK.take (i := 3) (v := _) (by simp only [List.getElem?_toArray, List.getElem?_cons_succ, List.getElem?_cons_zero]; rfl) (by kernel_rfl) (by kernel_rfl) (by kernel_rfl) (by kernel_rfl) (by kernel_rfl) (by exact fun _ _ _ h => h) (by first | exact Or.inl ⟨by rfl, by intro w hSw; go_simp; try with_reducible rfl⟩ | exact Or.inr ⟨by rfl, rfl⟩) hH ?_
  try simp only [Act.put, List.setIfInBounds_toArray, List.set_cons_zero, List.set_cons_succ]
  refine wpK.take (i := 4) (v := _) (by simp only [List.getElem?_toArray, List.getElem?_cons_succ, List.getElem?_cons_zero]; rfl) (by kernel_rfl) (by kernel_rfl) (by kernel_rfl) (by kernel_rfl) (by kernel_rfl) (by exact fun _ _ _ h => h) (by first | exact Or.inl ⟨by rfl, by intro w hSw; go_simp; try with_reducible rfl⟩ | exact Or.inr ⟨by rfl, rfl⟩) hH ?_
  try simp only [Act.put, List.setIfInBounds_toArray, List.set_cons_zero, List.set_cons_succ]
  refine wpK.take (i := 5) (v := _) (by simp only [List.getElem?_toArray, List.getElem?_cons_succ, List.getElem?_cons_zero]; rfl) (by kernel_rfl) (by kernel_rfl) (by kernel_rfl) (by kernel_rfl) (by kernel_rfl) (by exact fun _ _ _ h => h) (by first | exact Or.inl ⟨by rfl, by intro w hSw; go_simp; try with_reducible rfl⟩ | exact Or.inr ⟨by rfl, rfl⟩) hH ?_
  try simp only [Act.put, List.setIfInBounds_toArray, List.set_cons_zero, List.set_cons_succ]
  refine wpK.take (i := 6) (v := _) (by simp only [List.getElem?_toArray, List.getElem?_cons_succ, List.getElem?_cons_zero]; rfl) (by kernel_rfl) (by kernel_rfl) (by kernel_rfl) (by kernel_rfl) (by kernel_rfl) (by exact fun _ _ _ h => h) (by first | exact Or.inl ⟨by rfl, by intro w hSw; go_simp; try with_reducible rfl⟩ | exact Or.inr ⟨by rfl, rfl⟩) hH ?_
  try simp only [Act.put, List.setIfInBounds_toArray, List.set_cons_zero, List.set_cons_succ]
  refine wpK.take (i := 7) (v := _) (by simp only [List.getElem?_toArray, List.getElem?_cons_succ, List.getElem?_cons_zero]; rfl) (by kernel_rfl) (by kernel_rfl) (by kernel_rfl) (by kernel_rfl) (by kernel_rfl) (by exact fun _ _ _ h => h) (by first | exact Or.inl ⟨by rfl, by intro w hSw; go_simp; try with_reducible rfl⟩ | exact Or.inr ⟨by rfl, rfl⟩) hH ?_
  try simp only [Act.put, List.setIfInBounds_toArray, List.set_cons_zero, List.set_cons_succ]
  refine wpK.take (i := 8) (v := _) (by simp only [List.getElem?_toArray, List.getElem?_cons_succ, List.getElem?_cons_zero]; rfl) (by kernel_rfl) (by kernel_rfl) (by kernel_rfl) (by kernel_rfl) (by kernel_rfl) (by exact fun _ _ _ h => h) (by first | exact Or.inl ⟨by rfl, by intro w hSw; go_simp; try with_reducible rfl⟩ | exact Or.inr ⟨by rfl, rfl⟩) hH ?_
  try simp only [Act.put, List.setIfInBounds_toArray, List.set_cons_zero, List.set_cons_succ]
  refine wpK.take (i := 9) (v := _) (by simp only [List.getElem?_toArray, List.getElem?_cons_succ, List.getElem?_cons_zero]; rfl) (by kernel_rfl) (by kernel_rfl) (by kernel_rfl) (by kernel_rfl) (by kernel_rfl) (by exact fun _ _ _ h => h) (by first | exact Or.inl ⟨by rfl, by intro w hSw; go_simp; try with_reducible rfl⟩ | exact Or.inr ⟨by rfl, rfl⟩) hH ?_
  try simp only [Act.put, List.setIfInBounds_toArray, List.set_cons_zero, List.set_cons_succ]
  refine wpK.take (i := 10) (v := _) (by simp only [List.getElem?_toArray, List.getElem?_cons_succ, List.getElem?_cons_zero]; rfl) (by kernel_rfl) (by kernel_rfl) (by kernel_rfl) (by kernel_rfl) (by kernel_rfl) (by exact fun _ _ _ h => h) (by first | exact Or.inl ⟨by rfl, by intro w hSw; go_simp; try with_reducible rfl⟩ | exact Or.inr ⟨by rfl, rfl⟩) hH ?_
  try simp only [Act.put, List.setIfInBounds_toArray, List.set_cons_zero, List.set_cons_succ]
  refine wpK.take (i := 11) (v := _) (by simp only [List.getElem?_toArray, List.getElem?_cons_succ, List.getElem?_cons_zero]; rfl) (by kernel_rfl) (by kernel_rfl) (by kernel_rfl) (by kernel_rfl) (by kernel_rfl) (by exact fun _ _ _ h => h) (by first | exact Or.inl ⟨by rfl, by intro w hSw; go_simp; try with_reducible rfl⟩ | exact Or.inr ⟨by rfl, rfl⟩) hH ?_
  try simp only [Act.put, List.setIfInBounds_toArray, List.set_cons_zero, List.set_cons_succ]
  refine wpK.take (i := 12) (v := _) (by simp only [List.getElem?_toArray, List.getElem?_cons_succ, List.getElem?_cons_zero]; rfl) (by kernel_rfl) (by kernel_rfl) (by kernel_rfl) (by kernel_rfl) (by kernel_rfl) (by exact fun _ _ _ h => h) (by first | exact Or.inl ⟨by rfl, by intro w hSw; go_simp; try with_reducible rfl⟩ | exact Or.inr ⟨by rfl, rfl⟩) hH ?_
  try simp only [Act.put, List.setIfInBounds_toArray, List.set_cons_zero, List.set_cons_succ]
  refine wpK.take (i := 13) (v := _) (by simp only [List.getElem?_toArray, List.getElem?_cons_succ, List.getElem?_cons_zero]; rfl) (by kernel_rfl) (by kernel_rfl) (by kernel_rfl) (by kernel_rfl) (by kernel_rfl) (by exact fun _ _ _ h => h) (by first | exact Or.inl ⟨by rfl, by intro w hSw; go_simp; try with_reducible rfl⟩ | exact Or.inr ⟨by rfl, rfl⟩) hH ?_
  try simp only [Act.put, List.setIfInBounds_toArray, List.set_cons_zero, List.set_cons_succ]
  refine wpK.take (i := 14) (v := _) (by simp only [List.getElem?_toArray, List.getElem?_cons_succ, List.getElem?_cons_zero]; rfl) (by kernel_rfl) (by kernel_rfl) (by kernel_rfl) (by kernel_rfl) (by kernel_rfl) (by exact fun _ _ _ h => h) (by first | exact Or.inl ⟨by rfl, by intro w hSw; go_simp; try with_reducible rfl⟩ | exact Or.inr ⟨by rfl, rfl⟩) hH ?_
  try simp only [Act.put, List.setIfInBounds_toArray, List.set_cons_zero, List.set_cons_succ]
  refine wpK.step (i := 15) (by kernel_rfl) (by simp only [List.getElem?_toArray, List.getElem?_cons_succ, List.getElem?_cons_zero]; rfl) (fun K hK => ?_)
  go_simp
  refine hK.out _ _ (by assumption) (fun hH => ?_)
  clear hK K
  try simp only [Act.put, List.setIfInBounds_toArray, List.set_cons_zero, List.set_cons_succ]
  refine wpK.late (i := 16) (by kernel_rfl) (by simp only [List.getElem?_toArray, List.getElem?_cons_succ, List.getElem?_cons_zero]; rfl) (by kernel_rfl) (fun K hK => ?_)
  go_simp
  refine hK.out _ _ ?_
  clear hK K
  try simp only [Act.put, List.setIfInBounds_toArray, List.set_cons_zero, List.set_cons_succ]
  refine wpK.done (by kernel_rfl) ?_ _
  clear e0 e1 e2 e3 hyd hyb hk9 q0 q1 f0 f1
  have HK5 : Hid (Blk ((wc.setCell ⟨b4, 0, none⟩ (.slice at' X'.tills.length ct')).setCell ⟨b4, 1, none⟩ (.slice ag' X'.goods.length cg')) b4 #[.slice at' X'.tills.length ct', .slice ag' X'.goods.length cg']) := hid (by simpa using (HK4B.out.set 0 (.slice at' X'.tills.length ct')).set 1 (.slice ag' X'.goods.length cg'))
  have HU9 := hid ((Upd.setCell wc b4 0 (.slice at' X'.tills.length ct')).trans (Upd.setCell _ b4 1 (.slice ag' X'.goods.length cg')) (fun _ _ q => q))
  generalize World.setCell (World.setCell wc _ _) _ _ = w8 at HK5 HU9
  have HU9 := hid (HU9.out.drew)
  have HK5 := hid (HK5.out.below (Below.refl w8.heap.size w8).drew)
  generalize World.drew w8 = w9 at HK5 HU9
  have k0 : w9.cell? ⟨b4, 0, none⟩ = some (.slice at' X'.tills.length ct') := by rw [HK5.out.cell]; rfl
  have k1 : w9.cell? ⟨b4, 1, none⟩ = some (.slice ag' X'.goods.length cg') := by rw [HK5.out.cell]; rfl
  go_wp2_with fail
  refine bodyPost_ret (res_cell_tmp rfl _ _ _ rfl (by go_simp; rfl)) rfl ?_
  have a1 := HZ5.out
  have a3 := HZ3.out
  have a2 := HB2.out.size
  have a4 := HB4.out
  have a5 := HZB.out
  have a6 := HBE.out.size
  refine HBT.out.fin (HRB.out.below HBE.out) (HS9.out.below HBE.out |>.weaken (G := fun k => (F k ∨ w5.heap.size ≤ k)) (fun k q _ => q)) (fun k hk => ?_) (fun k hk => ?_) (((Upd.of_below (S := F) HB5.out).trans HUB.out (fun _ _ q => q)).trans (Upd.of_below HBE.out) (fun _ _ q => q)) (b4 := b4) (by omega) ?_ (fun k hk q => ?_) HU9.out
  · rcases hk with hk | hk
    · exact .inl hk
    · right; omega
  · have h3 := HL3.out k hk
    refine ⟨fun q => ?_, by omega, h3.2.imp id (fun q => by omega)⟩
    rcases q with q | q
    · exact HFar.out k hk q
    · omega
  · rintro (q | q)
    · have := HFL.out _ q; omega
    · have := HK45.out.lt; have := HK43.out.lt; omega
  · rcases (HL3.out k hk).2 with q2 | q2
    · have := HBT.out.low k q2; omega
    · omega
end Go.Proofs.Ytajfjgekcjkedaa
end
