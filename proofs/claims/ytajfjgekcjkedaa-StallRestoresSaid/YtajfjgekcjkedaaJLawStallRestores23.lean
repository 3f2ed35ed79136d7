/- Joined texts, in this order: StallStep3, Ends. Each one's first remark says what it proves; no condition beyond those that its theorems name. -/
import Derived.Test.YtajfjgekcjkedaaJLawStallRestores22
import Derived.Test.YtajfjgekcjkedaaJLawStallRestores05
section
/- The law's step: Close, Sell. -/
namespace Go.Proofs.Ytajfjgekcjkedaa
open Go.RowKit
open Go.Lib (hid)
set_option linter.unusedVariables false

theorem stall_CloseNo {s : Nat} {F : Nat → Prop} {X : StX} (w : World) (h : StallIs w s F X) {k : Int} (hf : X.tills.lookup k = none) :
    Calls Try.prog 14 #[.pointer (some ⟨s, 0, none⟩), .int .i64 k] w (StPost w s F X (.tuple #[.agg #[.int .i64 0, .int .i64 0, .slice none 0 0], .int .i64 14])) := by
  refine (stall_Close w h k).mono ?_
  intro e w' hp
  unfold ClosePost at hp
  rw [hf] at hp
  exact hp
def CloseYes (w : World) (s : Nat) (F : Nat → Prop) (X X' : StX) (k g : Int) (gs : List (Int × Int)) (e : Ending) (w' : World) : Prop :=
  ∃ a c, StPost w s F X' (.tuple #[.agg #[.int .i64 k, .int .i64 g, .slice a gs.length c], .int .i64 0]) e w' ∧ SlP w' (.slice a gs.length c) gs
theorem stall_CloseYes {s : Nat} {F : Nat → Prop} {X X' : StX} (w : World) (h : StallIs w s F X) {k g : Int} {gs : List (Int × Int)} (hf : X.tills.lookup k = some g) (hg : ofX X.goods k = gs) (e : closeX X k = X') :
    Calls Try.prog 14 #[.pointer (some ⟨s, 0, none⟩), .int .i64 k] w (CloseYes w s F X X' k g gs) := by
  refine (stall_Close w h k).mono ?_
  intro en w' hp
  unfold ClosePost at hp
  rw [hf] at hp
  obtain ⟨v, h1, h2⟩ := hp
  rw [hg] at h2
  rw [e] at h1
  obtain ⟨a, c, rfl, q⟩ := id h2
  exact ⟨a, c, h1, h2⟩
theorem ref23_CloseTo {at_ ag : Option Addr} {ct cg : Nat} {X X' : StX} (w : World) (h : RefX w at_ ct ag cg X) (hlow : Low at_ ag w.heap.size) (k : Int) {E : Int} (e : (if (X.tills.lookup k).isSome then closeX X k else X) = X') (hE : tillE X k = E) :
    Calls Try.prog 45 #[.agg #[.slice at_ X.tills.length ct, .slice ag X.goods.length cg], .int .i64 k] w (R23Post w at_ ag X' E) := by
  have := ref23_Close w h hlow k
  rw [e, hE] at this
  exact this
set_option maxRecDepth 100000 in
set_option maxHeartbeats 4000000 in
theorem law23_step6 {s : Nat} {F : Nat → Prop} {at_ ag : Option Addr} {ct cg : Nat} {X : StX} (w : World) (h : Both w s F at_ ct ag cg X) (hnt : X.tills.length < 100000) (hng : X.goods.length < 100000) (kd oh ot op : Int) (hoh : oh ≤ 9223372036854775807) (hot : ot ≤ 9223372036854775807) (hkd : kd = 6) :
    Calls Try.prog 23 #[.pointer (some ⟨s, 0, none⟩), .agg #[.slice at_ X.tills.length ct, .slice ag X.goods.length cg], .agg #[.int .i64 kd, .int .i64 oh, .int .i64 ot, .int .i64 op]] w (StepPost w s F at_ ag ((if (X.tills.lookup oh).isSome then closeX X oh else X))) := by
  have HBT := hid h
  have HI := hid h.st.inv
  clear h
  subst hkd
  obtain ⟨X', hX'⟩ : ∃ X', (if (X.tills.lookup oh).isSome then closeX X oh else X) = X' := ⟨_, rfl⟩
  rw [hX']
  have HXN := hid hX'
  cases hf : X.tills.lookup oh with
  | none =>
    have hXX : X = X' := by rw [← hX', hf]; rfl
    have HXX := hid hXX
    have HTE := hid (tillX_none hf).2
    have HF := hid hf
    clear hf hX' hXX
    go_enter Try.func23, Try.ntmps23
    go_upto_region 1 with fail
    generalize hw2 : World.alloc (World.alloc (World.alloc w _) _) _ = w2
    obtain ⟨bs, hbs⟩ : ∃ b, b = w.heap.size := ⟨_, rfl⟩
    obtain ⟨bo, hbo⟩ : ∃ b, b = w.heap.size + 1 := ⟨_, rfl⟩
    obtain ⟨b4, hb4⟩ : ∃ b, b = w.heap.size + 1 + 1 := ⟨_, rfl⟩
    have hz1 : (World.alloc w (.cells #[.slice at_ X.tills.length ct, .slice ag X.goods.length cg] 46)).heap.size = w.heap.size + 1 := by simp
    have hz2 : (World.alloc (World.alloc w (.cells #[.slice at_ X.tills.length ct, .slice ag X.goods.length cg] 46)) (.cells #[.int .i64 6, .int .i64 oh, .int .i64 ot, .int .i64 op] 27)).heap.size = w.heap.size + 1 + 1 := by simp
    try rw [hz2]
    try rw [hz1]
    try rw [← hb4]
    try rw [← hbo]
    try rw [← hbs]
    have hb2 : Below w.heap.size w w2 := by rw [← hw2]; exact Below.next (Below.next (Below.new _ _) (Below.new _ _)) (Below.new _ _)
    have HK : Hid (Blk w2 bs #[.slice at_ X.tills.length ct, .slice ag X.goods.length cg]) := hid (by rw [← hw2, hbs]; exact ((Blk.new w _ _).below (Below.new _ _)).below (Below.new _ _))
    have HO : Hid (Blk w2 bo #[.int .i64 6, .int .i64 oh, .int .i64 ot, .int .i64 op]) := hid (by rw [← hw2, hbo, ← hz1]; exact (Blk.new _ _ _).below (Below.new _ _))
    have HK4 : Hid (Blk w2 b4 #[.slice none 0 0, .slice none 0 0]) := hid (by rw [← hw2, hb4, ← hz2]; exact Blk.new _ _ _)
    have HX2 := hid (HBT.out.rx.below hb2)
    have H2 := hid (HBT.out.st.below hb2)
    have HB2 := hid hb2
    have HB4 : Hid (bs = w.heap.size ∧ bo = w.heap.size + 1 ∧ b4 = w.heap.size + 2 ∧ b4 < w2.heap.size) := hid (by have := HK4.out.lt; omega)
    clear hw2 hbs hbo hb4 hz1 hz2 hb2
    have o0 : w2.cell? ⟨bo, 0, none⟩ = some (.int .i64 6) := by rw [HO.out.cell]; rfl
    have o1 : w2.cell? ⟨bo, 1, none⟩ = some (.int .i64 oh) := by rw [HO.out.cell]; rfl
    have o2 : w2.cell? ⟨bo, 2, none⟩ = some (.int .i64 ot) := by rw [HO.out.cell]; rfl
    have o3 : w2.cell? ⟨bo, 3, none⟩ = some (.int .i64 op) := by rw [HO.out.cell]; rfl
    have c0 : w2.cell? ⟨bs, 0, none⟩ = some (.slice at_ X.tills.length ct) := by rw [HK.out.cell]; rfl
    have c1 : w2.cell? ⟨bs, 1, none⟩ = some (.slice ag X.goods.length cg) := by rw [HK.out.cell]; rfl
    go_wp2_with fail
    have hq := stall_CloseNo w2 H2.out HF.out
    refine hq.mono ?_
    rintro e wS ⟨rfl, hsS, huS⟩
    rw [HXX.out] at hsS
    clear hq
    have HFL : Hid (∀ k, F k → k < w.heap.size) := hid HBT.out.fl
    have HU := hid huS
    have HRS := hid (HX2.out.upd huS HBT.out.far)
    have HSS := hid (hsS.weaken (G := fun k => (F k ∨ w2.heap.size ≤ k) ∧ k < wS.heap.size) (fun k q q2 => ⟨q, q2⟩))
    have HKS := hid (HK.out.upd huS (fun q => by have := HFL.out _ q; have := HB4.out; omega))
    have HOS := hid (HO.out.upd huS (fun q => by have := HFL.out _ q; have := HB4.out; omega))
    have HK4S := hid (HK4.out.upd huS (fun q => by have := HFL.out _ q; have := HB4.out; omega))
    have HZS := hid huS.size
    clear hsS huS c0 c1 o0 o1 o2 o3
    go_upto_region 26 with fail
    obtain ⟨w5, hw5⟩ : ∃ w5, w5 = wS.alloc (.cells #[.int .i64 0, .int .i64 0, .slice none 0 0] 37) := ⟨_, rfl⟩
    rw [← hw5]
    obtain ⟨br, hbr⟩ : ∃ b, b = wS.heap.size := ⟨_, rfl⟩
    rw [← hbr]
    have hb5 : Below wS.heap.size wS w5 := by rw [hw5]; exact Below.new _ _
    have HX5 := hid (show Blk w5 br #[.int .i64 0, .int .i64 0, .slice none 0 0] by rw [hw5, hbr]; exact Blk.new wS _ _)
    have HK5_ := hid (HKS.out.below hb5)
    have HO5 := hid (HOS.out.below hb5)
    have HR5 := hid (HRS.out.below hb5)
    have HZ5 := hid hb5.size
    have HB5_ := hid hb5
    have HBR := hid hbr
    clear hw5 hbr hb5
    have c0 : w5.cell? ⟨bs, 0, none⟩ = some (.slice at_ X.tills.length ct) := by rw [HK5_.out.cell]; rfl
    have c1 : w5.cell? ⟨bs, 1, none⟩ = some (.slice ag X.goods.length cg) := by rw [HK5_.out.cell]; rfl
    have o1 : w5.cell? ⟨bo, 1, none⟩ = some (.int .i64 oh) := by rw [HO5.out.cell]; rfl
    go_wp2_with fail
    refine (ref23_CloseTo w5 HR5.out (fun k hk => by have := HBT.out.low k hk; have := HB2.out.size; have := HZS.out; have := HZ5.out; omega) oh HXN.out HTE.out).mono ?_
    rintro e w6 ⟨at', ct', ag', cg', rfl, hr6, hb6, hlow6⟩
    have HR6 := hid hr6
    have HL6 := hid hlow6
    have HB6 := hid (Below.next HB5_.out hb6)
    have HX6 := hid (HX5.out.below hb6)
    have HRX6 := hid (HR5.out.below hb6)
    clear hr6 hb6 hlow6 c0 c1 o1
    go_upto_region 27 with fail
    obtain ⟨w7, hw7⟩ : ∃ w7, w7 = w6.alloc (.cells #[.slice at' X'.tills.length ct', .slice ag' X'.goods.length cg'] 46) := ⟨_, rfl⟩
    rw [← hw7]
    obtain ⟨bx, hbx⟩ : ∃ b, b = w6.heap.size := ⟨_, rfl⟩
    rw [← hbx]
    have hb7 : Below w6.heap.size w6 w7 := by rw [hw7]; exact Below.new _ _
    have HX7 := hid (show Blk w7 bx #[.slice at' X'.tills.length ct', .slice ag' X'.goods.length cg'] by rw [hw7, hbx]; exact Blk.new w6 _ _)
    have HBS7 := hid (Below.next HB6.out hb7)
    have HR7 := hid (HR6.out.below hb7)
    have HXR7 := hid (HX6.out.below hb7)
    have HRX7 := hid (HRX6.out.below hb7)
    have HZ7 := hid hb7.size
    have HBX := hid hbx
    have HK7 := hid (HKS.out.below HBS7.out)
    have HO7 := hid (HOS.out.below HBS7.out)
    have HK47 := hid (HK4S.out.below HBS7.out)
    have HZ6 := hid HB6.out.size
    clear hw7 hbx hb7
    go_upto_region 28 with fail
    have hyb := (Below.refl w7.heap.size w7).drew
    have hyd : Upd (fun k => k = b4) w7 w7.drew := Upd.of_below hyb
    have e0 : ∀ y, Upd (fun k => k = b4) w7 y → y.cell? ⟨bx, 0, none⟩ = some (.slice at' X'.tills.length ct') := fun y hy => by rw [(HX7.out.upd hy (fun q => by have := HB4.out; have := HBX.out; have := HZS.out; have := HZ6.out; omega)).cell]; rfl
    have e1 : ∀ y, Upd (fun k => k = b4) w7 y → y.cell? ⟨bx, 1, none⟩ = some (.slice ag' X'.goods.length cg') := fun y hy => by rw [(HX7.out.upd hy (fun q => by have := HB4.out; have := HBX.out; have := HZS.out; have := HZ6.out; omega)).cell]; rfl
    have e2 : ∀ y, Upd (fun k => k = b4) w7 y → y.cell? ⟨br, 0, none⟩ = some (.int .i64 0) := fun y hy => by rw [(HXR7.out.upd hy (fun q => by have := HB4.out; have := HBR.out; have := HZS.out; omega)).cell]; rfl
    have e3 : ∀ y, Upd (fun k => k = b4) w7 y → y.cell? ⟨br, 2, none⟩ = some (.slice none 0 0) := fun y hy => by rw [(HXR7.out.upd hy (fun q => by have := HB4.out; have := HBR.out; have := HZS.out; omega)).cell]; rfl
    have HK4B := HK47
    have q0 : w7.cell? ⟨b4, 0, none⟩ = some (.slice none 0 0) := by rw [HK4B.out.cell]; rfl
    have q1 : w7.cell? ⟨b4, 1, none⟩ = some (.slice none 0 0) := by rw [HK4B.out.cell]; rfl
    have f0 : w7.frozen? ⟨b4, 0, none⟩ = false := HK4B.out.unfrozen 0
    have f1 : w7.frozen? ⟨b4, 1, none⟩ = false := HK4B.out.unfrozen 1
    have hk9 : Upd (fun k => k = b4) w7 (((w7.setCell ⟨b4, 0, none⟩ (.slice at' X'.tills.length ct')).setCell ⟨b4, 1, none⟩ (.slice ag' X'.goods.length cg'))).drew := ((Upd.setCell w7 b4 0 _).trans (Upd.setCell _ b4 1 _) (fun _ _ q => q)).drew
    refine wp_region_kept [16] (fun y => Upd (fun k => k = b4) w7 y) (by kernel_rfl) (by assumption) (fun hH => ?_)
    refine wpK.take (i := 0) (v := _) (by simp only [List.getElem?_toArray, List.getElem?_cons_succ, List.getElem?_cons_zero]; rfl) (by kernel_rfl) (by kernel_rfl) (by kernel_rfl) (by kernel_rfl) (by kernel_rfl) (by exact fun _ _ _ h => h) (by first | exact Or.inl ⟨by rfl, by intro w hSw; go_simp; try with_reducible rfl⟩ | exact Or.inr ⟨by rfl, rfl⟩) hH ?_
    try simp only [Act.put, List.setIfInBounds_toArray, List.set_cons_zero, List.set_cons_succ]
    refine wpK.take (i := 1) (v := _) (by simp only [List.getElem?_toArray, List.getElem?_cons_succ, List.getElem?_cons_zero]; rfl) (by kernel_rfl) (by kernel_rfl) (by kernel_rfl) (by kernel_rfl) (by kernel_rfl) (by exact fun _ _ _ h => h) (by first | exact Or.inl ⟨by rfl, by intro w hSw; go_simp; try with_reducible rfl⟩ | exact Or.inr ⟨by rfl, rfl⟩) hH ?_
    try simp only [Act.put, List.setIfInBounds_toArray, List.set_cons_zero, List.set_cons_succ]
    refine wpK.take (i := 2) (v := _) (by simp only [List.getElem?_toArray, List.getElem?_cons_succ, List.getElem?_cons_zero]; rfl) (by kernel_rfl) (by kernel_rfl) (by kernel_rfl) (by kernel_rfl) (by kernel_rfl) (by exact fun _ _ _ h => h) (by first | exact Or.inl ⟨by rfl, by intro w hSw; go_simp; try with_reducible rfl⟩ | exact Or.inr ⟨by rfl, rfl⟩) hH ?_
    try simp only [Act.put, List.setIfInBounds_toArray, List.set_cons_zero, List.set_cons_succ]
    refine wpK.take (i := 3) (v := _) (by simp only [List.getElem?_toArray, List.getElem?_cons_succ, List.getElem?_cons_zero]; rfl) (by kernel_rfl) (by kernel_rfl) (by kernel_rfl) (by kernel_rfl) (by kernel_rfl) (by exact fun _ _ _ h => h) (by first | exact Or.inl ⟨by rfl, by intro w hSw; go_simp; try with_reducible rfl⟩ | exact Or.inr ⟨by rfl, rfl⟩) hH ?_
    try simp only [Act.put, List.setIfInBounds_toArray, List.set_cons_zero, List.set_cons_succ]
    refine wpK.take (i := 4) (v := _) (by simp only [List.getElem?_toArray, List.getElem?_cons_succ, List.getElem?_cons_zero]; rfl) (by kernel_rfl) (by kernel_rfl) (by kernel_rfl) (by kernel_rfl) (by kernel_rfl) (by exact fun _ _ _ h => h) (by first | exact Or.inl ⟨by rfl, by intro w hSw; go_simp; try with_reducible rfl⟩ | exact Or.inr ⟨by rfl, rfl⟩) hH ?_
    try simp only [Act.put, List.setIfInBounds_toArray, List.set_cons_zero, List.set_cons_succ]
    refine wpK.take (i := 5) (v := _) (by simp only [List.getElem?_toArray, List.getElem?_cons_succ, List.getElem?_cons_zero]; rfl) (by kernel_rfl) (by kernel_rfl) (by kernel_rfl) (by kernel_rfl) (by kernel_rfl) (by exact fun _ _ _ h => h) (by first | exact Or.inl ⟨by rfl, by intro w hSw; go_simp; try with_reducible rfl⟩ | exact Or.inr ⟨by rfl, rfl⟩) hH ?_
    try simp only [Act.put, List.setIfInBounds_toArray, List.set_cons_zero, List.set_cons_succ]
    refine wpK.take (i := 6) (v := _) (by simp only [List.getElem?_toArray, List.getElem?_cons_succ, List.getElem?_cons_zero]; rfl) (by kernel_rfl) (by kernel_rfl) (by kernel_rfl) (by kernel_rfl) (by kernel_rfl) (by exact fun _ _ _ h => h) (by first | exact Or.inl ⟨by rfl, by intro w hSw; go_simp; try with_reducible rfl⟩ | exact Or.inr ⟨by rfl, rfl⟩) hH ?_
    try simp only [Act.put, List.setIfInBounds_toArray, List.set_cons_zero, List.set_cons_succ]
    refine wpK.take (i := 7) (v := _) (by simp only [List.getElem?_toArray, List.getElem?_cons_succ, List.getElem?_cons_zero]; rfl) (by kernel_rfl) (by kernel_rfl) (by kernel_rfl) (by kernel_rfl) (by kernel_rfl) (by exact fun _ _ _ h => h) (by first | exact Or.inl ⟨by rfl, by intro w hSw; go_simp; try with_reducible rfl⟩ | exact Or.inr ⟨by rfl, rfl⟩) hH ?_
    try simp only [Act.put, List.setIfInBounds_toArray, List.set_cons_zero, List.set_cons_succ]
    refine wpK.take (i := 8) (v := _) (by simp only [List.getElem?_toArray, List.getElem?_cons_succ, List.getElem?_cons_zero]; rfl) (by kernel_rfl) (by kernel_rfl) (by kernel_rfl) (by kernel_rfl) (by kernel_rfl) (by exact fun _ _ _ h => h) (by first | exact Or.inl ⟨by rfl, by intro w hSw; go_simp; try with_reducible rfl⟩ | exact Or.inr ⟨by rfl, rfl⟩) hH ?_
    try simp only [Act.put, List.setIfInBounds_toArray, List.set_cons_zero, List.set_cons_succ]
    refine wpK.take (i := 9) (v := _) (by simp only [List.getElem?_toArray, List.getElem?_cons_succ, List.getElem?_cons_zero]; rfl) (by kernel_rfl) (by kernel_rfl) (by kernel_rfl) (by kernel_rfl) (by kernel_rfl) (by exact fun _ _ _ h => h) (by first | exact Or.inl ⟨by rfl, by intro w hSw; go_simp; try with_reducible rfl⟩ | exact Or.inr ⟨by rfl, rfl⟩) hH ?_
    try simp only [Act.put, List.setIfInBounds_toArray, List.set_cons_zero, List.set_cons_succ]
    refine wpK.take (i := 10) (v := _) (by simp only [List.getElem?_toArray, List.getElem?_cons_succ, List.getElem?_cons_zero]; rfl) (by kernel_rfl) (by kernel_rfl) (by kernel_rfl) (by kernel_rfl) (by kernel_rfl) (by exact fun _ _ _ h => h) (by first | exact Or.inl ⟨by rfl, by intro w hSw; go_simp; try with_reducible rfl⟩ | exact Or.inr ⟨by rfl, rfl⟩) hH ?_
    try simp only [Act.put, List.setIfInBounds_toArray, List.set_cons_zero, List.set_cons_succ]
    refine wpK.take (i := 11) (v := _) (by simp only [List.getElem?_toArray, List.getElem?_cons_succ, List.getElem?_cons_zero]; rfl) (by kernel_rfl) (by kernel_rfl) (by kernel_rfl) (by kernel_rfl) (by kernel_rfl) (by exact fun _ _ _ h => h) (by first | exact Or.inl ⟨by rfl, by intro w hSw; go_simp; try with_reducible rfl⟩ | exact Or.inr ⟨by rfl, rfl⟩) hH ?_
    try simp only [Act.put, List.setIfInBounds_toArray, List.set_cons_zero, List.set_cons_succ]
    refine wpK.take (i := 12) (v := _) (by simp only [List.getElem?_toArray, List.getElem?_cons_succ, List.getElem?_cons_zero]; rfl) (by kernel_rfl) (by kernel_rfl) (by kernel_rfl) (by kernel_rfl) (by kernel_rfl) (by exact fun _ _ _ h => h) (by first | exact Or.inl ⟨by rfl, by intro w hSw; go_simp; try with_reducible rfl⟩ | exact Or.inr ⟨by rfl, rfl⟩) hH ?_
    try simp only [Act.put, List.setIfInBounds_toArray, List.set_cons_zero, List.set_cons_succ]
    refine wpK.take (i := 13) (v := _) (by simp only [List.getElem?_toArray, List.getElem?_cons_succ, List.getElem?_cons_zero]; rfl) (by kernel_rfl) (by kernel_rfl) (by kernel_rfl) (by kernel_rfl) (by kernel_rfl) (by exact fun _ _ _ h => h) (by first | exact Or.inl ⟨by rfl, by intro w hSw; go_simp; try with_reducible rfl⟩ | exact Or.inr ⟨by rfl, rfl⟩) hH ?_
    try simp only [Act.put, List.setIfInBounds_toArray, List.set_cons_zero, List.set_cons_succ]
    refine wpK.take (i := 14) (v := _) (by simp only [List.getElem?_toArray, List.getElem?_cons_succ, List.getElem?_cons_zero]; rfl) (by kernel_rfl) (by kernel_rfl) (by kernel_rfl) (by kernel_rfl) (by kernel_rfl) (by exact fun _ _ _ h => h) (by first | exact Or.inl ⟨by rfl, by intro w hSw; go_simp; try with_reducible rfl⟩ | exact Or.inr ⟨by rfl, rfl⟩) hH ?_
    try simp only [Act.put, List.setIfInBounds_toArray, List.set_cons_zero, List.set_cons_succ]
    refine wpK.step (i := 15) (by kernel_rfl) (by simp only [List.getElem?_toArray, List.getElem?_cons_succ, List.getElem?_cons_zero]; rfl) (fun K hK => ?_)
    go_simp
    refine hK.out _ _ (by assumption) (fun hH => ?_)
    clear hK K
    try simp only [Act.put, List.setIfInBounds_toArray, List.set_cons_zero, List.set_cons_succ]
    refine wpK.late (i := 16) (by kernel_rfl) (by simp only [List.getElem?_toArray, List.getElem?_cons_succ, List.getElem?_cons_zero]; rfl) (by kernel_rfl) (fun K hK => ?_)
    go_simp
    refine hK.out _ _ ?_
    clear hK K
    try simp only [Act.put, List.setIfInBounds_toArray, List.set_cons_zero, List.set_cons_succ]
    refine wpK.done (by kernel_rfl) ?_ _
    have HRB := HR7
    have HBSB := HBS7
    have HBL : Hid (w6.heap.size ≤ w7.heap.size) := hid HZ7.out
    clear e0 e1 e2 e3 hyd hyb hk9 q0 q1 f0 f1
    have HK5 : Hid (Blk ((w7.setCell ⟨b4, 0, none⟩ (.slice at' X'.tills.length ct')).setCell ⟨b4, 1, none⟩ (.slice ag' X'.goods.length cg')) b4 #[.slice at' X'.tills.length ct', .slice ag' X'.goods.length cg']) := hid (by simpa using (HK4B.out.set 0 (.slice at' X'.tills.length ct')).set 1 (.slice ag' X'.goods.length cg'))
    have HU9 := hid ((Upd.setCell w7 b4 0 (.slice at' X'.tills.length ct')).trans (Upd.setCell _ b4 1 (.slice ag' X'.goods.length cg')) (fun _ _ q => q))
    generalize World.setCell (World.setCell w7 _ _) _ _ = w8 at HK5 HU9
    have HU9 := hid (HU9.out.drew)
    have HK5 := hid (HK5.out.below (Below.refl w8.heap.size w8).drew)
    generalize World.drew w8 = w9 at HK5 HU9
    have k0 : w9.cell? ⟨b4, 0, none⟩ = some (.slice at' X'.tills.length ct') := by rw [HK5.out.cell]; rfl
    have k1 : w9.cell? ⟨b4, 1, none⟩ = some (.slice ag' X'.goods.length cg') := by rw [HK5.out.cell]; rfl
    go_wp2_with fail
    refine bodyPost_ret (res_cell_tmp rfl _ _ _ rfl (by go_simp; rfl)) rfl ?_
    have a2 := HB2.out.size
    have a4 := HB4.out
    have a5 := HZS.out
    have a7 := HBSB.out.size
    have a8 := HBL.out
    refine HBT.out.fin HRB.out (HSS.out.below HBSB.out) (fun k hk => hk.1.imp id (fun q => by omega)) (fun k hk => ?_) (((Upd.of_below (S := F) HB2.out).trans HU.out (fun _ _ q => q)).trans (Upd.of_below HBSB.out) (fun _ _ q => q)) (b4 := b4) (by omega) (fun q => ?_) (fun k hk q => ?_) HU9.out
    · obtain ⟨u1, u2⟩ := HL6.out k hk
      refine ⟨fun q => ?_, by omega, u2.imp id (fun q => by have := HZ5.out; omega)⟩
      rcases u2 with u2 | u2
      · rcases q.1 with q | q
        · exact HBT.out.far k u2 q
        · have := HBT.out.low k u2; omega
      · have := q.2; have := HZ5.out; omega
    · rcases q.1 with q | q
      · have := HFL.out _ q; omega
      · omega
    · rcases (HL6.out k hk).2 with u2 | u2
      · have := HBT.out.low k u2; omega
      · have := HZ5.out; omega
  | some now =>
    have hXX : closeX X oh = X' := by rw [← hX', hf]; rfl
    have HXX := hid hXX
    have HTE := hid (tillX_some hf).2
    have HF := hid hf
    have HSORT := hid HI.out.t1
    obtain ⟨i1, hI1⟩ := List.mem_iff_getElem?.1 (lookup_mem hf)
    have i11 : (i1 : Int) < (X.tills.length : Int) := by have := (List.getElem?_eq_some_iff.1 hI1).1; omega
    have i10 : (0 : Int) ≤ (i1 : Int) := by omega
    have HI1 := hid hI1
    obtain ⟨a', c', e', hrd, -⟩ := HBT.out.rx.t
    simp only [Value.slice.injEq, true_and] at e'
    obtain ⟨rfl, rfl⟩ := e'
    obtain ⟨bt, ob, -, -, rfl, -⟩ := hrd.pair 0 (by omega)
    obtain ⟨gs, hgs⟩ : ∃ gs, ofX X.goods oh = gs := ⟨_, rfl⟩
    obtain ⟨x, hx⟩ : ∃ x, X.goods.filter (fun g => g.1 == oh) = x := ⟨_, rfl⟩
    have HOX := hid hx
    have HGS := hid hgs
    have HXG : Hid (x.map (·.2) = gs) := hid (by rw [← hx, ← hgs]; rfl)
    have HG16 : Hid (gs.length ≤ 100000) := hid (by have := HI.out.g3 oh; rw [hgs] at this; omega)
    obtain ⟨G, hG⟩ : ∃ G, G = gs.length := ⟨_, rfl⟩
    have HG := hid hG
    clear hf hI1 hrd hX' hXX hgs hx hG
    go_enter Try.func23, Try.ntmps23
    go_upto_region 1 with fail
    generalize hw2 : World.alloc (World.alloc (World.alloc w _) _) _ = w2
    obtain ⟨bs, hbs⟩ : ∃ b, b = w.heap.size := ⟨_, rfl⟩
    obtain ⟨bo, hbo⟩ : ∃ b, b = w.heap.size + 1 := ⟨_, rfl⟩
    obtain ⟨b4, hb4⟩ : ∃ b, b = w.heap.size + 1 + 1 := ⟨_, rfl⟩
    have hz1 : (World.alloc w (.cells #[.slice (some ⟨bt, ob, none⟩) X.tills.length ct, .slice ag X.goods.length cg] 46)).heap.size = w.heap.size + 1 := by simp
    have hz2 : (World.alloc (World.alloc w (.cells #[.slice (some ⟨bt, ob, none⟩) X.tills.length ct, .slice ag X.goods.length cg] 46)) (.cells #[.int .i64 6, .int .i64 oh, .int .i64 ot, .int .i64 op] 27)).heap.size = w.heap.size + 1 + 1 := by simp
    try rw [hz2]
    try rw [hz1]
    try rw [← hb4]
    try rw [← hbo]
    try rw [← hbs]
    have hb2 : Below w.heap.size w w2 := by rw [← hw2]; exact Below.next (Below.next (Below.new _ _) (Below.new _ _)) (Below.new _ _)
    have HK : Hid (Blk w2 bs #[.slice (some ⟨bt, ob, none⟩) X.tills.length ct, .slice ag X.goods.length cg]) := hid (by rw [← hw2, hbs]; exact ((Blk.new w _ _).below (Below.new _ _)).below (Below.new _ _))
    have HO : Hid (Blk w2 bo #[.int .i64 6, .int .i64 oh, .int .i64 ot, .int .i64 op]) := hid (by rw [← hw2, hbo, ← hz1]; exact (Blk.new _ _ _).below (Below.new _ _))
    have HK4 : Hid (Blk w2 b4 #[.slice none 0 0, .slice none 0 0]) := hid (by rw [← hw2, hb4, ← hz2]; exact Blk.new _ _ _)
    have HX2 := hid (HBT.out.rx.below hb2)
    have H2 := hid (HBT.out.st.below hb2)
    have HB2 := hid hb2
    have HB4 : Hid (bs = w.heap.size ∧ bo = w.heap.size + 1 ∧ b4 = w.heap.size + 2 ∧ b4 < w2.heap.size) := hid (by have := HK4.out.lt; omega)
    clear hw2 hbs hbo hb4 hz1 hz2 hb2
    have o0 : w2.cell? ⟨bo, 0, none⟩ = some (.int .i64 6) := by rw [HO.out.cell]; rfl
    have o1 : w2.cell? ⟨bo, 1, none⟩ = some (.int .i64 oh) := by rw [HO.out.cell]; rfl
    have o2 : w2.cell? ⟨bo, 2, none⟩ = some (.int .i64 ot) := by rw [HO.out.cell]; rfl
    have o3 : w2.cell? ⟨bo, 3, none⟩ = some (.int .i64 op) := by rw [HO.out.cell]; rfl
    have c0 : w2.cell? ⟨bs, 0, none⟩ = some (.slice (some ⟨bt, ob, none⟩) X.tills.length ct) := by rw [HK.out.cell]; rfl
    have c1 : w2.cell? ⟨bs, 1, none⟩ = some (.slice ag X.goods.length cg) := by rw [HK.out.cell]; rfl
    go_wp2_with fail
    have hq := stall_CloseYes w2 H2.out HF.out HGS.out HXX.out
    refine hq.mono ?_
    rintro e wS ⟨av, cv, ⟨rfl, hsS, huS⟩, hsl⟩
    have HSL := hid hsl
    clear hsl
    rw [← HG.out]
    clear hq
    have HFL : Hid (∀ k, F k → k < w.heap.size) := hid HBT.out.fl
    have HU := hid huS
    have HRS := hid (HX2.out.upd huS HBT.out.far)
    have HSS := hid (hsS.weaken (G := fun k => (F k ∨ w2.heap.size ≤ k) ∧ k < wS.heap.size) (fun k q q2 => ⟨q, q2⟩))
    have HKS := hid (HK.out.upd huS (fun q => by have := HFL.out _ q; have := HB4.out; omega))
    have HOS := hid (HO.out.upd huS (fun q => by have := HFL.out _ q; have := HB4.out; omega))
    have HK4S := hid (HK4.out.upd huS (fun q => by have := HFL.out _ q; have := HB4.out; omega))
    have HZS := hid huS.size
    clear hsS huS c0 c1 o0 o1 o2 o3
    go_upto_region 26 with fail
    obtain ⟨w5, hw5⟩ : ∃ w5, w5 = wS.alloc (.cells #[.int .i64 oh, .int .i64 now, .slice av G cv] 37) := ⟨_, rfl⟩
    rw [← hw5]
    obtain ⟨br, hbr⟩ : ∃ b, b = wS.heap.size := ⟨_, rfl⟩
    rw [← hbr]
    have hb5 : Below wS.heap.size wS w5 := by rw [hw5]; exact Below.new _ _
    have HX5 := hid (show Blk w5 br #[.int .i64 oh, .int .i64 now, .slice av G cv] by rw [hw5, hbr]; exact Blk.new wS _ _)
    have HK5_ := hid (HKS.out.below hb5)
    have HO5 := hid (HOS.out.below hb5)
    have HR5 := hid (HRS.out.below hb5)
    have HZ5 := hid hb5.size
    have HB5_ := hid hb5
    have HBR := hid hbr
    clear hw5 hbr hb5
    have c0 : w5.cell? ⟨bs, 0, none⟩ = some (.slice (some ⟨bt, ob, none⟩) X.tills.length ct) := by rw [HK5_.out.cell]; rfl
    have c1 : w5.cell? ⟨bs, 1, none⟩ = some (.slice ag X.goods.length cg) := by rw [HK5_.out.cell]; rfl
    have o1 : w5.cell? ⟨bo, 1, none⟩ = some (.int .i64 oh) := by rw [HO5.out.cell]; rfl
    go_wp2_with fail
    refine (ref23_CloseTo w5 HR5.out (fun k hk => by have := HBT.out.low k hk; have := HB2.out.size; have := HZS.out; have := HZ5.out; omega) oh HXN.out HTE.out).mono ?_
    rintro e w6 ⟨at', ct', ag', cg', rfl, hr6, hb6, hlow6⟩
    have HR6 := hid hr6
    have HL6 := hid hlow6
    have HB6 := hid (Below.next HB5_.out hb6)
    have HX6 := hid (HX5.out.below hb6)
    have HRX6 := hid (HR5.out.below hb6)
    clear hr6 hb6 hlow6 c0 c1 o1
    go_upto_region 27 with fail
    obtain ⟨w7, hw7⟩ : ∃ w7, w7 = w6.alloc (.cells #[.slice at' X'.tills.length ct', .slice ag' X'.goods.length cg'] 46) := ⟨_, rfl⟩
    rw [← hw7]
    obtain ⟨bx, hbx⟩ : ∃ b, b = w6.heap.size := ⟨_, rfl⟩
    rw [← hbx]
    have hb7 : Below w6.heap.size w6 w7 := by rw [hw7]; exact Below.new _ _
    have HX7 := hid (show Blk w7 bx #[.slice at' X'.tills.length ct', .slice ag' X'.goods.length cg'] by rw [hw7, hbx]; exact Blk.new w6 _ _)
    have HBS7 := hid (Below.next HB6.out hb7)
    have HR7 := hid (HR6.out.below hb7)
    have HXR7 := hid (HX6.out.below hb7)
    have HRX7 := hid (HRX6.out.below hb7)
    have HZ7 := hid hb7.size
    have HBX := hid hbx
    have HK7 := hid (HKS.out.below HBS7.out)
    have HO7 := hid (HOS.out.below HBS7.out)
    have HK47 := hid (HK4S.out.below HBS7.out)
    have HZ6 := hid HB6.out.size
    clear hw7 hbx hb7
    have HSL7 := hid (HSL.out.below HBS7.out)
    go_upto_region 29 with fail
    have hyb := (Below.refl w7.heap.size w7).drew
    have hyd : Upd (fun k => k = b4) w7 w7.drew := Upd.of_below hyb
    have e0 : ∀ y, Upd (fun k => k = b4) w7 y → y.cell? ⟨bx, 0, none⟩ = some (.slice at' X'.tills.length ct') := fun y hy => by rw [(HX7.out.upd hy (fun q => by have := HB4.out; have := HBX.out; have := HZS.out; have := HZ6.out; omega)).cell]; rfl
    have e1 : ∀ y, Upd (fun k => k = b4) w7 y → y.cell? ⟨bx, 1, none⟩ = some (.slice ag' X'.goods.length cg') := fun y hy => by rw [(HX7.out.upd hy (fun q => by have := HB4.out; have := HBX.out; have := HZS.out; have := HZ6.out; omega)).cell]; rfl
    have e2 : ∀ y, Upd (fun k => k = b4) w7 y → y.cell? ⟨br, 0, none⟩ = some (.int .i64 oh) := fun y hy => by rw [(HXR7.out.upd hy (fun q => by have := HB4.out; have := HBR.out; have := HZS.out; omega)).cell]; rfl
    have e3 : ∀ y, Upd (fun k => k = b4) w7 y → y.cell? ⟨br, 2, none⟩ = some (.slice av G cv) := fun y hy => by rw [(HXR7.out.upd hy (fun q => by have := HB4.out; have := HBR.out; have := HZS.out; omega)).cell]; rfl
    have e4 : ∀ y, Upd (fun k => k = b4) w7 y → y.cell? ⟨br, 1, none⟩ = some (.int .i64 now) := fun y hy => by rw [(HXR7.out.upd hy (fun q => by have := HB4.out; have := HBR.out; have := HZS.out; omega)).cell]; rfl
    have e5 : ∀ y, Upd (fun k => k = b4) w7 y → y.cell? ⟨bo, 1, none⟩ = some (.int .i64 oh) := fun y hy => by rw [(HO7.out.upd hy (fun q => by have := HB4.out; omega)).cell]; rfl
    have e6 : ∀ y, Upd (fun k => k = b4) w7 y → y.cell? ⟨bs, 0, none⟩ = some (.slice (some ⟨bt, ob, none⟩) X.tills.length ct) := fun y hy => by rw [(HK7.out.upd hy (fun q => by have := HB4.out; omega)).cell]; rfl
    have e7 : ∀ y, Upd (fun k => k = b4) w7 y → y.cell? ⟨bs, 1, none⟩ = some (.slice ag X.goods.length cg) := fun y hy => by rw [(HK7.out.upd hy (fun q => by have := HB4.out; omega)).cell]; rfl
    have e8 : ∀ y, Upd (fun k => k = b4) w7 y → y.cell? ⟨bt, ob + i1 * 2 + 1, none⟩ = some (.int .i64 now) := fun y hy => by
      obtain ⟨a', c', e', hrd, -⟩ := (HRX7.out.upd hy (fun k hk q => by have := HBT.out.low k hk; have := HB4.out; omega)).t
      simp only [Value.slice.injEq, true_and] at e'
      obtain ⟨rfl, rfl⟩ := e'
      exact (hrd.pair_at HI1.out).2
    refine wp_region_kept [34] (fun y => Upd (fun k => k = b4) w7 y) (by kernel_rfl) (by assumption) (fun hH => ?_)
    refine wpK.take (i := 0) (v := _) (by simp only [List.getElem?_toArray, List.getElem?_cons_succ, List.getElem?_cons_zero]; rfl) (by kernel_rfl) (by kernel_rfl) (by kernel_rfl) (by kernel_rfl) (by kernel_rfl) (by exact fun _ _ _ h => h) (by first | exact Or.inl ⟨by rfl, by intro w hSw; go_simp; try with_reducible rfl⟩ | exact Or.inr ⟨by rfl, rfl⟩) hH ?_
    try simp only [Act.put, List.setIfInBounds_toArray, List.set_cons_zero, List.set_cons_succ]
    refine wpK.take (i := 1) (v := _) (by simp only [List.getElem?_toArray, List.getElem?_cons_succ, List.getElem?_cons_zero]; rfl) (by kernel_rfl) (by kernel_rfl) (by kernel_rfl) (by kernel_rfl) (by kernel_rfl) (by exact fun _ _ _ h => h) (by first | exact Or.inl ⟨by rfl, by intro w hSw; go_simp; try with_reducible rfl⟩ | exact Or.inr ⟨by rfl, rfl⟩) hH ?_
    try simp only [Act.put, List.setIfInBounds_toArray, List.set_cons_zero, List.set_cons_succ]
    refine wpK.take (i := 2) (v := _) (by simp only [List.getElem?_toArray, List.getElem?_cons_succ, List.getElem?_cons_zero]; rfl) (by kernel_rfl) (by kernel_rfl) (by kernel_rfl) (by kernel_rfl) (by kernel_rfl) (by exact fun _ _ _ h => h) (by first | exact Or.inl ⟨by rfl, by intro w hSw; go_simp; try with_reducible rfl⟩ | exact Or.inr ⟨by rfl, rfl⟩) hH ?_
    try simp only [Act.put, List.setIfInBounds_toArray, List.set_cons_zero, List.set_cons_succ]
    refine wpK.take (i := 3) (v := _) (by simp only [List.getElem?_toArray, List.getElem?_cons_succ, List.getElem?_cons_zero]; rfl) (by kernel_rfl) (by kernel_rfl) (by kernel_rfl) (by kernel_rfl) (by kernel_rfl) (by exact fun _ _ _ h => h) (by first | exact Or.inl ⟨by rfl, by intro w hSw; go_simp; try with_reducible rfl⟩ | exact Or.inr ⟨by rfl, rfl⟩) hH ?_
    try simp only [Act.put, List.setIfInBounds_toArray, List.set_cons_zero, List.set_cons_succ]
    refine wpK.take (i := 4) (v := _) (by simp only [List.getElem?_toArray, List.getElem?_cons_succ, List.getElem?_cons_zero]; rfl) (by kernel_rfl) (by kernel_rfl) (by kernel_rfl) (by kernel_rfl) (by kernel_rfl) (by exact fun _ _ _ h => h) (by first | exact Or.inl ⟨by rfl, by intro w hSw; go_simp; try with_reducible rfl⟩ | exact Or.inr ⟨by rfl, rfl⟩) hH ?_
    try simp only [Act.put, List.setIfInBounds_toArray, List.set_cons_zero, List.set_cons_succ]
    refine wpK.take (i := 5) (v := _) (by simp only [List.getElem?_toArray, List.getElem?_cons_succ, List.getElem?_cons_zero]; rfl) (by kernel_rfl) (by kernel_rfl) (by kernel_rfl) (by kernel_rfl) (by kernel_rfl) (by exact fun _ _ _ h => h) (by first | exact Or.inl ⟨by rfl, by intro w hSw; go_simp; try with_reducible rfl⟩ | exact Or.inr ⟨by rfl, rfl⟩) hH ?_
    try simp only [Act.put, List.setIfInBounds_toArray, List.set_cons_zero, List.set_cons_succ]
    refine wpK.take (i := 6) (v := _) (by simp only [List.getElem?_toArray, List.getElem?_cons_succ, List.getElem?_cons_zero]; rfl) (by kernel_rfl) (by kernel_rfl) (by kernel_rfl) (by kernel_rfl) (by kernel_rfl) (by exact fun _ _ _ h => h) (by first | exact Or.inl ⟨by rfl, by intro w hSw; go_simp; try with_reducible rfl⟩ | exact Or.inr ⟨by rfl, rfl⟩) hH ?_
    try simp only [Act.put, List.setIfInBounds_toArray, List.set_cons_zero, List.set_cons_succ]
    refine wpK.take (i := 7) (v := _) (by simp only [List.getElem?_toArray, List.getElem?_cons_succ, List.getElem?_cons_zero]; rfl) (by kernel_rfl) (by kernel_rfl) (by kernel_rfl) (by kernel_rfl) (by kernel_rfl) (by exact fun _ _ _ h => h) (by first | exact Or.inl ⟨by rfl, by intro w hSw; go_simp; try with_reducible rfl⟩ | exact Or.inr ⟨by rfl, rfl⟩) hH ?_
    try simp only [Act.put, List.setIfInBounds_toArray, List.set_cons_zero, List.set_cons_succ]
    refine wpK.take (i := 8) (v := _) (by simp only [List.getElem?_toArray, List.getElem?_cons_succ, List.getElem?_cons_zero]; rfl) (by kernel_rfl) (by kernel_rfl) (by kernel_rfl) (by kernel_rfl) (by kernel_rfl) (by exact fun _ _ _ h => h) (by first | exact Or.inl ⟨by rfl, by intro w hSw; go_simp; try with_reducible rfl⟩ | exact Or.inr ⟨by rfl, rfl⟩) hH ?_
    try simp only [Act.put, List.setIfInBounds_toArray, List.set_cons_zero, List.set_cons_succ]
    refine wpK.take (i := 9) (v := _) (by simp only [List.getElem?_toArray, List.getElem?_cons_succ, List.getElem?_cons_zero]; rfl) (by kernel_rfl) (by kernel_rfl) (by kernel_rfl) (by kernel_rfl) (by kernel_rfl) (by exact fun _ _ _ h => h) (by first | exact Or.inl ⟨by rfl, by intro w hSw; go_simp; try with_reducible rfl⟩ | exact Or.inr ⟨by rfl, rfl⟩) hH ?_
    try simp only [Act.put, List.setIfInBounds_toArray, List.set_cons_zero, List.set_cons_succ]
    refine wpK.take (i := 10) (v := _) (by simp only [List.getElem?_toArray, List.getElem?_cons_succ, List.getElem?_cons_zero]; rfl) (by kernel_rfl) (by kernel_rfl) (by kernel_rfl) (by kernel_rfl) (by kernel_rfl) (by exact fun _ _ _ h => h) (by first | exact Or.inl ⟨by rfl, by intro w hSw; go_simp; try with_reducible rfl⟩ | exact Or.inr ⟨by rfl, rfl⟩) hH ?_
    try simp only [Act.put, List.setIfInBounds_toArray, List.set_cons_zero, List.set_cons_succ]
    refine wpK.take (i := 11) (v := _) (by simp only [List.getElem?_toArray, List.getElem?_cons_succ, List.getElem?_cons_zero]; rfl) (by kernel_rfl) (by kernel_rfl) (by kernel_rfl) (by kernel_rfl) (by kernel_rfl) (by exact fun _ _ _ h => h) (by first | exact Or.inl ⟨by rfl, by intro w hSw; go_simp; try with_reducible rfl⟩ | exact Or.inr ⟨by rfl, rfl⟩) hH ?_
    try simp only [Act.put, List.setIfInBounds_toArray, List.set_cons_zero, List.set_cons_succ]
    refine wpK.take (i := 12) (v := _) (by simp only [List.getElem?_toArray, List.getElem?_cons_succ, List.getElem?_cons_zero]; rfl) (by kernel_rfl) (by kernel_rfl) (by kernel_rfl) (by kernel_rfl) (by kernel_rfl) (by exact fun _ _ _ h => h) (by first | exact Or.inl ⟨by rfl, by intro w hSw; go_simp; try with_reducible rfl⟩ | exact Or.inr ⟨by rfl, rfl⟩) hH ?_
    try simp only [Act.put, List.setIfInBounds_toArray, List.set_cons_zero, List.set_cons_succ]
    refine wpK.take (i := 13) (v := _) (by simp only [List.getElem?_toArray, List.getElem?_cons_succ, List.getElem?_cons_zero]; rfl) (by kernel_rfl) (by kernel_rfl) (by kernel_rfl) (by kernel_rfl) (by kernel_rfl) (by exact fun _ _ _ h => h) (by first | exact Or.inl ⟨by rfl, by intro w hSw; go_simp; try with_reducible rfl⟩ | exact Or.inr ⟨by rfl, rfl⟩) hH ?_
    try simp only [Act.put, List.setIfInBounds_toArray, List.set_cons_zero, List.set_cons_succ]
    refine wpK.take (i := 14) (v := _) (by simp only [List.getElem?_toArray, List.getElem?_cons_succ, List.getElem?_cons_zero]; rfl) (by kernel_rfl) (by kernel_rfl) (by kernel_rfl) (by kernel_rfl) (by kernel_rfl) (by exact fun _ _ _ h => h) (by first | exact Or.inl ⟨by rfl, by intro w hSw; go_simp; try with_reducible rfl⟩ | exact Or.inr ⟨by rfl, rfl⟩) hH ?_
    try simp only [Act.put, List.setIfInBounds_toArray, List.set_cons_zero, List.set_cons_succ]
    refine wpK.take (i := 15) (v := _) (by simp only [List.getElem?_toArray, List.getElem?_cons_succ, List.getElem?_cons_zero]; rfl) (by kernel_rfl) (by kernel_rfl) (by kernel_rfl) (by kernel_rfl) (by kernel_rfl) (by exact fun _ _ _ h => h) (by first | exact Or.inl ⟨by rfl, by intro w hSw; go_simp; try with_reducible rfl⟩ | exact Or.inr ⟨by rfl, rfl⟩) hH ?_
    try simp only [Act.put, List.setIfInBounds_toArray, List.set_cons_zero, List.set_cons_succ]
    refine wpK.take (i := 16) (v := _) (by simp only [List.getElem?_toArray, List.getElem?_cons_succ, List.getElem?_cons_zero]; rfl) (by kernel_rfl) (by kernel_rfl) (by kernel_rfl) (by kernel_rfl) (by kernel_rfl) (by exact fun _ _ _ h => h) (by first | exact Or.inl ⟨by rfl, by intro w hSw; go_simp; try with_reducible rfl⟩ | exact Or.inr ⟨by rfl, rfl⟩) hH ?_
    try simp only [Act.put, List.setIfInBounds_toArray, List.set_cons_zero, List.set_cons_succ]
    refine wpK.take (i := 17) (v := _) (by simp only [List.getElem?_toArray, List.getElem?_cons_succ, List.getElem?_cons_zero]; rfl) (by kernel_rfl) (by kernel_rfl) (by kernel_rfl) (by kernel_rfl) (by kernel_rfl) (by exact fun _ _ _ h => h) (by first | exact Or.inl ⟨by rfl, by intro w hSw; go_simp; try with_reducible rfl⟩ | exact Or.inr ⟨by rfl, rfl⟩) hH ?_
    try simp only [Act.put, List.setIfInBounds_toArray, List.set_cons_zero, List.set_cons_succ]
    refine wpK.step (i := 18) (by kernel_rfl) (by simp only [List.getElem?_toArray, List.getElem?_cons_succ, List.getElem?_cons_zero]; rfl) (fun K hK => ?_)
    go_simp
    (refine (ref23_Has w7.drew (HRX7.out.below hyb) oh).mono ?_); rintro e wA ⟨r, rfl, hr, hbA0⟩; (obtain rfl : r = (i1 : Int) := hr.at HSORT.out HI1.out); (have hbA := Below.next hyb hbA0); (have hkA : Upd (fun k => k = b4) w7 wA := Upd.of_below hbA); go_simp
    refine hK.out _ _ (by assumption) (fun hH => ?_)
    clear hK K
    try simp only [Act.put, List.setIfInBounds_toArray, List.set_cons_zero, List.set_cons_succ]
    refine wpK.take (i := 19) (v := _) (by simp only [List.getElem?_toArray, List.getElem?_cons_succ, List.getElem?_cons_zero]; rfl) (by kernel_rfl) (by kernel_rfl) (by kernel_rfl) (by kernel_rfl) (by kernel_rfl) (by exact fun _ _ _ h => h) (by first | exact Or.inl ⟨by rfl, by intro w hSw; go_simp; try with_reducible rfl⟩ | exact Or.inr ⟨by rfl, rfl⟩) hH ?_
    try simp only [Act.put, List.setIfInBounds_toArray, List.set_cons_zero, List.set_cons_succ]
    refine wpK.take (i := 20) (v := _) (by simp only [List.getElem?_toArray, List.getElem?_cons_succ, List.getElem?_cons_zero]; rfl) (by kernel_rfl) (by kernel_rfl) (by kernel_rfl) (by kernel_rfl) (by kernel_rfl) (by exact fun _ _ _ h => h) (by first | exact Or.inl ⟨by rfl, by intro w hSw; go_simp; try with_reducible rfl⟩ | exact Or.inr ⟨by rfl, rfl⟩) hH ?_
    try simp only [Act.put, List.setIfInBounds_toArray, List.set_cons_zero, List.set_cons_succ]
    refine wpK.take (i := 21) (v := _) (by simp only [List.getElem?_toArray, List.getElem?_cons_succ, List.getElem?_cons_zero]; rfl) (by kernel_rfl) (by kernel_rfl) (by kernel_rfl) (by kernel_rfl) (by kernel_rfl) (by exact fun _ _ _ h => h) (by first | exact Or.inl ⟨by rfl, by intro w hSw; go_simp; try with_reducible rfl⟩ | exact Or.inr ⟨by rfl, rfl⟩) hH ?_
    try simp only [Act.put, List.setIfInBounds_toArray, List.set_cons_zero, List.set_cons_succ]
    refine wpK.take (i := 22) (v := _) (by simp only [List.getElem?_toArray, List.getElem?_cons_succ, List.getElem?_cons_zero]; rfl) (by kernel_rfl) (by kernel_rfl) (by kernel_rfl) (by kernel_rfl) (by kernel_rfl) (by exact fun _ _ _ h => h) (by first | exact Or.inl ⟨by rfl, by intro w hSw; go_simp; try with_reducible rfl⟩ | exact Or.inr ⟨by rfl, rfl⟩) hH ?_
    try simp only [Act.put, List.setIfInBounds_toArray, List.set_cons_zero, List.set_cons_succ]
    refine wpK.take (i := 23) (v := _) (by simp only [List.getElem?_toArray, List.getElem?_cons_succ, List.getElem?_cons_zero]; rfl) (by kernel_rfl) (by kernel_rfl) (by kernel_rfl) (by kernel_rfl) (by kernel_rfl) (by exact fun _ _ _ h => h) (by first | exact Or.inl ⟨by rfl, by intro w hSw; go_simp; try with_reducible rfl⟩ | exact Or.inr ⟨by rfl, rfl⟩) hH ?_
    try simp only [Act.put, List.setIfInBounds_toArray, List.set_cons_zero, List.set_cons_succ]
    refine wpK.take (i := 24) (v := _) (by simp only [List.getElem?_toArray, List.getElem?_cons_succ, List.getElem?_cons_zero]; rfl) (by kernel_rfl) (by kernel_rfl) (by kernel_rfl) (by kernel_rfl) (by kernel_rfl) (by exact fun _ _ _ h => h) (by first | exact Or.inl ⟨by rfl, by intro w hSw; go_simp; try with_reducible rfl⟩ | exact Or.inr ⟨by rfl, rfl⟩) hH ?_
    try simp only [Act.put, List.setIfInBounds_toArray, List.set_cons_zero, List.set_cons_succ]
    refine wpK.take (i := 25) (v := _) (by simp only [List.getElem?_toArray, List.getElem?_cons_succ, List.getElem?_cons_zero]; rfl) (by kernel_rfl) (by kernel_rfl) (by kernel_rfl) (by kernel_rfl) (by kernel_rfl) (by exact fun _ _ _ h => h) (by first | exact Or.inl ⟨by rfl, by intro w hSw; go_simp; try with_reducible rfl⟩ | exact Or.inr ⟨by rfl, rfl⟩) hH ?_
    try simp only [Act.put, List.setIfInBounds_toArray, List.set_cons_zero, List.set_cons_succ]
    refine wpK.take (i := 26) (v := _) (by simp only [List.getElem?_toArray, List.getElem?_cons_succ, List.getElem?_cons_zero]; rfl) (by kernel_rfl) (by kernel_rfl) (by kernel_rfl) (by kernel_rfl) (by kernel_rfl) (by exact fun _ _ _ h => h) (by first | exact Or.inl ⟨by rfl, by intro w hSw; go_simp; try with_reducible rfl⟩ | exact Or.inr ⟨by rfl, rfl⟩) hH ?_
    try simp only [Act.put, List.setIfInBounds_toArray, List.set_cons_zero, List.set_cons_succ]
    refine wpK.take (i := 27) (v := _) (by simp only [List.getElem?_toArray, List.getElem?_cons_succ, List.getElem?_cons_zero]; rfl) (by kernel_rfl) (by kernel_rfl) (by kernel_rfl) (by kernel_rfl) (by kernel_rfl) (by exact fun _ _ _ h => h) (by first | exact Or.inl ⟨by rfl, by intro w hSw; go_simp; try with_reducible rfl⟩ | exact Or.inr ⟨by rfl, rfl⟩) hH ?_
    try simp only [Act.put, List.setIfInBounds_toArray, List.set_cons_zero, List.set_cons_succ]
    refine wpK.take (i := 28) (v := _) (by simp only [List.getElem?_toArray, List.getElem?_cons_succ, List.getElem?_cons_zero]; rfl) (by kernel_rfl) (by kernel_rfl) (by kernel_rfl) (by kernel_rfl) (by kernel_rfl) (by exact fun _ _ _ h => h) (by first | exact Or.inl ⟨by rfl, by intro w hSw; go_simp; try with_reducible rfl⟩ | exact Or.inr ⟨by rfl, rfl⟩) hH ?_
    try simp only [Act.put, List.setIfInBounds_toArray, List.set_cons_zero, List.set_cons_succ]
    refine wpK.take (i := 29) (v := _) (by simp only [List.getElem?_toArray, List.getElem?_cons_succ, List.getElem?_cons_zero]; rfl) (by kernel_rfl) (by kernel_rfl) (by kernel_rfl) (by kernel_rfl) (by kernel_rfl) (by exact fun _ _ _ h => h) (by first | exact Or.inl ⟨by rfl, by intro w hSw; go_simp; try with_reducible rfl⟩ | exact Or.inr ⟨by rfl, rfl⟩) hH ?_
    try simp only [Act.put, List.setIfInBounds_toArray, List.set_cons_zero, List.set_cons_succ]
    refine wpK.step (i := 30) (by kernel_rfl) (by simp only [List.getElem?_toArray, List.getElem?_cons_succ, List.getElem?_cons_zero]; rfl) (fun K hK => ?_)
    go_simp
    (refine (ref23_OfX wA (HRX7.out.below hbA) oh HOX.out).mono ?_); rintro e wC ⟨v1, rfl, hoC, hbC0⟩; (have hbC := Below.next hbA hbC0); (have hkC : Upd (fun k => k = b4) w7 wC := Upd.of_below hbC); go_simp
    refine hK.out _ _ (by assumption) (fun hH => ?_)
    clear hK K
    try simp only [Act.put, List.setIfInBounds_toArray, List.set_cons_zero, List.set_cons_succ]
    refine wpK.step (i := 31) (by kernel_rfl) (by simp only [List.getElem?_toArray, List.getElem?_cons_succ, List.getElem?_cons_zero]; rfl) (fun K hK => ?_)
    go_simp
    (refine (law23_goods wC (v1 := .slice av G cv) (by rw [HG.out]; exact HSL7.out.below hbC) (Sl3.of_own hoC) HXG.out HG16.out).mono ?_); rintro e wB ⟨rfl, hbB0⟩; (have hbB := Below.next hbC hbB0); (have hkB : Upd (fun k => k = b4) w7 wB := Upd.of_below hbB); (have HK4B := hid (HK47.out.below hbB)); (have hk9 : Upd (fun k => k = b4) w7 ((wB.setCell ⟨b4, 0, none⟩ (.slice at' X'.tills.length ct')).setCell ⟨b4, 1, none⟩ (.slice ag' X'.goods.length cg')) := (hkB.trans (Upd.setCell wB b4 0 _) (fun _ _ q => q)).trans (Upd.setCell _ b4 1 _) (fun _ _ q => q)); (have q0 : wB.cell? ⟨b4, 0, none⟩ = some (.slice none 0 0) := by rw [HK4B.out.cell]; rfl); (have q1 : wB.cell? ⟨b4, 1, none⟩ = some (.slice none 0 0) := by rw [HK4B.out.cell]; rfl); (have f0 : wB.frozen? ⟨b4, 0, none⟩ = false := HK4B.out.unfrozen 0); (have f1 : wB.frozen? ⟨b4, 1, none⟩ = false := HK4B.out.unfrozen 1); go_simp
    refine hK.out _ _ (by assumption) (fun hH => ?_)
    clear hK K
    try simp only [Act.put, List.setIfInBounds_toArray, List.set_cons_zero, List.set_cons_succ]
    refine wpK.take (i := 32) (v := _) (by simp only [List.getElem?_toArray, List.getElem?_cons_succ, List.getElem?_cons_zero]; rfl) (by kernel_rfl) (by kernel_rfl) (by kernel_rfl) (by kernel_rfl) (by kernel_rfl) (by exact fun _ _ _ h => h) (by first | exact Or.inl ⟨by rfl, by intro w hSw; go_simp; try with_reducible rfl⟩ | exact Or.inr ⟨by rfl, rfl⟩) hH ?_
    try simp only [Act.put, List.setIfInBounds_toArray, List.set_cons_zero, List.set_cons_succ]
    refine wpK.step (i := 33) (by kernel_rfl) (by simp only [List.getElem?_toArray, List.getElem?_cons_succ, List.getElem?_cons_zero]; rfl) (fun K hK => ?_)
    go_simp
    refine hK.out _ _ (by assumption) (fun hH => ?_)
    clear hK K
    try simp only [Act.put, List.setIfInBounds_toArray, List.set_cons_zero, List.set_cons_succ]
    refine wpK.late (i := 34) (by kernel_rfl) (by simp only [List.getElem?_toArray, List.getElem?_cons_succ, List.getElem?_cons_zero]; rfl) (by kernel_rfl) (fun K hK => ?_)
    go_simp
    refine hK.out _ _ ?_
    clear hK K
    try simp only [Act.put, List.setIfInBounds_toArray, List.set_cons_zero, List.set_cons_succ]
    refine wpK.done (by kernel_rfl) ?_ _
    have HRB := hid (HR7.out.below hbB)
    have HBSB := hid (Below.next HBS7.out hbB)
    have HBL : Hid (w6.heap.size ≤ wB.heap.size) := hid (by have := HZ7.out; have := hbB.size; omega)
    clear e0 e1 e2 e3 e4 e5 e6 e7 e8 hyd hyb hk9 q0 q1 f0 f1 hbA0 hbA hkA hbC0 hbC hkC hbB0 hbB hkB hoC hr
    have HK5 : Hid (Blk ((wB.setCell ⟨b4, 0, none⟩ (.slice at' X'.tills.length ct')).setCell ⟨b4, 1, none⟩ (.slice ag' X'.goods.length cg')) b4 #[.slice at' X'.tills.length ct', .slice ag' X'.goods.length cg']) := hid (by simpa using (HK4B.out.set 0 (.slice at' X'.tills.length ct')).set 1 (.slice ag' X'.goods.length cg'))
    have HU9 := hid ((Upd.setCell wB b4 0 (.slice at' X'.tills.length ct')).trans (Upd.setCell _ b4 1 (.slice ag' X'.goods.length cg')) (fun _ _ q => q))
    generalize World.setCell (World.setCell wB _ _) _ _ = w9 at HK5 HU9
    have k0 : w9.cell? ⟨b4, 0, none⟩ = some (.slice at' X'.tills.length ct') := by rw [HK5.out.cell]; rfl
    have k1 : w9.cell? ⟨b4, 1, none⟩ = some (.slice ag' X'.goods.length cg') := by rw [HK5.out.cell]; rfl
    go_wp2_with fail
    refine bodyPost_ret (res_cell_tmp rfl _ _ _ rfl (by go_simp; rfl)) rfl ?_
    have a2 := HB2.out.size
    have a4 := HB4.out
    have a5 := HZS.out
    have a7 := HBSB.out.size
    have a8 := HBL.out
    refine HBT.out.fin HRB.out (HSS.out.below HBSB.out) (fun k hk => hk.1.imp id (fun q => by omega)) (fun k hk => ?_) (((Upd.of_below (S := F) HB2.out).trans HU.out (fun _ _ q => q)).trans (Upd.of_below HBSB.out) (fun _ _ q => q)) (b4 := b4) (by omega) (fun q => ?_) (fun k hk q => ?_) HU9.out
    · obtain ⟨u1, u2⟩ := HL6.out k hk
      refine ⟨fun q => ?_, by omega, u2.imp id (fun q => by have := HZ5.out; omega)⟩
      rcases u2 with u2 | u2
      · rcases q.1 with q | q
        · exact HBT.out.far k u2 q
        · have := HBT.out.low k u2; omega
      · have := q.2; have := HZ5.out; omega
    · rcases q.1 with q | q
      · have := HFL.out _ q; omega
      · omega
    · rcases (HL6.out k hk).2 with u2 | u2
      · have := HBT.out.low k u2; omega
      · have := HZ5.out; omega
end Go.Proofs.Ytajfjgekcjkedaa
end
section
/- The ends of functions whose result is a struct in memory. No program in sight. -/
namespace Go.Proofs.Ytajfjgekcjkedaa
open Go.RowKit
open Go.Lib (hid)
set_option linter.unusedVariables false

theorem results_cell1 {fn : Func} {a : Tmp} {t : TypeId} (h : fn.results = #[.cell a t]) (tmps : Array Value) (P : Program) (w : World) {x : Addr} {v : Value} (ha : tmps.getD a undef = .pointer (some x)) (hl : (loadVar t x).run P w = .ok v w) : (results fn tmps).run P w = .ok v w := by
  have ha' : tmps[a]?.getD undef = .pointer (some x) := by rw [← ha]; simp
  simp [results, h, ha', asAddr, hl, Result.andThen]
theorem results_cell_tmp {fn : Func} {a u : Tmp} {t : TypeId} (h : fn.results = #[.cell a t, .tmp u]) (tmps : Array Value) (P : Program) (w : World) {x : Addr} {v : Value} (ha : tmps.getD a undef = .pointer (some x)) (hl : (loadVar t x).run P w = .ok v w) : (results fn tmps).run P w = .ok (.tuple #[v, tmps.getD u undef]) w := by
  have ha' : tmps[a]?.getD undef = .pointer (some x) := by rw [← ha]; simp
  simp [results, h, ha', asAddr, hl, Result.andThen]
theorem K_alloc {K : Act → World → Prop} {a : Act} {x : World} {cs : Array Value} {e : TypeId} (h : ∀ (g : Nat) (wn : World), g = x.heap.size → wn.heap.size = g + 1 → Below x.heap.size x wn → Blk wn g cs → K a wn) : K a (x.alloc (.cells cs e)) :=
  h x.heap.size _ rfl (by simp) (Below.new _ _) (Blk.new _ _ _)
theorem K_allocD {K : Act → World → Prop} {a : Act} {x : World} {cs : Array Value} {e : TypeId} (h : ∀ (g : Nat) (wn : World), g = x.heap.size → wn.heap.size = g + 1 → Below x.heap.size x wn → Blk wn g cs → K a wn) : K a (x.alloc (.cells cs e)).drew :=
  h x.heap.size _ rfl (by simp) (Below.new _ _).drew (Blk.new _ _ _)
theorem Blk.c2 {w : World} {g : Nat} {a b : Value} (h : Blk w g #[a, b]) : w.cell? ⟨g, 0, none⟩ = some a ∧ w.cell? ⟨g, 1, none⟩ = some b ∧ w.frozen? ⟨g, 0, none⟩ = false ∧ w.frozen? ⟨g, 1, none⟩ = false :=
  ⟨by rw [h.cell]; rfl, by rw [h.cell]; rfl, h.unfrozen _, h.unfrozen _⟩
theorem set2_of {x : World} {g : Nat} {c0 c1 : Value} (h : Blk x g #[c0, c1]) (u0 u1 : Value) : ∃ wz, wz = (x.setCell ⟨g, 0, none⟩ u0).setCell ⟨g, 1, none⟩ u1 ∧ Blk wz g #[u0, u1] ∧ Upd (fun k => k = g) x wz :=
  ⟨_, rfl, by simpa using (h.set 0 u0).set 1 u1, (Upd.setCell x g 0 u0).trans (Upd.setCell _ g 1 u1) (fun _ _ q => q)⟩
end Go.Proofs.Ytajfjgekcjkedaa
end
