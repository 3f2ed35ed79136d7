/- Joined texts, in this order: StallStep2. Each one's first remark says what it proves; no condition beyond those that its theorems name. -/
import Derived.Test.YtajfjgekcjkedaaJLawStallRestores21
section
/- The law's step, the other kinds. -/
namespace Go.Proofs.Ytajfjgekcjkedaa
open Go.RowKit
open Go.Lib (hid)
set_option linter.unusedVariables false

theorem setT_none {T : List (Int × Int)} {h g : Int} (e : T.lookup h = none) : setT T h g = T := by
  unfold setT
  have : ∀ p ∈ T, (if p.1 = h then (h, g) else p) = p := fun p hp => if_neg (lookup_none_iff.1 e p hp)
  rw [List.map_congr_left this, List.map_id']
theorem setX_none {X : StX} {h g : Int} (e : X.tills.lookup h = none) : setX X h g = X := by unfold setX; rw [setT_none e]
theorem tillX_none {X : StX} {h : Int} (e : X.tills.lookup h = none) : tillX X h = 0 ∧ tillE X h = 14 := by unfold tillX tillE; rw [e]; exact ⟨rfl, rfl⟩
theorem tillX_some {X : StX} {h g : Int} (e : X.tills.lookup h = some g) : tillX X h = g ∧ tillE X h = 0 := by unfold tillX tillE; rw [e]; exact ⟨rfl, rfl⟩
set_option maxRecDepth 100000 in
set_option maxHeartbeats 4000000 in
theorem law23_step0 {s : Nat} {F : Nat → Prop} {at_ ag : Option Addr} {ct cg : Nat} {X : StX} (w : World) (h : Both w s F at_ ct ag cg X) (hnt : X.tills.length < 100000) (hng : X.goods.length < 100000) (kd oh ot op : Int) (hoh : oh ≤ 9223372036854775807) (hot : ot ≤ 9223372036854775807) (h1 : (kd == 1) = false) (h2 : (kd == 2) = false) (h3 : (kd == 3) = false) (h4 : (kd == 4) = false) (h5 : (kd == 5) = false) (h6 : (kd == 6) = false) :
    Calls Try.prog 23 #[.pointer (some ⟨s, 0, none⟩), .agg #[.slice at_ X.tills.length ct, .slice ag X.goods.length cg], .agg #[.int .i64 kd, .int .i64 oh, .int .i64 ot, .int .i64 op]] w (StepPost w s F at_ ag (X)) := by
  have HBT := hid h
  have HI := hid h.st.inv
  clear h
  go_enter Try.func23, Try.ntmps23
  go_upto_region 1 with fail
  generalize hw2 : World.alloc (World.alloc (World.alloc w _) _) _ = w2
  obtain ⟨bs, hbs⟩ : ∃ b, b = w.heap.size := ⟨_, rfl⟩
  obtain ⟨bo, hbo⟩ : ∃ b, b = w.heap.size + 1 := ⟨_, rfl⟩
  obtain ⟨b4, hb4⟩ : ∃ b, b = w.heap.size + 1 + 1 := ⟨_, rfl⟩
  have hz1 : (World.alloc w (.cells #[.slice at_ X.tills.length ct, .slice ag X.goods.length cg] 46)).heap.size = w.heap.size + 1 := by simp
  have hz2 : (World.alloc (World.alloc w (.cells #[.slice at_ X.tills.length ct, .slice ag X.goods.length cg] 46)) (.cells #[.int .i64 kd, .int .i64 oh, .int .i64 ot, .int .i64 op] 27)).heap.size = w.heap.size + 1 + 1 := by simp
  try rw [hz2]
  try rw [hz1]
  try rw [← hb4]
  try rw [← hbo]
  try rw [← hbs]
  have hb2 : Below w.heap.size w w2 := by rw [← hw2]; exact Below.next (Below.next (Below.new _ _) (Below.new _ _)) (Below.new _ _)
  have HK : Hid (Blk w2 bs #[.slice at_ X.tills.length ct, .slice ag X.goods.length cg]) := hid (by rw [← hw2, hbs]; exact ((Blk.new w _ _).below (Below.new _ _)).below (Below.new _ _))
  have HO : Hid (Blk w2 bo #[.int .i64 kd, .int .i64 oh, .int .i64 ot, .int .i64 op]) := hid (by rw [← hw2, hbo, ← hz1]; exact (Blk.new _ _ _).below (Below.new _ _))
  have HK4 : Hid (Blk w2 b4 #[.slice none 0 0, .slice none 0 0]) := hid (by rw [← hw2, hb4, ← hz2]; exact Blk.new _ _ _)
  have HX2 := hid (HBT.out.rx.below hb2)
  have H2 := hid (HBT.out.st.below hb2)
  have HB2 := hid hb2
  have HB4 : Hid (bs = w.heap.size ∧ bo = w.heap.size + 1 ∧ b4 = w.heap.size + 2 ∧ b4 < w2.heap.size) := hid (by have := HK4.out.lt; omega)
  clear hw2 hbs hbo hb4 hz1 hz2 hb2
  have o0 : w2.cell? ⟨bo, 0, none⟩ = some (.int .i64 kd) := by rw [HO.out.cell]; rfl
  have o1 : w2.cell? ⟨bo, 1, none⟩ = some (.int .i64 oh) := by rw [HO.out.cell]; rfl
  have o2 : w2.cell? ⟨bo, 2, none⟩ = some (.int .i64 ot) := by rw [HO.out.cell]; rfl
  have o3 : w2.cell? ⟨bo, 3, none⟩ = some (.int .i64 op) := by rw [HO.out.cell]; rfl
  have c0 : w2.cell? ⟨bs, 0, none⟩ = some (.slice at_ X.tills.length ct) := by rw [HK.out.cell]; rfl
  have c1 : w2.cell? ⟨bs, 1, none⟩ = some (.slice ag X.goods.length cg) := by rw [HK.out.cell]; rfl
  have HK4B := HK4
  have q0 : w2.cell? ⟨b4, 0, none⟩ = some (.slice none 0 0) := by rw [HK4B.out.cell]; rfl
  have q1 : w2.cell? ⟨b4, 1, none⟩ = some (.slice none 0 0) := by rw [HK4B.out.cell]; rfl
  have f0 : w2.frozen? ⟨b4, 0, none⟩ = false := HK4B.out.unfrozen 0
  have f1 : w2.frozen? ⟨b4, 1, none⟩ = false := HK4B.out.unfrozen 1
  go_wp2_with fail
  have HK5 : Hid (Blk ((w2.setCell ⟨b4, 0, none⟩ (.slice at_ X.tills.length ct)).setCell ⟨b4, 1, none⟩ (.slice ag X.goods.length cg)) b4 #[.slice at_ X.tills.length ct, .slice ag X.goods.length cg]) := hid (by simpa using (HK4B.out.set 0 (.slice at_ X.tills.length ct)).set 1 (.slice ag X.goods.length cg))
  have HU9 := hid ((Upd.setCell w2 b4 0 (.slice at_ X.tills.length ct)).trans (Upd.setCell _ b4 1 (.slice ag X.goods.length cg)) (fun _ _ q => q))
  generalize World.setCell (World.setCell w2 _ _) _ _ = w9 at HK5 HU9
  have k0 : w9.cell? ⟨b4, 0, none⟩ = some (.slice at_ X.tills.length ct) := by rw [HK5.out.cell]; rfl
  have k1 : w9.cell? ⟨b4, 1, none⟩ = some (.slice ag X.goods.length cg) := by rw [HK5.out.cell]; rfl
  clear q0 q1 f0 f1
  refine bodyPost_ret (res_cell_tmp rfl _ _ _ rfl (by go_simp; rfl)) rfl ?_
  refine HBT.out.fin HX2.out H2.out (fun k hk => .inl hk) (fun k hk => ⟨HBT.out.far k hk, by have := HBT.out.low k hk; have := HB2.out.size; omega, .inl hk⟩) (Upd.of_below HB2.out) (b4 := b4) (by have := HB4.out; omega) (fun q => by have := HBT.out.fl _ q; have := HB4.out; omega) (fun k hk q => by have := HBT.out.low k hk; have := HB4.out; omega) HU9.out
set_option maxRecDepth 100000 in
set_option maxHeartbeats 4000000 in
theorem law23_step5 {s : Nat} {F : Nat → Prop} {at_ ag : Option Addr} {ct cg : Nat} {X : StX} (w : World) (h : Both w s F at_ ct ag cg X) (hnt : X.tills.length < 100000) (hng : X.goods.length < 100000) (kd oh ot op : Int) (hoh : oh ≤ 9223372036854775807) (hot : ot ≤ 9223372036854775807) (hkd : kd = 5) :
    Calls Try.prog 23 #[.pointer (some ⟨s, 0, none⟩), .agg #[.slice at_ X.tills.length ct, .slice ag X.goods.length cg], .agg #[.int .i64 kd, .int .i64 oh, .int .i64 ot, .int .i64 op]] w (StepPost w s F at_ ag (setX X oh 0)) := by
  have HBT := hid h
  have HI := hid h.st.inv
  clear h
  subst hkd
  cases hf : X.tills.lookup oh with
  | none =>
    have HXN := hid (setX_none (g := 0) hf)
    have HTX := hid (tillX_none hf).1
    have HTE := hid (tillX_none hf).2
    have HF := hid hf
    rw [setX_none hf]
    clear hf
    go_enter Try.func23, Try.ntmps23
    go_upto_region 1 with fail
    generalize hw2 : World.alloc (World.alloc (World.alloc w _) _) _ = w2
    obtain ⟨bs, hbs⟩ : ∃ b, b = w.heap.size := ⟨_, rfl⟩
    obtain ⟨bo, hbo⟩ : ∃ b, b = w.heap.size + 1 := ⟨_, rfl⟩
    obtain ⟨b4, hb4⟩ : ∃ b, b = w.heap.size + 1 + 1 := ⟨_, rfl⟩
    have hz1 : (World.alloc w (.cells #[.slice at_ X.tills.length ct, .slice ag X.goods.length cg] 46)).heap.size = w.heap.size + 1 := by simp
    have hz2 : (World.alloc (World.alloc w (.cells #[.slice at_ X.tills.length ct, .slice ag X.goods.length cg] 46)) (.cells #[.int .i64 5, .int .i64 oh, .int .i64 ot, .int .i64 op] 27)).heap.size = w.heap.size + 1 + 1 := by simp
    try rw [hz2]
    try rw [hz1]
    try rw [← hb4]
    try rw [← hbo]
    try rw [← hbs]
    have hb2 : Below w.heap.size w w2 := by rw [← hw2]; exact Below.next (Below.next (Below.new _ _) (Below.new _ _)) (Below.new _ _)
    have HK : Hid (Blk w2 bs #[.slice at_ X.tills.length ct, .slice ag X.goods.length cg]) := hid (by rw [← hw2, hbs]; exact ((Blk.new w _ _).below (Below.new _ _)).below (Below.new _ _))
    have HO : Hid (Blk w2 bo #[.int .i64 5, .int .i64 oh, .int .i64 ot, .int .i64 op]) := hid (by rw [← hw2, hbo, ← hz1]; exact (Blk.new _ _ _).below (Below.new _ _))
    have HK4 : Hid (Blk w2 b4 #[.slice none 0 0, .slice none 0 0]) := hid (by rw [← hw2, hb4, ← hz2]; exact Blk.new _ _ _)
    have HX2 := hid (HBT.out.rx.below hb2)
    have H2 := hid (HBT.out.st.below hb2)
    have HB2 := hid hb2
    have HB4 : Hid (bs = w.heap.size ∧ bo = w.heap.size + 1 ∧ b4 = w.heap.size + 2 ∧ b4 < w2.heap.size) := hid (by have := HK4.out.lt; omega)
    clear hw2 hbs hbo hb4 hz1 hz2 hb2
    have o0 : w2.cell? ⟨bo, 0, none⟩ = some (.int .i64 5) := by rw [HO.out.cell]; rfl
    have o1 : w2.cell? ⟨bo, 1, none⟩ = some (.int .i64 oh) := by rw [HO.out.cell]; rfl
    have o2 : w2.cell? ⟨bo, 2, none⟩ = some (.int .i64 ot) := by rw [HO.out.cell]; rfl
    have o3 : w2.cell? ⟨bo, 3, none⟩ = some (.int .i64 op) := by rw [HO.out.cell]; rfl
    have c0 : w2.cell? ⟨bs, 0, none⟩ = some (.slice at_ X.tills.length ct) := by rw [HK.out.cell]; rfl
    have c1 : w2.cell? ⟨bs, 1, none⟩ = some (.slice ag X.goods.length cg) := by rw [HK.out.cell]; rfl
    go_wp2_with fail
    have hq := stall_Collect w2 H2.out oh
    rw [HTX.out, HTE.out, HXN.out] at hq
    refine hq.mono ?_
    rintro e wS ⟨rfl, hsS, huS⟩
    clear hq
    have HFL : Hid (∀ k, F k → k < w.heap.size) := hid HBT.out.fl
    have HU := hid huS
    have HRS := hid (HX2.out.upd huS HBT.out.far)
    have HSS := hid (hsS.weaken (G := fun k => (F k ∨ w2.heap.size ≤ k) ∧ k < wS.heap.size) (fun k q q2 => ⟨q, q2⟩))
    have HKS := hid (HK.out.upd huS (fun q => by have := HFL.out _ q; have := HB4.out; omega))
    have HOS := hid (HO.out.upd huS (fun q => by have := HFL.out _ q; have := HB4.out; omega))
    have HK4S := hid (HK4.out.upd huS (fun q => by have := HFL.out _ q; have := HB4.out; omega))
    have HZS := hid huS.size
    clear hsS huS c0 c1 o0 o1 o2 o3
    have c0 : wS.cell? ⟨bs, 0, none⟩ = some (.slice at_ X.tills.length ct) := by rw [HKS.out.cell]; rfl
    have c1 : wS.cell? ⟨bs, 1, none⟩ = some (.slice ag X.goods.length cg) := by rw [HKS.out.cell]; rfl
    have o1 : wS.cell? ⟨bo, 1, none⟩ = some (.int .i64 oh) := by rw [HOS.out.cell]; rfl
    go_wp2_with fail
    refine (ref23_Has wS HRS.out oh).mono ?_
    rintro e wT ⟨r, rfl, hr, hbT⟩
    obtain rfl : r = -1 := by
      rcases hr with ⟨i, g, -, -, q⟩ | ⟨q, -⟩
      · rw [HF.out] at q; simp at q
      · exact q
    have HKT := hid (HKS.out.below hbT)
    have HK4B := hid (HK4S.out.below hbT)
    have HRT := hid (HRS.out.below hbT)
    have HST := hid (HSS.out.below hbT)
    have HUT := hid (((Upd.of_below (S := F) HB2.out).trans HU.out (fun _ _ q => q)).trans (Upd.of_below hbT) (fun _ _ q => q))
    have HZT := hid hbT.size
    clear hr hbT c0 c1 o1
    have c0 : wT.cell? ⟨bs, 0, none⟩ = some (.slice at_ X.tills.length ct) := by rw [HKT.out.cell]; rfl
    have c1 : wT.cell? ⟨bs, 1, none⟩ = some (.slice ag X.goods.length cg) := by rw [HKT.out.cell]; rfl
    have q0 : wT.cell? ⟨b4, 0, none⟩ = some (.slice none 0 0) := by rw [HK4B.out.cell]; rfl
    have q1 : wT.cell? ⟨b4, 1, none⟩ = some (.slice none 0 0) := by rw [HK4B.out.cell]; rfl
    have f0 : wT.frozen? ⟨b4, 0, none⟩ = false := HK4B.out.unfrozen 0
    have f1 : wT.frozen? ⟨b4, 1, none⟩ = false := HK4B.out.unfrozen 1
    go_wp2_with fail
    have HK5 : Hid (Blk ((wT.setCell ⟨b4, 0, none⟩ (.slice at_ X.tills.length ct)).setCell ⟨b4, 1, none⟩ (.slice ag X.goods.length cg)) b4 #[.slice at_ X.tills.length ct, .slice ag X.goods.length cg]) := hid (by simpa using (HK4B.out.set 0 (.slice at_ X.tills.length ct)).set 1 (.slice ag X.goods.length cg))
    have HU9 := hid ((Upd.setCell wT b4 0 (.slice at_ X.tills.length ct)).trans (Upd.setCell _ b4 1 (.slice ag X.goods.length cg)) (fun _ _ q => q))
    generalize World.setCell (World.setCell wT _ _) _ _ = w9 at HK5 HU9
    have k0 : w9.cell? ⟨b4, 0, none⟩ = some (.slice at_ X.tills.length ct) := by rw [HK5.out.cell]; rfl
    have k1 : w9.cell? ⟨b4, 1, none⟩ = some (.slice ag X.goods.length cg) := by rw [HK5.out.cell]; rfl
    clear q0 q1 f0 f1
    refine bodyPost_ret (res_cell_tmp rfl _ _ _ rfl (by go_simp; rfl)) rfl ?_
    have a2 := HB2.out.size
    have a4 := HB4.out
    have a5 := HZS.out
    have a6 := HZT.out
    refine HBT.out.fin HRT.out HST.out (fun k hk => hk.1.imp id (fun q => by omega)) (fun k hk => ⟨fun q => ?_, by have := HBT.out.low k hk; omega, .inl hk⟩) HUT.out (b4 := b4) (by omega) (fun q => ?_) (fun k hk q => by have := HBT.out.low k hk; omega) HU9.out
    · rcases q.1 with q | q
      · exact HBT.out.far k hk q
      · have := HBT.out.low k hk; omega
    · rcases q.1 with q | q
      · have := HFL.out _ q; omega
      · omega
  | some now =>
    have HTX := hid (tillX_some hf).1
    have HTE := hid (tillX_some hf).2
    have HF := hid hf
    have HSORT := hid HI.out.t1
    obtain ⟨i1, hI1⟩ := List.mem_iff_getElem?.1 (lookup_mem hf)
    have i11 : (i1 : Int) < (X.tills.length : Int) := by have := (List.getElem?_eq_some_iff.1 hI1).1; omega
    have i10 : (0 : Int) ≤ (i1 : Int) := by omega
    have i12 : ¬ (i1 : Int) < 0 := by omega
    have HI1 := hid hI1
    obtain ⟨a', c', e', hrd, -⟩ := HBT.out.rx.t
    simp only [Value.slice.injEq, true_and] at e'
    obtain ⟨rfl, rfl⟩ := e'
    obtain ⟨bt, ob, -, -, rfl, -⟩ := hrd.pair 0 (by omega)
    obtain ⟨X', hX'⟩ : ∃ X', setX X oh 0 = X' := ⟨_, rfl⟩
    rw [hX']
    have HXN := hid hX'
    clear hf hI1 hrd hX'
    go_enter Try.func23, Try.ntmps23
    go_upto_region 1 with fail
    generalize hw2 : World.alloc (World.alloc (World.alloc w _) _) _ = w2
    obtain ⟨bs, hbs⟩ : ∃ b, b = w.heap.size := ⟨_, rfl⟩
    obtain ⟨bo, hbo⟩ : ∃ b, b = w.heap.size + 1 := ⟨_, rfl⟩
    obtain ⟨b4, hb4⟩ : ∃ b, b = w.heap.size + 1 + 1 := ⟨_, rfl⟩
    have hz1 : (World.alloc w (.cells #[.slice (some ⟨bt, ob, none⟩) X.tills.length ct, .slice ag X.goods.length cg] 46)).heap.size = w.heap.size + 1 := by simp
    have hz2 : (World.alloc (World.alloc w (.cells #[.slice (some ⟨bt, ob, none⟩) X.tills.length ct, .slice ag X.goods.length cg] 46)) (.cells #[.int .i64 5, .int .i64 oh, .int .i64 ot, .int .i64 op] 27)).heap.size = w.heap.size + 1 + 1 := by simp
    try rw [hz2]
    try rw [hz1]
    try rw [← hb4]
    try rw [← hbo]
    try rw [← hbs]
    have hb2 : Below w.heap.size w w2 := by rw [← hw2]; exact Below.next (Below.next (Below.new _ _) (Below.new _ _)) (Below.new _ _)
    have HK : Hid (Blk w2 bs #[.slice (some ⟨bt, ob, none⟩) X.tills.length ct, .slice ag X.goods.length cg]) := hid (by rw [← hw2, hbs]; exact ((Blk.new w _ _).below (Below.new _ _)).below (Below.new _ _))
    have HO : Hid (Blk w2 bo #[.int .i64 5, .int .i64 oh, .int .i64 ot, .int .i64 op]) := hid (by rw [← hw2, hbo, ← hz1]; exact (Blk.new _ _ _).below (Below.new _ _))
    have HK4 : Hid (Blk w2 b4 #[.slice none 0 0, .slice none 0 0]) := hid (by rw [← hw2, hb4, ← hz2]; exact Blk.new _ _ _)
    have HX2 := hid (HBT.out.rx.below hb2)
    have H2 := hid (HBT.out.st.below hb2)
    have HB2 := hid hb2
    have HB4 : Hid (bs = w.heap.size ∧ bo = w.heap.size + 1 ∧ b4 = w.heap.size + 2 ∧ b4 < w2.heap.size) := hid (by have := HK4.out.lt; omega)
    clear hw2 hbs hbo hb4 hz1 hz2 hb2
    have o0 : w2.cell? ⟨bo, 0, none⟩ = some (.int .i64 5) := by rw [HO.out.cell]; rfl
    have o1 : w2.cell? ⟨bo, 1, none⟩ = some (.int .i64 oh) := by rw [HO.out.cell]; rfl
    have o2 : w2.cell? ⟨bo, 2, none⟩ = some (.int .i64 ot) := by rw [HO.out.cell]; rfl
    have o3 : w2.cell? ⟨bo, 3, none⟩ = some (.int .i64 op) := by rw [HO.out.cell]; rfl
    have c0 : w2.cell? ⟨bs, 0, none⟩ = some (.slice (some ⟨bt, ob, none⟩) X.tills.length ct) := by rw [HK.out.cell]; rfl
    have c1 : w2.cell? ⟨bs, 1, none⟩ = some (.slice ag X.goods.length cg) := by rw [HK.out.cell]; rfl
    go_wp2_with fail
    have hq := stall_Collect w2 H2.out oh
    rw [HTX.out, HTE.out, HXN.out] at hq
    refine hq.mono ?_
    rintro e wS ⟨rfl, hsS, huS⟩
    clear hq
    have HFL : Hid (∀ k, F k → k < w.heap.size) := hid HBT.out.fl
    have HU := hid huS
    have HRS := hid (HX2.out.upd huS HBT.out.far)
    have HSS := hid (hsS.weaken (G := fun k => (F k ∨ w2.heap.size ≤ k) ∧ k < wS.heap.size) (fun k q q2 => ⟨q, q2⟩))
    have HKS := hid (HK.out.upd huS (fun q => by have := HFL.out _ q; have := HB4.out; omega))
    have HOS := hid (HO.out.upd huS (fun q => by have := HFL.out _ q; have := HB4.out; omega))
    have HK4S := hid (HK4.out.upd huS (fun q => by have := HFL.out _ q; have := HB4.out; omega))
    have HZS := hid huS.size
    clear hsS huS c0 c1 o0 o1 o2 o3
    have c0 : wS.cell? ⟨bs, 0, none⟩ = some (.slice (some ⟨bt, ob, none⟩) X.tills.length ct) := by rw [HKS.out.cell]; rfl
    have c1 : wS.cell? ⟨bs, 1, none⟩ = some (.slice ag X.goods.length cg) := by rw [HKS.out.cell]; rfl
    have o1 : wS.cell? ⟨bo, 1, none⟩ = some (.int .i64 oh) := by rw [HOS.out.cell]; rfl
    go_wp2_with fail
    refine (ref23_Has wS HRS.out oh).mono ?_
    rintro e wT ⟨r, rfl, hr, hbT⟩
    obtain rfl : r = (i1 : Int) := hr.at HSORT.out HI1.out
    have HKT := hid (HKS.out.below hbT)
    have HOT := hid (HOS.out.below hbT)
    have HK4T := hid (HK4S.out.below hbT)
    have HRT := hid (HRS.out.below hbT)
    have HST := hid (HSS.out.below hbT)
    have HUT := hid (((Upd.of_below (S := F) HB2.out).trans HU.out (fun _ _ q => q)).trans (Upd.of_below hbT) (fun _ _ q => q))
    have HZT := hid hbT.size
    clear hr hbT c0 c1 o1
    go_upto_region 23 with fail
    have hyb := (Below.refl wT.heap.size wT).drew
    have hyd : Upd (fun k => k = b4) wT wT.drew := Upd.of_below hyb
    have e0 : ∀ y, Upd (fun k => k = b4) wT y → y.cell? ⟨bs, 0, none⟩ = some (.slice (some ⟨bt, ob, none⟩) X.tills.length ct) := fun y hy => by rw [(HKT.out.upd hy (fun q => by have := HB4.out; omega)).cell]; rfl
    have e1 : ∀ y, Upd (fun k => k = b4) wT y → y.cell? ⟨bs, 1, none⟩ = some (.slice ag X.goods.length cg) := fun y hy => by rw [(HKT.out.upd hy (fun q => by have := HB4.out; omega)).cell]; rfl
    have e2 : ∀ y, Upd (fun k => k = b4) wT y → y.cell? ⟨bo, 1, none⟩ = some (.int .i64 oh) := fun y hy => by rw [(HOT.out.upd hy (fun q => by have := HB4.out; omega)).cell]; rfl
    have e3 : ∀ y, Upd (fun k => k = b4) wT y → y.cell? ⟨bt, ob + i1 * 2 + 1, none⟩ = some (.int .i64 now) := fun y hy => by
      obtain ⟨a', c', e', hrd, -⟩ := (HRT.out.upd hy (fun k hk q => by have := HBT.out.low k hk; have := HB4.out; omega)).t
      simp only [Value.slice.injEq, true_and] at e'
      obtain ⟨rfl, rfl⟩ := e'
      exact (hrd.pair_at HI1.out).2
    refine wp_region_kept [17] (fun y => Upd (fun k => k = b4) wT y) (by kernel_rfl) (by assumption) (fun hH => ?_)
    refine wpK.take (i := 0) (v := _) (by simp only [List.getElem?_toArray, List.getElem?_cons_succ, List.getElem?_cons_zero]; rfl) (by kernel_rfl) (by kernel_rfl) (by kernel_rfl) (by kernel_rfl) (by kernel_rfl) (by exact fun _ _ _ h => h) (by first | exact Or.inl ⟨by rfl, by intro w hSw; go_simp; try with_reducible rfl⟩ | exact Or.inr ⟨by rfl, rfl⟩) hH ?_
    try simp only [Act.put, List.setIfInBounds_toArray, List.set_cons_zero, List.set_cons_succ]
    refine wpK.take (i := 1) (v := _) (by simp only [List.getElem?_toArray, List.getElem?_cons_succ, List.getElem?_cons_zero]; rfl) (by kernel_rfl) (by kernel_rfl) (by kernel_rfl) (by kernel_rfl) (by kernel_rfl) (by exact fun _ _ _ h => h) (by first | exact Or.inl ⟨by rfl, by intro w hSw; go_simp; try with_reducible rfl⟩ | exact Or.inr ⟨by rfl, rfl⟩) hH ?_
    try simp only [Act.put, List.setIfInBounds_toArray, List.set_cons_zero, List.set_cons_succ]
    refine wpK.take (i := 2) (v := _) (by simp only [List.getElem?_toArray, List.getElem?_cons_succ, List.getElem?_cons_zero]; rfl) (by kernel_rfl) (by kernel_rfl) (by kernel_rfl) (by kernel_rfl) (by kernel_rfl) (by exact fun _ _ _ h => h) (by first | exact Or.inl ⟨by rfl, by intro w hSw; go_simp; try with_reducible rfl⟩ | exact Or.inr ⟨by rfl, rfl⟩) hH ?_
    try simp only [Act.put, List.setIfInBounds_toArray, List.set_cons_zero, List.set_cons_succ]
    refine wpK.take (i := 4) (v := _) (by simp only [List.getElem?_toArray, List.getElem?_cons_succ, List.getElem?_cons_zero]; rfl) (by kernel_rfl) (by kernel_rfl) (by kernel_rfl) (by kernel_rfl) (by kernel_rfl) (by exact fun _ _ _ h => h) (by first | exact Or.inl ⟨by rfl, by intro w hSw; go_simp; try with_reducible rfl⟩ | exact Or.inr ⟨by rfl, rfl⟩) hH ?_
    try simp only [Act.put, List.setIfInBounds_toArray, List.set_cons_zero, List.set_cons_succ]
    refine wpK.take (i := 5) (v := _) (by simp only [List.getElem?_toArray, List.getElem?_cons_succ, List.getElem?_cons_zero]; rfl) (by kernel_rfl) (by kernel_rfl) (by kernel_rfl) (by kernel_rfl) (by kernel_rfl) (by exact fun _ _ _ h => h) (by first | exact Or.inl ⟨by rfl, by intro w hSw; go_simp; try with_reducible rfl⟩ | exact Or.inr ⟨by rfl, rfl⟩) hH ?_
    try simp only [Act.put, List.setIfInBounds_toArray, List.set_cons_zero, List.set_cons_succ]
    refine wpK.step (i := 3) (by kernel_rfl) (by simp only [List.getElem?_toArray, List.getElem?_cons_succ, List.getElem?_cons_zero]; rfl) (fun K hK => ?_)
    go_simp
    (refine (ref23_SetOk wT.drew (HRT.out.below hyb) (fun k hk => by have := HBT.out.low k hk; have := HB2.out.size; have := HZS.out; have := HZT.out; have := hyb.size; omega) oh 0 HXN.out).mono ?_); rintro e wB ⟨at', ct', ag', cg', rfl, hr6, hb6, hlow6⟩; (have hb7 := Below.next hyb hb6); (have hk6 : Upd (fun k => k = b4) wT wB := Upd.of_below hb7); (have HK4B := hid (HK4T.out.below hb7)); (have hk9 : Upd (fun k => k = b4) wT ((wB.setCell ⟨b4, 0, none⟩ (.slice at' X'.tills.length ct')).setCell ⟨b4, 1, none⟩ (.slice ag' X'.goods.length cg')) := (hk6.trans (Upd.setCell wB b4 0 _) (fun _ _ q => q)).trans (Upd.setCell _ b4 1 _) (fun _ _ q => q)); (have q0 : wB.cell? ⟨b4, 0, none⟩ = some (.slice none 0 0) := by rw [HK4B.out.cell]; rfl); (have q1 : wB.cell? ⟨b4, 1, none⟩ = some (.slice none 0 0) := by rw [HK4B.out.cell]; rfl); (have f0 : wB.frozen? ⟨b4, 0, none⟩ = false := HK4B.out.unfrozen 0); (have f1 : wB.frozen? ⟨b4, 1, none⟩ = false := HK4B.out.unfrozen 1); go_simp
    refine hK.out _ _ (by assumption) (fun hH => ?_)
    clear hK K
    try simp only [Act.put, List.setIfInBounds_toArray, List.set_cons_zero, List.set_cons_succ]
    refine wpK.take (i := 6) (v := _) (by simp only [List.getElem?_toArray, List.getElem?_cons_succ, List.getElem?_cons_zero]; rfl) (by kernel_rfl) (by kernel_rfl) (by kernel_rfl) (by kernel_rfl) (by kernel_rfl) (by exact fun _ _ _ h => h) (by first | exact Or.inl ⟨by rfl, by intro w hSw; go_simp; try with_reducible rfl⟩ | exact Or.inr ⟨by rfl, rfl⟩) hH ?_
    try simp only [Act.put, List.setIfInBounds_toArray, List.set_cons_zero, List.set_cons_succ]
    refine wpK.take (i := 7) (v := _) (by simp only [List.getElem?_toArray, List.getElem?_cons_succ, List.getElem?_cons_zero]; rfl) (by kernel_rfl) (by kernel_rfl) (by kernel_rfl) (by kernel_rfl) (by kernel_rfl) (by exact fun _ _ _ h => h) (by first | exact Or.inl ⟨by rfl, by intro w hSw; go_simp; try with_reducible rfl⟩ | exact Or.inr ⟨by rfl, rfl⟩) hH ?_
    try simp only [Act.put, List.setIfInBounds_toArray, List.set_cons_zero, List.set_cons_succ]
    refine wpK.take (i := 8) (v := _) (by simp only [List.getElem?_toArray, List.getElem?_cons_succ, List.getElem?_cons_zero]; rfl) (by kernel_rfl) (by kernel_rfl) (by kernel_rfl) (by kernel_rfl) (by kernel_rfl) (by exact fun _ _ _ h => h) (by first | exact Or.inl ⟨by rfl, by intro w hSw; go_simp; try with_reducible rfl⟩ | exact Or.inr ⟨by rfl, rfl⟩) hH ?_
    try simp only [Act.put, List.setIfInBounds_toArray, List.set_cons_zero, List.set_cons_succ]
    refine wpK.take (i := 9) (v := _) (by simp only [List.getElem?_toArray, List.getElem?_cons_succ, List.getElem?_cons_zero]; rfl) (by kernel_rfl) (by kernel_rfl) (by kernel_rfl) (by kernel_rfl) (by kernel_rfl) (by exact fun _ _ _ h => h) (by first | exact Or.inl ⟨by rfl, by intro w hSw; go_simp; try with_reducible rfl⟩ | exact Or.inr ⟨by rfl, rfl⟩) hH ?_
    try simp only [Act.put, List.setIfInBounds_toArray, List.set_cons_zero, List.set_cons_succ]
    refine wpK.take (i := 10) (v := _) (by simp only [List.getElem?_toArray, List.getElem?_cons_succ, List.getElem?_cons_zero]; rfl) (by kernel_rfl) (by kernel_rfl) (by kernel_rfl) (by kernel_rfl) (by kernel_rfl) (by exact fun _ _ _ h => h) (by first | exact Or.inl ⟨by rfl, by intro w hSw; go_simp; try with_reducible rfl⟩ | exact Or.inr ⟨by rfl, rfl⟩) hH ?_
    try simp only [Act.put, List.setIfInBounds_toArray, List.set_cons_zero, List.set_cons_succ]
    refine wpK.take (i := 11) (v := _) (by simp only [List.getElem?_toArray, List.getElem?_cons_succ, List.getElem?_cons_zero]; rfl) (by kernel_rfl) (by kernel_rfl) (by kernel_rfl) (by kernel_rfl) (by kernel_rfl) (by exact fun _ _ _ h => h) (by first | exact Or.inl ⟨by rfl, by intro w hSw; go_simp; try with_reducible rfl⟩ | exact Or.inr ⟨by rfl, rfl⟩) hH ?_
    try simp only [Act.put, List.setIfInBounds_toArray, List.set_cons_zero, List.set_cons_succ]
    refine wpK.take (i := 12) (v := _) (by simp only [List.getElem?_toArray, List.getElem?_cons_succ, List.getElem?_cons_zero]; rfl) (by kernel_rfl) (by kernel_rfl) (by kernel_rfl) (by kernel_rfl) (by kernel_rfl) (by exact fun _ _ _ h => h) (by first | exact Or.inl ⟨by rfl, by intro w hSw; go_simp; try with_reducible rfl⟩ | exact Or.inr ⟨by rfl, rfl⟩) hH ?_
    try simp only [Act.put, List.setIfInBounds_toArray, List.set_cons_zero, List.set_cons_succ]
    refine wpK.take (i := 13) (v := _) (by simp only [List.getElem?_toArray, List.getElem?_cons_succ, List.getElem?_cons_zero]; rfl) (by kernel_rfl) (by kernel_rfl) (by kernel_rfl) (by kernel_rfl) (by kernel_rfl) (by exact fun _ _ _ h => h) (by first | exact Or.inl ⟨by rfl, by intro w hSw; go_simp; try with_reducible rfl⟩ | exact Or.inr ⟨by rfl, rfl⟩) hH ?_
    try simp only [Act.put, List.setIfInBounds_toArray, List.set_cons_zero, List.set_cons_succ]
    refine wpK.take (i := 14) (v := _) (by simp only [List.getElem?_toArray, List.getElem?_cons_succ, List.getElem?_cons_zero]; rfl) (by kernel_rfl) (by kernel_rfl) (by kernel_rfl) (by kernel_rfl) (by kernel_rfl) (by exact fun _ _ _ h => h) (by first | exact Or.inl ⟨by rfl, by intro w hSw; go_simp; try with_reducible rfl⟩ | exact Or.inr ⟨by rfl, rfl⟩) hH ?_
    try simp only [Act.put, List.setIfInBounds_toArray, List.set_cons_zero, List.set_cons_succ]
    refine wpK.take (i := 15) (v := _) (by simp only [List.getElem?_toArray, List.getElem?_cons_succ, List.getElem?_cons_zero]; rfl) (by kernel_rfl) (by kernel_rfl) (by kernel_rfl) (by kernel_rfl) (by kernel_rfl) (by exact fun _ _ _ h => h) (by first | exact Or.inl ⟨by rfl, by intro w hSw; go_simp; try with_reducible rfl⟩ | exact Or.inr ⟨by rfl, rfl⟩) hH ?_
    try simp only [Act.put, List.setIfInBounds_toArray, List.set_cons_zero, List.set_cons_succ]
    refine wpK.step (i := 16) (by kernel_rfl) (by simp only [List.getElem?_toArray, List.getElem?_cons_succ, List.getElem?_cons_zero]; rfl) (fun K hK => ?_)
    go_simp
    refine hK.out _ _ (by assumption) (fun hH => ?_)
    clear hK K
    try simp only [Act.put, List.setIfInBounds_toArray, List.set_cons_zero, List.set_cons_succ]
    refine wpK.late (i := 17) (by kernel_rfl) (by simp only [List.getElem?_toArray, List.getElem?_cons_succ, List.getElem?_cons_zero]; rfl) (by kernel_rfl) (fun K hK => ?_)
    go_simp
    refine hK.out _ _ ?_
    clear hK K
    try simp only [Act.put, List.setIfInBounds_toArray, List.set_cons_zero, List.set_cons_succ]
    refine wpK.done (by kernel_rfl) ?_ _
    have HR6 := hid hr6
    have HB7 := hid hb7
    have HL6 := hid hlow6
    have hzd : wT.drew.heap.size = wT.heap.size := rfl
    clear e0 e1 e2 e3 hyd hyb hr6 hb6 hb7 hlow6 hk6 hk9 q0 q1 f0 f1
    have HK5 : Hid (Blk ((wB.setCell ⟨b4, 0, none⟩ (.slice at' X'.tills.length ct')).setCell ⟨b4, 1, none⟩ (.slice ag' X'.goods.length cg')) b4 #[.slice at' X'.tills.length ct', .slice ag' X'.goods.length cg']) := hid (by simpa using (HK4B.out.set 0 (.slice at' X'.tills.length ct')).set 1 (.slice ag' X'.goods.length cg'))
    have HU9 := hid ((Upd.setCell wB b4 0 (.slice at' X'.tills.length ct')).trans (Upd.setCell _ b4 1 (.slice ag' X'.goods.length cg')) (fun _ _ q => q))
    generalize World.setCell (World.setCell wB _ _) _ _ = w9 at HK5 HU9
    have k0 : w9.cell? ⟨b4, 0, none⟩ = some (.slice at' X'.tills.length ct') := by rw [HK5.out.cell]; rfl
    have k1 : w9.cell? ⟨b4, 1, none⟩ = some (.slice ag' X'.goods.length cg') := by rw [HK5.out.cell]; rfl
    go_wp2_with fail
    refine bodyPost_ret (res_cell_tmp rfl _ _ _ rfl (by go_simp; rfl)) rfl ?_
    have a2 := HB2.out.size
    have a4 := HB4.out
    have a5 := HZS.out
    have a6 := HZT.out
    have a7 := HB7.out.size
    refine HBT.out.fin HR6.out (HST.out.below HB7.out) (fun k hk => hk.1.imp id (fun q => by omega)) (fun k hk => ?_) (HUT.out.trans (Upd.of_below HB7.out) (fun _ _ q => q)) (b4 := b4) (by omega) (fun q => ?_) (fun k hk q => ?_) HU9.out
    · obtain ⟨u1, u2⟩ := HL6.out k hk
      rw [hzd] at u2
      refine ⟨fun q => ?_, u1, u2.imp id (fun q => by omega)⟩
      rcases u2 with u2 | u2
      · rcases q.1 with q | q
        · exact HBT.out.far k u2 q
        · have := HBT.out.low k u2; omega
      · have := q.2; omega
    · rcases q.1 with q | q
      · have := HFL.out _ q; omega
      · omega
    · rcases (HL6.out k hk).2 with u2 | u2
      · have := HBT.out.low k u2; omega
      · rw [hzd] at u2; omega
end Go.Proofs.Ytajfjgekcjkedaa
end
