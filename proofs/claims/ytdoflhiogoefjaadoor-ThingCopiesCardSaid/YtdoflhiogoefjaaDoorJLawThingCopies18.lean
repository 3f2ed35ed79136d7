/- Joined texts, in this order: Ref21d. Each one's first remark says what it proves; no condition beyond those that its theorems name. -/
import Derived.Test.YtdoflhiogoefjaaDoorJLawThingCopies11
import Derived.Test.YtdoflhiogoefjaaDoorJLawThingCopies17
section
/- Contracts of the document's things: Move, Make. -/
namespace Go.Proofs.YtdoflhiogoefjaaDoor
open Go.RowKit
open Go.Lib (hid)
set_option linter.unusedVariables false

theorem setT21_take {L : List Th} {j : Nat} {x : Th} (h : L.take (j + 1) = L.take j ++ [x]) (n : Int) (p : P3) (o : Int) : setT21 (L.take (j + 1)) n p o = setT21 (L.take j) n p o ++ [if x.id = n then ⟨x.id, x.nm, o, p⟩ else x] := by
  rw [h]
  unfold setT21
  rw [List.map_append]; rfl
set_option maxRecDepth 100000 in
set_option maxHeartbeats 8000000 in
theorem ref21_Move {a : Option Addr} {c : Nat} {L : List Th} (nx : Int) (w : World) (h : RefT w a c L) (hlow : ∀ k, aB a k → k < w.heap.size) (hs : SortK kI L) (n pk ph ps o : Int) :
    Calls Tryd.prog 31 #[.agg #[.slice a L.length c, .int .i64 nx], .int .i64 n, .agg #[.int .i64 pk, .int .i64 ph, .int .i64 ps], .int .i64 o] w (R21Post w a (moveX ⟨L, nx⟩ n (pk, ph, ps) o) [.int .i64 (moveE L n (pk, ph, ps) o)]) := by
  have H := hid h
  have hl := h.lt
  have HLOW := hid hlow
  have HS := hid hs
  clear h hlow hs
  cases hf : fdT L n with
  | none =>
    have e : moveE L n (pk, ph, ps) o = 14 := by unfold moveE; rw [hf]; rfl
    have e2 : moveX ⟨L, nx⟩ n (pk, ph, ps) o = ⟨L, nx⟩ := by unfold moveX; rw [if_neg (by show ¬ moveE L n (pk, ph, ps) o = 0; rw [e]; decide)]
    rw [e, e2]
    have HF := hid hf
    clear hf e e2
    go_enter Tryd.func31, Tryd.ntmps31
    go_upto_region 1 with fail
    generalize hw2 : World.alloc (World.alloc (World.alloc w _) _) _ = w2
    obtain ⟨bs, hbs⟩ : ∃ b, b = w.heap.size := ⟨_, rfl⟩
    obtain ⟨bp, hbp⟩ : ∃ b, b = w.heap.size + 1 := ⟨_, rfl⟩
    obtain ⟨b4, hb4⟩ : ∃ b, b = w.heap.size + 1 + 1 := ⟨_, rfl⟩
    have hz1 : (World.alloc w (.cells #[.slice a L.length c, .int .i64 nx] 34)).heap.size = w.heap.size + 1 := by simp
    have hz2 : (World.alloc (World.alloc w (.cells #[.slice a L.length c, .int .i64 nx] 34)) (.cells #[.int .i64 pk, .int .i64 ph, .int .i64 ps] 26)).heap.size = w.heap.size + 1 + 1 := by simp
    try rw [hz2]
    try rw [hz1]
    try rw [← hb4]
    try rw [← hbp]
    try rw [← hbs]
    have hb2 : Below w.heap.size w w2 := by rw [← hw2]; exact Below.next (Below.next (Below.new _ _) (Below.new _ _)) (Below.new _ _)
    have HK : Hid (Blk w2 bs #[.slice a L.length c, .int .i64 nx]) := hid (by rw [← hw2, hbs]; exact ((Blk.new w _ _).below (Below.new _ _)).below (Below.new _ _))
    have HKP : Hid (Blk w2 bp #[.int .i64 pk, .int .i64 ph, .int .i64 ps]) := hid (by rw [← hw2, hbp, ← hz1]; exact (Blk.new _ _ _).below (Below.new _ _))
    have HK4 : Hid (Blk w2 b4 #[.slice none 0 0, .int .i64 0]) := hid (by rw [← hw2, hb4, ← hz2]; exact Blk.new _ _ _)
    have H2 := hid (H.out.below hb2)
    have HB2 := hid hb2
    have HB4 : Hid (w.heap.size ≤ b4 ∧ b4 < w2.heap.size ∧ b4 ≠ bs) := hid (by have := HK4.out.lt; omega)
    clear hw2 hbs hbp hb4 hz1 hz2 hb2
    have c0 : w2.cell? ⟨bs, 0, none⟩ = some (.slice a L.length c) := by rw [HK.out.cell]; rfl
    have c1 : w2.cell? ⟨bs, 1, none⟩ = some (.int .i64 nx) := by rw [HK.out.cell]; rfl
    go_wp2_with fail
    refine (ref21_Find nx w2 H2.out n).mono ?_
    rintro e w3 ⟨r, rfl, hr, hb3⟩
    obtain rfl : r = -1 := by
      rcases hr with ⟨i, x, -, -, -, q⟩ | ⟨q, -⟩
      · rw [HF.out] at q; cases q
      · exact q
    clear hr c0 c1
    have HKR := hid (HK.out.below hb3)
    have HKR4 := hid (HK4.out.below hb3)
    obtain ⟨wz, hwz, z0, z1, hpo⟩ := R21.fin (w := w) (a := a) (a' := a) (c' := c) (L' := L) nx HKR4.out HB4.out.1 (H2.out.below hb3) (Below.next HB2.out hb3) (fun k hk => ⟨by have := HLOW.out k hk; have := HB2.out.size; have := (hb3).size; omega, .inl hk⟩) (fun k hk q => by have := HLOW.out k hk; have := HB4.out.1; omega)
    have HW := hid hwz
    have HPO := hid hpo
    have c0 : w3.cell? ⟨bs, 0, none⟩ = some (.slice a L.length c) := by rw [HKR.out.cell]; rfl
    have c1 : w3.cell? ⟨bs, 1, none⟩ = some (.int .i64 nx) := by rw [HKR.out.cell]; rfl
    have y0 : w3.cell? ⟨b4, 0, none⟩ = some (.slice none 0 0) := by rw [HKR4.out.cell]; rfl
    have y1 : w3.cell? ⟨b4, 1, none⟩ = some (.int .i64 0) := by rw [HKR4.out.cell]; rfl
    have f0 : w3.frozen? ⟨b4, 0, none⟩ = false := HKR4.out.unfrozen 0
    have f1 : w3.frozen? ⟨b4, 1, none⟩ = false := HKR4.out.unfrozen 1
    clear hwz hpo
    go_wp2_with fail
    rw [← HW.out]
    refine bodyPost_ret (res_cell_tmp rfl _ _ _ rfl (by go_simp; rfl)) rfl ?_
    exact HPO.out _
  | some g0 =>
    have HF := hid hf
    obtain ⟨rp, hrp⟩ : ∃ rp, rightP (pk, ph, ps) = rp := ⟨_, rfl⟩
    have HRP := hid hrp
    have HEE : Hid (moveE L n (pk, ph, ps) o = if rp = false ∨ o < 1 then 10 else 0) := hid (by unfold moveE; rw [hf, hrp]; rfl)
    clear hf hrp
    by_cases hbad : rp = false ∨ o < 1
    · have e : moveE L n (pk, ph, ps) o = 10 := by rw [HEE.out, if_pos hbad]
      have e2 : moveX ⟨L, nx⟩ n (pk, ph, ps) o = ⟨L, nx⟩ := by unfold moveX; rw [if_neg (by show ¬ moveE L n (pk, ph, ps) o = 0; rw [e]; decide)]
      rw [e, e2]
      clear e e2
      cases rp with
      | false =>
        clear hbad
        go_enter Tryd.func31, Tryd.ntmps31
        go_upto_region 1 with fail
        generalize hw2 : World.alloc (World.alloc (World.alloc w _) _) _ = w2
        obtain ⟨bs, hbs⟩ : ∃ b, b = w.heap.size := ⟨_, rfl⟩
        obtain ⟨bp, hbp⟩ : ∃ b, b = w.heap.size + 1 := ⟨_, rfl⟩
        obtain ⟨b4, hb4⟩ : ∃ b, b = w.heap.size + 1 + 1 := ⟨_, rfl⟩
        have hz1 : (World.alloc w (.cells #[.slice a L.length c, .int .i64 nx] 34)).heap.size = w.heap.size + 1 := by simp
        have hz2 : (World.alloc (World.alloc w (.cells #[.slice a L.length c, .int .i64 nx] 34)) (.cells #[.int .i64 pk, .int .i64 ph, .int .i64 ps] 26)).heap.size = w.heap.size + 1 + 1 := by simp
        try rw [hz2]
        try rw [hz1]
        try rw [← hb4]
        try rw [← hbp]
        try rw [← hbs]
        have hb2 : Below w.heap.size w w2 := by rw [← hw2]; exact Below.next (Below.next (Below.new _ _) (Below.new _ _)) (Below.new _ _)
        have HK : Hid (Blk w2 bs #[.slice a L.length c, .int .i64 nx]) := hid (by rw [← hw2, hbs]; exact ((Blk.new w _ _).below (Below.new _ _)).below (Below.new _ _))
        have HKP : Hid (Blk w2 bp #[.int .i64 pk, .int .i64 ph, .int .i64 ps]) := hid (by rw [← hw2, hbp, ← hz1]; exact (Blk.new _ _ _).below (Below.new _ _))
        have HK4 : Hid (Blk w2 b4 #[.slice none 0 0, .int .i64 0]) := hid (by rw [← hw2, hb4, ← hz2]; exact Blk.new _ _ _)
        have H2 := hid (H.out.below hb2)
        have HB2 := hid hb2
        have HB4 : Hid (w.heap.size ≤ b4 ∧ b4 < w2.heap.size ∧ b4 ≠ bs) := hid (by have := HK4.out.lt; omega)
        clear hw2 hbs hbp hb4 hz1 hz2 hb2
        have c0 : w2.cell? ⟨bs, 0, none⟩ = some (.slice a L.length c) := by rw [HK.out.cell]; rfl
        have c1 : w2.cell? ⟨bs, 1, none⟩ = some (.int .i64 nx) := by rw [HK.out.cell]; rfl
        go_wp2_with fail
        refine (ref21_Find nx w2 H2.out n).mono ?_
        rintro e w3 ⟨r, rfl, hr, hb3⟩
        obtain ⟨i0, rfl, hat, hgid⟩ : ∃ i0 : Nat, r = (i0 : Int) ∧ L[i0]? = some g0 ∧ g0.id = n := by
          rcases hr with ⟨i, g, q1, q2, q3, q4⟩ | ⟨-, q⟩
          · rw [HF.out] at q4; obtain rfl := Option.some.inj q4; exact ⟨i, q1, q2, q3⟩
          · rw [HF.out] at q; cases q
        have HAT := hid hat
        have HGI := hid hgid
        have i00 : ¬ (i0 : Int) < 0 := by omega
        have HK3 := hid (HK.out.below hb3)
        have HK43 := hid (HK4.out.below hb3)
        have HKP3 := hid (HKP.out.below hb3)
        have H3 := hid (H2.out.below hb3)
        have HB23 := hid hb3
        have HB3' := hid (Below.next HB2.out hb3)
        clear hr hb3 hat hgid c0 c1
        have c0 : w3.cell? ⟨bs, 0, none⟩ = some (.slice a L.length c) := by rw [HK3.out.cell]; rfl
        have c1 : w3.cell? ⟨bs, 1, none⟩ = some (.int .i64 nx) := by rw [HK3.out.cell]; rfl
        have k0 : w3.cell? ⟨bp, 0, none⟩ = some (.int .i64 pk) := by rw [HKP3.out.cell]; rfl
        have k1 : w3.cell? ⟨bp, 1, none⟩ = some (.int .i64 ph) := by rw [HKP3.out.cell]; rfl
        have k2 : w3.cell? ⟨bp, 2, none⟩ = some (.int .i64 ps) := by rw [HKP3.out.cell]; rfl
        go_wp2_with fail
        refine (ref21_RightV pk ph ps false HRP w3).mono ?_
        rintro e w4 ⟨rfl, hb4⟩
        have HB34 := hid (Below.next (show Below w2.heap.size w2 w3 from HB23.out) hb4)
        clear hb4 c0 c1 k0 k1 k2
        have HKR := hid (HK.out.below HB34.out)
        have HKR4 := hid (HK4.out.below HB34.out)
        obtain ⟨wz, hwz, z0, z1, hpo⟩ := R21.fin (w := w) (a := a) (a' := a) (c' := c) (L' := L) nx HKR4.out HB4.out.1 (H2.out.below HB34.out) (Below.next HB2.out HB34.out) (fun k hk => ⟨by have := HLOW.out k hk; have := HB2.out.size; have := (HB34.out).size; omega, .inl hk⟩) (fun k hk q => by have := HLOW.out k hk; have := HB4.out.1; omega)
        have HW := hid hwz
        have HPO := hid hpo
        have c0 : w4.cell? ⟨bs, 0, none⟩ = some (.slice a L.length c) := by rw [HKR.out.cell]; rfl
        have c1 : w4.cell? ⟨bs, 1, none⟩ = some (.int .i64 nx) := by rw [HKR.out.cell]; rfl
        have y0 : w4.cell? ⟨b4, 0, none⟩ = some (.slice none 0 0) := by rw [HKR4.out.cell]; rfl
        have y1 : w4.cell? ⟨b4, 1, none⟩ = some (.int .i64 0) := by rw [HKR4.out.cell]; rfl
        have f0 : w4.frozen? ⟨b4, 0, none⟩ = false := HKR4.out.unfrozen 0
        have f1 : w4.frozen? ⟨b4, 1, none⟩ = false := HKR4.out.unfrozen 1
        clear hwz hpo
        go_wp2_with fail
        rw [← HW.out]
        refine bodyPost_ret (res_cell_tmp rfl _ _ _ rfl (by go_simp; rfl)) rfl ?_
        exact HPO.out _
      | true =>
        have ho1 : o < 1 := by rcases hbad with q | q; cases q; exact q
        have hob : decide (o < 1) = true := by simpa using ho1
        clear hbad ho1
        go_enter Tryd.func31, Tryd.ntmps31
        go_upto_region 1 with fail
        generalize hw2 : World.alloc (World.alloc (World.alloc w _) _) _ = w2
        obtain ⟨bs, hbs⟩ : ∃ b, b = w.heap.size := ⟨_, rfl⟩
        obtain ⟨bp, hbp⟩ : ∃ b, b = w.heap.size + 1 := ⟨_, rfl⟩
        obtain ⟨b4, hb4⟩ : ∃ b, b = w.heap.size + 1 + 1 := ⟨_, rfl⟩
        have hz1 : (World.alloc w (.cells #[.slice a L.length c, .int .i64 nx] 34)).heap.size = w.heap.size + 1 := by simp
        have hz2 : (World.alloc (World.alloc w (.cells #[.slice a L.length c, .int .i64 nx] 34)) (.cells #[.int .i64 pk, .int .i64 ph, .int .i64 ps] 26)).heap.size = w.heap.size + 1 + 1 := by simp
        try rw [hz2]
        try rw [hz1]
        try rw [← hb4]
        try rw [← hbp]
        try rw [← hbs]
        have hb2 : Below w.heap.size w w2 := by rw [← hw2]; exact Below.next (Below.next (Below.new _ _) (Below.new _ _)) (Below.new _ _)
        have HK : Hid (Blk w2 bs #[.slice a L.length c, .int .i64 nx]) := hid (by rw [← hw2, hbs]; exact ((Blk.new w _ _).below (Below.new _ _)).below (Below.new _ _))
        have HKP : Hid (Blk w2 bp #[.int .i64 pk, .int .i64 ph, .int .i64 ps]) := hid (by rw [← hw2, hbp, ← hz1]; exact (Blk.new _ _ _).below (Below.new _ _))
        have HK4 : Hid (Blk w2 b4 #[.slice none 0 0, .int .i64 0]) := hid (by rw [← hw2, hb4, ← hz2]; exact Blk.new _ _ _)
        have H2 := hid (H.out.below hb2)
        have HB2 := hid hb2
        have HB4 : Hid (w.heap.size ≤ b4 ∧ b4 < w2.heap.size ∧ b4 ≠ bs) := hid (by have := HK4.out.lt; omega)
        clear hw2 hbs hbp hb4 hz1 hz2 hb2
        have c0 : w2.cell? ⟨bs, 0, none⟩ = some (.slice a L.length c) := by rw [HK.out.cell]; rfl
        have c1 : w2.cell? ⟨bs, 1, none⟩ = some (.int .i64 nx) := by rw [HK.out.cell]; rfl
        go_wp2_with fail
        refine (ref21_Find nx w2 H2.out n).mono ?_
        rintro e w3 ⟨r, rfl, hr, hb3⟩
        obtain ⟨i0, rfl, hat, hgid⟩ : ∃ i0 : Nat, r = (i0 : Int) ∧ L[i0]? = some g0 ∧ g0.id = n := by
          rcases hr with ⟨i, g, q1, q2, q3, q4⟩ | ⟨-, q⟩
          · rw [HF.out] at q4; obtain rfl := Option.some.inj q4; exact ⟨i, q1, q2, q3⟩
          · rw [HF.out] at q; cases q
        have HAT := hid hat
        have HGI := hid hgid
        have i00 : ¬ (i0 : Int) < 0 := by omega
        have HK3 := hid (HK.out.below hb3)
        have HK43 := hid (HK4.out.below hb3)
        have HKP3 := hid (HKP.out.below hb3)
        have H3 := hid (H2.out.below hb3)
        have HB23 := hid hb3
        have HB3' := hid (Below.next HB2.out hb3)
        clear hr hb3 hat hgid c0 c1
        have c0 : w3.cell? ⟨bs, 0, none⟩ = some (.slice a L.length c) := by rw [HK3.out.cell]; rfl
        have c1 : w3.cell? ⟨bs, 1, none⟩ = some (.int .i64 nx) := by rw [HK3.out.cell]; rfl
        have k0 : w3.cell? ⟨bp, 0, none⟩ = some (.int .i64 pk) := by rw [HKP3.out.cell]; rfl
        have k1 : w3.cell? ⟨bp, 1, none⟩ = some (.int .i64 ph) := by rw [HKP3.out.cell]; rfl
        have k2 : w3.cell? ⟨bp, 2, none⟩ = some (.int .i64 ps) := by rw [HKP3.out.cell]; rfl
        go_wp2_with fail
        refine (ref21_RightV pk ph ps true HRP w3).mono ?_
        rintro e w4 ⟨rfl, hb4⟩
        have HB34 := hid (Below.next (show Below w2.heap.size w2 w3 from HB23.out) hb4)
        clear hb4 c0 c1 k0 k1 k2
        have HKR := hid (HK.out.below HB34.out)
        have HKR4 := hid (HK4.out.below HB34.out)
        obtain ⟨wz, hwz, z0, z1, hpo⟩ := R21.fin (w := w) (a := a) (a' := a) (c' := c) (L' := L) nx HKR4.out HB4.out.1 (H2.out.below HB34.out) (Below.next HB2.out HB34.out) (fun k hk => ⟨by have := HLOW.out k hk; have := HB2.out.size; have := (HB34.out).size; omega, .inl hk⟩) (fun k hk q => by have := HLOW.out k hk; have := HB4.out.1; omega)
        have HW := hid hwz
        have HPO := hid hpo
        have c0 : w4.cell? ⟨bs, 0, none⟩ = some (.slice a L.length c) := by rw [HKR.out.cell]; rfl
        have c1 : w4.cell? ⟨bs, 1, none⟩ = some (.int .i64 nx) := by rw [HKR.out.cell]; rfl
        have y0 : w4.cell? ⟨b4, 0, none⟩ = some (.slice none 0 0) := by rw [HKR4.out.cell]; rfl
        have y1 : w4.cell? ⟨b4, 1, none⟩ = some (.int .i64 0) := by rw [HKR4.out.cell]; rfl
        have f0 : w4.frozen? ⟨b4, 0, none⟩ = false := HKR4.out.unfrozen 0
        have f1 : w4.frozen? ⟨b4, 1, none⟩ = false := HKR4.out.unfrozen 1
        clear hwz hpo
        go_wp2_with fail
        rw [← HW.out]
        refine bodyPost_ret (res_cell_tmp rfl _ _ _ rfl (by go_simp; rfl)) rfl ?_
        exact HPO.out _
    · have e : moveE L n (pk, ph, ps) o = 0 := by rw [HEE.out, if_neg hbad]
      have e2 : moveX ⟨L, nx⟩ n (pk, ph, ps) o = ⟨setT21 L n (pk, ph, ps) o, nx⟩ := by unfold moveX; rw [if_pos (by show moveE L n (pk, ph, ps) o = 0; exact e)]
      rw [e, e2]
      clear e e2
      have hrt : rp = true := by cases rp with | true => rfl | false => exact absurd (.inl rfl) hbad
      subst hrt
      have ho1 : ¬ o < 1 := fun q => hbad (.inr q)
      have hob : decide (o < 1) = false := by simpa using ho1
      clear hbad ho1
      go_enter Tryd.func31, Tryd.ntmps31
      go_upto_region 1 with fail
      generalize hw2 : World.alloc (World.alloc (World.alloc w _) _) _ = w2
      obtain ⟨bs, hbs⟩ : ∃ b, b = w.heap.size := ⟨_, rfl⟩
      obtain ⟨bp, hbp⟩ : ∃ b, b = w.heap.size + 1 := ⟨_, rfl⟩
      obtain ⟨b4, hb4⟩ : ∃ b, b = w.heap.size + 1 + 1 := ⟨_, rfl⟩
      have hz1 : (World.alloc w (.cells #[.slice a L.length c, .int .i64 nx] 34)).heap.size = w.heap.size + 1 := by simp
      have hz2 : (World.alloc (World.alloc w (.cells #[.slice a L.length c, .int .i64 nx] 34)) (.cells #[.int .i64 pk, .int .i64 ph, .int .i64 ps] 26)).heap.size = w.heap.size + 1 + 1 := by simp
      try rw [hz2]
      try rw [hz1]
      try rw [← hb4]
      try rw [← hbp]
      try rw [← hbs]
      have hb2 : Below w.heap.size w w2 := by rw [← hw2]; exact Below.next (Below.next (Below.new _ _) (Below.new _ _)) (Below.new _ _)
      have HK : Hid (Blk w2 bs #[.slice a L.length c, .int .i64 nx]) := hid (by rw [← hw2, hbs]; exact ((Blk.new w _ _).below (Below.new _ _)).below (Below.new _ _))
      have HKP : Hid (Blk w2 bp #[.int .i64 pk, .int .i64 ph, .int .i64 ps]) := hid (by rw [← hw2, hbp, ← hz1]; exact (Blk.new _ _ _).below (Below.new _ _))
      have HK4 : Hid (Blk w2 b4 #[.slice none 0 0, .int .i64 0]) := hid (by rw [← hw2, hb4, ← hz2]; exact Blk.new _ _ _)
      have H2 := hid (H.out.below hb2)
      have HB2 := hid hb2
      have HB4 : Hid (w.heap.size ≤ b4 ∧ b4 < w2.heap.size ∧ b4 ≠ bs) := hid (by have := HK4.out.lt; omega)
      clear hw2 hbs hbp hb4 hz1 hz2 hb2
      have c0 : w2.cell? ⟨bs, 0, none⟩ = some (.slice a L.length c) := by rw [HK.out.cell]; rfl
      have c1 : w2.cell? ⟨bs, 1, none⟩ = some (.int .i64 nx) := by rw [HK.out.cell]; rfl
      go_wp2_with fail
      refine (ref21_Find nx w2 H2.out n).mono ?_
      rintro e w3 ⟨r, rfl, hr, hb3⟩
      obtain ⟨i0, rfl, hat, hgid⟩ : ∃ i0 : Nat, r = (i0 : Int) ∧ L[i0]? = some g0 ∧ g0.id = n := by
        rcases hr with ⟨i, g, q1, q2, q3, q4⟩ | ⟨-, q⟩
        · rw [HF.out] at q4; obtain rfl := Option.some.inj q4; exact ⟨i, q1, q2, q3⟩
        · rw [HF.out] at q; cases q
      have HAT := hid hat
      have HGI := hid hgid
      have i00 : ¬ (i0 : Int) < 0 := by omega
      have HK3 := hid (HK.out.below hb3)
      have HK43 := hid (HK4.out.below hb3)
      have HKP3 := hid (HKP.out.below hb3)
      have H3 := hid (H2.out.below hb3)
      have HB23 := hid hb3
      have HB3' := hid (Below.next HB2.out hb3)
      clear hr hb3 hat hgid c0 c1
      have c0 : w3.cell? ⟨bs, 0, none⟩ = some (.slice a L.length c) := by rw [HK3.out.cell]; rfl
      have c1 : w3.cell? ⟨bs, 1, none⟩ = some (.int .i64 nx) := by rw [HK3.out.cell]; rfl
      have k0 : w3.cell? ⟨bp, 0, none⟩ = some (.int .i64 pk) := by rw [HKP3.out.cell]; rfl
      have k1 : w3.cell? ⟨bp, 1, none⟩ = some (.int .i64 ph) := by rw [HKP3.out.cell]; rfl
      have k2 : w3.cell? ⟨bp, 2, none⟩ = some (.int .i64 ps) := by rw [HKP3.out.cell]; rfl
      go_wp2_with fail
      refine (ref21_RightV pk ph ps true HRP w3).mono ?_
      rintro e w5 ⟨rfl, hb5⟩
      have HK5 := hid (HK3.out.below hb5)
      have HK45 := hid (HK43.out.below hb5)
      have HKP5 := hid (HKP3.out.below hb5)
      have H5 := hid (H3.out.below hb5)
      have HB3 := hid (Below.next HB3'.out hb5)
      have HBN : Hid (b4 < w5.heap.size) := hid HK45.out.lt
      clear hb5 c0 c1 k0 k1 k2
      go_wp2_with fail
      go_loopw [11, 12] (fun vo vi wr => ∃ (j : Nat) (vo' : Value), vo' = vo ∧ vi = .int .i64 (j : Int) ∧ j ≤ L.length ∧ Hid (wr.ownsRow w5.heap.size 45 6 vo (setT21 (L.take j) n (pk, ph, ps) o).length (svT (setT21 (L.take j) n (pk, ph, ps) o))) ∧ Hid (Below w5.heap.size w5 wr)) (fun _ vi _ => L.length - (intOf vi).toNat)
      case atStart => exact ⟨0, _, rfl, rfl, by omega, hid (by simpa [svT, setT21] using World.ownsRow_nil _ _ _ _), hid (Below.refl _ _)⟩
      case round =>
        obtain ⟨j, vo, hvo, rfl, hj, hown, hb⟩ := hrel
        subst hvo
        have HKR := hid (HK5.out.below hb.out)
        have HK4R := hid (HK45.out.below hb.out)
        have HKPR := hid (HKP5.out.below hb.out)
        have c0 : wr.cell? ⟨bs, 0, none⟩ = some (.slice a L.length c) := by rw [HKR.out.cell]; rfl
        have c1 : wr.cell? ⟨bs, 1, none⟩ = some (.int .i64 nx) := by rw [HKR.out.cell]; rfl
        by_cases hlt : j < L.length
        · have j1 : (j : Int) < (L.length : Int) := by omega
          have j0 : (0 : Int) ≤ (j : Int) := by omega
          obtain ⟨a', c', e', hrd, -⟩ := H5.out.t.below hb.out
          simp only [Value.slice.injEq, true_and] at e'
          obtain ⟨rfl, rfl⟩ := e'
          obtain ⟨b0, off, x, rfl, d0, d1, d2, d3, d4, d5, hatj, -, htk⟩ := hrd.six j hlt
          have hsz := hb.out.size
          have hfl : (setT21 (L.take j) n (pk, ph, ps) o).length ≤ 1000 := by rw [setT21_len, List.length_take]; omega
          have HDT := hid (setT21_take htk n (pk, ph, ps) o)
          have hiff : j = i0 ↔ x.id = n := by
            constructor
            · rintro rfl; rw [HAT.out] at hatj; obtain rfl := Option.some.inj hatj; exact HGI.out
            · intro q; exact sortK_idx kI HS.out hatj HAT.out (by show x.id = g0.id; rw [q, HGI.out])
          obtain ⟨xi, xn, xo, xk, xh, xs⟩ := x
          simp only at d0 d1 d2 d3 d4 d5
          clear hrd htk hatj
          go_upto_region 11 with fail
          obtain ⟨w6, hw6⟩ : ∃ w6, w6 = wr.alloc (.cells #[.int .i64 xi, .string ⟨xn.toArray⟩, .int .i64 xo, .int .i64 xk, .int .i64 xh, .int .i64 xs] 45) := ⟨_, rfl⟩
          rw [← hw6]
          obtain ⟨bx, hbx⟩ : ∃ b, b = wr.heap.size := ⟨_, rfl⟩
          rw [← hbx]
          have hb6 : Below wr.heap.size wr w6 := by rw [hw6]; exact Below.new _ _
          have HX6 := hid (show Blk w6 bx #[.int .i64 xi, .string ⟨xn.toArray⟩, .int .i64 xo, .int .i64 xk, .int .i64 xh, .int .i64 xs] by rw [hw6, hbx]; exact Blk.new wr _ _)
          have HO6 := hid (owns_below hown.out hb6)
          have HB6 := hid (Below.next hb.out hb6)
          have HKP6 := hid (HKPR.out.below hb6)
          have HBX : Hid (w5.heap.size ≤ bx ∧ (∀ q, vo.ownBlock = some q → q ≠ bx) ∧ bx ≠ bp) := hid ⟨by have := hb.out.size; omega, fun q hq => by have := (hown.out.lt q hq).2; omega, by have := HKPR.out.lt; omega⟩
          clear hw6 hbx hb6 c0 c1 d0 d1 d2 d3 d4 d5
          have k0 : w6.cell? ⟨bp, 0, none⟩ = some (.int .i64 pk) := by rw [HKP6.out.cell]; rfl
          have k1 : w6.cell? ⟨bp, 1, none⟩ = some (.int .i64 ph) := by rw [HKP6.out.cell]; rfl
          have k2 : w6.cell? ⟨bp, 2, none⟩ = some (.int .i64 ps) := by rw [HKP6.out.cell]; rfl
          obtain ⟨x0, x1, x2, x3, x4, x5⟩ := HX6.out.c6
          by_cases hx : j = i0
          · have HW : Hid (setT21 (L.take (j + 1)) n (pk, ph, ps) o = setT21 (L.take j) n (pk, ph, ps) o ++ [⟨xi, xn, o, (pk, ph, ps)⟩]) := hid (by rw [HDT.out, if_pos (hiff.1 hx)])
            have hxx : ((j : Int) == (i0 : Int)) = true := by simp; omega
            obtain ⟨f0, f1, f2, f3, f4, f5⟩ := HX6.out.f6
            clear hx hiff
            go_upto_region 14 with fail
            have HX7 : Hid (Blk ((((w6.setCell ⟨bx, 3, none⟩ (.int .i64 pk)).setCell ⟨bx, 4, none⟩ (.int .i64 ph)).setCell ⟨bx, 5, none⟩ (.int .i64 ps)).setCell ⟨bx, 2, none⟩ (.int .i64 o)) bx #[.int .i64 xi, .string ⟨xn.toArray⟩, .int .i64 o, .int .i64 pk, .int .i64 ph, .int .i64 ps]) := hid ((((HX6.out.set 3 (.int .i64 pk)).set 4 (.int .i64 ph)).set 5 (.int .i64 ps)).set 2 (.int .i64 o))
            have HU7 : Hid (Upd (fun k => k = bx) w6 ((((w6.setCell ⟨bx, 3, none⟩ (.int .i64 pk)).setCell ⟨bx, 4, none⟩ (.int .i64 ph)).setCell ⟨bx, 5, none⟩ (.int .i64 ps)).setCell ⟨bx, 2, none⟩ (.int .i64 o))) := hid ((((Upd.setCell w6 bx 3 _).trans (Upd.setCell _ bx 4 _) (fun _ _ q => q)).trans (Upd.setCell _ bx 5 _) (fun _ _ q => q)).trans (Upd.setCell _ bx 2 _) (fun _ _ q => q))
            generalize World.setCell (World.setCell (World.setCell (World.setCell w6 _ _) _ _) _ _) _ _ = w7 at HX7 HU7
            have HO7 := hid (HU7.out.owns HO6.out (fun q hq e => HBX.out.2.1 q hq e))
            have HB7 := hid (HB6.out.trans (HU7.out.below HB6.out.size (fun k _ q => by have := HBX.out.1; omega)))
            have hsz7 := HB7.out.size
            clear x0 x1 x2 x3 x4 x5 f0 f1 f2 f3 f4 f5 k0 k1 k2
            obtain ⟨x0, x1, x2, x3, x4, x5⟩ := HX7.out.c6
            go_wp2_with (at_builtin; refine wpList_append1w T_th21 _ rfl _ _ #[.int .i64 xi, .string ⟨xn.toArray⟩, .int .i64 o, .int .i64 pk, .int .i64 ph, .int .i64 ps] rfl w5.heap.size _ _ _ rfl HO7.out rfl rfl ?c1 ?c2 ?c3 ?_)
            case c1 => exact ⟨rfl, rfl, rfl, rfl, rfl, rfl⟩
            case c2 => omega
            try (case c3 => omega)
            intro v' w8 hown' hgrow hne hwh
            have HO : Hid (w8.ownsRow w5.heap.size 45 6 v' (setT21 (L.take (j + 1)) n (pk, ph, ps) o).length (svT (setT21 (L.take (j + 1)) n (pk, ph, ps) o))) := hid (by
              rw [HW.out, svT_append, List.length_append]; exact hown')
            have HB : Hid (Below w5.heap.size w5 w8) := hid (HB7.out.grown hgrow hsz7 (fun k hk => (HO7.out.lt k hk).1))
            clear hown' hgrow hwh hne x0 x1 x2 x3 x4 x5
            go_wp2
            go_roundw
            case rel => exact ⟨j + 1, _, rfl, by go_num, by omega, HO, HB⟩
            case measure => simp [intOf]; omega
          · have HW : Hid (setT21 (L.take (j + 1)) n (pk, ph, ps) o = setT21 (L.take j) n (pk, ph, ps) o ++ [⟨xi, xn, xo, (xk, xh, xs)⟩]) := hid (by rw [HDT.out, if_neg (fun q => hx (hiff.2 q))])
            have hxx : ((j : Int) == (i0 : Int)) = false := by simp; omega
            have hsz7 := HB6.out.size
            clear hx hiff k0 k1 k2
            go_wp2_with (at_builtin; refine wpList_append1w T_th21 _ rfl _ _ #[.int .i64 xi, .string ⟨xn.toArray⟩, .int .i64 xo, .int .i64 xk, .int .i64 xh, .int .i64 xs] rfl w5.heap.size _ _ _ rfl HO6.out rfl rfl ?e1 ?e2 ?e3 ?_)
            case e1 => exact ⟨rfl, rfl, rfl, rfl, rfl, rfl⟩
            case e2 => omega
            try (case e3 => omega)
            intro v' w8 hown' hgrow hne hwh
            have HO : Hid (w8.ownsRow w5.heap.size 45 6 v' (setT21 (L.take (j + 1)) n (pk, ph, ps) o).length (svT (setT21 (L.take (j + 1)) n (pk, ph, ps) o))) := hid (by
              rw [HW.out, svT_append, List.length_append]; exact hown')
            have HB : Hid (Below w5.heap.size w5 w8) := hid (HB6.out.grown hgrow hsz7 (fun k hk => (HO6.out.lt k hk).1))
            clear hown' hgrow hwh hne x0 x1 x2 x3 x4 x5
            go_wp2
            go_roundw
            case rel => exact ⟨j + 1, _, rfl, by go_num, by omega, HO, HB⟩
            case measure => simp [intOf]; omega
        · have e1 : L.take j = L := List.take_of_length_le (by omega)
          rw [e1] at hown
          have j1 : ¬ (j : Int) < (L.length : Int) := by omega
          obtain ⟨av, cv, rfl, -⟩ := ownsRow.rd hown.out
          obtain ⟨wz, hwz, z0, z1, hpo⟩ := R21.fin (w := w) (a := a) (a' := av) (c' := cv) (L' := setT21 L n (pk, ph, ps) o) nx HK4R.out HB4.out.1 ⟨(SlTh.of_own hown.out).below (Below.refl _ _), by rw [setT21_len]; exact H.out.lt⟩ (Below.next HB3.out hb.out) (fun k hk => by have h1 := hown.out.lt k (own_aB hk); exact ⟨h1.2, .inr (by have := HB3.out.size; omega)⟩) (fun k hk q => by have h1 := hown.out.lt k (own_aB hk); have := HBN.out; omega)
          have HW := hid hwz
          have HPO := hid hpo
          have y0 : wr.cell? ⟨b4, 0, none⟩ = some (.slice none 0 0) := by rw [HK4R.out.cell]; rfl
          have y1 : wr.cell? ⟨b4, 1, none⟩ = some (.int .i64 0) := by rw [HK4R.out.cell]; rfl
          have f0 : wr.frozen? ⟨b4, 0, none⟩ = false := HK4R.out.unfrozen 0
          have f1 : wr.frozen? ⟨b4, 1, none⟩ = false := HK4R.out.unfrozen 1
          clear hwz hpo
          go_wp2_with fail
          rw [← HW.out]
          refine bodyPost_ret (res_cell_tmp rfl _ _ _ rfl (by go_simp; rfl)) rfl ?_
          exact HPO.out _
end Go.Proofs.YtdoflhiogoefjaaDoor
end
