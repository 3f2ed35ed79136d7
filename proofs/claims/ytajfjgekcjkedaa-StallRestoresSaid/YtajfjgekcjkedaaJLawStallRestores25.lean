/- Joined texts, in this order: StallPlays. Each one's first remark says what it proves; no condition beyond those that its theorems name. -/
import Derived.Test.YtajfjgekcjkedaaJLawStallRestores24
section
/- Law StallPlays. -/
namespace Go.Proofs.Ytajfjgekcjkedaa
open Go.RowKit
open Go.Lib (hid)
set_option linter.unusedVariables false

def stepX (X : StX) (o : OpS) : StX := if o.k = 1 then (openX X o.h).1 else if o.k = 2 then putX X o.h o.t o.p else if o.k = 3 then (if takeE X o.t = 0 then takeX X o.t else X) else if o.k = 4 then (sellX X o.t).1 else if o.k = 5 then setX X o.h 0 else if o.k = 6 then (if (X.tills.lookup o.h).isSome then closeX X o.h else X) else X
theorem delG_len (G : List G3) (t : Int) : (delG G t).length ≤ G.length := List.length_filter_le _ _
theorem stepX_len (X : StX) (o : OpS) : (stepX X o).tills.length ≤ X.tills.length + 1 ∧ (stepX X o).goods.length ≤ X.goods.length + 1 := by
  unfold stepX
  split
  · unfold openX
    split
    · exact ⟨by (try dsimp only); omega, by (try dsimp only); omega⟩
    · split
      · exact ⟨by (try dsimp only); omega, by (try dsimp only); omega⟩
      · exact ⟨by (try dsimp only); rw [insK_len]; exact Nat.le_refl _, by (try dsimp only); omega⟩
  split
  · unfold putX
    split
    · exact ⟨by (try dsimp only); omega, by (try dsimp only); rw [insK_len]; exact Nat.le_refl _⟩
    · exact ⟨by (try dsimp only); omega, by (try dsimp only); omega⟩
  split
  · split
    · exact ⟨by unfold takeX; (try dsimp only); omega, by unfold takeX; (try dsimp only); have := delG_len X.goods o.t; omega⟩
    · exact ⟨by (try dsimp only); omega, by (try dsimp only); omega⟩
  split
  · unfold sellX
    split
    · exact ⟨by (try dsimp only); omega, by (try dsimp only); omega⟩
    · split
      · exact ⟨by (try dsimp only); omega, by (try dsimp only); omega⟩
      · exact ⟨by unfold setX takeX; (try dsimp only); rw [setT_len]; omega, by unfold setX takeX; (try dsimp only); have := delG_len X.goods o.t; omega⟩
  split
  · exact ⟨by unfold setX; (try dsimp only); rw [setT_len]; omega, by unfold setX; (try dsimp only); omega⟩
  split
  · split
    · refine ⟨?_, ?_⟩
      · have : (adel X.tills o.h).length ≤ X.tills.length := List.length_filter_le _ _
        unfold closeX; (try dsimp only); omega
      · have : (X.goods.filter (fun g => !decide (g.1 = o.h))).length ≤ X.goods.length := List.length_filter_le _ _
        unfold closeX; (try dsimp only); omega
    · exact ⟨by (try dsimp only); omega, by (try dsimp only); omega⟩
  · exact ⟨by (try dsimp only); omega, by (try dsimp only); omega⟩
theorem law23_step {s : Nat} {F : Nat → Prop} {at_ ag : Option Addr} {ct cg : Nat} {X X' : StX} (w : World) (h : Both w s F at_ ct ag cg X) (hnt : X.tills.length < 100000) (hng : X.goods.length < 100000) (o : OpS) (hoh : o.h ≤ 9223372036854775807) (hot : o.t ≤ 9223372036854775807) (e : stepX X o = X') :
    Calls Try.prog 23 #[.pointer (some ⟨s, 0, none⟩), .agg #[.slice at_ X.tills.length ct, .slice ag X.goods.length cg], .agg #[.int .i64 o.k, .int .i64 o.h, .int .i64 o.t, .int .i64 o.p]] w (StepPost w s F at_ ag X') := by
  unfold stepX at e
  by_cases h1 : o.k = 1
  · rw [if_pos h1] at e; rw [← e]; exact law23_step1 w h hnt hng o.k o.h o.t o.p hoh hot h1
  rw [if_neg h1] at e
  by_cases h2 : o.k = 2
  · rw [if_pos h2] at e; rw [← e]; exact law23_step2 w h hnt hng o.k o.h o.t o.p hoh hot h2
  rw [if_neg h2] at e
  by_cases h3 : o.k = 3
  · rw [if_pos h3] at e; rw [← e]; exact law23_step3 w h hnt hng o.k o.h o.t o.p hoh hot h3
  rw [if_neg h3] at e
  by_cases h4 : o.k = 4
  · rw [if_pos h4] at e
    cases hf : fdX X.goods o.t with
    | none =>
      have hs := sellX_none hf
      rw [hs] at e
      simp only at e
      exact law23_step4no w h hnt hng o.k o.h o.t o.p hoh hot h4 (E := 14) (by rw [hs, e]) (by omega)
    | some g =>
      obtain ⟨gh, gt, gp⟩ := g
      obtain ⟨hm, hgt⟩ := (fdX_some h.st.inv.g1).1 hf
      obtain ⟨now, hT⟩ := Option.isSome_iff_exists.1 (h.st.inv.g2 _ hm).1
      simp only at hT hgt
      by_cases hb : 1099511627776 < now + gp
      · have hs := sellX_full hf hT hb
        rw [hs] at e
        simp only at e
        exact law23_step4no w h hnt hng o.k o.h o.t o.p hoh hot h4 (E := 15) (by rw [hs, e]) (by omega)
      · have hs := sellX_ok hf hT hb
        rw [hs] at e
        simp only at e
        exact law23_step4yes w h hnt hng o.k o.h o.t o.p hoh hot h4 (hh := gh) (pp := gp) (by rw [hs, e]) (by rw [hf, hgt])
  rw [if_neg h4] at e
  by_cases h5 : o.k = 5
  · rw [if_pos h5] at e; rw [← e]; exact law23_step5 w h hnt hng o.k o.h o.t o.p hoh hot h5
  rw [if_neg h5] at e
  by_cases h6 : o.k = 6
  · rw [if_pos h6] at e; rw [← e]; exact law23_step6 w h hnt hng o.k o.h o.t o.p hoh hot h6
  rw [if_neg h6] at e
  rw [← e]
  exact law23_step0 w h hnt hng o.k o.h o.t o.p hoh hot (by simpa using h1) (by simpa using h2) (by simpa using h3) (by simpa using h4) (by simpa using h5) (by simpa using h6)
theorem sumT_le23 {T : List (Int × Int)} (h : ∀ p ∈ T, p.2 ≤ 1099511627776) : sumT T ≤ (T.length : Int) * 1099511627776 := by
  unfold sumT
  induction T with
  | nil => simp
  | cons p T ih =>
    have h1 := ih (fun q hq => h q (List.mem_cons_of_mem _ hq))
    have h2 := h p (by simp)
    rw [List.map_cons, List.sum_cons, List.length_cons]
    omega
theorem FindG.no {G : List G3} {t r : Int} (hr : FindG G t r) (h : fdX G t = none) : r = -1 := by
  rcases hr with ⟨i, g, -, -, q⟩ | ⟨q, -⟩
  · rw [h] at q; simp at q
  · exact q
theorem HasT.no {T : List (Int × Int)} {h r : Int} (hr : HasT T h r) (e : T.lookup h = none) : r = -1 := by
  rcases hr with ⟨i, g, -, -, q⟩ | ⟨q, -⟩
  · rw [e] at q; simp at q
  · exact q
/-- both, and the law's own x -/
def PlaysR (w : World) (s bX n : Nat) (v26 : Value) (wr : World) : Prop :=
  ∃ (j : Nat) (X : StX) (F : Nat → Prop) (at_ : Option Addr) (ct : Nat) (ag : Option Addr) (cg : Nat), v26 = .int .i64 (j : Int) ∧ j ≤ n ∧ Hid (Both wr s F at_ ct ag cg X) ∧ Hid (Blk wr bX #[.slice at_ X.tills.length ct, .slice ag X.goods.length cg]) ∧ Hid (¬ F bX ∧ (∀ k, (aB at_ k ∨ aB ag k) → k ≠ bX) ∧ X.tills.length ≤ j ∧ X.goods.length ≤ j ∧ (∀ k, F k → w.heap.size ≤ k)) ∧ Hid (Below w.heap.size w wr)
set_option maxRecDepth 100000 in
set_option maxHeartbeats 8000000 in
theorem law23_Plays (L : List OpS) (a : Option Addr) (c : Nat) (w : World) (hl : SlE OpSE 4 w (.slice a L.length c) L) (h80 : L.length ≤ 80) :
    Calls Try.prog 5 #[.slice a L.length c] w fun e w' => e = .returned (.bool true) ∧ Below w.heap.size w w' := by
  have HL := hid hl
  have i2 : ¬ (80 : Int) < (L.length : Int) := by omega
  clear hl
  go_enter Try.func5, Try.ntmps5
  go_wp2_with fail
  refine (stall_New w).mono ?_
  rintro e w1 ⟨s, rfl, h1, hb1⟩
  have H1 := hid h1
  have HB1 := hid hb1
  clear h1 hb1
  go_upto_region 5 with fail
  obtain ⟨w2, hw2⟩ : ∃ w2, w2 = w1.alloc (.cells #[.slice none 0 0, .slice none 0 0] 46) := ⟨_, rfl⟩
  rw [← hw2]
  obtain ⟨bX, hbX⟩ : ∃ b, b = w1.heap.size := ⟨_, rfl⟩
  rw [← hbX]
  have hb2 : Below w1.heap.size w1 w2 := by rw [hw2]; exact Below.new _ _
  have HX2 := hid (show Blk w2 bX #[.slice none 0 0, .slice none 0 0] by rw [hw2, hbX]; exact Blk.new w1 _ _)
  have HB2 := hid (Below.next HB1.out hb2)
  have HBO : Hid (Both w2 s (fun k => w.heap.size ≤ k ∧ k < w1.heap.size) none 0 none 0 ⟨[], []⟩) := hid ⟨(H1.out.weaken (fun k q q2 => ⟨q, q2⟩)).below hb2, ⟨SlP.nil _, Sl3.nil _, by simp, by simp⟩, fun k q => by have := hb2.size; omega, fun k q => by simp [aB, Value.ownBlock] at q, fun k q => by simp [aB, Value.ownBlock] at q⟩
  have HN : Hid (¬ (w.heap.size ≤ bX ∧ bX < w1.heap.size) ∧ (∀ k, (aB none k ∨ aB none k) → k ≠ bX) ∧ (0 : Nat) ≤ 0 ∧ (0 : Nat) ≤ 0 ∧ (∀ k, (w.heap.size ≤ k ∧ k < w1.heap.size) → w.heap.size ≤ k)) := hid ⟨by omega, fun k q => by simp [aB, Value.ownBlock] at q, Nat.le_refl _, Nat.le_refl _, fun k q => q.1⟩
  have HGE : Hid (w.heap.size ≤ bX) := hid (by rw [hbX]; exact HB1.out.size)
  clear hw2 hbX hb2
  go_wp2_with fail
  go_loopw [26] (fun v26 wr => PlaysR w s bX L.length v26 wr) (fun v26 _ => L.length - (intOf v26).toNat)
  case atStart => exact ⟨0, _, _, _, _, _, _, rfl, by omega, HBO, HX2, HN, HB2⟩
  case round =>
    clear H1 HB1 HX2 HBO HN HB2
    obtain ⟨j, X, F, at_, ct, ag, cg, rfl, hj, HBO, HBX, HN, HB⟩ := hrel
    by_cases hlt : j < L.length
    · have j1 : (j : Int) < (L.length : Int) := by omega
      have j0 : (0 : Int) ≤ (j : Int) := by omega
      obtain ⟨o, hp⟩ : ∃ o, L[j]? = some o := ⟨_, List.getElem?_eq_getElem hlt⟩
      obtain ⟨bo, off, rfl, q0, q1, q2, q3, hh63, ht63, -⟩ := HL.out.opS HB.out hp
      obtain ⟨ok, oh, ot, op⟩ := o
      simp only at q0 q1 q2 q3 hh63 ht63
      obtain ⟨X', hX'⟩ : ∃ X', stepX X ⟨ok, oh, ot, op⟩ = X' := ⟨_, rfl⟩
      have HXN := hid hX'
      have HLEN := hid (show X'.tills.length ≤ X.tills.length + 1 ∧ X'.goods.length ≤ X.goods.length + 1 by rw [← hX']; exact stepX_len X _)
      have HH63 := hid hh63
      have HT63 := hid ht63
      clear hp hX' hh63 ht63
      go_upto_region 8 with fail
      obtain ⟨w5, hw5⟩ : ∃ w5, w5 = wr.alloc (.cells #[.int .i64 ok, .int .i64 oh, .int .i64 ot, .int .i64 op] 27) := ⟨_, rfl⟩
      rw [← hw5]
      have hb5 : Below wr.heap.size wr w5 := by rw [hw5]; exact Below.new _ _
      obtain ⟨bb, hbb⟩ : ∃ bb, bb = wr.heap.size := ⟨_, rfl⟩
      rw [← hbb]
      have HO5 : Hid (Blk w5 bb #[.int .i64 ok, .int .i64 oh, .int .i64 ot, .int .i64 op]) := hid (by rw [hw5, hbb]; exact Blk.new _ _ _)
      have HX5 := hid (HBX.out.below hb5)
      have HBO5 : Hid (Both w5 s F at_ ct ag cg X) := hid ⟨HBO.out.st.below hb5, HBO.out.rx.below hb5, fun k q => by have := HBO.out.fl k q; have := hb5.size; omega, fun k q => by have := HBO.out.low k q; have := hb5.size; omega, HBO.out.far⟩
      have HB5 := hid (Below.next HB.out hb5)
      have HZ : Hid (¬ F bb ∧ bX ≠ bb ∧ wr.heap.size = bb) := hid ⟨fun q => by have := HBO.out.fl _ q; omega, by have := HBX.out.lt; omega, hbb.symm⟩
      clear hw5 hb5 hbb q0 q1 q2 q3
      have x0 : w5.cell? ⟨bX, 0, none⟩ = some (.slice at_ X.tills.length ct) := by rw [HX5.out.cell]; rfl
      have x1 : w5.cell? ⟨bX, 1, none⟩ = some (.slice ag X.goods.length cg) := by rw [HX5.out.cell]; rfl
      have cx0 : w5.cell? ⟨bb, 0, none⟩ = some (.int .i64 ok) := by rw [HO5.out.cell]; rfl
      have cx1 : w5.cell? ⟨bb, 1, none⟩ = some (.int .i64 oh) := by rw [HO5.out.cell]; rfl
      have cx2 : w5.cell? ⟨bb, 2, none⟩ = some (.int .i64 ot) := by rw [HO5.out.cell]; rfl
      have cx3 : w5.cell? ⟨bb, 3, none⟩ = some (.int .i64 op) := by rw [HO5.out.cell]; rfl
      go_wp2_with fail
      refine (law23_step w5 HBO5.out (by have := HN.out.2.2.1; omega) (by have := HN.out.2.2.2.1; omega) ⟨ok, oh, ot, op⟩ HH63.out HT63.out HXN.out).mono ?_
      rintro e w6 ⟨F', at', ct', ag', cg', rfl, hbo6, hu6, hF6, hr6⟩
      have HBO6 := hid hbo6
      have HX6 := hid (HX5.out.upd hu6 HN.out.1)
      have HO6 := hid (HO5.out.upd hu6 HZ.out.1)
      have HR6 := hid hr6
      have HF6 := hid hF6
      have HZ6 := hid hu6.size
      have HB6 := hid (HB5.out.trans (hu6.below HB5.out.size (fun k _ q => HN.out.2.2.2.2 k q)))
      clear hbo6 hu6 hF6 hr6 x0 x1 cx0 cx1 cx2 cx3
      have x0 : w6.cell? ⟨bX, 0, none⟩ = some (.slice at_ X.tills.length ct) := by rw [HX6.out.cell]; rfl
      have x1 : w6.cell? ⟨bX, 1, none⟩ = some (.slice ag X.goods.length cg) := by rw [HX6.out.cell]; rfl
      have f0 : w6.frozen? ⟨bX, 0, none⟩ = false := HX6.out.unfrozen 0
      have f1 : w6.frozen? ⟨bX, 1, none⟩ = false := HX6.out.unfrozen 1
      go_upto_region 10 with fail
      have HX7 : Hid (Blk ((w6.setCell ⟨bX, 0, none⟩ (.slice at' X'.tills.length ct')).setCell ⟨bX, 1, none⟩ (.slice ag' X'.goods.length cg')) bX #[.slice at' X'.tills.length ct', .slice ag' X'.goods.length cg']) := hid (by simpa using (HX6.out.set 0 (.slice at' X'.tills.length ct')).set 1 (.slice ag' X'.goods.length cg'))
      have HU7 := hid ((Upd.setCell w6 bX 0 (.slice at' X'.tills.length ct')).trans (Upd.setCell _ bX 1 (.slice ag' X'.goods.length cg')) (fun _ _ q => q))
      generalize World.setCell (World.setCell w6 _ _) _ _ = w7 at HX7 HU7
      have HNF : Hid (¬ F' bX ∧ (∀ k, (aB at' k ∨ aB ag' k) → k ≠ bX) ∧ (∀ k, F' k → w.heap.size ≤ k)) := hid ⟨fun q => by
        rcases HF6.out _ q with q | q
        · exact HN.out.1 q
        · have := HX5.out.lt; omega, fun k hk q => by
        rcases HR6.out k hk with q2 | q2
        · exact HN.out.2.1 k q2 q
        · have := HX5.out.lt; omega, fun k hk => by
        rcases HF6.out _ hk with q | q
        · exact HN.out.2.2.2.2 k q
        · have := HB5.out.size; omega⟩
      have HBO7 : Hid (Both w7 s F' at' ct' ag' cg' X') := hid ⟨HBO6.out.st.upd HU7.out (fun k q hk => by subst q; exact HNF.out.1 hk), HBO6.out.rx.upd HU7.out (fun k hk q => HNF.out.2.1 k hk q), fun k q => by have := HBO6.out.fl k q; have := HU7.out.size; omega, fun k q => by have := HBO6.out.low k q; have := HU7.out.size; omega, HBO6.out.far⟩
      have HO7 := hid (HO6.out.upd HU7.out (fun q => HZ.out.2.1 q.symm))
      have HB7 := hid (HB6.out.trans (HU7.out.below HB6.out.size (fun k _ q => by have := HGE.out; omega)))
      have HSB : Hid (sumT X'.tills ≤ 4611686018427387904) := hid (by
        have h1 := sumT_le23 (T := X'.tills) (fun p hp => (HBO7.out.st.inv.t2 p hp).2.2.2)
        have h2 := HLEN.out.1
        have h3 := HN.out.2.2.1
        omega)
      clear x0 x1 f0 f1
      have x0 : w7.cell? ⟨bX, 0, none⟩ = some (.slice at' X'.tills.length ct') := by rw [HX7.out.cell]; rfl
      have x1 : w7.cell? ⟨bX, 1, none⟩ = some (.slice ag' X'.goods.length cg') := by rw [HX7.out.cell]; rfl
      go_wp2_with fail
      refine (law23_same w7 HBO7.out.st HBO7.out.rx HSB.out).mono ?_
      rintro e w8 ⟨rfl, hb8⟩
      have HX8 := hid (HX7.out.below hb8)
      have HO8 := hid (HO7.out.below hb8)
      have HBO8 : Hid (Both w8 s F' at' ct' ag' cg' X') := hid ⟨HBO7.out.st.below hb8, HBO7.out.rx.below hb8, fun k q => by have := HBO7.out.fl k q; have := hb8.size; omega, fun k q => by have := HBO7.out.low k q; have := hb8.size; omega, HBO7.out.far⟩
      have HB8 := hid (Below.next HB7.out hb8)
      clear hb8 x0 x1
      have cx2 : w8.cell? ⟨bb, 2, none⟩ = some (.int .i64 ot) := by rw [HO8.out.cell]; rfl
      cases hf : fdX X'.goods ot with
      | none =>
        have HF := hid hf
        have HPE : Hid (priceE X' ot = (0, 0, 14)) := hid (by unfold priceE; rw [hf])
        clear hf
        cases ht : X'.tills.lookup oh with
        | none =>
          have HT := hid ht
          have HHAS : Hid ((X'.tills.lookup oh).isSome = false) := hid (by rw [ht]; rfl)
          clear ht
          go_wp2_with fail
          have hpp := stall_Price w8 HBO8.out.st ot
          rw [HPE.out] at hpp
          refine hpp.mono ?_
          rintro e w9 ⟨rfl, hb9⟩
          clear hpp cx2
          have HX9 := hid (HX8.out.below hb9)
          have HO9 := hid (HO8.out.below hb9)
          have HS9 := hid (HBO8.out.st.below hb9)
          have HR9 := hid (HBO8.out.rx.below hb9)
          have HB9 := hid (Below.next HB8.out hb9)
          have HL9 := hid hb9
          clear hb9
          go_upto_region 13 with fail
          have e0 : ∀ y, Below w9.heap.size w9 y → y.cell? ⟨bX, 0, none⟩ = some (.slice at' X'.tills.length ct') := fun y hy => by rw [(HX9.out.below hy).cell]; rfl
          have e1 : ∀ y, Below w9.heap.size w9 y → y.cell? ⟨bX, 1, none⟩ = some (.slice ag' X'.goods.length cg') := fun y hy => by rw [(HX9.out.below hy).cell]; rfl
          have e2 : ∀ y, Below w9.heap.size w9 y → y.cell? ⟨bb, 1, none⟩ = some (.int .i64 oh) := fun y hy => by rw [(HO9.out.below hy).cell]; rfl
          have e3 : ∀ y, Below w9.heap.size w9 y → y.cell? ⟨bb, 2, none⟩ = some (.int .i64 ot) := fun y hy => by rw [(HO9.out.below hy).cell]; rfl
          have hyd := (Below.refl w9.heap.size w9).drew
          refine wp_region_kept [] (fun y => Below w9.heap.size w9 y) (by kernel_rfl) (by assumption) (fun hH => ?_)
          refine wpK.take (i := 0) (v := _) (by simp only [List.getElem?_toArray, List.getElem?_cons_succ, List.getElem?_cons_zero]; rfl) (by kernel_rfl) (by kernel_rfl) (by kernel_rfl) (by kernel_rfl) (by kernel_rfl) (by exact fun _ _ _ h => h) (by first | exact Or.inl ⟨by rfl, by intro w hSw; go_simp; try with_reducible rfl⟩ | exact Or.inr ⟨by rfl, rfl⟩) hH ?_
          try simp only [Act.put, List.setIfInBounds_toArray, List.set_cons_zero, List.set_cons_succ]
          refine wpK.take (i := 1) (v := _) (by simp only [List.getElem?_toArray, List.getElem?_cons_succ, List.getElem?_cons_zero]; rfl) (by kernel_rfl) (by kernel_rfl) (by kernel_rfl) (by kernel_rfl) (by kernel_rfl) (by exact fun _ _ _ h => h) (by first | exact Or.inl ⟨by rfl, by intro w hSw; go_simp; try with_reducible rfl⟩ | exact Or.inr ⟨by rfl, rfl⟩) hH ?_
          try simp only [Act.put, List.setIfInBounds_toArray, List.set_cons_zero, List.set_cons_succ]
          refine wpK.take (i := 2) (v := _) (by simp only [List.getElem?_toArray, List.getElem?_cons_succ, List.getElem?_cons_zero]; rfl) (by kernel_rfl) (by kernel_rfl) (by kernel_rfl) (by kernel_rfl) (by kernel_rfl) (by exact fun _ _ _ h => h) (by first | exact Or.inl ⟨by rfl, by intro w hSw; go_simp; try with_reducible rfl⟩ | exact Or.inr ⟨by rfl, rfl⟩) hH ?_
          try simp only [Act.put, List.setIfInBounds_toArray, List.set_cons_zero, List.set_cons_succ]
          refine wpK.take (i := 3) (v := _) (by simp only [List.getElem?_toArray, List.getElem?_cons_succ, List.getElem?_cons_zero]; rfl) (by kernel_rfl) (by kernel_rfl) (by kernel_rfl) (by kernel_rfl) (by kernel_rfl) (by exact fun _ _ _ h => h) (by first | exact Or.inl ⟨by rfl, by intro w hSw; go_simp; try with_reducible rfl⟩ | exact Or.inr ⟨by rfl, rfl⟩) hH ?_
          try simp only [Act.put, List.setIfInBounds_toArray, List.set_cons_zero, List.set_cons_succ]
          refine wpK.take (i := 4) (v := _) (by simp only [List.getElem?_toArray, List.getElem?_cons_succ, List.getElem?_cons_zero]; rfl) (by kernel_rfl) (by kernel_rfl) (by kernel_rfl) (by kernel_rfl) (by kernel_rfl) (by exact fun _ _ _ h => h) (by first | exact Or.inl ⟨by rfl, by intro w hSw; go_simp; try with_reducible rfl⟩ | exact Or.inr ⟨by rfl, rfl⟩) hH ?_
          try simp only [Act.put, List.setIfInBounds_toArray, List.set_cons_zero, List.set_cons_succ]
          refine wpK.step (i := 5) (by kernel_rfl) (by simp only [List.getElem?_toArray, List.getElem?_cons_succ, List.getElem?_cons_zero]; rfl) (fun K hK => ?_)
          go_simp
          (refine (ref23_Find _ (HR9.out.below hyd) ot).mono ?_); rintro e wA ⟨r, rfl, hr, hbA0⟩; (obtain rfl : r = -1 := FindG.no hr HF.out); (have hbA := Below.next hyd hbA0); go_simp
          refine hK.out _ _ (by assumption) (fun hH => ?_)
          clear hK K
          try simp only [Act.put, List.setIfInBounds_toArray, List.set_cons_zero, List.set_cons_succ]
          refine wpK.take (i := 6) (v := _) (by simp only [List.getElem?_toArray, List.getElem?_cons_succ, List.getElem?_cons_zero]; rfl) (by kernel_rfl) (by kernel_rfl) (by kernel_rfl) (by kernel_rfl) (by kernel_rfl) (by exact fun _ _ _ h => h) (by first | exact Or.inl ⟨by rfl, by intro w hSw; go_simp; try with_reducible rfl⟩ | exact Or.inr ⟨by rfl, rfl⟩) hH ?_
          try simp only [Act.put, List.setIfInBounds_toArray, List.set_cons_zero, List.set_cons_succ]
          refine wpK.take (i := 7) (v := _) (by simp only [List.getElem?_toArray, List.getElem?_cons_succ, List.getElem?_cons_zero]; rfl) (by kernel_rfl) (by kernel_rfl) (by kernel_rfl) (by kernel_rfl) (by kernel_rfl) (by exact fun _ _ _ h => h) (by first | exact Or.inl ⟨by rfl, by intro w hSw; go_simp; try with_reducible rfl⟩ | exact Or.inr ⟨by rfl, rfl⟩) hH ?_
          try simp only [Act.put, List.setIfInBounds_toArray, List.set_cons_zero, List.set_cons_succ]
          refine wpK.take (i := 8) (v := _) (by simp only [List.getElem?_toArray, List.getElem?_cons_succ, List.getElem?_cons_zero]; rfl) (by kernel_rfl) (by kernel_rfl) (by kernel_rfl) (by kernel_rfl) (by kernel_rfl) (by exact fun _ _ _ h => h) (by first | exact Or.inl ⟨by rfl, by intro w hSw; go_simp; try with_reducible rfl⟩ | exact Or.inr ⟨by rfl, rfl⟩) hH ?_
          try simp only [Act.put, List.setIfInBounds_toArray, List.set_cons_zero, List.set_cons_succ]
          refine wpK.take (i := 9) (v := _) (by simp only [List.getElem?_toArray, List.getElem?_cons_succ, List.getElem?_cons_zero]; rfl) (by kernel_rfl) (by kernel_rfl) (by kernel_rfl) (by kernel_rfl) (by kernel_rfl) (by exact fun _ _ _ h => h) (by first | exact Or.inl ⟨by rfl, by intro w hSw; go_simp; try with_reducible rfl⟩ | exact Or.inr ⟨by rfl, rfl⟩) hH ?_
          try simp only [Act.put, List.setIfInBounds_toArray, List.set_cons_zero, List.set_cons_succ]
          refine wpK.take (i := 10) (v := _) (by simp only [List.getElem?_toArray, List.getElem?_cons_succ, List.getElem?_cons_zero]; rfl) (by kernel_rfl) (by kernel_rfl) (by kernel_rfl) (by kernel_rfl) (by kernel_rfl) (by exact fun _ _ _ h => h) (by first | exact Or.inl ⟨by rfl, by intro w hSw; go_simp; try with_reducible rfl⟩ | exact Or.inr ⟨by rfl, rfl⟩) hH ?_
          try simp only [Act.put, List.setIfInBounds_toArray, List.set_cons_zero, List.set_cons_succ]
          refine wpK.take (i := 11) (v := _) (by simp only [List.getElem?_toArray, List.getElem?_cons_succ, List.getElem?_cons_zero]; rfl) (by kernel_rfl) (by kernel_rfl) (by kernel_rfl) (by kernel_rfl) (by kernel_rfl) (by exact fun _ _ _ h => h) (by first | exact Or.inl ⟨by rfl, by intro w hSw; go_simp; try with_reducible rfl⟩ | exact Or.inr ⟨by rfl, rfl⟩) hH ?_
          try simp only [Act.put, List.setIfInBounds_toArray, List.set_cons_zero, List.set_cons_succ]
          refine wpK.take (i := 13) (v := _) (by simp only [List.getElem?_toArray, List.getElem?_cons_succ, List.getElem?_cons_zero]; rfl) (by kernel_rfl) (by kernel_rfl) (by kernel_rfl) (by kernel_rfl) (by kernel_rfl) (by exact fun _ _ _ h => h) (by first | exact Or.inl ⟨by rfl, by intro w hSw; go_simp; try with_reducible rfl⟩ | exact Or.inr ⟨by rfl, rfl⟩) hH ?_
          try simp only [Act.put, List.setIfInBounds_toArray, List.set_cons_zero, List.set_cons_succ]
          refine wpK.take (i := 14) (v := _) (by simp only [List.getElem?_toArray, List.getElem?_cons_succ, List.getElem?_cons_zero]; rfl) (by kernel_rfl) (by kernel_rfl) (by kernel_rfl) (by kernel_rfl) (by kernel_rfl) (by exact fun _ _ _ h => h) (by first | exact Or.inl ⟨by rfl, by intro w hSw; go_simp; try with_reducible rfl⟩ | exact Or.inr ⟨by rfl, rfl⟩) hH ?_
          try simp only [Act.put, List.setIfInBounds_toArray, List.set_cons_zero, List.set_cons_succ]
          refine wpK.take (i := 15) (v := _) (by simp only [List.getElem?_toArray, List.getElem?_cons_succ, List.getElem?_cons_zero]; rfl) (by kernel_rfl) (by kernel_rfl) (by kernel_rfl) (by kernel_rfl) (by kernel_rfl) (by exact fun _ _ _ h => h) (by first | exact Or.inl ⟨by rfl, by intro w hSw; go_simp; try with_reducible rfl⟩ | exact Or.inr ⟨by rfl, rfl⟩) hH ?_
          try simp only [Act.put, List.setIfInBounds_toArray, List.set_cons_zero, List.set_cons_succ]
          refine wpK.step (i := 12) (by kernel_rfl) (by simp only [List.getElem?_toArray, List.getElem?_cons_succ, List.getElem?_cons_zero]; rfl) (fun K hK => ?_)
          go_simp
          (refine (stall_Has _ (HS9.out.below hbA) oh false HHAS).mono ?_); rintro e wC ⟨rfl, rfl⟩; go_simp
          refine hK.out _ _ (by assumption) (fun hH => ?_)
          clear hK K
          try simp only [Act.put, List.setIfInBounds_toArray, List.set_cons_zero, List.set_cons_succ]
          refine wpK.step (i := 16) (by kernel_rfl) (by simp only [List.getElem?_toArray, List.getElem?_cons_succ, List.getElem?_cons_zero]; rfl) (fun K hK => ?_)
          go_simp
          (refine (ref23_Has wA (HR9.out.below hbA) oh).mono ?_); rintro e wE ⟨r, rfl, hr2, hbE0⟩; (obtain rfl : r = -1 := HasT.no hr2 HT.out); (have hbE := Below.next hbA hbE0); go_simp
          refine hK.out _ _ (by assumption) (fun hH => ?_)
          clear hK K
          try simp only [Act.put, List.setIfInBounds_toArray, List.set_cons_zero, List.set_cons_succ]
          refine wpK.take (i := 17) (v := _) (by simp only [List.getElem?_toArray, List.getElem?_cons_succ, List.getElem?_cons_zero]; rfl) (by kernel_rfl) (by kernel_rfl) (by kernel_rfl) (by kernel_rfl) (by kernel_rfl) (by exact fun _ _ _ h => h) (by first | exact Or.inl ⟨by rfl, by intro w hSw; go_simp; try with_reducible rfl⟩ | exact Or.inr ⟨by rfl, rfl⟩) hH ?_
          try simp only [Act.put, List.setIfInBounds_toArray, List.set_cons_zero, List.set_cons_succ]
          refine wpK.take (i := 18) (v := _) (by simp only [List.getElem?_toArray, List.getElem?_cons_succ, List.getElem?_cons_zero]; rfl) (by kernel_rfl) (by kernel_rfl) (by kernel_rfl) (by kernel_rfl) (by kernel_rfl) (by exact fun _ _ _ h => h) (by first | exact Or.inl ⟨by rfl, by intro w hSw; go_simp; try with_reducible rfl⟩ | exact Or.inr ⟨by rfl, rfl⟩) hH ?_
          try simp only [Act.put, List.setIfInBounds_toArray, List.set_cons_zero, List.set_cons_succ]
          refine wpK.take (i := 19) (v := _) (by simp only [List.getElem?_toArray, List.getElem?_cons_succ, List.getElem?_cons_zero]; rfl) (by kernel_rfl) (by kernel_rfl) (by kernel_rfl) (by kernel_rfl) (by kernel_rfl) (by exact fun _ _ _ h => h) (by first | exact Or.inl ⟨by rfl, by intro w hSw; go_simp; try with_reducible rfl⟩ | exact Or.inr ⟨by rfl, rfl⟩) hH ?_
          try simp only [Act.put, List.setIfInBounds_toArray, List.set_cons_zero, List.set_cons_succ]
          refine wpK.done (by kernel_rfl) ?_ _
          have HBE := hid hbE
          have HX := hid (HX9.out.below hbE)
          have HBO9 : Hid (Both wE s F' at' ct' ag' cg' X') := hid ⟨HS9.out.below hbE, HR9.out.below hbE, fun k q => by have := HBO8.out.fl k q; have := HL9.out.size; have := hbE.size; omega, fun k q => by have := HBO8.out.low k q; have := HL9.out.size; have := hbE.size; omega, HBO8.out.far⟩
          have HBB := hid (Below.next HB9.out hbE)
          have HNN : Hid (¬ F' bX ∧ (∀ k, (aB at' k ∨ aB ag' k) → k ≠ bX) ∧ X'.tills.length ≤ j + 1 ∧ X'.goods.length ≤ j + 1 ∧ (∀ k, F' k → w.heap.size ≤ k)) := hid ⟨HNF.out.1, HNF.out.2.1, by have := HLEN.out.1; have := HN.out.2.2.1; omega, by have := HLEN.out.2; have := HN.out.2.2.2.1; omega, HNF.out.2.2⟩
          clear e0 e1 e2 e3 hyd hbA0 hbA hbE0 hbE hr hr2
          go_wp2_with fail
          go_roundw
          case rel => exact ⟨j + 1, _, _, _, _, _, _, by go_num, by omega, HBO9, HX, HNN, HBB⟩
          case measure => simp [intOf]; omega
        | some tg =>
          have HHAS : Hid ((X'.tills.lookup oh).isSome = true) := hid (by rw [ht]; rfl)
          obtain ⟨i2_, hI2⟩ := List.mem_iff_getElem?.1 (lookup_mem ht)
          have i20 : (0 : Int) ≤ (i2_ : Int) := by omega
          have HI2 := hid hI2
          have HST := hid HBO8.out.st.inv.t1
          clear ht hI2
          go_wp2_with fail
          have hpp := stall_Price w8 HBO8.out.st ot
          rw [HPE.out] at hpp
          refine hpp.mono ?_
          rintro e w9 ⟨rfl, hb9⟩
          clear hpp cx2
          have HX9 := hid (HX8.out.below hb9)
          have HO9 := hid (HO8.out.below hb9)
          have HS9 := hid (HBO8.out.st.below hb9)
          have HR9 := hid (HBO8.out.rx.below hb9)
          have HB9 := hid (Below.next HB8.out hb9)
          have HL9 := hid hb9
          clear hb9
          go_upto_region 13 with fail
          have e0 : ∀ y, Below w9.heap.size w9 y → y.cell? ⟨bX, 0, none⟩ = some (.slice at' X'.tills.length ct') := fun y hy => by rw [(HX9.out.below hy).cell]; rfl
          have e1 : ∀ y, Below w9.heap.size w9 y → y.cell? ⟨bX, 1, none⟩ = some (.slice ag' X'.goods.length cg') := fun y hy => by rw [(HX9.out.below hy).cell]; rfl
          have e2 : ∀ y, Below w9.heap.size w9 y → y.cell? ⟨bb, 1, none⟩ = some (.int .i64 oh) := fun y hy => by rw [(HO9.out.below hy).cell]; rfl
          have e3 : ∀ y, Below w9.heap.size w9 y → y.cell? ⟨bb, 2, none⟩ = some (.int .i64 ot) := fun y hy => by rw [(HO9.out.below hy).cell]; rfl
          have hyd := (Below.refl w9.heap.size w9).drew
          refine wp_region_kept [] (fun y => Below w9.heap.size w9 y) (by kernel_rfl) (by assumption) (fun hH => ?_)
          refine wpK.take (i := 0) (v := _) (by simp only [List.getElem?_toArray, List.getElem?_cons_succ, List.getElem?_cons_zero]; rfl) (by kernel_rfl) (by kernel_rfl) (by kernel_rfl) (by kernel_rfl) (by kernel_rfl) (by exact fun _ _ _ h => h) (by first | exact Or.inl ⟨by rfl, by intro w hSw; go_simp; try with_reducible rfl⟩ | exact Or.inr ⟨by rfl, rfl⟩) hH ?_
          try simp only [Act.put, List.setIfInBounds_toArray, List.set_cons_zero, List.set_cons_succ]
          refine wpK.take (i := 1) (v := _) (by simp only [List.getElem?_toArray, List.getElem?_cons_succ, List.getElem?_cons_zero]; rfl) (by kernel_rfl) (by kernel_rfl) (by kernel_rfl) (by kernel_rfl) (by kernel_rfl) (by exact fun _ _ _ h => h) (by first | exact Or.inl ⟨by rfl, by intro w hSw; go_simp; try with_reducible rfl⟩ | exact Or.inr ⟨by rfl, rfl⟩) hH ?_
          try simp only [Act.put, List.setIfInBounds_toArray, List.set_cons_zero, List.set_cons_succ]
          refine wpK.take (i := 2) (v := _) (by simp only [List.getElem?_toArray, List.getElem?_cons_succ, List.getElem?_cons_zero]; rfl) (by kernel_rfl) (by kernel_rfl) (by kernel_rfl) (by kernel_rfl) (by kernel_rfl) (by exact fun _ _ _ h => h) (by first | exact Or.inl ⟨by rfl, by intro w hSw; go_simp; try with_reducible rfl⟩ | exact Or.inr ⟨by rfl, rfl⟩) hH ?_
          try simp only [Act.put, List.setIfInBounds_toArray, List.set_cons_zero, List.set_cons_succ]
          refine wpK.take (i := 3) (v := _) (by simp only [List.getElem?_toArray, List.getElem?_cons_succ, List.getElem?_cons_zero]; rfl) (by kernel_rfl) (by kernel_rfl) (by kernel_rfl) (by kernel_rfl) (by kernel_rfl) (by exact fun _ _ _ h => h) (by first | exact Or.inl ⟨by rfl, by intro w hSw; go_simp; try with_reducible rfl⟩ | exact Or.inr ⟨by rfl, rfl⟩) hH ?_
          try simp only [Act.put, List.setIfInBounds_toArray, List.set_cons_zero, List.set_cons_succ]
          refine wpK.take (i := 4) (v := _) (by simp only [List.getElem?_toArray, List.getElem?_cons_succ, List.getElem?_cons_zero]; rfl) (by kernel_rfl) (by kernel_rfl) (by kernel_rfl) (by kernel_rfl) (by kernel_rfl) (by exact fun _ _ _ h => h) (by first | exact Or.inl ⟨by rfl, by intro w hSw; go_simp; try with_reducible rfl⟩ | exact Or.inr ⟨by rfl, rfl⟩) hH ?_
          try simp only [Act.put, List.setIfInBounds_toArray, List.set_cons_zero, List.set_cons_succ]
          refine wpK.step (i := 5) (by kernel_rfl) (by simp only [List.getElem?_toArray, List.getElem?_cons_succ, List.getElem?_cons_zero]; rfl) (fun K hK => ?_)
          go_simp
          (refine (ref23_Find _ (HR9.out.below hyd) ot).mono ?_); rintro e wA ⟨r, rfl, hr, hbA0⟩; (obtain rfl : r = -1 := FindG.no hr HF.out); (have hbA := Below.next hyd hbA0); go_simp
          refine hK.out _ _ (by assumption) (fun hH => ?_)
          clear hK K
          try simp only [Act.put, List.setIfInBounds_toArray, List.set_cons_zero, List.set_cons_succ]
          refine wpK.take (i := 6) (v := _) (by simp only [List.getElem?_toArray, List.getElem?_cons_succ, List.getElem?_cons_zero]; rfl) (by kernel_rfl) (by kernel_rfl) (by kernel_rfl) (by kernel_rfl) (by kernel_rfl) (by exact fun _ _ _ h => h) (by first | exact Or.inl ⟨by rfl, by intro w hSw; go_simp; try with_reducible rfl⟩ | exact Or.inr ⟨by rfl, rfl⟩) hH ?_
          try simp only [Act.put, List.setIfInBounds_toArray, List.set_cons_zero, List.set_cons_succ]
          refine wpK.take (i := 7) (v := _) (by simp only [List.getElem?_toArray, List.getElem?_cons_succ, List.getElem?_cons_zero]; rfl) (by kernel_rfl) (by kernel_rfl) (by kernel_rfl) (by kernel_rfl) (by kernel_rfl) (by exact fun _ _ _ h => h) (by first | exact Or.inl ⟨by rfl, by intro w hSw; go_simp; try with_reducible rfl⟩ | exact Or.inr ⟨by rfl, rfl⟩) hH ?_
          try simp only [Act.put, List.setIfInBounds_toArray, List.set_cons_zero, List.set_cons_succ]
          refine wpK.take (i := 8) (v := _) (by simp only [List.getElem?_toArray, List.getElem?_cons_succ, List.getElem?_cons_zero]; rfl) (by kernel_rfl) (by kernel_rfl) (by kernel_rfl) (by kernel_rfl) (by kernel_rfl) (by exact fun _ _ _ h => h) (by first | exact Or.inl ⟨by rfl, by intro w hSw; go_simp; try with_reducible rfl⟩ | exact Or.inr ⟨by rfl, rfl⟩) hH ?_
          try simp only [Act.put, List.setIfInBounds_toArray, List.set_cons_zero, List.set_cons_succ]
          refine wpK.take (i := 9) (v := _) (by simp only [List.getElem?_toArray, List.getElem?_cons_succ, List.getElem?_cons_zero]; rfl) (by kernel_rfl) (by kernel_rfl) (by kernel_rfl) (by kernel_rfl) (by kernel_rfl) (by exact fun _ _ _ h => h) (by first | exact Or.inl ⟨by rfl, by intro w hSw; go_simp; try with_reducible rfl⟩ | exact Or.inr ⟨by rfl, rfl⟩) hH ?_
          try simp only [Act.put, List.setIfInBounds_toArray, List.set_cons_zero, List.set_cons_succ]
          refine wpK.take (i := 10) (v := _) (by simp only [List.getElem?_toArray, List.getElem?_cons_succ, List.getElem?_cons_zero]; rfl) (by kernel_rfl) (by kernel_rfl) (by kernel_rfl) (by kernel_rfl) (by kernel_rfl) (by exact fun _ _ _ h => h) (by first | exact Or.inl ⟨by rfl, by intro w hSw; go_simp; try with_reducible rfl⟩ | exact Or.inr ⟨by rfl, rfl⟩) hH ?_
          try simp only [Act.put, List.setIfInBounds_toArray, List.set_cons_zero, List.set_cons_succ]
          refine wpK.take (i := 11) (v := _) (by simp only [List.getElem?_toArray, List.getElem?_cons_succ, List.getElem?_cons_zero]; rfl) (by kernel_rfl) (by kernel_rfl) (by kernel_rfl) (by kernel_rfl) (by kernel_rfl) (by exact fun _ _ _ h => h) (by first | exact Or.inl ⟨by rfl, by intro w hSw; go_simp; try with_reducible rfl⟩ | exact Or.inr ⟨by rfl, rfl⟩) hH ?_
          try simp only [Act.put, List.setIfInBounds_toArray, List.set_cons_zero, List.set_cons_succ]
          refine wpK.take (i := 13) (v := _) (by simp only [List.getElem?_toArray, List.getElem?_cons_succ, List.getElem?_cons_zero]; rfl) (by kernel_rfl) (by kernel_rfl) (by kernel_rfl) (by kernel_rfl) (by kernel_rfl) (by exact fun _ _ _ h => h) (by first | exact Or.inl ⟨by rfl, by intro w hSw; go_simp; try with_reducible rfl⟩ | exact Or.inr ⟨by rfl, rfl⟩) hH ?_
          try simp only [Act.put, List.setIfInBounds_toArray, List.set_cons_zero, List.set_cons_succ]
          refine wpK.take (i := 14) (v := _) (by simp only [List.getElem?_toArray, List.getElem?_cons_succ, List.getElem?_cons_zero]; rfl) (by kernel_rfl) (by kernel_rfl) (by kernel_rfl) (by kernel_rfl) (by kernel_rfl) (by exact fun _ _ _ h => h) (by first | exact Or.inl ⟨by rfl, by intro w hSw; go_simp; try with_reducible rfl⟩ | exact Or.inr ⟨by rfl, rfl⟩) hH ?_
          try simp only [Act.put, List.setIfInBounds_toArray, List.set_cons_zero, List.set_cons_succ]
          refine wpK.take (i := 15) (v := _) (by simp only [List.getElem?_toArray, List.getElem?_cons_succ, List.getElem?_cons_zero]; rfl) (by kernel_rfl) (by kernel_rfl) (by kernel_rfl) (by kernel_rfl) (by kernel_rfl) (by exact fun _ _ _ h => h) (by first | exact Or.inl ⟨by rfl, by intro w hSw; go_simp; try with_reducible rfl⟩ | exact Or.inr ⟨by rfl, rfl⟩) hH ?_
          try simp only [Act.put, List.setIfInBounds_toArray, List.set_cons_zero, List.set_cons_succ]
          refine wpK.step (i := 12) (by kernel_rfl) (by simp only [List.getElem?_toArray, List.getElem?_cons_succ, List.getElem?_cons_zero]; rfl) (fun K hK => ?_)
          go_simp
          (refine (stall_Has _ (HS9.out.below hbA) oh true HHAS).mono ?_); rintro e wC ⟨rfl, rfl⟩; go_simp
          refine hK.out _ _ (by assumption) (fun hH => ?_)
          clear hK K
          try simp only [Act.put, List.setIfInBounds_toArray, List.set_cons_zero, List.set_cons_succ]
          refine wpK.step (i := 16) (by kernel_rfl) (by simp only [List.getElem?_toArray, List.getElem?_cons_succ, List.getElem?_cons_zero]; rfl) (fun K hK => ?_)
          go_simp
          (refine (ref23_Has wA (HR9.out.below hbA) oh).mono ?_); rintro e wE ⟨r, rfl, hr2, hbE0⟩; (obtain rfl : r = (i2_ : Int) := hr2.at HST.out HI2.out); (have hbE := Below.next hbA hbE0); go_simp
          refine hK.out _ _ (by assumption) (fun hH => ?_)
          clear hK K
          try simp only [Act.put, List.setIfInBounds_toArray, List.set_cons_zero, List.set_cons_succ]
          refine wpK.take (i := 17) (v := _) (by simp only [List.getElem?_toArray, List.getElem?_cons_succ, List.getElem?_cons_zero]; rfl) (by kernel_rfl) (by kernel_rfl) (by kernel_rfl) (by kernel_rfl) (by kernel_rfl) (by exact fun _ _ _ h => h) (by first | exact Or.inl ⟨by rfl, by intro w hSw; go_simp; try with_reducible rfl⟩ | exact Or.inr ⟨by rfl, rfl⟩) hH ?_
          try simp only [Act.put, List.setIfInBounds_toArray, List.set_cons_zero, List.set_cons_succ]
          refine wpK.take (i := 18) (v := _) (by simp only [List.getElem?_toArray, List.getElem?_cons_succ, List.getElem?_cons_zero]; rfl) (by kernel_rfl) (by kernel_rfl) (by kernel_rfl) (by kernel_rfl) (by kernel_rfl) (by exact fun _ _ _ h => h) (by first | exact Or.inl ⟨by rfl, by intro w hSw; go_simp; try with_reducible rfl⟩ | exact Or.inr ⟨by rfl, rfl⟩) hH ?_
          try simp only [Act.put, List.setIfInBounds_toArray, List.set_cons_zero, List.set_cons_succ]
          refine wpK.take (i := 19) (v := _) (by simp only [List.getElem?_toArray, List.getElem?_cons_succ, List.getElem?_cons_zero]; rfl) (by kernel_rfl) (by kernel_rfl) (by kernel_rfl) (by kernel_rfl) (by kernel_rfl) (by exact fun _ _ _ h => h) (by first | exact Or.inl ⟨by rfl, by intro w hSw; go_simp; try with_reducible rfl⟩ | exact Or.inr ⟨by rfl, rfl⟩) hH ?_
          try simp only [Act.put, List.setIfInBounds_toArray, List.set_cons_zero, List.set_cons_succ]
          refine wpK.done (by kernel_rfl) ?_ _
          have HBE := hid hbE
          have HX := hid (HX9.out.below hbE)
          have HBO9 : Hid (Both wE s F' at' ct' ag' cg' X') := hid ⟨HS9.out.below hbE, HR9.out.below hbE, fun k q => by have := HBO8.out.fl k q; have := HL9.out.size; have := hbE.size; omega, fun k q => by have := HBO8.out.low k q; have := HL9.out.size; have := hbE.size; omega, HBO8.out.far⟩
          have HBB := hid (Below.next HB9.out hbE)
          have HNN : Hid (¬ F' bX ∧ (∀ k, (aB at' k ∨ aB ag' k) → k ≠ bX) ∧ X'.tills.length ≤ j + 1 ∧ X'.goods.length ≤ j + 1 ∧ (∀ k, F' k → w.heap.size ≤ k)) := hid ⟨HNF.out.1, HNF.out.2.1, by have := HLEN.out.1; have := HN.out.2.2.1; omega, by have := HLEN.out.2; have := HN.out.2.2.2.1; omega, HNF.out.2.2⟩
          clear e0 e1 e2 e3 hyd hbA0 hbA hbE0 hbE hr hr2
          go_wp2_with fail
          go_roundw
          case rel => exact ⟨j + 1, _, _, _, _, _, _, by go_num, by omega, HBO9, HX, HNN, HBB⟩
          case measure => simp [intOf]; omega
      | some g =>
        obtain ⟨gh, gt, gp⟩ := g
        have hm := ((fdX_some HBO8.out.st.inv.g1).1 hf).1
        obtain ⟨i1, hI1⟩ := List.mem_iff_getElem?.1 hm
        have i10 : (0 : Int) ≤ (i1 : Int) := by omega
        have HI1 := hid (show X'.goods[i1]? = some (gh, ot, gp) by rw [hI1]; have h2 : gt = ot := ((fdX_some HBO8.out.st.inv.g1).1 hf).2; rw [h2])
        have HSG := hid HBO8.out.st.inv.g1
        have HPE : Hid (priceE X' ot = (gh, gp, 0)) := hid (by unfold priceE; rw [hf])
        clear hf hm hI1
        cases ht : X'.tills.lookup oh with
        | none =>
          have HT := hid ht
          have HHAS : Hid ((X'.tills.lookup oh).isSome = false) := hid (by rw [ht]; rfl)
          clear ht
          go_wp2_with fail
          have hpp := stall_Price w8 HBO8.out.st ot
          rw [HPE.out] at hpp
          refine hpp.mono ?_
          rintro e w9 ⟨rfl, hb9⟩
          clear hpp cx2
          have HX9 := hid (HX8.out.below hb9)
          have HO9 := hid (HO8.out.below hb9)
          have HS9 := hid (HBO8.out.st.below hb9)
          have HR9 := hid (HBO8.out.rx.below hb9)
          have HB9 := hid (Below.next HB8.out hb9)
          have HL9 := hid hb9
          clear hb9
          go_upto_region 13 with fail
          have e0 : ∀ y, Below w9.heap.size w9 y → y.cell? ⟨bX, 0, none⟩ = some (.slice at' X'.tills.length ct') := fun y hy => by rw [(HX9.out.below hy).cell]; rfl
          have e1 : ∀ y, Below w9.heap.size w9 y → y.cell? ⟨bX, 1, none⟩ = some (.slice ag' X'.goods.length cg') := fun y hy => by rw [(HX9.out.below hy).cell]; rfl
          have e2 : ∀ y, Below w9.heap.size w9 y → y.cell? ⟨bb, 1, none⟩ = some (.int .i64 oh) := fun y hy => by rw [(HO9.out.below hy).cell]; rfl
          have e3 : ∀ y, Below w9.heap.size w9 y → y.cell? ⟨bb, 2, none⟩ = some (.int .i64 ot) := fun y hy => by rw [(HO9.out.below hy).cell]; rfl
          have hyd := (Below.refl w9.heap.size w9).drew
          refine wp_region_kept [] (fun y => Below w9.heap.size w9 y) (by kernel_rfl) (by assumption) (fun hH => ?_)
          refine wpK.take (i := 0) (v := _) (by simp only [List.getElem?_toArray, List.getElem?_cons_succ, List.getElem?_cons_zero]; rfl) (by kernel_rfl) (by kernel_rfl) (by kernel_rfl) (by kernel_rfl) (by kernel_rfl) (by exact fun _ _ _ h => h) (by first | exact Or.inl ⟨by rfl, by intro w hSw; go_simp; try with_reducible rfl⟩ | exact Or.inr ⟨by rfl, rfl⟩) hH ?_
          try simp only [Act.put, List.setIfInBounds_toArray, List.set_cons_zero, List.set_cons_succ]
          refine wpK.take (i := 1) (v := _) (by simp only [List.getElem?_toArray, List.getElem?_cons_succ, List.getElem?_cons_zero]; rfl) (by kernel_rfl) (by kernel_rfl) (by kernel_rfl) (by kernel_rfl) (by kernel_rfl) (by exact fun _ _ _ h => h) (by first | exact Or.inl ⟨by rfl, by intro w hSw; go_simp; try with_reducible rfl⟩ | exact Or.inr ⟨by rfl, rfl⟩) hH ?_
          try simp only [Act.put, List.setIfInBounds_toArray, List.set_cons_zero, List.set_cons_succ]
          refine wpK.take (i := 2) (v := _) (by simp only [List.getElem?_toArray, List.getElem?_cons_succ, List.getElem?_cons_zero]; rfl) (by kernel_rfl) (by kernel_rfl) (by kernel_rfl) (by kernel_rfl) (by kernel_rfl) (by exact fun _ _ _ h => h) (by first | exact Or.inl ⟨by rfl, by intro w hSw; go_simp; try with_reducible rfl⟩ | exact Or.inr ⟨by rfl, rfl⟩) hH ?_
          try simp only [Act.put, List.setIfInBounds_toArray, List.set_cons_zero, List.set_cons_succ]
          refine wpK.take (i := 3) (v := _) (by simp only [List.getElem?_toArray, List.getElem?_cons_succ, List.getElem?_cons_zero]; rfl) (by kernel_rfl) (by kernel_rfl) (by kernel_rfl) (by kernel_rfl) (by kernel_rfl) (by exact fun _ _ _ h => h) (by first | exact Or.inl ⟨by rfl, by intro w hSw; go_simp; try with_reducible rfl⟩ | exact Or.inr ⟨by rfl, rfl⟩) hH ?_
          try simp only [Act.put, List.setIfInBounds_toArray, List.set_cons_zero, List.set_cons_succ]
          refine wpK.take (i := 4) (v := _) (by simp only [List.getElem?_toArray, List.getElem?_cons_succ, List.getElem?_cons_zero]; rfl) (by kernel_rfl) (by kernel_rfl) (by kernel_rfl) (by kernel_rfl) (by kernel_rfl) (by exact fun _ _ _ h => h) (by first | exact Or.inl ⟨by rfl, by intro w hSw; go_simp; try with_reducible rfl⟩ | exact Or.inr ⟨by rfl, rfl⟩) hH ?_
          try simp only [Act.put, List.setIfInBounds_toArray, List.set_cons_zero, List.set_cons_succ]
          refine wpK.step (i := 5) (by kernel_rfl) (by simp only [List.getElem?_toArray, List.getElem?_cons_succ, List.getElem?_cons_zero]; rfl) (fun K hK => ?_)
          go_simp
          (refine (ref23_Find _ (HR9.out.below hyd) ot).mono ?_); rintro e wA ⟨r, rfl, hr, hbA0⟩; (obtain rfl : r = (i1 : Int) := hr.at HSG.out HI1.out); (have hbA := Below.next hyd hbA0); go_simp
          refine hK.out _ _ (by assumption) (fun hH => ?_)
          clear hK K
          try simp only [Act.put, List.setIfInBounds_toArray, List.set_cons_zero, List.set_cons_succ]
          refine wpK.take (i := 6) (v := _) (by simp only [List.getElem?_toArray, List.getElem?_cons_succ, List.getElem?_cons_zero]; rfl) (by kernel_rfl) (by kernel_rfl) (by kernel_rfl) (by kernel_rfl) (by kernel_rfl) (by exact fun _ _ _ h => h) (by first | exact Or.inl ⟨by rfl, by intro w hSw; go_simp; try with_reducible rfl⟩ | exact Or.inr ⟨by rfl, rfl⟩) hH ?_
          try simp only [Act.put, List.setIfInBounds_toArray, List.set_cons_zero, List.set_cons_succ]
          refine wpK.take (i := 7) (v := _) (by simp only [List.getElem?_toArray, List.getElem?_cons_succ, List.getElem?_cons_zero]; rfl) (by kernel_rfl) (by kernel_rfl) (by kernel_rfl) (by kernel_rfl) (by kernel_rfl) (by exact fun _ _ _ h => h) (by first | exact Or.inl ⟨by rfl, by intro w hSw; go_simp; try with_reducible rfl⟩ | exact Or.inr ⟨by rfl, rfl⟩) hH ?_
          try simp only [Act.put, List.setIfInBounds_toArray, List.set_cons_zero, List.set_cons_succ]
          refine wpK.take (i := 8) (v := _) (by simp only [List.getElem?_toArray, List.getElem?_cons_succ, List.getElem?_cons_zero]; rfl) (by kernel_rfl) (by kernel_rfl) (by kernel_rfl) (by kernel_rfl) (by kernel_rfl) (by exact fun _ _ _ h => h) (by first | exact Or.inl ⟨by rfl, by intro w hSw; go_simp; try with_reducible rfl⟩ | exact Or.inr ⟨by rfl, rfl⟩) hH ?_
          try simp only [Act.put, List.setIfInBounds_toArray, List.set_cons_zero, List.set_cons_succ]
          refine wpK.take (i := 9) (v := _) (by simp only [List.getElem?_toArray, List.getElem?_cons_succ, List.getElem?_cons_zero]; rfl) (by kernel_rfl) (by kernel_rfl) (by kernel_rfl) (by kernel_rfl) (by kernel_rfl) (by exact fun _ _ _ h => h) (by first | exact Or.inl ⟨by rfl, by intro w hSw; go_simp; try with_reducible rfl⟩ | exact Or.inr ⟨by rfl, rfl⟩) hH ?_
          try simp only [Act.put, List.setIfInBounds_toArray, List.set_cons_zero, List.set_cons_succ]
          refine wpK.take (i := 10) (v := _) (by simp only [List.getElem?_toArray, List.getElem?_cons_succ, List.getElem?_cons_zero]; rfl) (by kernel_rfl) (by kernel_rfl) (by kernel_rfl) (by kernel_rfl) (by kernel_rfl) (by exact fun _ _ _ h => h) (by first | exact Or.inl ⟨by rfl, by intro w hSw; go_simp; try with_reducible rfl⟩ | exact Or.inr ⟨by rfl, rfl⟩) hH ?_
          try simp only [Act.put, List.setIfInBounds_toArray, List.set_cons_zero, List.set_cons_succ]
          refine wpK.take (i := 11) (v := _) (by simp only [List.getElem?_toArray, List.getElem?_cons_succ, List.getElem?_cons_zero]; rfl) (by kernel_rfl) (by kernel_rfl) (by kernel_rfl) (by kernel_rfl) (by kernel_rfl) (by exact fun _ _ _ h => h) (by first | exact Or.inl ⟨by rfl, by intro w hSw; go_simp; try with_reducible rfl⟩ | exact Or.inr ⟨by rfl, rfl⟩) hH ?_
          try simp only [Act.put, List.setIfInBounds_toArray, List.set_cons_zero, List.set_cons_succ]
          refine wpK.take (i := 13) (v := _) (by simp only [List.getElem?_toArray, List.getElem?_cons_succ, List.getElem?_cons_zero]; rfl) (by kernel_rfl) (by kernel_rfl) (by kernel_rfl) (by kernel_rfl) (by kernel_rfl) (by exact fun _ _ _ h => h) (by first | exact Or.inl ⟨by rfl, by intro w hSw; go_simp; try with_reducible rfl⟩ | exact Or.inr ⟨by rfl, rfl⟩) hH ?_
          try simp only [Act.put, List.setIfInBounds_toArray, List.set_cons_zero, List.set_cons_succ]
          refine wpK.take (i := 14) (v := _) (by simp only [List.getElem?_toArray, List.getElem?_cons_succ, List.getElem?_cons_zero]; rfl) (by kernel_rfl) (by kernel_rfl) (by kernel_rfl) (by kernel_rfl) (by kernel_rfl) (by exact fun _ _ _ h => h) (by first | exact Or.inl ⟨by rfl, by intro w hSw; go_simp; try with_reducible rfl⟩ | exact Or.inr ⟨by rfl, rfl⟩) hH ?_
          try simp only [Act.put, List.setIfInBounds_toArray, List.set_cons_zero, List.set_cons_succ]
          refine wpK.take (i := 15) (v := _) (by simp only [List.getElem?_toArray, List.getElem?_cons_succ, List.getElem?_cons_zero]; rfl) (by kernel_rfl) (by kernel_rfl) (by kernel_rfl) (by kernel_rfl) (by kernel_rfl) (by exact fun _ _ _ h => h) (by first | exact Or.inl ⟨by rfl, by intro w hSw; go_simp; try with_reducible rfl⟩ | exact Or.inr ⟨by rfl, rfl⟩) hH ?_
          try simp only [Act.put, List.setIfInBounds_toArray, List.set_cons_zero, List.set_cons_succ]
          refine wpK.step (i := 12) (by kernel_rfl) (by simp only [List.getElem?_toArray, List.getElem?_cons_succ, List.getElem?_cons_zero]; rfl) (fun K hK => ?_)
          go_simp
          (refine (stall_Has _ (HS9.out.below hbA) oh false HHAS).mono ?_); rintro e wC ⟨rfl, rfl⟩; go_simp
          refine hK.out _ _ (by assumption) (fun hH => ?_)
          clear hK K
          try simp only [Act.put, List.setIfInBounds_toArray, List.set_cons_zero, List.set_cons_succ]
          refine wpK.step (i := 16) (by kernel_rfl) (by simp only [List.getElem?_toArray, List.getElem?_cons_succ, List.getElem?_cons_zero]; rfl) (fun K hK => ?_)
          go_simp
          (refine (ref23_Has wA (HR9.out.below hbA) oh).mono ?_); rintro e wE ⟨r, rfl, hr2, hbE0⟩; (obtain rfl : r = -1 := HasT.no hr2 HT.out); (have hbE := Below.next hbA hbE0); go_simp
          refine hK.out _ _ (by assumption) (fun hH => ?_)
          clear hK K
          try simp only [Act.put, List.setIfInBounds_toArray, List.set_cons_zero, List.set_cons_succ]
          refine wpK.take (i := 17) (v := _) (by simp only [List.getElem?_toArray, List.getElem?_cons_succ, List.getElem?_cons_zero]; rfl) (by kernel_rfl) (by kernel_rfl) (by kernel_rfl) (by kernel_rfl) (by kernel_rfl) (by exact fun _ _ _ h => h) (by first | exact Or.inl ⟨by rfl, by intro w hSw; go_simp; try with_reducible rfl⟩ | exact Or.inr ⟨by rfl, rfl⟩) hH ?_
          try simp only [Act.put, List.setIfInBounds_toArray, List.set_cons_zero, List.set_cons_succ]
          refine wpK.take (i := 18) (v := _) (by simp only [List.getElem?_toArray, List.getElem?_cons_succ, List.getElem?_cons_zero]; rfl) (by kernel_rfl) (by kernel_rfl) (by kernel_rfl) (by kernel_rfl) (by kernel_rfl) (by exact fun _ _ _ h => h) (by first | exact Or.inl ⟨by rfl, by intro w hSw; go_simp; try with_reducible rfl⟩ | exact Or.inr ⟨by rfl, rfl⟩) hH ?_
          try simp only [Act.put, List.setIfInBounds_toArray, List.set_cons_zero, List.set_cons_succ]
          refine wpK.take (i := 19) (v := _) (by simp only [List.getElem?_toArray, List.getElem?_cons_succ, List.getElem?_cons_zero]; rfl) (by kernel_rfl) (by kernel_rfl) (by kernel_rfl) (by kernel_rfl) (by kernel_rfl) (by exact fun _ _ _ h => h) (by first | exact Or.inl ⟨by rfl, by intro w hSw; go_simp; try with_reducible rfl⟩ | exact Or.inr ⟨by rfl, rfl⟩) hH ?_
          try simp only [Act.put, List.setIfInBounds_toArray, List.set_cons_zero, List.set_cons_succ]
          refine wpK.done (by kernel_rfl) ?_ _
          have HBE := hid hbE
          have HX := hid (HX9.out.below hbE)
          have HBO9 : Hid (Both wE s F' at' ct' ag' cg' X') := hid ⟨HS9.out.below hbE, HR9.out.below hbE, fun k q => by have := HBO8.out.fl k q; have := HL9.out.size; have := hbE.size; omega, fun k q => by have := HBO8.out.low k q; have := HL9.out.size; have := hbE.size; omega, HBO8.out.far⟩
          have HBB := hid (Below.next HB9.out hbE)
          have HNN : Hid (¬ F' bX ∧ (∀ k, (aB at' k ∨ aB ag' k) → k ≠ bX) ∧ X'.tills.length ≤ j + 1 ∧ X'.goods.length ≤ j + 1 ∧ (∀ k, F' k → w.heap.size ≤ k)) := hid ⟨HNF.out.1, HNF.out.2.1, by have := HLEN.out.1; have := HN.out.2.2.1; omega, by have := HLEN.out.2; have := HN.out.2.2.2.1; omega, HNF.out.2.2⟩
          clear e0 e1 e2 e3 hyd hbA0 hbA hbE0 hbE hr hr2
          go_wp2_with fail
          go_roundw
          case rel => exact ⟨j + 1, _, _, _, _, _, _, by go_num, by omega, HBO9, HX, HNN, HBB⟩
          case measure => simp [intOf]; omega
        | some tg =>
          have HHAS : Hid ((X'.tills.lookup oh).isSome = true) := hid (by rw [ht]; rfl)
          obtain ⟨i2_, hI2⟩ := List.mem_iff_getElem?.1 (lookup_mem ht)
          have i20 : (0 : Int) ≤ (i2_ : Int) := by omega
          have HI2 := hid hI2
          have HST := hid HBO8.out.st.inv.t1
          clear ht hI2
          go_wp2_with fail
          have hpp := stall_Price w8 HBO8.out.st ot
          rw [HPE.out] at hpp
          refine hpp.mono ?_
          rintro e w9 ⟨rfl, hb9⟩
          clear hpp cx2
          have HX9 := hid (HX8.out.below hb9)
          have HO9 := hid (HO8.out.below hb9)
          have HS9 := hid (HBO8.out.st.below hb9)
          have HR9 := hid (HBO8.out.rx.below hb9)
          have HB9 := hid (Below.next HB8.out hb9)
          have HL9 := hid hb9
          clear hb9
          go_upto_region 13 with fail
          have e0 : ∀ y, Below w9.heap.size w9 y → y.cell? ⟨bX, 0, none⟩ = some (.slice at' X'.tills.length ct') := fun y hy => by rw [(HX9.out.below hy).cell]; rfl
          have e1 : ∀ y, Below w9.heap.size w9 y → y.cell? ⟨bX, 1, none⟩ = some (.slice ag' X'.goods.length cg') := fun y hy => by rw [(HX9.out.below hy).cell]; rfl
          have e2 : ∀ y, Below w9.heap.size w9 y → y.cell? ⟨bb, 1, none⟩ = some (.int .i64 oh) := fun y hy => by rw [(HO9.out.below hy).cell]; rfl
          have e3 : ∀ y, Below w9.heap.size w9 y → y.cell? ⟨bb, 2, none⟩ = some (.int .i64 ot) := fun y hy => by rw [(HO9.out.below hy).cell]; rfl
          have hyd := (Below.refl w9.heap.size w9).drew
          refine wp_region_kept [] (fun y => Below w9.heap.size w9 y) (by kernel_rfl) (by assumption) (fun hH => ?_)
          refine wpK.take (i := 0) (v := _) (by simp only [List.getElem?_toArray, List.getElem?_cons_succ, List.getElem?_cons_zero]; rfl) (by kernel_rfl) (by kernel_rfl) (by kernel_rfl) (by kernel_rfl) (by kernel_rfl) (by exact fun _ _ _ h => h) (by first | exact Or.inl ⟨by rfl, by intro w hSw; go_simp; try with_reducible rfl⟩ | exact Or.inr ⟨by rfl, rfl⟩) hH ?_
          try simp only [Act.put, List.setIfInBounds_toArray, List.set_cons_zero, List.set_cons_succ]
          refine wpK.take (i := 1) (v := _) (by simp only [List.getElem?_toArray, List.getElem?_cons_succ, List.getElem?_cons_zero]; rfl) (by kernel_rfl) (by kernel_rfl) (by kernel_rfl) (by kernel_rfl) (by kernel_rfl) (by exact fun _ _ _ h => h) (by first | exact Or.inl ⟨by rfl, by intro w hSw; go_simp; try with_reducible rfl⟩ | exact Or.inr ⟨by rfl, rfl⟩) hH ?_
          try simp only [Act.put, List.setIfInBounds_toArray, List.set_cons_zero, List.set_cons_succ]
          refine wpK.take (i := 2) (v := _) (by simp only [List.getElem?_toArray, List.getElem?_cons_succ, List.getElem?_cons_zero]; rfl) (by kernel_rfl) (by kernel_rfl) (by kernel_rfl) (by kernel_rfl) (by kernel_rfl) (by exact fun _ _ _ h => h) (by first | exact Or.inl ⟨by rfl, by intro w hSw; go_simp; try with_reducible rfl⟩ | exact Or.inr ⟨by rfl, rfl⟩) hH ?_
          try simp only [Act.put, List.setIfInBounds_toArray, List.set_cons_zero, List.set_cons_succ]
          refine wpK.take (i := 3) (v := _) (by simp only [List.getElem?_toArray, List.getElem?_cons_succ, List.getElem?_cons_zero]; rfl) (by kernel_rfl) (by kernel_rfl) (by kernel_rfl) (by kernel_rfl) (by kernel_rfl) (by exact fun _ _ _ h => h) (by first | exact Or.inl ⟨by rfl, by intro w hSw; go_simp; try with_reducible rfl⟩ | exact Or.inr ⟨by rfl, rfl⟩) hH ?_
          try simp only [Act.put, List.setIfInBounds_toArray, List.set_cons_zero, List.set_cons_succ]
          refine wpK.take (i := 4) (v := _) (by simp only [List.getElem?_toArray, List.getElem?_cons_succ, List.getElem?_cons_zero]; rfl) (by kernel_rfl) (by kernel_rfl) (by kernel_rfl) (by kernel_rfl) (by kernel_rfl) (by exact fun _ _ _ h => h) (by first | exact Or.inl ⟨by rfl, by intro w hSw; go_simp; try with_reducible rfl⟩ | exact Or.inr ⟨by rfl, rfl⟩) hH ?_
          try simp only [Act.put, List.setIfInBounds_toArray, List.set_cons_zero, List.set_cons_succ]
          refine wpK.step (i := 5) (by kernel_rfl) (by simp only [List.getElem?_toArray, List.getElem?_cons_succ, List.getElem?_cons_zero]; rfl) (fun K hK => ?_)
          go_simp
          (refine (ref23_Find _ (HR9.out.below hyd) ot).mono ?_); rintro e wA ⟨r, rfl, hr, hbA0⟩; (obtain rfl : r = (i1 : Int) := hr.at HSG.out HI1.out); (have hbA := Below.next hyd hbA0); go_simp
          refine hK.out _ _ (by assumption) (fun hH => ?_)
          clear hK K
          try simp only [Act.put, List.setIfInBounds_toArray, List.set_cons_zero, List.set_cons_succ]
          refine wpK.take (i := 6) (v := _) (by simp only [List.getElem?_toArray, List.getElem?_cons_succ, List.getElem?_cons_zero]; rfl) (by kernel_rfl) (by kernel_rfl) (by kernel_rfl) (by kernel_rfl) (by kernel_rfl) (by exact fun _ _ _ h => h) (by first | exact Or.inl ⟨by rfl, by intro w hSw; go_simp; try with_reducible rfl⟩ | exact Or.inr ⟨by rfl, rfl⟩) hH ?_
          try simp only [Act.put, List.setIfInBounds_toArray, List.set_cons_zero, List.set_cons_succ]
          refine wpK.take (i := 7) (v := _) (by simp only [List.getElem?_toArray, List.getElem?_cons_succ, List.getElem?_cons_zero]; rfl) (by kernel_rfl) (by kernel_rfl) (by kernel_rfl) (by kernel_rfl) (by kernel_rfl) (by exact fun _ _ _ h => h) (by first | exact Or.inl ⟨by rfl, by intro w hSw; go_simp; try with_reducible rfl⟩ | exact Or.inr ⟨by rfl, rfl⟩) hH ?_
          try simp only [Act.put, List.setIfInBounds_toArray, List.set_cons_zero, List.set_cons_succ]
          refine wpK.take (i := 8) (v := _) (by simp only [List.getElem?_toArray, List.getElem?_cons_succ, List.getElem?_cons_zero]; rfl) (by kernel_rfl) (by kernel_rfl) (by kernel_rfl) (by kernel_rfl) (by kernel_rfl) (by exact fun _ _ _ h => h) (by first | exact Or.inl ⟨by rfl, by intro w hSw; go_simp; try with_reducible rfl⟩ | exact Or.inr ⟨by rfl, rfl⟩) hH ?_
          try simp only [Act.put, List.setIfInBounds_toArray, List.set_cons_zero, List.set_cons_succ]
          refine wpK.take (i := 9) (v := _) (by simp only [List.getElem?_toArray, List.getElem?_cons_succ, List.getElem?_cons_zero]; rfl) (by kernel_rfl) (by kernel_rfl) (by kernel_rfl) (by kernel_rfl) (by kernel_rfl) (by exact fun _ _ _ h => h) (by first | exact Or.inl ⟨by rfl, by intro w hSw; go_simp; try with_reducible rfl⟩ | exact Or.inr ⟨by rfl, rfl⟩) hH ?_
          try simp only [Act.put, List.setIfInBounds_toArray, List.set_cons_zero, List.set_cons_succ]
          refine wpK.take (i := 10) (v := _) (by simp only [List.getElem?_toArray, List.getElem?_cons_succ, List.getElem?_cons_zero]; rfl) (by kernel_rfl) (by kernel_rfl) (by kernel_rfl) (by kernel_rfl) (by kernel_rfl) (by exact fun _ _ _ h => h) (by first | exact Or.inl ⟨by rfl, by intro w hSw; go_simp; try with_reducible rfl⟩ | exact Or.inr ⟨by rfl, rfl⟩) hH ?_
          try simp only [Act.put, List.setIfInBounds_toArray, List.set_cons_zero, List.set_cons_succ]
          refine wpK.take (i := 11) (v := _) (by simp only [List.getElem?_toArray, List.getElem?_cons_succ, List.getElem?_cons_zero]; rfl) (by kernel_rfl) (by kernel_rfl) (by kernel_rfl) (by kernel_rfl) (by kernel_rfl) (by exact fun _ _ _ h => h) (by first | exact Or.inl ⟨by rfl, by intro w hSw; go_simp; try with_reducible rfl⟩ | exact Or.inr ⟨by rfl, rfl⟩) hH ?_
          try simp only [Act.put, List.setIfInBounds_toArray, List.set_cons_zero, List.set_cons_succ]
          refine wpK.take (i := 13) (v := _) (by simp only [List.getElem?_toArray, List.getElem?_cons_succ, List.getElem?_cons_zero]; rfl) (by kernel_rfl) (by kernel_rfl) (by kernel_rfl) (by kernel_rfl) (by kernel_rfl) (by exact fun _ _ _ h => h) (by first | exact Or.inl ⟨by rfl, by intro w hSw; go_simp; try with_reducible rfl⟩ | exact Or.inr ⟨by rfl, rfl⟩) hH ?_
          try simp only [Act.put, List.setIfInBounds_toArray, List.set_cons_zero, List.set_cons_succ]
          refine wpK.take (i := 14) (v := _) (by simp only [List.getElem?_toArray, List.getElem?_cons_succ, List.getElem?_cons_zero]; rfl) (by kernel_rfl) (by kernel_rfl) (by kernel_rfl) (by kernel_rfl) (by kernel_rfl) (by exact fun _ _ _ h => h) (by first | exact Or.inl ⟨by rfl, by intro w hSw; go_simp; try with_reducible rfl⟩ | exact Or.inr ⟨by rfl, rfl⟩) hH ?_
          try simp only [Act.put, List.setIfInBounds_toArray, List.set_cons_zero, List.set_cons_succ]
          refine wpK.take (i := 15) (v := _) (by simp only [List.getElem?_toArray, List.getElem?_cons_succ, List.getElem?_cons_zero]; rfl) (by kernel_rfl) (by kernel_rfl) (by kernel_rfl) (by kernel_rfl) (by kernel_rfl) (by exact fun _ _ _ h => h) (by first | exact Or.inl ⟨by rfl, by intro w hSw; go_simp; try with_reducible rfl⟩ | exact Or.inr ⟨by rfl, rfl⟩) hH ?_
          try simp only [Act.put, List.setIfInBounds_toArray, List.set_cons_zero, List.set_cons_succ]
          refine wpK.step (i := 12) (by kernel_rfl) (by simp only [List.getElem?_toArray, List.getElem?_cons_succ, List.getElem?_cons_zero]; rfl) (fun K hK => ?_)
          go_simp
          (refine (stall_Has _ (HS9.out.below hbA) oh true HHAS).mono ?_); rintro e wC ⟨rfl, rfl⟩; go_simp
          refine hK.out _ _ (by assumption) (fun hH => ?_)
          clear hK K
          try simp only [Act.put, List.setIfInBounds_toArray, List.set_cons_zero, List.set_cons_succ]
          refine wpK.step (i := 16) (by kernel_rfl) (by simp only [List.getElem?_toArray, List.getElem?_cons_succ, List.getElem?_cons_zero]; rfl) (fun K hK => ?_)
          go_simp
          (refine (ref23_Has wA (HR9.out.below hbA) oh).mono ?_); rintro e wE ⟨r, rfl, hr2, hbE0⟩; (obtain rfl : r = (i2_ : Int) := hr2.at HST.out HI2.out); (have hbE := Below.next hbA hbE0); go_simp
          refine hK.out _ _ (by assumption) (fun hH => ?_)
          clear hK K
          try simp only [Act.put, List.setIfInBounds_toArray, List.set_cons_zero, List.set_cons_succ]
          refine wpK.take (i := 17) (v := _) (by simp only [List.getElem?_toArray, List.getElem?_cons_succ, List.getElem?_cons_zero]; rfl) (by kernel_rfl) (by kernel_rfl) (by kernel_rfl) (by kernel_rfl) (by kernel_rfl) (by exact fun _ _ _ h => h) (by first | exact Or.inl ⟨by rfl, by intro w hSw; go_simp; try with_reducible rfl⟩ | exact Or.inr ⟨by rfl, rfl⟩) hH ?_
          try simp only [Act.put, List.setIfInBounds_toArray, List.set_cons_zero, List.set_cons_succ]
          refine wpK.take (i := 18) (v := _) (by simp only [List.getElem?_toArray, List.getElem?_cons_succ, List.getElem?_cons_zero]; rfl) (by kernel_rfl) (by kernel_rfl) (by kernel_rfl) (by kernel_rfl) (by kernel_rfl) (by exact fun _ _ _ h => h) (by first | exact Or.inl ⟨by rfl, by intro w hSw; go_simp; try with_reducible rfl⟩ | exact Or.inr ⟨by rfl, rfl⟩) hH ?_
          try simp only [Act.put, List.setIfInBounds_toArray, List.set_cons_zero, List.set_cons_succ]
          refine wpK.take (i := 19) (v := _) (by simp only [List.getElem?_toArray, List.getElem?_cons_succ, List.getElem?_cons_zero]; rfl) (by kernel_rfl) (by kernel_rfl) (by kernel_rfl) (by kernel_rfl) (by kernel_rfl) (by exact fun _ _ _ h => h) (by first | exact Or.inl ⟨by rfl, by intro w hSw; go_simp; try with_reducible rfl⟩ | exact Or.inr ⟨by rfl, rfl⟩) hH ?_
          try simp only [Act.put, List.setIfInBounds_toArray, List.set_cons_zero, List.set_cons_succ]
          refine wpK.done (by kernel_rfl) ?_ _
          have HBE := hid hbE
          have HX := hid (HX9.out.below hbE)
          have HBO9 : Hid (Both wE s F' at' ct' ag' cg' X') := hid ⟨HS9.out.below hbE, HR9.out.below hbE, fun k q => by have := HBO8.out.fl k q; have := HL9.out.size; have := hbE.size; omega, fun k q => by have := HBO8.out.low k q; have := HL9.out.size; have := hbE.size; omega, HBO8.out.far⟩
          have HBB := hid (Below.next HB9.out hbE)
          have HNN : Hid (¬ F' bX ∧ (∀ k, (aB at' k ∨ aB ag' k) → k ≠ bX) ∧ X'.tills.length ≤ j + 1 ∧ X'.goods.length ≤ j + 1 ∧ (∀ k, F' k → w.heap.size ≤ k)) := hid ⟨HNF.out.1, HNF.out.2.1, by have := HLEN.out.1; have := HN.out.2.2.1; omega, by have := HLEN.out.2; have := HN.out.2.2.2.1; omega, HNF.out.2.2⟩
          clear e0 e1 e2 e3 hyd hbA0 hbA hbE0 hbE hr hr2
          go_wp2_with fail
          go_roundw
          case rel => exact ⟨j + 1, _, _, _, _, _, _, by go_num, by omega, HBO9, HX, HNN, HBB⟩
          case measure => simp [intOf]; omega
    · have j1 : ¬ (j : Int) < (L.length : Int) := by omega
      go_wp2_with fail
      refine (law23_awake wr).mono ?_
      rintro e w7 ⟨rfl, hb7⟩
      have HB7 := hid (Below.next HB.out hb7)
      clear hb7
      go_wp2_with fail
      go_ret
      exact ⟨rfl, HB7.out⟩
set_option maxRecDepth 100000 in
set_option maxHeartbeats 1000000 in
theorem StallPlays_walk {H : Type} {enc : TypeId × Value → H} {b0 : Nat} {d0 : DataW H} {p0 : List MemPlace} (v0 : Value) (w : World) (ok0 : Value.okWide Try.prog w .any b0 22 v0) (k0 : DataW.Trod enc Try.prog w 0 (fun _ => true) true 22 v0 d0 p0) :
    Calls Try.prog 5 #[v0] w fun e w' => e = .returned (.bool true) ∧ Below w.heap.size w w' := by
  obtain ⟨L, hl⟩ := open_ops23 ok0 k0
  have HL := hid hl
  obtain ⟨a, c, rfl, h1, h2, -⟩ := hl
  clear ok0 k0
  have h63 : L.length ≤ 9223372036854775807 := by omega
  clear h1 h2
  by_cases h80 : L.length ≤ 80
  · exact law23_Plays L a c w HL.out h80
  · have i2 : (80 : Int) < (L.length : Int) := by omega
    clear h80
    go_enter Try.func5, Try.ntmps5
    go_wp2_with fail
    refine (stall_New w).mono ?_
    rintro e w1 ⟨s, rfl, h1, hb1⟩
    have HB1 := hid hb1
    clear h1 hb1
    go_wp2_with fail
    refine (law23_awake w1).mono ?_
    rintro e w7 ⟨rfl, hb7⟩
    have HB7 := hid (Below.next HB1.out hb7)
    clear hb7
    go_wp2_with fail
    go_ret
    exact ⟨rfl, HB7.out⟩
end Go.Proofs.Ytajfjgekcjkedaa
end
