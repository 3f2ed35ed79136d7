/- Joined texts, in this order: StallRestore, LayMaps. Each one's first remark says what it proves; no condition beyond those that its theorems name. -/
import Derived.Test.YtajfjgekcjkedaaJLawStallRestores26
import Derived.Shelf.SlGeneric
import Derived.Ground.SlmcProg
import Derived.Shelf.SlMaps.Clone
import Derived.Test.YtajfjgekcjkedaaProg
section
/- Contract of stall.Restore. -/
namespace Go.Proofs.Ytajfjgekcjkedaa
open Go.RowKit
open Go.Lib (hid)
set_option linter.unusedVariables false

theorem rOk_fail {L : List R3} {j : Nat} {p : R3} (e : L[j]? = some p) (h : (headOk (rX L j) (lastH L j) p && gOk (row0 (rX L j) p) p.1 p.2.2 p.2.2.length) = false) : rOk L L.length = false := by
  have hj : j < L.length := (List.getElem?_eq_some_iff.1 e).1
  have h1 : rOk L (j + 1) = false := by rw [rOk_step e, Bool.and_assoc, h, Bool.and_false]
  have := rOk_le h1 (L.length - (j + 1))
  rwa [show j + 1 + (L.length - (j + 1)) = L.length by omega] at this
theorem gOk_fail {X : StX} {h : Int} {gs : List (Int × Int)} {i : Nat} {g : Int × Int} (e : gs[i]? = some g) (hh : ((putE (gX X h gs i) h g.1 g.2 == 0) && (i == 0 || decide (prevT gs i < g.1))) = false) : gOk X h gs gs.length = false := by
  have hj : i < gs.length := (List.getElem?_eq_some_iff.1 e).1
  have h1 : gOk X h gs (i + 1) = false := by rw [gOk_step e, Bool.and_assoc, hh, Bool.and_false]
  have := gOk_le h1 (gs.length - (i + 1))
  rwa [show i + 1 + (gs.length - (i + 1)) = gs.length by omega] at this
def ResPost23 (w : World) (L : List R3) (e : Ending) (w' : World) : Prop :=
  Below w.heap.size w w' ∧ (rOk L L.length = false → e = .returned (.tuple #[.pointer none, .bool false])) ∧ (rOk L L.length = true → ∃ s, e = .returned (.tuple #[.pointer (some ⟨s, 0, none⟩), .bool true]) ∧ StallIs w' s (fun k => w.heap.size ≤ k) (rX L L.length))
theorem ResPost23.no {w w' : World} {L : List R3} (hb : Below w.heap.size w w') (h : rOk L L.length = false) : ResPost23 w L (.returned (.tuple #[.pointer none, .bool false])) w' :=
  ⟨hb, fun _ => rfl, fun q => by rw [h] at q; cases q⟩
def Res23L (w : World) (s : Nat) (L : List R3) (v5 v13 : Value) (wr : World) : Prop :=
  ∃ j : Nat, v5 = .int .i64 (lastH L j) ∧ v13 = .int .i64 (j : Int) ∧ j ≤ L.length ∧ rOk L j = true ∧ StallIs wr s (fun k => w.heap.size ≤ k) (rX L j) ∧ Below w.heap.size w wr
def Res23I (w : World) (s : Nat) (X0 : StX) (h : Int) (gs : List (Int × Int)) (x : Nat) (c : Array Value) (v50 : Value) (wr : World) : Prop :=
  ∃ i : Nat, v50 = .int .i64 (i : Int) ∧ i ≤ gs.length ∧ gOk X0 h gs i = true ∧ StallIs wr s (fun k => w.heap.size ≤ k ∧ k ≠ x) (gX X0 h gs i) ∧ Blk wr x c ∧ Below w.heap.size w wr
set_option maxRecDepth 100000 in
set_option maxHeartbeats 8000000 in
theorem stall_Restore (L : List R3) (v : Value) (w : World) (h : SlE RowE23 3 w v L) (hl : L.length ≤ 30) (hg : ∀ p ∈ L, p.2.2.length ≤ 30) :
    Calls Try.prog 19 #[v] w (ResPost23 w L) := by
  have HE := hid h
  have HG := hid hg
  obtain ⟨a, c, rfl, -⟩ := h
  clear hg
  go_enter Try.func19, Try.ntmps19
  go_wp2_with fail
  refine (stall_New w).mono ?_
  rintro e w1 ⟨s, rfl, hc, hb⟩
  have HC := hid hc
  have HB := hid hb
  clear hc hb
  go_wp2_with fail
  go_loopw [5, 13] (fun v5 v13 wr => Res23L w s L v5 v13 wr) (fun _ v13 _ => L.length - (intOf v13).toNat)
  case atStart => exact ⟨0, rfl, rfl, by omega, rfl, HC.out, HB.out⟩
  case round =>
    clear HC HB
    obtain ⟨j, hv5, rfl, hj, hok, hst, hbr⟩ := hrel
    obtain ⟨la, hla⟩ : ∃ la, lastH L j = la := ⟨_, rfl⟩
    rw [hla] at hv5
    subst hv5
    obtain ⟨X, hX⟩ : ∃ X, rX L j = X := ⟨_, rfl⟩
    rw [hX] at hst
    have HLA := hid hla
    have HX := hid hX
    have HOK := hid hok
    have HST := hid hst
    have HBR := hid hbr
    clear hla hX hok hst
    by_cases hlt : j < L.length
    · obtain ⟨p, hp⟩ : ∃ p, L[j]? = some p := ⟨_, List.getElem?_eq_getElem hlt⟩
      have HP := hid hp
      have hgl := HG.out p (List.mem_of_getElem? hp)
      obtain ⟨b, off, au, cu, rfl, c0w, c1w, c2w, hsl, i1, i2, i3⟩ := HE.out.row23 (Below.refl _ _) hp
      have hbs := World.block_lt_of_cell? w _ c0w
      have c0 := (World.cell?_of_block (a := ⟨b, off + j * 3, none⟩) (hbr.block b hbs)).trans c0w
      have c1 := (World.cell?_of_block (a := ⟨b, off + j * 3 + 1, none⟩) (hbr.block b hbs)).trans c1w
      have c2 := (World.cell?_of_block (a := ⟨b, off + j * 3 + 2, none⟩) (hbr.block b hbs)).trans c2w
      clear c0w c1w c2w hbs
      obtain ⟨hh, till, gs⟩ := p
      simp only at c0 c1 c2 hsl i1 i2 i3 hgl
      have HFAIL : Hid ((headOk X la (hh, till, gs) && gOk (row0 X (hh, till, gs)) hh gs gs.length) = false → rOk L L.length = false) := hid (fun q => rOk_fail hp (by rw [HX.out, HLA.out]; exact q))
      have HSL := hid hsl
      have HI1 := hid i1
      have HI3 := hid i3
      have HGL := hid hgl
      have e0 : (0 : Int) ≤ (j : Int) := by omega
      have e1 : (j : Int) < (L.length : Int) := by omega
      clear hp hsl i1 i2 i3 hbr hgl
      go_upto_region 6 with fail
      obtain ⟨w5, hw5⟩ : ∃ w5, w5 = wr.alloc (.cells #[.int .i64 hh, .int .i64 till, .slice au gs.length cu] 37) := ⟨_, rfl⟩
      rw [← hw5]
      obtain ⟨x, hx⟩ : ∃ x, x = wr.heap.size := ⟨_, rfl⟩
      rw [← hx]
      have hb5 : Below wr.heap.size wr w5 := by rw [hw5]; exact Below.new _ _
      have HX5 : Hid (Blk w5 x #[.int .i64 hh, .int .i64 till, .slice au gs.length cu]) := hid (by rw [hw5, hx]; exact Blk.new _ _ _)
      have HB5 := hid (Below.next HBR.out hb5)
      have HXW : Hid (w.heap.size ≤ x) := hid (by have := HBR.out.size; omega)
      have HS5 : Hid (StallIs w5 s (fun k => w.heap.size ≤ k ∧ k ≠ x) X) := hid ((HST.out.weaken (fun k q q2 => ⟨q, by omega⟩)).below hb5)
      clear hw5 hx hb5 c0 c1 c2
      have x0 : w5.cell? ⟨x, 0, none⟩ = some (.int .i64 hh) := by rw [HX5.out.cell]; rfl
      have x1 : w5.cell? ⟨x, 1, none⟩ = some (.int .i64 till) := by rw [HX5.out.cell]; rfl
      by_cases h1 : hh ≤ la
      · have hno : rOk L L.length = false := HFAIL.out (by unfold headOk; simp [show ¬ la < hh by omega])
        have HNO := hid hno
        clear hno
        go_wp2_with fail
        go_ret2
        exact ResPost23.no HB5.out HNO.out
      · by_cases h2 : goldR till = true
        · have HGR := hid h2
          have hrng := (by unfold goldR at h2; simpa using h2 : 0 ≤ till ∧ till ≤ 1099511627776)
          have HRNG := hid hrng
          clear h2 hrng
          obtain ⟨X1, hX1⟩ : ∃ X1, (openX X hh).1 = X1 := ⟨_, rfl⟩
          by_cases h3 : (openX X hh).2 = 0
          · have hok1 : ¬ hh < 1 := fun q => by rw [openX_lt q] at h3; simp at h3
            have hnone : X.tills.lookup hh = none := by
              cases q : X.tills.lookup hh with
              | none => rfl
              | some g => rw [openX_has hok1 (by rw [q]; rfl)] at h3; simp at h3
            have hop := openX_new hok1 hnone
            have HHEAD : Hid (headOk X la (hh, till, gs) = true) := hid (by unfold headOk; have := HRNG.out; simp [h3]; omega)
            have HL1 : Hid ((insK kT X.tills (hh, 0)).lookup hh = some 0) := hid (by rw [look_insK hnone, if_pos rfl])
            have HR0 : Hid (row0 X (hh, till, gs) = setX ⟨insK kT X.tills (hh, 0), X.goods⟩ hh till) := hid (by unfold row0; rw [hop])
            have HOP := hid hop
            clear hX1 h3 hok1 hnone hop
            go_wp2_with fail
            refine (gold_Right till w5).mono ?_
            rintro e w6 ⟨rfl, rfl⟩
            rw [HGR.out]
            go_wp2_with fail
            have hq := stall_Open w5 HS5.out hh HI1.out.2
            rw [HOP.out] at hq
            refine hq.mono ?_
            rintro e w6 ⟨rfl, hs6, hu⟩
            have HB6 := hid (HB5.out.trans (hu.below HB5.out.size (fun k _ q => q.1)))
            have HS6 : Hid (StallIs w6 s (fun k => w.heap.size ≤ k ∧ k ≠ x) ⟨insK kT X.tills (hh, 0), X.goods⟩) := hid (hs6.weaken (fun k q _ => by
              rcases q with q | q
              · exact q
              · have := HB5.out.size; have := HX5.out.lt; exact ⟨by omega, by omega⟩))
            have HX6 := hid (HX5.out.upd hu (fun q => q.2 rfl))
            clear hs6 hu hq x0 x1
            obtain ⟨b1, b2, R, A, hpp, hrr, hii⟩ := HS6.out
            obtain ⟨R1, r, R2, hR, hrh, hrt, hrg⟩ := hpp.at hrr HL1.out
            obtain ⟨cs0, -⟩ := hpp.cells
            have HM1 := hid hpp.m1
            have H1 : Hid (((R.map RowG.ptr).lookup hh).getD (.pointer none) = .pointer (some ⟨r.p, 0, none⟩)) := hid (by rw [← hrh, hpp.look hR]; rfl)
            have hrow := hpp.row r (by rw [hR]; simp)
            obtain ⟨-, d1, -⟩ := hrow.cells
            have f1 : w6.frozen? ⟨r.p, 1, none⟩ = false := hrow.blk.unfrozen 1
            have HTI := hid (hpp.till hrr hii hR (g := till) HRNG.out)
            have HRH := hid hrh
            have x0 : w6.cell? ⟨x, 0, none⟩ = some (.int .i64 hh) := by rw [HX6.out.cell]; rfl
            have x1 : w6.cell? ⟨x, 1, none⟩ = some (.int .i64 till) := by rw [HX6.out.cell]; rfl
            clear hpp hrr hii hR hrh hrt hrg hrow
            go_upto_region 9 with fail
            have hlk : ∀ y, Below w6.heap.size w6 y → (Instr.lookup 64 (.map (some b1)) (.int .i64 hh) false).run Try.prog y = .ok (.pointer (some ⟨r.p, 0, none⟩)) y := fun y hy => by
              have := (HM1.out.below hy).run_lookup (P := Try.prog) Try.underlying64 Try.underlying3 (.pointer none) (zero_rowp y) hh false
              rw [H1.out] at this
              exact this
            have e0' : ∀ y, Below w6.heap.size w6 y → y.cell? ⟨s, 0, none⟩ = some (.map (some b1)) := fun y hy => by rw [← cs0]; exact World.cell?_of_block (hy.block s (World.block_lt_of_cell? w6 _ cs0))
            have e1' : ∀ y, Below w6.heap.size w6 y → y.cell? ⟨x, 0, none⟩ = some (.int .i64 hh) := fun y hy => by rw [(HX6.out.below hy).cell]; rfl
            have e2' : ∀ y, Below w6.heap.size w6 y → y.cell? ⟨x, 1, none⟩ = some (.int .i64 till) := fun y hy => by rw [(HX6.out.below hy).cell]; rfl
            have hyd := (Below.refl w6.heap.size w6).drew
            clear cs0 x0 x1
            refine wp_region_kept [9, 10, 11] (fun y => Below w6.heap.size w6 y) (by kernel_rfl) (by assumption) (fun hH => ?_)
            refine wpK.take (i := 0) (v := _) (by simp only [List.getElem?_toArray, List.getElem?_cons_succ, List.getElem?_cons_zero]; rfl) (by kernel_rfl) (by kernel_rfl) (by kernel_rfl) (by kernel_rfl) (by kernel_rfl) (by exact fun _ _ _ h => h) (by first | exact Or.inl ⟨by rfl, by intro w hSw; go_simp; try with_reducible rfl⟩ | exact Or.inr ⟨by rfl, rfl⟩) hH ?_
            try simp only [Act.put, List.setIfInBounds_toArray, List.set_cons_zero, List.set_cons_succ]
            refine wpK.take (i := 1) (v := _) (by simp only [List.getElem?_toArray, List.getElem?_cons_succ, List.getElem?_cons_zero]; rfl) (by kernel_rfl) (by kernel_rfl) (by kernel_rfl) (by kernel_rfl) (by kernel_rfl) (by exact fun _ _ _ h => h) (by first | exact Or.inl ⟨by rfl, by intro w hSw; go_simp; try with_reducible rfl⟩ | exact Or.inr ⟨by rfl, rfl⟩) hH ?_
            try simp only [Act.put, List.setIfInBounds_toArray, List.set_cons_zero, List.set_cons_succ]
            refine wpK.take (i := 2) (v := _) (by simp only [List.getElem?_toArray, List.getElem?_cons_succ, List.getElem?_cons_zero]; rfl) (by kernel_rfl) (by kernel_rfl) (by kernel_rfl) (by kernel_rfl) (by kernel_rfl) (by exact fun _ _ _ h => h) (by first | exact Or.inl ⟨by rfl, by intro w hSw; go_simp; try with_reducible rfl⟩ | exact Or.inr ⟨by rfl, rfl⟩) hH ?_
            try simp only [Act.put, List.setIfInBounds_toArray, List.set_cons_zero, List.set_cons_succ]
            refine wpK.take (i := 3) (v := _) (by simp only [List.getElem?_toArray, List.getElem?_cons_succ, List.getElem?_cons_zero]; rfl) (by kernel_rfl) (by kernel_rfl) (by kernel_rfl) (by kernel_rfl) (by kernel_rfl) (by exact fun _ _ _ h => h) (by first | exact Or.inl ⟨by rfl, by intro w hSw; go_simp; try with_reducible rfl⟩ | exact Or.inr ⟨by rfl, rfl⟩) hH ?_
            try simp only [Act.put, List.setIfInBounds_toArray, List.set_cons_zero, List.set_cons_succ]
            refine wpK.take (i := 4) (v := _) (by simp only [List.getElem?_toArray, List.getElem?_cons_succ, List.getElem?_cons_zero]; rfl) (by kernel_rfl) (by kernel_rfl) (by kernel_rfl) (by kernel_rfl) (by kernel_rfl) (by exact fun _ _ _ h => h) (by first | exact Or.inl ⟨by rfl, by intro w hSw; go_simp; try with_reducible rfl⟩ | exact Or.inr ⟨by rfl, rfl⟩) hH ?_
            try simp only [Act.put, List.setIfInBounds_toArray, List.set_cons_zero, List.set_cons_succ]
            refine wpK.take (i := 5) (v := _) (by simp only [List.getElem?_toArray, List.getElem?_cons_succ, List.getElem?_cons_zero]; rfl) (by kernel_rfl) (by kernel_rfl) (by kernel_rfl) (by kernel_rfl) (by kernel_rfl) (by exact fun _ _ _ h => h) (by first | exact Or.inl ⟨by rfl, by intro w hSw; go_simp; try with_reducible rfl⟩ | exact Or.inr ⟨by rfl, rfl⟩) hH ?_
            try simp only [Act.put, List.setIfInBounds_toArray, List.set_cons_zero, List.set_cons_succ]
            refine wpK.take (i := 6) (v := _) (by simp only [List.getElem?_toArray, List.getElem?_cons_succ, List.getElem?_cons_zero]; rfl) (by kernel_rfl) (by kernel_rfl) (by kernel_rfl) (by kernel_rfl) (by kernel_rfl) (by exact fun _ _ _ h => h) (by first | exact Or.inl ⟨by rfl, by intro w hSw; go_simp; try with_reducible rfl⟩ | exact Or.inr ⟨by rfl, rfl⟩) hH ?_
            try simp only [Act.put, List.setIfInBounds_toArray, List.set_cons_zero, List.set_cons_succ]
            refine wpK.take (i := 7) (v := _) (by simp only [List.getElem?_toArray, List.getElem?_cons_succ, List.getElem?_cons_zero]; rfl) (by kernel_rfl) (by kernel_rfl) (by kernel_rfl) (by kernel_rfl) (by kernel_rfl) (by exact fun _ _ _ h => h) (by first | exact Or.inl ⟨by rfl, by intro w hSw; go_simp; try with_reducible rfl⟩ | exact Or.inr ⟨by rfl, rfl⟩) hH ?_
            try simp only [Act.put, List.setIfInBounds_toArray, List.set_cons_zero, List.set_cons_succ]
            refine wpK.take (i := 8) (v := _) (by simp only [List.getElem?_toArray, List.getElem?_cons_succ, List.getElem?_cons_zero]; rfl) (by kernel_rfl) (by kernel_rfl) (by kernel_rfl) (by kernel_rfl) (by kernel_rfl) (by exact fun _ _ _ h => h) (by first | exact Or.inl ⟨by rfl, by intro w hSw; go_simp; try with_reducible rfl⟩ | exact Or.inr ⟨by rfl, rfl⟩) hH ?_
            try simp only [Act.put, List.setIfInBounds_toArray, List.set_cons_zero, List.set_cons_succ]
            refine wpK.late (i := 9) (by kernel_rfl) (by simp only [List.getElem?_toArray, List.getElem?_cons_succ, List.getElem?_cons_zero]; rfl) (by kernel_rfl) (fun K hK => ?_)
            go_simp
            refine hK.out _ _ ?_
            clear hK K
            try simp only [Act.put, List.setIfInBounds_toArray, List.set_cons_zero, List.set_cons_succ]
            refine wpK.late (i := 10) (by kernel_rfl) (by simp only [List.getElem?_toArray, List.getElem?_cons_succ, List.getElem?_cons_zero]; rfl) (by kernel_rfl) (fun K hK => ?_)
            go_simp
            refine hK.out _ _ ?_
            clear hK K
            try simp only [Act.put, List.setIfInBounds_toArray, List.set_cons_zero, List.set_cons_succ]
            refine wpK.late (i := 11) (by kernel_rfl) (by simp only [List.getElem?_toArray, List.getElem?_cons_succ, List.getElem?_cons_zero]; rfl) (by kernel_rfl) (fun K hK => ?_)
            go_simp
            refine hK.out _ _ ?_
            clear hK K
            try simp only [Act.put, List.setIfInBounds_toArray, List.set_cons_zero, List.set_cons_succ]
            refine wpK.done (by kernel_rfl) ?_ _
            have HS7 : Hid (StallIs ((w6.setCell ⟨r.p, 1, none⟩ (.int .i64 till)).drew) s (fun k => w.heap.size ≤ k ∧ k ≠ x) (row0 X (hh, till, gs))) := hid (by
              have hz := HTI.out.2.1
              rw [HRH.out, ← HR0.out] at hz
              exact (hz.weaken (fun k q _ => by
                rcases q with q | q
                · exact q
                · have := HB6.out.size; have := HX6.out.lt; exact ⟨by omega, by omega⟩)).below (Below.refl _ _).drew)
            have HU7 : Hid (Upd (fun k => w.heap.size ≤ k ∧ k ≠ x) w6 ((w6.setCell ⟨r.p, 1, none⟩ (.int .i64 till)).drew)) := hid (HTI.out.2.2.drew)
            generalize World.drew (World.setCell w6 _ _) = w7 at HS7 HU7
            have HX7 := hid (HX6.out.upd HU7.out (fun q => q.2 rfl))
            have HB7 : Hid (Below w.heap.size w w7) := hid (HB6.out.trans (HU7.out.below HB6.out.size (fun k _ q => q.1)))
            clear e0' e1' e2' hlk hyd d1 f1 hH
            have x0 : w7.cell? ⟨x, 0, none⟩ = some (.int .i64 hh) := by rw [HX7.out.cell]; rfl
            have x2 : w7.cell? ⟨x, 2, none⟩ = some (.slice au gs.length cu) := by rw [HX7.out.cell]; rfl
            obtain ⟨X0, hX0⟩ : ∃ X0, row0 X (hh, till, gs) = X0 := ⟨_, rfl⟩
            rw [hX0] at HS7 HFAIL
            have HX0 := hid hX0
            have HF2 : Hid (gOk X0 hh gs gs.length = false → rOk L L.length = false) := hid (fun q => HFAIL.out (by rw [q, Bool.and_false]))
            clear hX0 HFAIL
            go_wp2_with fail
            clear x0 x2
            go_loopw [50] (fun v50 wr => Res23I w s X0 hh gs x #[.int .i64 hh, .int .i64 till, .slice au gs.length cu] v50 wr) (fun v50 _ => gs.length - (intOf v50).toNat)
            case atStart => exact ⟨0, rfl, by omega, rfl, HS7.out, HX7.out, HB7.out⟩
            case round =>
              clear HX7 HS7 HU7 HX6 HS6 HM1 H1 HTI HX5 HS5
              obtain ⟨wo, hwo⟩ : ∃ wo : World, wo = wr := ⟨_, rfl⟩
              obtain ⟨i, rfl, hi, hgok, hst, hblk, hbr⟩ := hrel
              have HST := hid hst
              have HBI := hid hbr
              have HXI := hid hblk
              have HGOK := hid hgok
              clear hst hbr hblk hgok
              by_cases hli : i < gs.length
              · obtain ⟨aa, cc, ee, hrd, hcap, -⟩ := HSL.out.below HBI.out
                simp only [Value.slice.injEq, true_and] at ee
                obtain ⟨rfl, rfl⟩ := ee
                obtain ⟨bu, ou, t, pr, rfl, d0, d1, hat, -, -⟩ := hrd.pair i hli
                have hbu : bu < w.heap.size := by
                  obtain ⟨a2, c2, e2, hrd2, -⟩ := HSL.out
                  simp only [Value.slice.injEq, true_and] at e2
                  obtain ⟨rfl, rfl⟩ := e2
                  obtain ⟨bu2, ou2, t2, pr2, q0, q1, -⟩ := hrd2.pair i hli
                  simp only [Option.some.injEq, Addr.mk.injEq, and_true] at q0
                  obtain ⟨rfl, rfl⟩ := q0
                  exact World.block_lt_of_cell? w _ q1
                have HBU := hid hbu
                have HT63 : Hid (t ≤ 9223372036854775807) := hid (HI3.out _ (List.mem_of_getElem? hat)).1.2
                have HAT := hid hat
                have hfail : ((putE (gX X0 hh gs i) hh t pr == 0) && (i == 0 || decide (prevT gs i < t))) = false → rOk L L.length = false := fun q => HF2.out (gOk_fail hat q)
                have HFAIL := hid hfail
                obtain ⟨X2, hX2⟩ : ∃ X2, gX X0 hh gs i = X2 := ⟨_, rfl⟩
                rw [hX2] at HST HFAIL
                have HX2 := hid hX2
                obtain ⟨g, hg⟩ : ∃ g, g = wr.heap.size := ⟨_, rfl⟩
                have HS0 : Hid (StallIs wr s (fun k => (w.heap.size ≤ k ∧ k ≠ x) ∧ k < g) X2) := hid (HST.out.weaken (fun k q q2 => ⟨q, by omega⟩))
                have i0 : (0 : Int) ≤ (i : Int) := by omega
                have i1 : (i : Int) < (gs.length : Int) := by omega
                have x2 : wr.cell? ⟨x, 2, none⟩ = some (.slice (some ⟨bu, ou, none⟩) gs.length cu) := by rw [HXI.out.cell]; rfl
                have HHRD := hid hrd
                clear hrd hat hfail hX2 hbu hcap hwo wo
                go_upto_region 13 with fail
                obtain ⟨w8, hw8⟩ : ∃ w8, w8 = wr.alloc (.cells #[.int .i64 t, .int .i64 pr] 51) := ⟨_, rfl⟩
                rw [← hw8]
                rw [← hg]
                have hb8 : Below wr.heap.size wr w8 := by rw [hw8]; exact Below.new _ _
                have HG8 : Hid (Blk w8 g #[.int .i64 t, .int .i64 pr]) := hid (by rw [hw8, hg]; exact Blk.new _ _ _)
                have HX8 := hid (HXI.out.below hb8)
                have HS8 := hid (HS0.out.below hb8)
                have HB8 := hid (Below.next HBI.out hb8)
                have HG0 : Hid (w.heap.size ≤ g ∧ x < g) := hid ⟨by have := HBI.out.size; omega, by have := HXI.out.lt; omega⟩
                have HRD8 : Hid (Rd w8 (some ⟨bu, ou, none⟩) (pv gs)) := hid (HHRD.out.below hb8 (fun b off q _ => by cases q; have := HBI.out.size; have := HBU.out; omega))
                clear hw8 hb8 hg d0 d1 x2
                have hyd : Upd (fun k => (w.heap.size ≤ k ∧ k ≠ x) ∧ k < g) w8 w8.drew := Upd.of_below (Below.refl _ _).drew
                have x0 : ∀ y, Upd (fun k => (w.heap.size ≤ k ∧ k ≠ x) ∧ k < g) w8 y → y.cell? ⟨x, 0, none⟩ = some (.int .i64 hh) := fun y hy => by rw [(HX8.out.upd hy (fun q => q.1.2 rfl)).cell]; rfl
                have x2 : ∀ y, Upd (fun k => (w.heap.size ≤ k ∧ k ≠ x) ∧ k < g) w8 y → y.cell? ⟨x, 2, none⟩ = some (.slice (some ⟨bu, ou, none⟩) gs.length cu) := fun y hy => by rw [(HX8.out.upd hy (fun q => q.1.2 rfl)).cell]; rfl
                have g0 : ∀ y, Upd (fun k => (w.heap.size ≤ k ∧ k ≠ x) ∧ k < g) w8 y → y.cell? ⟨g, 0, none⟩ = some (.int .i64 t) := fun y hy => by rw [(HG8.out.upd hy (fun q => by have := q.2; omega)).cell]; rfl
                have g1 : ∀ y, Upd (fun k => (w.heap.size ≤ k ∧ k ≠ x) ∧ k < g) w8 y → y.cell? ⟨g, 1, none⟩ = some (.int .i64 pr) := fun y hy => by rw [(HG8.out.upd hy (fun q => by have := q.2; omega)).cell]; rfl
                have hgo : ∀ w9, StallIs w9 s (fun k => ((w.heap.size ≤ k ∧ k ≠ x) ∧ k < g) ∨ w8.heap.size ≤ k) (putX X2 hh t pr) → Upd (fun k => (w.heap.size ≤ k ∧ k ≠ x) ∧ k < g) w8 w9 → StallIs w9 s (fun k => w.heap.size ≤ k ∧ k ≠ x) (putX X2 hh t pr) ∧ Blk w9 x #[.int .i64 hh, .int .i64 till, .slice (some ⟨bu, ou, none⟩) gs.length cu] ∧ Below w.heap.size w w9 := fun w9 h1 h2 =>
                  ⟨h1.weaken (fun k q _ => by
                    rcases q with q | q
                    · exact q.1
                    · have := HB8.out.size; have := HX8.out.lt; exact ⟨by omega, by omega⟩), HX8.out.upd h2 (fun q => q.1.2 rfl), HB8.out.trans (h2.below HB8.out.size (fun k _ q => q.1.1))⟩
                have HGO := hid hgo
                clear hgo
                have hi63 : (i : Int) ≤ 30 := by have := HGL.out; omega
                obtain ⟨E, hE⟩ : ∃ E, putE X2 hh t pr = E := ⟨_, rfl⟩
                have HEE := hid hE
                clear hE
                by_cases hz : i = 0
                · have HZ := hid hz
                  have z1 : decide ((0 : Int) < (i : Int)) = false := by simp; omega
                  have z0 : decide (0 < i) = false := by simp; omega
                  clear hz
                  refine wp_region_kept [] (fun y => Upd (fun k => (w.heap.size ≤ k ∧ k ≠ x) ∧ k < g) w8 y) (by kernel_rfl) (by assumption) (fun hH => ?_)
                  refine wpK.take (i := 0) (v := _) (by simp only [List.getElem?_toArray, List.getElem?_cons_succ, List.getElem?_cons_zero]; rfl) (by kernel_rfl) (by kernel_rfl) (by kernel_rfl) (by kernel_rfl) (by kernel_rfl) (by exact fun _ _ _ h => h) (by first | exact Or.inl ⟨by rfl, by intro w hSw; go_simp; try with_reducible rfl⟩ | exact Or.inr ⟨by rfl, rfl⟩) hH ?_
                  try simp only [Act.put, List.setIfInBounds_toArray, List.set_cons_zero, List.set_cons_succ]
                  refine wpK.take (i := 1) (v := _) (by simp only [List.getElem?_toArray, List.getElem?_cons_succ, List.getElem?_cons_zero]; rfl) (by kernel_rfl) (by kernel_rfl) (by kernel_rfl) (by kernel_rfl) (by kernel_rfl) (by exact fun _ _ _ h => h) (by first | exact Or.inl ⟨by rfl, by intro w hSw; go_simp; try with_reducible rfl⟩ | exact Or.inr ⟨by rfl, rfl⟩) hH ?_
                  try simp only [Act.put, List.setIfInBounds_toArray, List.set_cons_zero, List.set_cons_succ]
                  refine wpK.take (i := 2) (v := _) (by simp only [List.getElem?_toArray, List.getElem?_cons_succ, List.getElem?_cons_zero]; rfl) (by kernel_rfl) (by kernel_rfl) (by kernel_rfl) (by kernel_rfl) (by kernel_rfl) (by exact fun _ _ _ h => h) (by first | exact Or.inl ⟨by rfl, by intro w hSw; go_simp; try with_reducible rfl⟩ | exact Or.inr ⟨by rfl, rfl⟩) hH ?_
                  try simp only [Act.put, List.setIfInBounds_toArray, List.set_cons_zero, List.set_cons_succ]
                  refine wpK.take (i := 3) (v := _) (by simp only [List.getElem?_toArray, List.getElem?_cons_succ, List.getElem?_cons_zero]; rfl) (by kernel_rfl) (by kernel_rfl) (by kernel_rfl) (by kernel_rfl) (by kernel_rfl) (by exact fun _ _ _ h => h) (by first | exact Or.inl ⟨by rfl, by intro w hSw; go_simp; try with_reducible rfl⟩ | exact Or.inr ⟨by rfl, rfl⟩) hH ?_
                  try simp only [Act.put, List.setIfInBounds_toArray, List.set_cons_zero, List.set_cons_succ]
                  refine wpK.take (i := 4) (v := _) (by simp only [List.getElem?_toArray, List.getElem?_cons_succ, List.getElem?_cons_zero]; rfl) (by kernel_rfl) (by kernel_rfl) (by kernel_rfl) (by kernel_rfl) (by kernel_rfl) (by exact fun _ _ _ h => h) (by first | exact Or.inl ⟨by rfl, by intro w hSw; go_simp; try with_reducible rfl⟩ | exact Or.inr ⟨by rfl, rfl⟩) hH ?_
                  try simp only [Act.put, List.setIfInBounds_toArray, List.set_cons_zero, List.set_cons_succ]
                  refine wpK.take (i := 5) (v := _) (by simp only [List.getElem?_toArray, List.getElem?_cons_succ, List.getElem?_cons_zero]; rfl) (by kernel_rfl) (by kernel_rfl) (by kernel_rfl) (by kernel_rfl) (by kernel_rfl) (by exact fun _ _ _ h => h) (by first | exact Or.inl ⟨by rfl, by intro w hSw; go_simp; try with_reducible rfl⟩ | exact Or.inr ⟨by rfl, rfl⟩) hH ?_
                  try simp only [Act.put, List.setIfInBounds_toArray, List.set_cons_zero, List.set_cons_succ]
                  refine wpK.take (i := 6) (v := _) (by simp only [List.getElem?_toArray, List.getElem?_cons_succ, List.getElem?_cons_zero]; rfl) (by kernel_rfl) (by kernel_rfl) (by kernel_rfl) (by kernel_rfl) (by kernel_rfl) (by exact fun _ _ _ h => h) (by first | exact Or.inl ⟨by rfl, by intro w hSw; go_simp; try with_reducible rfl⟩ | exact Or.inr ⟨by rfl, rfl⟩) hH ?_
                  try simp only [Act.put, List.setIfInBounds_toArray, List.set_cons_zero, List.set_cons_succ]
                  refine wpK.take (i := 7) (v := _) (by simp only [List.getElem?_toArray, List.getElem?_cons_succ, List.getElem?_cons_zero]; rfl) (by kernel_rfl) (by kernel_rfl) (by kernel_rfl) (by kernel_rfl) (by kernel_rfl) (by exact fun _ _ _ h => h) (by first | exact Or.inl ⟨by rfl, by intro w hSw; go_simp; try with_reducible rfl⟩ | exact Or.inr ⟨by rfl, rfl⟩) hH ?_
                  try simp only [Act.put, List.setIfInBounds_toArray, List.set_cons_zero, List.set_cons_succ]
                  refine wpK.take (i := 8) (v := _) (by simp only [List.getElem?_toArray, List.getElem?_cons_succ, List.getElem?_cons_zero]; rfl) (by kernel_rfl) (by kernel_rfl) (by kernel_rfl) (by kernel_rfl) (by kernel_rfl) (by exact fun _ _ _ h => h) (by first | exact Or.inl ⟨by rfl, by intro w hSw; go_simp; try with_reducible rfl⟩ | exact Or.inr ⟨by rfl, rfl⟩) hH ?_
                  try simp only [Act.put, List.setIfInBounds_toArray, List.set_cons_zero, List.set_cons_succ]
                  refine wpK.take (i := 9) (v := _) (by simp only [List.getElem?_toArray, List.getElem?_cons_succ, List.getElem?_cons_zero]; rfl) (by kernel_rfl) (by kernel_rfl) (by kernel_rfl) (by kernel_rfl) (by kernel_rfl) (by exact fun _ _ _ h => h) (by first | exact Or.inl ⟨by rfl, by intro w hSw; go_simp; try with_reducible rfl⟩ | exact Or.inr ⟨by rfl, rfl⟩) hH ?_
                  try simp only [Act.put, List.setIfInBounds_toArray, List.set_cons_zero, List.set_cons_succ]
                  refine wpK.take (i := 10) (v := _) (by simp only [List.getElem?_toArray, List.getElem?_cons_succ, List.getElem?_cons_zero]; rfl) (by kernel_rfl) (by kernel_rfl) (by kernel_rfl) (by kernel_rfl) (by kernel_rfl) (by exact fun _ _ _ h => h) (by first | exact Or.inl ⟨by rfl, by intro w hSw; go_simp; try with_reducible rfl⟩ | exact Or.inr ⟨by rfl, rfl⟩) hH ?_
                  try simp only [Act.put, List.setIfInBounds_toArray, List.set_cons_zero, List.set_cons_succ]
                  refine wpK.take (i := 11) (v := _) (by simp only [List.getElem?_toArray, List.getElem?_cons_succ, List.getElem?_cons_zero]; rfl) (by kernel_rfl) (by kernel_rfl) (by kernel_rfl) (by kernel_rfl) (by kernel_rfl) (by exact fun _ _ _ h => h) (by first | exact Or.inl ⟨by rfl, by intro w hSw; go_simp; try with_reducible rfl⟩ | exact Or.inr ⟨by rfl, rfl⟩) hH ?_
                  try simp only [Act.put, List.setIfInBounds_toArray, List.set_cons_zero, List.set_cons_succ]
                  refine wpK.take (i := 12) (v := _) (by simp only [List.getElem?_toArray, List.getElem?_cons_succ, List.getElem?_cons_zero]; rfl) (by kernel_rfl) (by kernel_rfl) (by kernel_rfl) (by kernel_rfl) (by kernel_rfl) (by exact fun _ _ _ h => h) (by first | exact Or.inl ⟨by rfl, by intro w hSw; go_simp; try with_reducible rfl⟩ | exact Or.inr ⟨by rfl, rfl⟩) hH ?_
                  try simp only [Act.put, List.setIfInBounds_toArray, List.set_cons_zero, List.set_cons_succ]
                  refine wpK.take (i := 13) (v := _) (by simp only [List.getElem?_toArray, List.getElem?_cons_succ, List.getElem?_cons_zero]; rfl) (by kernel_rfl) (by kernel_rfl) (by kernel_rfl) (by kernel_rfl) (by kernel_rfl) (by exact fun _ _ _ h => h) (by first | exact Or.inl ⟨by rfl, by intro w hSw; go_simp; try with_reducible rfl⟩ | exact Or.inr ⟨by rfl, rfl⟩) hH ?_
                  try simp only [Act.put, List.setIfInBounds_toArray, List.set_cons_zero, List.set_cons_succ]
                  refine wpK.take (i := 14) (v := _) (by simp only [List.getElem?_toArray, List.getElem?_cons_succ, List.getElem?_cons_zero]; rfl) (by kernel_rfl) (by kernel_rfl) (by kernel_rfl) (by kernel_rfl) (by kernel_rfl) (by exact fun _ _ _ h => h) (by first | exact Or.inl ⟨by rfl, by intro w hSw; go_simp; try with_reducible rfl⟩ | exact Or.inr ⟨by rfl, rfl⟩) hH ?_
                  try simp only [Act.put, List.setIfInBounds_toArray, List.set_cons_zero, List.set_cons_succ]
                  refine wpK.take (i := 15) (v := _) (by simp only [List.getElem?_toArray, List.getElem?_cons_succ, List.getElem?_cons_zero]; rfl) (by kernel_rfl) (by kernel_rfl) (by kernel_rfl) (by kernel_rfl) (by kernel_rfl) (by exact fun _ _ _ h => h) (by first | exact Or.inl ⟨by rfl, by intro w hSw; go_simp; try with_reducible rfl⟩ | exact Or.inr ⟨by rfl, rfl⟩) hH ?_
                  try simp only [Act.put, List.setIfInBounds_toArray, List.set_cons_zero, List.set_cons_succ]
                  refine wpK.take (i := 16) (v := _) (by simp only [List.getElem?_toArray, List.getElem?_cons_succ, List.getElem?_cons_zero]; rfl) (by kernel_rfl) (by kernel_rfl) (by kernel_rfl) (by kernel_rfl) (by kernel_rfl) (by exact fun _ _ _ h => h) (by first | exact Or.inl ⟨by rfl, by intro w hSw; go_simp; try with_reducible rfl⟩ | exact Or.inr ⟨by rfl, rfl⟩) hH ?_
                  try simp only [Act.put, List.setIfInBounds_toArray, List.set_cons_zero, List.set_cons_succ]
                  refine wpK.take (i := 17) (v := _) (by simp only [List.getElem?_toArray, List.getElem?_cons_succ, List.getElem?_cons_zero]; rfl) (by kernel_rfl) (by kernel_rfl) (by kernel_rfl) (by kernel_rfl) (by kernel_rfl) (by exact fun _ _ _ h => h) (by first | exact Or.inl ⟨by rfl, by intro w hSw; go_simp; try with_reducible rfl⟩ | exact Or.inr ⟨by rfl, rfl⟩) hH ?_
                  try simp only [Act.put, List.setIfInBounds_toArray, List.set_cons_zero, List.set_cons_succ]
                  refine wpK.take (i := 18) (v := _) (by simp only [List.getElem?_toArray, List.getElem?_cons_succ, List.getElem?_cons_zero]; rfl) (by kernel_rfl) (by kernel_rfl) (by kernel_rfl) (by kernel_rfl) (by kernel_rfl) (by exact fun _ _ _ h => h) (by first | exact Or.inl ⟨by rfl, by intro w hSw; go_simp; try with_reducible rfl⟩ | exact Or.inr ⟨by rfl, rfl⟩) hH ?_
                  try simp only [Act.put, List.setIfInBounds_toArray, List.set_cons_zero, List.set_cons_succ]
                  refine wpK.take (i := 19) (v := _) (by simp only [List.getElem?_toArray, List.getElem?_cons_succ, List.getElem?_cons_zero]; rfl) (by kernel_rfl) (by kernel_rfl) (by kernel_rfl) (by kernel_rfl) (by kernel_rfl) (by exact fun _ _ _ h => h) (by first | exact Or.inl ⟨by rfl, by intro w hSw; go_simp; try with_reducible rfl⟩ | exact Or.inr ⟨by rfl, rfl⟩) hH ?_
                  try simp only [Act.put, List.setIfInBounds_toArray, List.set_cons_zero, List.set_cons_succ]
                  refine wpK.take (i := 20) (v := _) (by simp only [List.getElem?_toArray, List.getElem?_cons_succ, List.getElem?_cons_zero]; rfl) (by kernel_rfl) (by kernel_rfl) (by kernel_rfl) (by kernel_rfl) (by kernel_rfl) (by exact fun _ _ _ h => h) (by first | exact Or.inl ⟨by rfl, by intro w hSw; go_simp; try with_reducible rfl⟩ | exact Or.inr ⟨by rfl, rfl⟩) hH ?_
                  try simp only [Act.put, List.setIfInBounds_toArray, List.set_cons_zero, List.set_cons_succ]
                  refine wpK.take (i := 21) (v := _) (by simp only [List.getElem?_toArray, List.getElem?_cons_succ, List.getElem?_cons_zero]; rfl) (by kernel_rfl) (by kernel_rfl) (by kernel_rfl) (by kernel_rfl) (by kernel_rfl) (by exact fun _ _ _ h => h) (by first | exact Or.inl ⟨by rfl, by intro w hSw; go_simp; try with_reducible rfl⟩ | exact Or.inr ⟨by rfl, rfl⟩) hH ?_
                  try simp only [Act.put, List.setIfInBounds_toArray, List.set_cons_zero, List.set_cons_succ]
                  refine wpK.step (i := 22) (by kernel_rfl) (by simp only [List.getElem?_toArray, List.getElem?_cons_succ, List.getElem?_cons_zero]; rfl) (fun K hK => ?_)
                  go_simp
                  (have hq := stall_Put w8.drew (HS8.out.below (Below.refl _ _).drew) hh t pr HT63.out); (rw [HEE.out] at hq); (refine hq.mono ?_); rintro e w9 ⟨rfl, hs9, hu9⟩; (have hu9' : Upd (fun k => (w.heap.size ≤ k ∧ k ≠ x) ∧ k < g) w8 w9 := hyd.trans hu9 (fun _ _ q => q))
                  refine hK.out _ _ (by assumption) (fun hH => ?_)
                  clear hK K
                  try simp only [Act.put, List.setIfInBounds_toArray, List.set_cons_zero, List.set_cons_succ]
                  refine wpK.take (i := 23) (v := _) (by simp only [List.getElem?_toArray, List.getElem?_cons_succ, List.getElem?_cons_zero]; rfl) (by kernel_rfl) (by kernel_rfl) (by kernel_rfl) (by kernel_rfl) (by kernel_rfl) (by exact fun _ _ _ h => h) (by first | exact Or.inl ⟨by rfl, by intro w hSw; go_simp; try with_reducible rfl⟩ | exact Or.inr ⟨by rfl, rfl⟩) hH ?_
                  try simp only [Act.put, List.setIfInBounds_toArray, List.set_cons_zero, List.set_cons_succ]
                  refine wpK.take (i := 24) (v := _) (by simp only [List.getElem?_toArray, List.getElem?_cons_succ, List.getElem?_cons_zero]; rfl) (by kernel_rfl) (by kernel_rfl) (by kernel_rfl) (by kernel_rfl) (by kernel_rfl) (by exact fun _ _ _ h => h) (by first | exact Or.inl ⟨by rfl, by intro w hSw; go_simp; try with_reducible rfl⟩ | exact Or.inr ⟨by rfl, rfl⟩) hH ?_
                  try simp only [Act.put, List.setIfInBounds_toArray, List.set_cons_zero, List.set_cons_succ]
                  refine wpK.done (by kernel_rfl) ?_ _
                  have H9 := hid (HGO.out w9 hs9 hu9')
                  clear hs9 hu9 hu9' hq hH hyd x0 x2 g0 g1
                  by_cases hE0 : E = 0
                  · subst hE0
                    have HOK9 : Hid (gOk X0 hh gs (i + 1) = true) := hid (by rw [gOk_step HAT.out, HGOK.out, HX2.out]; show (true && (putE X2 hh t pr == 0) && (i == 0 || decide (prevT gs i < t))) = true; rw [HEE.out]; simp [HZ.out])
                    have HX9 : Hid (gX X0 hh gs (i + 1) = putX X2 hh t pr) := hid (by rw [gX_step HAT.out, HX2.out])
                    go_wp2_with fail
                    go_roundw
                    case rel => exact ⟨i + 1, by go_num, by omega, HOK9.out, by rw [HX9.out]; exact H9.out.1, H9.out.2.1, H9.out.2.2⟩
                    case measure => simp [intOf]; omega
                  · have hE1 : (E == 0) = false := by simpa using hE0
                    have hE2 : (E != 0) = true := by simpa using hE0
                    have HNO : Hid (rOk L L.length = false) := hid (HFAIL.out (by rw [HEE.out, hE1]; rfl))
                    go_wp2_with fail
                    go_ret2
                    exact ResPost23.no H9.out.2.2 HNO.out
                · obtain ⟨m, hm⟩ : ∃ m, i = m + 1 := ⟨i - 1, by omega⟩
                  have z1 : decide ((0 : Int) < (i : Int)) = true := by simp; omega
                  have z0 : decide (0 < i) = true := by simp; omega
                  have z2 : IntKind.i64.wrap ((i : Int) - 1) = (m : Int) := by rw [IntKind.wrap_i64]; omega
                  have z3 : (0 : Int) ≤ (m : Int) := by omega
                  have z4 : (m : Int) < (gs.length : Int) := by omega
                  obtain ⟨b3, o3, t3, p3, e3, d3, -, hat3, -, -⟩ := HRD8.out.pair m (by omega)
                  simp only [Option.some.injEq, Addr.mk.injEq, and_true] at e3
                  obtain ⟨rfl, rfl⟩ := e3
                  have HPV : Hid (prevT gs i = t3) := hid (by unfold prevT; rw [hm, Nat.add_sub_cancel, hat3]; rfl)
                  have HM := hid hm
                  have g3 : ∀ y, Upd (fun k => (w.heap.size ≤ k ∧ k ≠ x) ∧ k < g) w8 y → y.cell? ⟨bu, ou + m * 2, none⟩ = some (.int .i64 t3) := fun y hy => by
                    rw [← d3]; exact World.cell?_of_block (hy.block bu (World.block_lt_of_cell? _ _ d3) (fun q => by have := HBU.out; omega))
                  clear hm hat3 hz d3
                  by_cases hlt3 : t ≤ t3
                  · have z5 : decide (t ≤ t3) = true := by simpa using hlt3
                    have HNO : Hid (rOk L L.length = false) := hid (HFAIL.out (by
                      rw [HPV.out, show decide (t3 < t) = false by simp; omega, show (i == 0) = false by simp; have := HM.out; omega]; simp))
                    refine wp_region_kept [] (fun y => Upd (fun k => (w.heap.size ≤ k ∧ k ≠ x) ∧ k < g) w8 y) (by kernel_rfl) (by assumption) (fun hH => ?_)
                    refine wpK.take (i := 0) (v := _) (by simp only [List.getElem?_toArray, List.getElem?_cons_succ, List.getElem?_cons_zero]; rfl) (by kernel_rfl) (by kernel_rfl) (by kernel_rfl) (by kernel_rfl) (by kernel_rfl) (by exact fun _ _ _ h => h) (by first | exact Or.inl ⟨by rfl, by intro w hSw; go_simp; try with_reducible rfl⟩ | exact Or.inr ⟨by rfl, rfl⟩) hH ?_
                    try simp only [Act.put, List.setIfInBounds_toArray, List.set_cons_zero, List.set_cons_succ]
                    refine wpK.take (i := 1) (v := _) (by simp only [List.getElem?_toArray, List.getElem?_cons_succ, List.getElem?_cons_zero]; rfl) (by kernel_rfl) (by kernel_rfl) (by kernel_rfl) (by kernel_rfl) (by kernel_rfl) (by exact fun _ _ _ h => h) (by first | exact Or.inl ⟨by rfl, by intro w hSw; go_simp; try with_reducible rfl⟩ | exact Or.inr ⟨by rfl, rfl⟩) hH ?_
                    try simp only [Act.put, List.setIfInBounds_toArray, List.set_cons_zero, List.set_cons_succ]
                    refine wpK.take (i := 2) (v := _) (by simp only [List.getElem?_toArray, List.getElem?_cons_succ, List.getElem?_cons_zero]; rfl) (by kernel_rfl) (by kernel_rfl) (by kernel_rfl) (by kernel_rfl) (by kernel_rfl) (by exact fun _ _ _ h => h) (by first | exact Or.inl ⟨by rfl, by intro w hSw; go_simp; try with_reducible rfl⟩ | exact Or.inr ⟨by rfl, rfl⟩) hH ?_
                    try simp only [Act.put, List.setIfInBounds_toArray, List.set_cons_zero, List.set_cons_succ]
                    refine wpK.take (i := 3) (v := _) (by simp only [List.getElem?_toArray, List.getElem?_cons_succ, List.getElem?_cons_zero]; rfl) (by kernel_rfl) (by kernel_rfl) (by kernel_rfl) (by kernel_rfl) (by kernel_rfl) (by exact fun _ _ _ h => h) (by first | exact Or.inl ⟨by rfl, by intro w hSw; go_simp; try with_reducible rfl⟩ | exact Or.inr ⟨by rfl, rfl⟩) hH ?_
                    try simp only [Act.put, List.setIfInBounds_toArray, List.set_cons_zero, List.set_cons_succ]
                    refine wpK.take (i := 4) (v := _) (by simp only [List.getElem?_toArray, List.getElem?_cons_succ, List.getElem?_cons_zero]; rfl) (by kernel_rfl) (by kernel_rfl) (by kernel_rfl) (by kernel_rfl) (by kernel_rfl) (by exact fun _ _ _ h => h) (by first | exact Or.inl ⟨by rfl, by intro w hSw; go_simp; try with_reducible rfl⟩ | exact Or.inr ⟨by rfl, rfl⟩) hH ?_
                    try simp only [Act.put, List.setIfInBounds_toArray, List.set_cons_zero, List.set_cons_succ]
                    refine wpK.take (i := 5) (v := _) (by simp only [List.getElem?_toArray, List.getElem?_cons_succ, List.getElem?_cons_zero]; rfl) (by kernel_rfl) (by kernel_rfl) (by kernel_rfl) (by kernel_rfl) (by kernel_rfl) (by exact fun _ _ _ h => h) (by first | exact Or.inl ⟨by rfl, by intro w hSw; go_simp; try with_reducible rfl⟩ | exact Or.inr ⟨by rfl, rfl⟩) hH ?_
                    try simp only [Act.put, List.setIfInBounds_toArray, List.set_cons_zero, List.set_cons_succ]
                    refine wpK.take (i := 6) (v := _) (by simp only [List.getElem?_toArray, List.getElem?_cons_succ, List.getElem?_cons_zero]; rfl) (by kernel_rfl) (by kernel_rfl) (by kernel_rfl) (by kernel_rfl) (by kernel_rfl) (by exact fun _ _ _ h => h) (by first | exact Or.inl ⟨by rfl, by intro w hSw; go_simp; try with_reducible rfl⟩ | exact Or.inr ⟨by rfl, rfl⟩) hH ?_
                    try simp only [Act.put, List.setIfInBounds_toArray, List.set_cons_zero, List.set_cons_succ]
                    refine wpK.take (i := 7) (v := _) (by simp only [List.getElem?_toArray, List.getElem?_cons_succ, List.getElem?_cons_zero]; rfl) (by kernel_rfl) (by kernel_rfl) (by kernel_rfl) (by kernel_rfl) (by kernel_rfl) (by exact fun _ _ _ h => h) (by first | exact Or.inl ⟨by rfl, by intro w hSw; go_simp; try with_reducible rfl⟩ | exact Or.inr ⟨by rfl, rfl⟩) hH ?_
                    try simp only [Act.put, List.setIfInBounds_toArray, List.set_cons_zero, List.set_cons_succ]
                    refine wpK.take (i := 8) (v := _) (by simp only [List.getElem?_toArray, List.getElem?_cons_succ, List.getElem?_cons_zero]; rfl) (by kernel_rfl) (by kernel_rfl) (by kernel_rfl) (by kernel_rfl) (by kernel_rfl) (by exact fun _ _ _ h => h) (by first | exact Or.inl ⟨by rfl, by intro w hSw; go_simp; try with_reducible rfl⟩ | exact Or.inr ⟨by rfl, rfl⟩) hH ?_
                    try simp only [Act.put, List.setIfInBounds_toArray, List.set_cons_zero, List.set_cons_succ]
                    refine wpK.take (i := 9) (v := _) (by simp only [List.getElem?_toArray, List.getElem?_cons_succ, List.getElem?_cons_zero]; rfl) (by kernel_rfl) (by kernel_rfl) (by kernel_rfl) (by kernel_rfl) (by kernel_rfl) (by exact fun _ _ _ h => h) (by first | exact Or.inl ⟨by rfl, by intro w hSw; go_simp; try with_reducible rfl⟩ | exact Or.inr ⟨by rfl, rfl⟩) hH ?_
                    try simp only [Act.put, List.setIfInBounds_toArray, List.set_cons_zero, List.set_cons_succ]
                    refine wpK.take (i := 10) (v := _) (by simp only [List.getElem?_toArray, List.getElem?_cons_succ, List.getElem?_cons_zero]; rfl) (by kernel_rfl) (by kernel_rfl) (by kernel_rfl) (by kernel_rfl) (by kernel_rfl) (by exact fun _ _ _ h => h) (by first | exact Or.inl ⟨by rfl, by intro w hSw; go_simp; try with_reducible rfl⟩ | exact Or.inr ⟨by rfl, rfl⟩) hH ?_
                    try simp only [Act.put, List.setIfInBounds_toArray, List.set_cons_zero, List.set_cons_succ]
                    refine wpK.take (i := 11) (v := _) (by simp only [List.getElem?_toArray, List.getElem?_cons_succ, List.getElem?_cons_zero]; rfl) (by kernel_rfl) (by kernel_rfl) (by kernel_rfl) (by kernel_rfl) (by kernel_rfl) (by exact fun _ _ _ h => h) (by first | exact Or.inl ⟨by rfl, by intro w hSw; go_simp; try with_reducible rfl⟩ | exact Or.inr ⟨by rfl, rfl⟩) hH ?_
                    try simp only [Act.put, List.setIfInBounds_toArray, List.set_cons_zero, List.set_cons_succ]
                    refine wpK.take (i := 12) (v := _) (by simp only [List.getElem?_toArray, List.getElem?_cons_succ, List.getElem?_cons_zero]; rfl) (by kernel_rfl) (by kernel_rfl) (by kernel_rfl) (by kernel_rfl) (by kernel_rfl) (by exact fun _ _ _ h => h) (by first | exact Or.inl ⟨by rfl, by intro w hSw; go_simp; try with_reducible rfl⟩ | exact Or.inr ⟨by rfl, rfl⟩) hH ?_
                    try simp only [Act.put, List.setIfInBounds_toArray, List.set_cons_zero, List.set_cons_succ]
                    refine wpK.take (i := 13) (v := _) (by simp only [List.getElem?_toArray, List.getElem?_cons_succ, List.getElem?_cons_zero]; rfl) (by kernel_rfl) (by kernel_rfl) (by kernel_rfl) (by kernel_rfl) (by kernel_rfl) (by exact fun _ _ _ h => h) (by first | exact Or.inl ⟨by rfl, by intro w hSw; go_simp; try with_reducible rfl⟩ | exact Or.inr ⟨by rfl, rfl⟩) hH ?_
                    try simp only [Act.put, List.setIfInBounds_toArray, List.set_cons_zero, List.set_cons_succ]
                    refine wpK.take (i := 14) (v := _) (by simp only [List.getElem?_toArray, List.getElem?_cons_succ, List.getElem?_cons_zero]; rfl) (by kernel_rfl) (by kernel_rfl) (by kernel_rfl) (by kernel_rfl) (by kernel_rfl) (by exact fun _ _ _ h => h) (by first | exact Or.inl ⟨by rfl, by intro w hSw; go_simp; try with_reducible rfl⟩ | exact Or.inr ⟨by rfl, rfl⟩) hH ?_
                    try simp only [Act.put, List.setIfInBounds_toArray, List.set_cons_zero, List.set_cons_succ]
                    refine wpK.take (i := 15) (v := _) (by simp only [List.getElem?_toArray, List.getElem?_cons_succ, List.getElem?_cons_zero]; rfl) (by kernel_rfl) (by kernel_rfl) (by kernel_rfl) (by kernel_rfl) (by kernel_rfl) (by exact fun _ _ _ h => h) (by first | exact Or.inl ⟨by rfl, by intro w hSw; go_simp; try with_reducible rfl⟩ | exact Or.inr ⟨by rfl, rfl⟩) hH ?_
                    try simp only [Act.put, List.setIfInBounds_toArray, List.set_cons_zero, List.set_cons_succ]
                    refine wpK.take (i := 16) (v := _) (by simp only [List.getElem?_toArray, List.getElem?_cons_succ, List.getElem?_cons_zero]; rfl) (by kernel_rfl) (by kernel_rfl) (by kernel_rfl) (by kernel_rfl) (by kernel_rfl) (by exact fun _ _ _ h => h) (by first | exact Or.inl ⟨by rfl, by intro w hSw; go_simp; try with_reducible rfl⟩ | exact Or.inr ⟨by rfl, rfl⟩) hH ?_
                    try simp only [Act.put, List.setIfInBounds_toArray, List.set_cons_zero, List.set_cons_succ]
                    refine wpK.take (i := 17) (v := _) (by simp only [List.getElem?_toArray, List.getElem?_cons_succ, List.getElem?_cons_zero]; rfl) (by kernel_rfl) (by kernel_rfl) (by kernel_rfl) (by kernel_rfl) (by kernel_rfl) (by exact fun _ _ _ h => h) (by first | exact Or.inl ⟨by rfl, by intro w hSw; go_simp; try with_reducible rfl⟩ | exact Or.inr ⟨by rfl, rfl⟩) hH ?_
                    try simp only [Act.put, List.setIfInBounds_toArray, List.set_cons_zero, List.set_cons_succ]
                    refine wpK.take (i := 18) (v := _) (by simp only [List.getElem?_toArray, List.getElem?_cons_succ, List.getElem?_cons_zero]; rfl) (by kernel_rfl) (by kernel_rfl) (by kernel_rfl) (by kernel_rfl) (by kernel_rfl) (by exact fun _ _ _ h => h) (by first | exact Or.inl ⟨by rfl, by intro w hSw; go_simp; try with_reducible rfl⟩ | exact Or.inr ⟨by rfl, rfl⟩) hH ?_
                    try simp only [Act.put, List.setIfInBounds_toArray, List.set_cons_zero, List.set_cons_succ]
                    refine wpK.take (i := 19) (v := _) (by simp only [List.getElem?_toArray, List.getElem?_cons_succ, List.getElem?_cons_zero]; rfl) (by kernel_rfl) (by kernel_rfl) (by kernel_rfl) (by kernel_rfl) (by kernel_rfl) (by exact fun _ _ _ h => h) (by first | exact Or.inl ⟨by rfl, by intro w hSw; go_simp; try with_reducible rfl⟩ | exact Or.inr ⟨by rfl, rfl⟩) hH ?_
                    try simp only [Act.put, List.setIfInBounds_toArray, List.set_cons_zero, List.set_cons_succ]
                    refine wpK.take (i := 20) (v := _) (by simp only [List.getElem?_toArray, List.getElem?_cons_succ, List.getElem?_cons_zero]; rfl) (by kernel_rfl) (by kernel_rfl) (by kernel_rfl) (by kernel_rfl) (by kernel_rfl) (by exact fun _ _ _ h => h) (by first | exact Or.inl ⟨by rfl, by intro w hSw; go_simp; try with_reducible rfl⟩ | exact Or.inr ⟨by rfl, rfl⟩) hH ?_
                    try simp only [Act.put, List.setIfInBounds_toArray, List.set_cons_zero, List.set_cons_succ]
                    refine wpK.take (i := 21) (v := _) (by simp only [List.getElem?_toArray, List.getElem?_cons_succ, List.getElem?_cons_zero]; rfl) (by kernel_rfl) (by kernel_rfl) (by kernel_rfl) (by kernel_rfl) (by kernel_rfl) (by exact fun _ _ _ h => h) (by first | exact Or.inl ⟨by rfl, by intro w hSw; go_simp; try with_reducible rfl⟩ | exact Or.inr ⟨by rfl, rfl⟩) hH ?_
                    try simp only [Act.put, List.setIfInBounds_toArray, List.set_cons_zero, List.set_cons_succ]
                    refine wpK.step (i := 22) (by kernel_rfl) (by simp only [List.getElem?_toArray, List.getElem?_cons_succ, List.getElem?_cons_zero]; rfl) (fun K hK => ?_)
                    go_simp
                    refine hK.out _ _ (by assumption) (fun hH => ?_)
                    clear hK K
                    try simp only [Act.put, List.setIfInBounds_toArray, List.set_cons_zero, List.set_cons_succ]
                    refine wpK.take (i := 23) (v := _) (by simp only [List.getElem?_toArray, List.getElem?_cons_succ, List.getElem?_cons_zero]; rfl) (by kernel_rfl) (by kernel_rfl) (by kernel_rfl) (by kernel_rfl) (by kernel_rfl) (by exact fun _ _ _ h => h) (by first | exact Or.inl ⟨by rfl, by intro w hSw; go_simp; try with_reducible rfl⟩ | exact Or.inr ⟨by rfl, rfl⟩) hH ?_
                    try simp only [Act.put, List.setIfInBounds_toArray, List.set_cons_zero, List.set_cons_succ]
                    refine wpK.take (i := 24) (v := _) (by simp only [List.getElem?_toArray, List.getElem?_cons_succ, List.getElem?_cons_zero]; rfl) (by kernel_rfl) (by kernel_rfl) (by kernel_rfl) (by kernel_rfl) (by kernel_rfl) (by exact fun _ _ _ h => h) (by first | exact Or.inl ⟨by rfl, by intro w hSw; go_simp; try with_reducible rfl⟩ | exact Or.inr ⟨by rfl, rfl⟩) hH ?_
                    try simp only [Act.put, List.setIfInBounds_toArray, List.set_cons_zero, List.set_cons_succ]
                    refine wpK.done (by kernel_rfl) ?_ _
                    clear x0 x2 g0 g1 g3 hH
                    go_wp2_with fail
                    go_ret2
                    exact ResPost23.no HB8.out.drew HNO.out
                  · have z5 : decide (t ≤ t3) = false := by simpa using hlt3
                    have HPL := hid hlt3
                    refine wp_region_kept [] (fun y => Upd (fun k => (w.heap.size ≤ k ∧ k ≠ x) ∧ k < g) w8 y) (by kernel_rfl) (by assumption) (fun hH => ?_)
                    refine wpK.take (i := 0) (v := _) (by simp only [List.getElem?_toArray, List.getElem?_cons_succ, List.getElem?_cons_zero]; rfl) (by kernel_rfl) (by kernel_rfl) (by kernel_rfl) (by kernel_rfl) (by kernel_rfl) (by exact fun _ _ _ h => h) (by first | exact Or.inl ⟨by rfl, by intro w hSw; go_simp; try with_reducible rfl⟩ | exact Or.inr ⟨by rfl, rfl⟩) hH ?_
                    try simp only [Act.put, List.setIfInBounds_toArray, List.set_cons_zero, List.set_cons_succ]
                    refine wpK.take (i := 1) (v := _) (by simp only [List.getElem?_toArray, List.getElem?_cons_succ, List.getElem?_cons_zero]; rfl) (by kernel_rfl) (by kernel_rfl) (by kernel_rfl) (by kernel_rfl) (by kernel_rfl) (by exact fun _ _ _ h => h) (by first | exact Or.inl ⟨by rfl, by intro w hSw; go_simp; try with_reducible rfl⟩ | exact Or.inr ⟨by rfl, rfl⟩) hH ?_
                    try simp only [Act.put, List.setIfInBounds_toArray, List.set_cons_zero, List.set_cons_succ]
                    refine wpK.take (i := 2) (v := _) (by simp only [List.getElem?_toArray, List.getElem?_cons_succ, List.getElem?_cons_zero]; rfl) (by kernel_rfl) (by kernel_rfl) (by kernel_rfl) (by kernel_rfl) (by kernel_rfl) (by exact fun _ _ _ h => h) (by first | exact Or.inl ⟨by rfl, by intro w hSw; go_simp; try with_reducible rfl⟩ | exact Or.inr ⟨by rfl, rfl⟩) hH ?_
                    try simp only [Act.put, List.setIfInBounds_toArray, List.set_cons_zero, List.set_cons_succ]
                    refine wpK.take (i := 3) (v := _) (by simp only [List.getElem?_toArray, List.getElem?_cons_succ, List.getElem?_cons_zero]; rfl) (by kernel_rfl) (by kernel_rfl) (by kernel_rfl) (by kernel_rfl) (by kernel_rfl) (by exact fun _ _ _ h => h) (by first | exact Or.inl ⟨by rfl, by intro w hSw; go_simp; try with_reducible rfl⟩ | exact Or.inr ⟨by rfl, rfl⟩) hH ?_
                    try simp only [Act.put, List.setIfInBounds_toArray, List.set_cons_zero, List.set_cons_succ]
                    refine wpK.take (i := 4) (v := _) (by simp only [List.getElem?_toArray, List.getElem?_cons_succ, List.getElem?_cons_zero]; rfl) (by kernel_rfl) (by kernel_rfl) (by kernel_rfl) (by kernel_rfl) (by kernel_rfl) (by exact fun _ _ _ h => h) (by first | exact Or.inl ⟨by rfl, by intro w hSw; go_simp; try with_reducible rfl⟩ | exact Or.inr ⟨by rfl, rfl⟩) hH ?_
                    try simp only [Act.put, List.setIfInBounds_toArray, List.set_cons_zero, List.set_cons_succ]
                    refine wpK.take (i := 5) (v := _) (by simp only [List.getElem?_toArray, List.getElem?_cons_succ, List.getElem?_cons_zero]; rfl) (by kernel_rfl) (by kernel_rfl) (by kernel_rfl) (by kernel_rfl) (by kernel_rfl) (by exact fun _ _ _ h => h) (by first | exact Or.inl ⟨by rfl, by intro w hSw; go_simp; try with_reducible rfl⟩ | exact Or.inr ⟨by rfl, rfl⟩) hH ?_
                    try simp only [Act.put, List.setIfInBounds_toArray, List.set_cons_zero, List.set_cons_succ]
                    refine wpK.take (i := 6) (v := _) (by simp only [List.getElem?_toArray, List.getElem?_cons_succ, List.getElem?_cons_zero]; rfl) (by kernel_rfl) (by kernel_rfl) (by kernel_rfl) (by kernel_rfl) (by kernel_rfl) (by exact fun _ _ _ h => h) (by first | exact Or.inl ⟨by rfl, by intro w hSw; go_simp; try with_reducible rfl⟩ | exact Or.inr ⟨by rfl, rfl⟩) hH ?_
                    try simp only [Act.put, List.setIfInBounds_toArray, List.set_cons_zero, List.set_cons_succ]
                    refine wpK.take (i := 7) (v := _) (by simp only [List.getElem?_toArray, List.getElem?_cons_succ, List.getElem?_cons_zero]; rfl) (by kernel_rfl) (by kernel_rfl) (by kernel_rfl) (by kernel_rfl) (by kernel_rfl) (by exact fun _ _ _ h => h) (by first | exact Or.inl ⟨by rfl, by intro w hSw; go_simp; try with_reducible rfl⟩ | exact Or.inr ⟨by rfl, rfl⟩) hH ?_
                    try simp only [Act.put, List.setIfInBounds_toArray, List.set_cons_zero, List.set_cons_succ]
                    refine wpK.take (i := 8) (v := _) (by simp only [List.getElem?_toArray, List.getElem?_cons_succ, List.getElem?_cons_zero]; rfl) (by kernel_rfl) (by kernel_rfl) (by kernel_rfl) (by kernel_rfl) (by kernel_rfl) (by exact fun _ _ _ h => h) (by first | exact Or.inl ⟨by rfl, by intro w hSw; go_simp; try with_reducible rfl⟩ | exact Or.inr ⟨by rfl, rfl⟩) hH ?_
                    try simp only [Act.put, List.setIfInBounds_toArray, List.set_cons_zero, List.set_cons_succ]
                    refine wpK.take (i := 9) (v := _) (by simp only [List.getElem?_toArray, List.getElem?_cons_succ, List.getElem?_cons_zero]; rfl) (by kernel_rfl) (by kernel_rfl) (by kernel_rfl) (by kernel_rfl) (by kernel_rfl) (by exact fun _ _ _ h => h) (by first | exact Or.inl ⟨by rfl, by intro w hSw; go_simp; try with_reducible rfl⟩ | exact Or.inr ⟨by rfl, rfl⟩) hH ?_
                    try simp only [Act.put, List.setIfInBounds_toArray, List.set_cons_zero, List.set_cons_succ]
                    refine wpK.take (i := 10) (v := _) (by simp only [List.getElem?_toArray, List.getElem?_cons_succ, List.getElem?_cons_zero]; rfl) (by kernel_rfl) (by kernel_rfl) (by kernel_rfl) (by kernel_rfl) (by kernel_rfl) (by exact fun _ _ _ h => h) (by first | exact Or.inl ⟨by rfl, by intro w hSw; go_simp; try with_reducible rfl⟩ | exact Or.inr ⟨by rfl, rfl⟩) hH ?_
                    try simp only [Act.put, List.setIfInBounds_toArray, List.set_cons_zero, List.set_cons_succ]
                    refine wpK.take (i := 11) (v := _) (by simp only [List.getElem?_toArray, List.getElem?_cons_succ, List.getElem?_cons_zero]; rfl) (by kernel_rfl) (by kernel_rfl) (by kernel_rfl) (by kernel_rfl) (by kernel_rfl) (by exact fun _ _ _ h => h) (by first | exact Or.inl ⟨by rfl, by intro w hSw; go_simp; try with_reducible rfl⟩ | exact Or.inr ⟨by rfl, rfl⟩) hH ?_
                    try simp only [Act.put, List.setIfInBounds_toArray, List.set_cons_zero, List.set_cons_succ]
                    refine wpK.take (i := 12) (v := _) (by simp only [List.getElem?_toArray, List.getElem?_cons_succ, List.getElem?_cons_zero]; rfl) (by kernel_rfl) (by kernel_rfl) (by kernel_rfl) (by kernel_rfl) (by kernel_rfl) (by exact fun _ _ _ h => h) (by first | exact Or.inl ⟨by rfl, by intro w hSw; go_simp; try with_reducible rfl⟩ | exact Or.inr ⟨by rfl, rfl⟩) hH ?_
                    try simp only [Act.put, List.setIfInBounds_toArray, List.set_cons_zero, List.set_cons_succ]
                    refine wpK.take (i := 13) (v := _) (by simp only [List.getElem?_toArray, List.getElem?_cons_succ, List.getElem?_cons_zero]; rfl) (by kernel_rfl) (by kernel_rfl) (by kernel_rfl) (by kernel_rfl) (by kernel_rfl) (by exact fun _ _ _ h => h) (by first | exact Or.inl ⟨by rfl, by intro w hSw; go_simp; try with_reducible rfl⟩ | exact Or.inr ⟨by rfl, rfl⟩) hH ?_
                    try simp only [Act.put, List.setIfInBounds_toArray, List.set_cons_zero, List.set_cons_succ]
                    refine wpK.take (i := 14) (v := _) (by simp only [List.getElem?_toArray, List.getElem?_cons_succ, List.getElem?_cons_zero]; rfl) (by kernel_rfl) (by kernel_rfl) (by kernel_rfl) (by kernel_rfl) (by kernel_rfl) (by exact fun _ _ _ h => h) (by first | exact Or.inl ⟨by rfl, by intro w hSw; go_simp; try with_reducible rfl⟩ | exact Or.inr ⟨by rfl, rfl⟩) hH ?_
                    try simp only [Act.put, List.setIfInBounds_toArray, List.set_cons_zero, List.set_cons_succ]
                    refine wpK.take (i := 15) (v := _) (by simp only [List.getElem?_toArray, List.getElem?_cons_succ, List.getElem?_cons_zero]; rfl) (by kernel_rfl) (by kernel_rfl) (by kernel_rfl) (by kernel_rfl) (by kernel_rfl) (by exact fun _ _ _ h => h) (by first | exact Or.inl ⟨by rfl, by intro w hSw; go_simp; try with_reducible rfl⟩ | exact Or.inr ⟨by rfl, rfl⟩) hH ?_
                    try simp only [Act.put, List.setIfInBounds_toArray, List.set_cons_zero, List.set_cons_succ]
                    refine wpK.take (i := 16) (v := _) (by simp only [List.getElem?_toArray, List.getElem?_cons_succ, List.getElem?_cons_zero]; rfl) (by kernel_rfl) (by kernel_rfl) (by kernel_rfl) (by kernel_rfl) (by kernel_rfl) (by exact fun _ _ _ h => h) (by first | exact Or.inl ⟨by rfl, by intro w hSw; go_simp; try with_reducible rfl⟩ | exact Or.inr ⟨by rfl, rfl⟩) hH ?_
                    try simp only [Act.put, List.setIfInBounds_toArray, List.set_cons_zero, List.set_cons_succ]
                    refine wpK.take (i := 17) (v := _) (by simp only [List.getElem?_toArray, List.getElem?_cons_succ, List.getElem?_cons_zero]; rfl) (by kernel_rfl) (by kernel_rfl) (by kernel_rfl) (by kernel_rfl) (by kernel_rfl) (by exact fun _ _ _ h => h) (by first | exact Or.inl ⟨by rfl, by intro w hSw; go_simp; try with_reducible rfl⟩ | exact Or.inr ⟨by rfl, rfl⟩) hH ?_
                    try simp only [Act.put, List.setIfInBounds_toArray, List.set_cons_zero, List.set_cons_succ]
                    refine wpK.take (i := 18) (v := _) (by simp only [List.getElem?_toArray, List.getElem?_cons_succ, List.getElem?_cons_zero]; rfl) (by kernel_rfl) (by kernel_rfl) (by kernel_rfl) (by kernel_rfl) (by kernel_rfl) (by exact fun _ _ _ h => h) (by first | exact Or.inl ⟨by rfl, by intro w hSw; go_simp; try with_reducible rfl⟩ | exact Or.inr ⟨by rfl, rfl⟩) hH ?_
                    try simp only [Act.put, List.setIfInBounds_toArray, List.set_cons_zero, List.set_cons_succ]
                    refine wpK.take (i := 19) (v := _) (by simp only [List.getElem?_toArray, List.getElem?_cons_succ, List.getElem?_cons_zero]; rfl) (by kernel_rfl) (by kernel_rfl) (by kernel_rfl) (by kernel_rfl) (by kernel_rfl) (by exact fun _ _ _ h => h) (by first | exact Or.inl ⟨by rfl, by intro w hSw; go_simp; try with_reducible rfl⟩ | exact Or.inr ⟨by rfl, rfl⟩) hH ?_
                    try simp only [Act.put, List.setIfInBounds_toArray, List.set_cons_zero, List.set_cons_succ]
                    refine wpK.take (i := 20) (v := _) (by simp only [List.getElem?_toArray, List.getElem?_cons_succ, List.getElem?_cons_zero]; rfl) (by kernel_rfl) (by kernel_rfl) (by kernel_rfl) (by kernel_rfl) (by kernel_rfl) (by exact fun _ _ _ h => h) (by first | exact Or.inl ⟨by rfl, by intro w hSw; go_simp; try with_reducible rfl⟩ | exact Or.inr ⟨by rfl, rfl⟩) hH ?_
                    try simp only [Act.put, List.setIfInBounds_toArray, List.set_cons_zero, List.set_cons_succ]
                    refine wpK.take (i := 21) (v := _) (by simp only [List.getElem?_toArray, List.getElem?_cons_succ, List.getElem?_cons_zero]; rfl) (by kernel_rfl) (by kernel_rfl) (by kernel_rfl) (by kernel_rfl) (by kernel_rfl) (by exact fun _ _ _ h => h) (by first | exact Or.inl ⟨by rfl, by intro w hSw; go_simp; try with_reducible rfl⟩ | exact Or.inr ⟨by rfl, rfl⟩) hH ?_
                    try simp only [Act.put, List.setIfInBounds_toArray, List.set_cons_zero, List.set_cons_succ]
                    refine wpK.step (i := 22) (by kernel_rfl) (by simp only [List.getElem?_toArray, List.getElem?_cons_succ, List.getElem?_cons_zero]; rfl) (fun K hK => ?_)
                    go_simp
                    (have hq := stall_Put w8.drew (HS8.out.below (Below.refl _ _).drew) hh t pr HT63.out); (rw [HEE.out] at hq); (refine hq.mono ?_); rintro e w9 ⟨rfl, hs9, hu9⟩; (have hu9' : Upd (fun k => (w.heap.size ≤ k ∧ k ≠ x) ∧ k < g) w8 w9 := hyd.trans hu9 (fun _ _ q => q))
                    refine hK.out _ _ (by assumption) (fun hH => ?_)
                    clear hK K
                    try simp only [Act.put, List.setIfInBounds_toArray, List.set_cons_zero, List.set_cons_succ]
                    refine wpK.take (i := 23) (v := _) (by simp only [List.getElem?_toArray, List.getElem?_cons_succ, List.getElem?_cons_zero]; rfl) (by kernel_rfl) (by kernel_rfl) (by kernel_rfl) (by kernel_rfl) (by kernel_rfl) (by exact fun _ _ _ h => h) (by first | exact Or.inl ⟨by rfl, by intro w hSw; go_simp; try with_reducible rfl⟩ | exact Or.inr ⟨by rfl, rfl⟩) hH ?_
                    try simp only [Act.put, List.setIfInBounds_toArray, List.set_cons_zero, List.set_cons_succ]
                    refine wpK.take (i := 24) (v := _) (by simp only [List.getElem?_toArray, List.getElem?_cons_succ, List.getElem?_cons_zero]; rfl) (by kernel_rfl) (by kernel_rfl) (by kernel_rfl) (by kernel_rfl) (by kernel_rfl) (by exact fun _ _ _ h => h) (by first | exact Or.inl ⟨by rfl, by intro w hSw; go_simp; try with_reducible rfl⟩ | exact Or.inr ⟨by rfl, rfl⟩) hH ?_
                    try simp only [Act.put, List.setIfInBounds_toArray, List.set_cons_zero, List.set_cons_succ]
                    refine wpK.done (by kernel_rfl) ?_ _
                    clear z5 z4 z3 z2 g3 hlt3
                    have H9 := hid (HGO.out w9 hs9 hu9')
                    clear hs9 hu9 hu9' hq hH hyd x0 x2 g0 g1
                    by_cases hE0 : E = 0
                    · subst hE0
                      have HOK9 : Hid (gOk X0 hh gs (i + 1) = true) := hid (by rw [gOk_step HAT.out, HGOK.out, HX2.out]; show (true && (putE X2 hh t pr == 0) && (i == 0 || decide (prevT gs i < t))) = true; rw [HEE.out]; rw [HPV.out, show decide (t3 < t) = true by simp; have := HPL.out; omega]; simp)
                      have HX9 : Hid (gX X0 hh gs (i + 1) = putX X2 hh t pr) := hid (by rw [gX_step HAT.out, HX2.out])
                      go_wp2_with fail
                      go_roundw
                      case rel => exact ⟨i + 1, by go_num, by omega, HOK9.out, by rw [HX9.out]; exact H9.out.1, H9.out.2.1, H9.out.2.2⟩
                      case measure => simp [intOf]; omega
                    · have hE1 : (E == 0) = false := by simpa using hE0
                      have hE2 : (E != 0) = true := by simpa using hE0
                      have HNO : Hid (rOk L L.length = false) := hid (HFAIL.out (by rw [HEE.out, hE1]; rfl))
                      go_wp2_with fail
                      go_ret2
                      exact ResPost23.no H9.out.2.2 HNO.out
              · have hil : i = gs.length := by omega
                have HS8 : Hid (StallIs wr s (fun k => w.heap.size ≤ k) (rX L (j + 1))) := hid (by
                  rw [rX_step HP.out, HX.out]
                  show StallIs wr s _ (gX (row0 X (hh, till, gs)) hh gs gs.length)
                  rw [HX0.out, ← hil]
                  exact HST.out.weaken (fun k q _ => q.1))
                have HO8 : Hid (rOk L (j + 1) = true) := hid (by
                  rw [rOk_step HP.out, HX.out, HLA.out, HOK.out]
                  show (true && headOk X la (hh, till, gs) && gOk (row0 X (hh, till, gs)) hh gs gs.length) = true
                  rw [HHEAD.out, HX0.out, ← hil, HGOK.out]; rfl)
                have HL8 : Hid (hh = lastH L (j + 1)) := hid (by rw [lastH_step HP.out])
                have i1 : ¬ (i : Int) < (gs.length : Int) := by omega
                clear hil
                go_wp2_with fail
                go_roundw
                case rel => exact ⟨j + 1, by rw [← HL8.out], by go_num, by omega, HO8.out, HS8.out, HBI.out⟩
                case measure => simp [intOf]; omega
          · obtain ⟨E, hE⟩ : ∃ E, (openX X hh).2 = E := ⟨_, rfl⟩
            have HE3 := hid hE
            have hno : rOk L L.length = false := HFAIL.out (by unfold headOk; simp [h3])
            have HNO := hid hno
            have hE1 : (E == 0) = false := by rw [← hE]; simpa using h3
            have hE2 : (E != 0) = true := by rw [← hE]; simpa using h3
            clear hno hE h3 hX1
            go_wp2_with fail
            refine (gold_Right till w5).mono ?_
            rintro e w6 ⟨rfl, rfl⟩
            rw [HGR.out]
            go_wp2_with fail
            have hq := stall_Open w5 HS5.out hh HI1.out.2
            rw [HE3.out] at hq
            refine hq.mono ?_
            rintro e w6 ⟨rfl, -, hu⟩
            have HB6 := hid (HB5.out.trans (hu.below HB5.out.size (fun k _ q => q.1)))
            clear hu hq x0 x1
            go_wp2_with fail
            go_ret2
            exact ResPost23.no HB6.out HNO.out
        · have h2' : goldR till = false := by simpa using h2
          have HGR := hid h2'
          have hno : rOk L L.length = false := HFAIL.out (by unfold headOk; have q : ¬ (0 ≤ till ∧ till ≤ 1099511627776) := (by unfold goldR at h2'; simpa using h2'); by_cases q1 : 0 ≤ till <;> simp [q1]; intro _ _ q2; omega)
          have HNO := hid hno
          clear hno h2 h2'
          go_wp2_with fail
          refine (gold_Right till w5).mono ?_
          rintro e w6 ⟨rfl, rfl⟩
          rw [HGR.out]
          go_wp2_with fail
          go_ret2
          exact ResPost23.no HB5.out HNO.out
    · have hj2 : j = L.length := by omega
      have HD : Hid (rOk L L.length = true ∧ rX L L.length = X) := hid (by rw [← hj2]; exact ⟨HOK.out, HX.out⟩)
      have e1 : ¬ (j : Int) < (L.length : Int) := by omega
      clear hj2 hbr
      go_wp2_with fail
      go_ret2
      exact ⟨HBR.out, fun q => (by rw [HD.out.1] at q; cases q), fun _ => ⟨s, rfl, by rw [HD.out.2]; exact HST.out⟩⟩
end Go.Proofs.Ytajfjgekcjkedaa
end
section
/- Layings of the shelf's contracts at this dump (printed by the shelf's lay-plain). -/
namespace Go.Proofs
open Go.Shelf
def Try.lays_SlLaysW_n5_46_ren : Go.Shelf.Ren := ⟨fun | 5 => 46 | 7 => 54 | n => n, fun | 23 => 65 | 25 => 3 | 3 => 3 | 4 => 4 | 20 => 20 | n => n, fun | n => n⟩
theorem Try.lays_SlLaysW_n5_46 : Go.Proofs.SlLaysW.n5 Try.prog Try.lays_SlLaysW_n5_46_ren := {
  mixed := by kernel_rfl
  f5 := ⟨Try.f46.name, by decide, Try.func46.trans (congrArg some (by kernel_rfl))⟩
  f7 := Try.func54.trans (congrArg some (by kernel_rfl))
  t4 := Try.underlying4
  a4 := Try.isAgg4
  z4 := Try.sizeOf4
  v4 := Try.zeroValue4
  t20 := Try.underlying20
  a20 := Try.isAgg20
  z20 := Try.sizeOf20
  v20 := Try.zeroValue20
  t23 := Try.underlying65
  a23 := Try.isAgg65
  z23 := Try.sizeOf65
  v23 := Try.zeroValue65 }
end Go.Proofs
end
