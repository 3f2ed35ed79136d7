/- Joined texts, in this order: ThingPlays. Each one's first remark says what it proves; no condition beyond those that its theorems name. -/
import Derived.Test.YtdoflhiogoefjaaDoorJLawThingCopies23
import Derived.Test.YtdoflhiogoefjaaDoorJLawThingCopies17
import Derived.Test.YtdoflhiogoefjaaDoorJLawThingCopies14
section
/- Law ThingPlays. -/
namespace Go.Proofs.YtdoflhiogoefjaaDoor
open Go.RowKit
open Go.Lib (hid)
set_option linter.unusedVariables false

def stepTX (X : ThX) (o : OpT) : ThX := if o.k = 1 then makeX X o.s o.o else if o.k = 2 then moveX X o.n o.p o.o else if o.k = 3 then destX X o.n else X
theorem stepTX_len (X : ThX) (o : OpT) : (stepTX X o).L.length ≤ X.L.length + 1 ∧ (stepTX X o).nx ≤ X.nx + 1 := by
  unfold stepTX
  split
  · unfold makeX
    split
    · exact ⟨by simp, by (try dsimp only); omega⟩
    · exact ⟨by omega, by omega⟩
  split
  · unfold moveX
    split
    · exact ⟨by simp [setT21], by (try dsimp only); omega⟩
    · exact ⟨by omega, by omega⟩
  split
  · unfold destX
    split
    · exact ⟨by have : (delT X.L o.n).length ≤ X.L.length := List.length_filter_le _ _
                (try dsimp only); omega, by (try dsimp only); omega⟩
    · exact ⟨by omega, by omega⟩
  · exact ⟨by omega, by omega⟩
theorem law21_step {s : Nat} {F : Nat → Prop} {a : Option Addr} {c : Nat} {X X' : ThX} (w : World) (h : BothT w s F a c X) (hl9 : X.L.length ≤ 800) (hnx : X.nx ≤ 4611686018427387904) (o : OpT) (hnm : o.s.length ≤ 1000000) (ho63 : o.o ≤ 9223372036854775807) (e : stepTX X o = X') :
    Calls Tryd.prog 13 #[.pointer (some ⟨s, 0, none⟩), .agg #[.slice a X.L.length c, .int .i64 X.nx], .agg #[.int .i64 o.k, .int .i64 o.n, .int .i64 o.o, .string ⟨o.s.toArray⟩, .int .i64 o.p.1, .int .i64 o.p.2.1, .int .i64 o.p.2.2]] w (StepT w s F a X') := by
  unfold stepTX at e
  by_cases h1 : o.k = 1
  · rw [if_pos h1] at e; rw [← e]; exact law21_step1 w h hl9 hnx o.k o.n o.o o.p.1 o.p.2.1 o.p.2.2 o.s hnm ho63 h1
  rw [if_neg h1] at e
  by_cases h2 : o.k = 2
  · rw [if_pos h2] at e; rw [← e]; exact law21_step2 w h hl9 hnx o.k o.n o.o o.p.1 o.p.2.1 o.p.2.2 o.s hnm ho63 h2
  rw [if_neg h2] at e
  by_cases h3 : o.k = 3
  · rw [if_pos h3] at e; rw [← e]; exact law21_step3 w h hl9 hnx o.k o.n o.o o.p.1 o.p.2.1 o.p.2.2 o.s hnm ho63 h3
  rw [if_neg h3] at e
  rw [← e]
  exact law21_step0 w h hl9 hnx o.k o.n o.o o.p.1 o.p.2.1 o.p.2.2 o.s hnm ho63 h1 h2 h3
theorem inT_once {X : ThX} (hi : TInv X) {x : Th} (hx : x ∈ X.L) : (inT X.L x.pl).countP (fun y => y == x.id) = 1 := by
  have hs := inT_sorted hi.s x.pl
  have hm : x.id ∈ inT X.L x.pl := inT_mem.2 ⟨x, hx, rfl, rfl⟩
  have hnd : (inT X.L x.pl).Nodup := hs.imp (fun {p q} h => by unfold kN at h; omega)
  rw [← List.count_eq_countP]
  rw [hnd.count, if_pos hm]
/-- both, and the law's own x -/
def PlaysT (w : World) (s bX n : Nat) (v30 : Value) (wr : World) : Prop :=
  ∃ (j : Nat) (X : ThX) (F : Nat → Prop) (a : Option Addr) (c : Nat), v30 = .int .i64 (j : Int) ∧ j ≤ n ∧ Hid (BothT wr s F a c X) ∧ Hid (Blk wr bX #[.slice a X.L.length c, .int .i64 X.nx]) ∧ Hid (¬ F bX ∧ (∀ k, aB a k → k ≠ bX) ∧ X.L.length ≤ j ∧ X.nx ≤ (j : Int) + 1 ∧ (∀ k, F k → w.heap.size ≤ k)) ∧ Hid (Below w.heap.size w wr)
def OutT (w : World) (n : Nat) (v65 : Value) (wr : World) : Prop := ∃ j : Nat, v65 = .int .i64 (j : Int) ∧ j ≤ n ∧ Hid (Below w.heap.size w wr)
def InnT (w : World) (l : List Int) (id : Int) (v11 v75 : Value) (wr : World) : Prop :=
  ∃ i n : Nat, v11 = .int .i64 (n : Int) ∧ v75 = .int .i64 (i : Int) ∧ i ≤ l.length ∧ Hid ((l.take i).countP (fun y => y == id) = n) ∧ Hid (Below w.heap.size w wr)
set_option maxRecDepth 100000 in
set_option maxHeartbeats 8000000 in
theorem law21_Plays (L : List OpT) (a : Option Addr) (c : Nat) (w : World) (hl : SlE OpTE 7 w (.slice a L.length c) L) :
    Calls Tryd.prog 4 #[.slice a L.length c] w fun e w' => e = .returned (.bool true) ∧ Below w.heap.size w w' := by
  have HL := hid hl
  clear hl
  go_enter Tryd.func4, Tryd.ntmps4
  go_wp2_with fail
  refine (thing_New w).mono ?_
  rintro e w1 ⟨s, rfl, h1, hb1⟩
  have H1 := hid h1
  have HB1 := hid hb1
  obtain ⟨bb, hbb⟩ : ∃ bb, smallT L 80 = bb := ⟨_, rfl⟩
  have HBB := hid hbb
  clear h1 hb1 hbb
  go_wp2_with fail
  refine (law21_small L 80 (by omega) _ w1 (HL.out.below opTKept HB1.out) bb HBB).mono ?_
  rintro e w2 ⟨rfl, hb2⟩
  have H2 := hid (H1.out.below hb2)
  have HB2 := hid (Below.next HB1.out hb2)
  have HS12 := hid hb2.size
  clear hb2
  cases bb with
  | false =>
    go_wp2_with fail
    refine (law21_awake w2).mono ?_
    rintro e w3 ⟨rfl, hb3⟩
    have HB3 := hid (Below.next HB2.out hb3)
    clear hb3
    go_wp2_with fail
    go_ret
    exact ⟨rfl, HB3.out⟩
  | true =>
  have HSM : Hid (L.all okT = true ∧ L.length ≤ 80) := hid (by have := HBB.out; unfold smallT at this; simpa using this)
  have h80 : L.length ≤ 80 := HSM.out.2
  go_upto_region 5 with fail
  obtain ⟨w3, hw3⟩ : ∃ w3, w3 = w2.alloc (.cells #[.slice none 0 0, .int .i64 1] 34) := ⟨_, rfl⟩
  rw [← hw3]
  obtain ⟨bX, hbX⟩ : ∃ b, b = w2.heap.size := ⟨_, rfl⟩
  rw [← hbX]
  have hb3 : Below w2.heap.size w2 w3 := by rw [hw3]; exact Below.new _ _
  have HX3 := hid (show Blk w3 bX #[.slice none 0 0, .int .i64 1] by rw [hw3, hbX]; exact Blk.new w2 _ _)
  have HB3 := hid (Below.next HB2.out hb3)
  have HBO : Hid (BothT w3 s (fun k => w.heap.size ≤ k ∧ k < w2.heap.size) none 0 ⟨[], 1⟩) := hid ⟨(H2.out.weaken (fun k q q2 => ⟨q, q2⟩)).below hb3, ⟨SlTh.nil _, by simp⟩, fun k q => by have := hb3.size; omega, fun k q => by simp [aB, Value.ownBlock] at q, fun k q => by simp [aB, Value.ownBlock] at q⟩
  have HN : Hid (¬ (w.heap.size ≤ bX ∧ bX < w2.heap.size) ∧ (∀ k, aB none k → k ≠ bX) ∧ (0 : Nat) ≤ 0 ∧ (1 : Int) ≤ ((0 : Nat) : Int) + 1 ∧ (∀ k, (w.heap.size ≤ k ∧ k < w2.heap.size) → w.heap.size ≤ k)) := hid ⟨by omega, fun k q => by simp [aB, Value.ownBlock] at q, Nat.le_refl _, by omega, fun k q => q.1⟩
  have HGE : Hid (w.heap.size ≤ bX) := hid (by rw [hbX]; exact HB2.out.size)
  clear hw3 hbX hb3
  go_wp2_with fail
  go_loopw [30] (fun v30 wr => PlaysT w s bX L.length v30 wr) (fun v30 _ => L.length - (intOf v30).toNat)
  case atStart => exact ⟨0, ⟨[], 1⟩, _, none, 0, rfl, by omega, HBO, HX3, HN, HB3⟩
  case round =>
    clear H1 HB1 HX3 HBO HN HB3 H2 HB2 HS12
    obtain ⟨j, X, F, a4, c4, rfl, hj, HBO, HBX, HN, HB⟩ := hrel
    by_cases hlt : j < L.length
    · have j1 : (j : Int) < (L.length : Int) := by omega
      have j0 : (0 : Int) ≤ (j : Int) := by omega
      obtain ⟨o, hp⟩ : ∃ o, L[j]? = some o := ⟨_, List.getElem?_eq_getElem hlt⟩
      have HMEM := hid (List.all_eq_true.1 HSM.out.1 o (List.mem_of_getElem? hp))
      obtain ⟨bo, off, rfl, q0, q1, q2, q3, q4, q5, q6, ho63⟩ := HL.out.opT HB.out hp
      obtain ⟨ok, on, oo, os, ok1, oh1, os1⟩ := o
      simp only at q0 q1 q2 q3 q4 q5 q6 ho63
      obtain ⟨X', hX'⟩ : ∃ X', stepTX X ⟨ok, on, oo, os, (ok1, oh1, os1)⟩ = X' := ⟨_, rfl⟩
      have HXN := hid hX'
      have HLEN := hid (show X'.L.length ≤ X.L.length + 1 ∧ X'.nx ≤ X.nx + 1 by rw [← hX']; exact stepTX_len X _)
      have HO63 := hid ho63
      have HNM : Hid (os.length ≤ 60) := hid (by have := HMEM.out; unfold okT at this; simpa using this)
      clear hp hX' ho63
      go_upto_region 8 with fail
      obtain ⟨w5, hw5⟩ : ∃ w5, w5 = wr.alloc (.cells #[.int .i64 ok, .int .i64 on, .int .i64 oo, .string ⟨os.toArray⟩, .int .i64 ok1, .int .i64 oh1, .int .i64 os1] 36) := ⟨_, rfl⟩
      rw [← hw5]
      have hb5 : Below wr.heap.size wr w5 := by rw [hw5]; exact Below.new _ _
      obtain ⟨bb, hbb⟩ : ∃ bb, bb = wr.heap.size := ⟨_, rfl⟩
      rw [← hbb]
      have HO5 : Hid (Blk w5 bb #[.int .i64 ok, .int .i64 on, .int .i64 oo, .string ⟨os.toArray⟩, .int .i64 ok1, .int .i64 oh1, .int .i64 os1]) := hid (by rw [hw5, hbb]; exact Blk.new _ _ _)
      have HX5 := hid (HBX.out.below hb5)
      have HBO5 : Hid (BothT w5 s F a4 c4 X) := hid (HBO.out.below hb5)
      have HB5 := hid (Below.next HB.out hb5)
      have HZ : Hid (¬ F bb ∧ bX ≠ bb ∧ wr.heap.size = bb) := hid ⟨fun q => by have := HBO.out.fl _ q; omega, by have := HBX.out.lt; omega, hbb.symm⟩
      clear hw5 hb5 hbb q0 q1 q2 q3 q4 q5 q6
      have x0 : w5.cell? ⟨bX, 0, none⟩ = some (.slice a4 X.L.length c4) := by rw [HX5.out.cell]; rfl
      have x1 : w5.cell? ⟨bX, 1, none⟩ = some (.int .i64 X.nx) := by rw [HX5.out.cell]; rfl
      have cx0 : w5.cell? ⟨bb, 0, none⟩ = some (.int .i64 ok) := by rw [HO5.out.cell]; rfl
      have cx1 : w5.cell? ⟨bb, 1, none⟩ = some (.int .i64 on) := by rw [HO5.out.cell]; rfl
      have cx2 : w5.cell? ⟨bb, 2, none⟩ = some (.int .i64 oo) := by rw [HO5.out.cell]; rfl
      have cx3 : w5.cell? ⟨bb, 3, none⟩ = some (.string ⟨os.toArray⟩) := by rw [HO5.out.cell]; rfl
      have cx4 : w5.cell? ⟨bb, 4, none⟩ = some (.int .i64 ok1) := by rw [HO5.out.cell]; rfl
      have cx5 : w5.cell? ⟨bb, 5, none⟩ = some (.int .i64 oh1) := by rw [HO5.out.cell]; rfl
      have cx6 : w5.cell? ⟨bb, 6, none⟩ = some (.int .i64 os1) := by rw [HO5.out.cell]; rfl
      go_wp2_with fail
      refine (law21_step w5 HBO5.out (by have := HN.out.2.2.1; have := HSM.out.2; omega) (by have := HN.out.2.2.2.1; have := HSM.out.2; omega) ⟨ok, on, oo, os, (ok1, oh1, os1)⟩ (by have := HNM.out; show os.length ≤ _; omega) HO63.out HXN.out).mono ?_
      rintro e w6 ⟨F', a', c', rfl, hbo6, hu6, hF6, hr6⟩
      have HBO6 := hid hbo6
      have HX6 := hid (HX5.out.upd hu6 HN.out.1)
      have HO6 := hid (HO5.out.upd hu6 HZ.out.1)
      have HR6 := hid hr6
      have HF6 := hid hF6
      have HZ6 := hid hu6.size
      have HB6 := hid (HB5.out.trans (hu6.below HB5.out.size (fun k _ q => HN.out.2.2.2.2 k q)))
      clear hbo6 hu6 hF6 hr6 x0 x1 cx0 cx1 cx2 cx3 cx4 cx5 cx6
      have x0 : w6.cell? ⟨bX, 0, none⟩ = some (.slice a4 X.L.length c4) := by rw [HX6.out.cell]; rfl
      have x1 : w6.cell? ⟨bX, 1, none⟩ = some (.int .i64 X.nx) := by rw [HX6.out.cell]; rfl
      have f0 : w6.frozen? ⟨bX, 0, none⟩ = false := HX6.out.unfrozen 0
      have f1 : w6.frozen? ⟨bX, 1, none⟩ = false := HX6.out.unfrozen 1
      go_upto_region 10 with fail
      have HX7 : Hid (Blk ((w6.setCell ⟨bX, 0, none⟩ (.slice a' X'.L.length c')).setCell ⟨bX, 1, none⟩ (.int .i64 X'.nx)) bX #[.slice a' X'.L.length c', .int .i64 X'.nx]) := hid (by simpa using (HX6.out.set 0 (.slice a' X'.L.length c')).set 1 (.int .i64 X'.nx))
      have HU7 := hid ((Upd.setCell w6 bX 0 (.slice a' X'.L.length c')).trans (Upd.setCell _ bX 1 (.int .i64 X'.nx)) (fun _ _ q => q))
      generalize World.setCell (World.setCell w6 _ _) _ _ = w7 at HX7 HU7
      have HNF : Hid (¬ F' bX ∧ (∀ k, aB a' k → k ≠ bX) ∧ (∀ k, F' k → w.heap.size ≤ k)) := hid ⟨fun q => by
        rcases HF6.out _ q with q | q
        · exact HN.out.1 q
        · have := HX5.out.lt; omega, fun k hk q => by
        rcases HR6.out k hk with q2 | q2
        · exact HN.out.2.1 k q2 q
        · have := HX5.out.lt; omega, fun k hk => by
        rcases HF6.out _ hk with q | q
        · exact HN.out.2.2.2.2 k q
        · have := HB5.out.size; omega⟩
      have HBO7 : Hid (BothT w7 s F' a' c' X') := hid ⟨HBO6.out.st.upd HU7.out (fun k q hk => by subst q; exact HNF.out.1 hk), HBO6.out.rx.upd HU7.out (fun k hk q => HNF.out.2.1 k hk q), fun k q => by have := HBO6.out.fl k q; have := HU7.out.size; omega, fun k q => by have := HBO6.out.low k q; have := HU7.out.size; omega, HBO6.out.far⟩
      have HO7 := hid (HO6.out.upd HU7.out (fun q => HZ.out.2.1 q.symm))
      have HB7 := hid (HB6.out.trans (HU7.out.below HB6.out.size (fun k _ q => by have := HGE.out; omega)))
      have HSZ : Hid (X'.L.length ≤ 800 ∧ X'.nx ≤ 4611686018427387904) := hid (by have := HN.out.2.2.1; have := HN.out.2.2.2.1; have := HLEN.out; have := HSM.out.2; omega)
      clear x0 x1 f0 f1
      have x0 : ∀ y, Below w7.heap.size w7 y → y.cell? ⟨bX, 0, none⟩ = some (.slice a' X'.L.length c') := fun y hy => by rw [(HX7.out.below hy).cell]; rfl
      have x1 : ∀ y, Below w7.heap.size w7 y → y.cell? ⟨bX, 1, none⟩ = some (.int .i64 X'.nx) := fun y hy => by rw [(HX7.out.below hy).cell]; rfl
      have cx4 : ∀ y, Below w7.heap.size w7 y → y.cell? ⟨bb, 4, none⟩ = some (.int .i64 ok1) := fun y hy => by rw [(HO7.out.below hy).cell]; rfl
      have cx5 : ∀ y, Below w7.heap.size w7 y → y.cell? ⟨bb, 5, none⟩ = some (.int .i64 oh1) := fun y hy => by rw [(HO7.out.below hy).cell]; rfl
      have cx6 : ∀ y, Below w7.heap.size w7 y → y.cell? ⟨bb, 6, none⟩ = some (.int .i64 os1) := fun y hy => by rw [(HO7.out.below hy).cell]; rfl
      have hyd := (Below.refl w7.heap.size w7).drew
      refine wp_region_kept [] (fun y => Below w7.heap.size w7 y) (by kernel_rfl) (by assumption) (fun hH => ?_)
      refine wpK.take (i := 0) (v := _) (by simp only [List.getElem?_toArray, List.getElem?_cons_succ, List.getElem?_cons_zero]; rfl) (by kernel_rfl) (by kernel_rfl) (by kernel_rfl) (by kernel_rfl) (by kernel_rfl) (by exact fun _ _ _ h => h) (by first | exact Or.inl ⟨by rfl, by intro w hSw; go_simp; try with_reducible rfl⟩ | exact Or.inr ⟨by rfl, rfl⟩) hH ?_
      try simp only [Act.put, List.setIfInBounds_toArray, List.set_cons_zero, List.set_cons_succ]
      refine wpK.take (i := 1) (v := _) (by simp only [List.getElem?_toArray, List.getElem?_cons_succ, List.getElem?_cons_zero]; rfl) (by kernel_rfl) (by kernel_rfl) (by kernel_rfl) (by kernel_rfl) (by kernel_rfl) (by exact fun _ _ _ h => h) (by first | exact Or.inl ⟨by rfl, by intro w hSw; go_simp; try with_reducible rfl⟩ | exact Or.inr ⟨by rfl, rfl⟩) hH ?_
      try simp only [Act.put, List.setIfInBounds_toArray, List.set_cons_zero, List.set_cons_succ]
      refine wpK.take (i := 2) (v := _) (by simp only [List.getElem?_toArray, List.getElem?_cons_succ, List.getElem?_cons_zero]; rfl) (by kernel_rfl) (by kernel_rfl) (by kernel_rfl) (by kernel_rfl) (by kernel_rfl) (by exact fun _ _ _ h => h) (by first | exact Or.inl ⟨by rfl, by intro w hSw; go_simp; try with_reducible rfl⟩ | exact Or.inr ⟨by rfl, rfl⟩) hH ?_
      try simp only [Act.put, List.setIfInBounds_toArray, List.set_cons_zero, List.set_cons_succ]
      refine wpK.take (i := 3) (v := _) (by simp only [List.getElem?_toArray, List.getElem?_cons_succ, List.getElem?_cons_zero]; rfl) (by kernel_rfl) (by kernel_rfl) (by kernel_rfl) (by kernel_rfl) (by kernel_rfl) (by exact fun _ _ _ h => h) (by first | exact Or.inl ⟨by rfl, by intro w hSw; go_simp; try with_reducible rfl⟩ | exact Or.inr ⟨by rfl, rfl⟩) hH ?_
      try simp only [Act.put, List.setIfInBounds_toArray, List.set_cons_zero, List.set_cons_succ]
      refine wpK.take (i := 4) (v := _) (by simp only [List.getElem?_toArray, List.getElem?_cons_succ, List.getElem?_cons_zero]; rfl) (by kernel_rfl) (by kernel_rfl) (by kernel_rfl) (by kernel_rfl) (by kernel_rfl) (by exact fun _ _ _ h => h) (by first | exact Or.inl ⟨by rfl, by intro w hSw; go_simp; try with_reducible rfl⟩ | exact Or.inr ⟨by rfl, rfl⟩) hH ?_
      try simp only [Act.put, List.setIfInBounds_toArray, List.set_cons_zero, List.set_cons_succ]
      refine wpK.step (i := 5) (by kernel_rfl) (by simp only [List.getElem?_toArray, List.getElem?_cons_succ, List.getElem?_cons_zero]; rfl) (fun K hK => ?_)
      go_simp
      (refine (law21_same _ (HBO7.out.below hyd) (by have := HSZ.out.1; omega) HSZ.out.2).mono ?_); rintro e w8 ⟨rfl, hb8⟩; (have hk8 := Below.next hH hb8); (have HK8 := hid hk8); go_simp
      refine hK.out _ _ (by assumption) (fun hH => ?_)
      clear hK K
      try simp only [Act.put, List.setIfInBounds_toArray, List.set_cons_zero, List.set_cons_succ]
      refine wpK.take (i := 6) (v := _) (by simp only [List.getElem?_toArray, List.getElem?_cons_succ, List.getElem?_cons_zero]; rfl) (by kernel_rfl) (by kernel_rfl) (by kernel_rfl) (by kernel_rfl) (by kernel_rfl) (by exact fun _ _ _ h => h) (by first | exact Or.inl ⟨by rfl, by intro w hSw; go_simp; try with_reducible rfl⟩ | exact Or.inr ⟨by rfl, rfl⟩) hH ?_
      try simp only [Act.put, List.setIfInBounds_toArray, List.set_cons_zero, List.set_cons_succ]
      refine wpK.take (i := 7) (v := _) (by simp only [List.getElem?_toArray, List.getElem?_cons_succ, List.getElem?_cons_zero]; rfl) (by kernel_rfl) (by kernel_rfl) (by kernel_rfl) (by kernel_rfl) (by kernel_rfl) (by exact fun _ _ _ h => h) (by first | exact Or.inl ⟨by rfl, by intro w hSw; go_simp; try with_reducible rfl⟩ | exact Or.inr ⟨by rfl, rfl⟩) hH ?_
      try simp only [Act.put, List.setIfInBounds_toArray, List.set_cons_zero, List.set_cons_succ]
      refine wpK.take (i := 8) (v := _) (by simp only [List.getElem?_toArray, List.getElem?_cons_succ, List.getElem?_cons_zero]; rfl) (by kernel_rfl) (by kernel_rfl) (by kernel_rfl) (by kernel_rfl) (by kernel_rfl) (by exact fun _ _ _ h => h) (by first | exact Or.inl ⟨by rfl, by intro w hSw; go_simp; try with_reducible rfl⟩ | exact Or.inr ⟨by rfl, rfl⟩) hH ?_
      try simp only [Act.put, List.setIfInBounds_toArray, List.set_cons_zero, List.set_cons_succ]
      refine wpK.take (i := 9) (v := _) (by simp only [List.getElem?_toArray, List.getElem?_cons_succ, List.getElem?_cons_zero]; rfl) (by kernel_rfl) (by kernel_rfl) (by kernel_rfl) (by kernel_rfl) (by kernel_rfl) (by exact fun _ _ _ h => h) (by first | exact Or.inl ⟨by rfl, by intro w hSw; go_simp; try with_reducible rfl⟩ | exact Or.inr ⟨by rfl, rfl⟩) hH ?_
      try simp only [Act.put, List.setIfInBounds_toArray, List.set_cons_zero, List.set_cons_succ]
      refine wpK.take (i := 10) (v := _) (by simp only [List.getElem?_toArray, List.getElem?_cons_succ, List.getElem?_cons_zero]; rfl) (by kernel_rfl) (by kernel_rfl) (by kernel_rfl) (by kernel_rfl) (by kernel_rfl) (by exact fun _ _ _ h => h) (by first | exact Or.inl ⟨by rfl, by intro w hSw; go_simp; try with_reducible rfl⟩ | exact Or.inr ⟨by rfl, rfl⟩) hH ?_
      try simp only [Act.put, List.setIfInBounds_toArray, List.set_cons_zero, List.set_cons_succ]
      refine wpK.take (i := 11) (v := _) (by simp only [List.getElem?_toArray, List.getElem?_cons_succ, List.getElem?_cons_zero]; rfl) (by kernel_rfl) (by kernel_rfl) (by kernel_rfl) (by kernel_rfl) (by kernel_rfl) (by exact fun _ _ _ h => h) (by first | exact Or.inl ⟨by rfl, by intro w hSw; go_simp; try with_reducible rfl⟩ | exact Or.inr ⟨by rfl, rfl⟩) hH ?_
      try simp only [Act.put, List.setIfInBounds_toArray, List.set_cons_zero, List.set_cons_succ]
      refine wpK.take (i := 13) (v := _) (by simp only [List.getElem?_toArray, List.getElem?_cons_succ, List.getElem?_cons_zero]; rfl) (by kernel_rfl) (by kernel_rfl) (by kernel_rfl) (by kernel_rfl) (by kernel_rfl) (by exact fun _ _ _ h => h) (by first | exact Or.inl ⟨by rfl, by intro w hSw; go_simp; try with_reducible rfl⟩ | exact Or.inr ⟨by rfl, rfl⟩) hH ?_
      try simp only [Act.put, List.setIfInBounds_toArray, List.set_cons_zero, List.set_cons_succ]
      refine wpK.take (i := 14) (v := _) (by simp only [List.getElem?_toArray, List.getElem?_cons_succ, List.getElem?_cons_zero]; rfl) (by kernel_rfl) (by kernel_rfl) (by kernel_rfl) (by kernel_rfl) (by kernel_rfl) (by exact fun _ _ _ h => h) (by first | exact Or.inl ⟨by rfl, by intro w hSw; go_simp; try with_reducible rfl⟩ | exact Or.inr ⟨by rfl, rfl⟩) hH ?_
      try simp only [Act.put, List.setIfInBounds_toArray, List.set_cons_zero, List.set_cons_succ]
      refine wpK.take (i := 15) (v := _) (by simp only [List.getElem?_toArray, List.getElem?_cons_succ, List.getElem?_cons_zero]; rfl) (by kernel_rfl) (by kernel_rfl) (by kernel_rfl) (by kernel_rfl) (by kernel_rfl) (by exact fun _ _ _ h => h) (by first | exact Or.inl ⟨by rfl, by intro w hSw; go_simp; try with_reducible rfl⟩ | exact Or.inr ⟨by rfl, rfl⟩) hH ?_
      try simp only [Act.put, List.setIfInBounds_toArray, List.set_cons_zero, List.set_cons_succ]
      refine wpK.step (i := 12) (by kernel_rfl) (by simp only [List.getElem?_toArray, List.getElem?_cons_succ, List.getElem?_cons_zero]; rfl) (fun K hK => ?_)
      go_simp
      (refine (thing_In w8 (HBO7.out.st.below HK8.out).1 (by have := HSZ.out.1; omega) ok1 oh1 os1 _ (hid rfl)).mono ?_); rintro e w9 ⟨v1, rfl, ho1, hb9⟩; (have hk9 := Below.next HK8.out hb9); (have HK9 := hid hk9); (have HO1 := hid (SlI.of_own ho1)); clear ho1; go_simp
      refine hK.out _ _ (by assumption) (fun hH => ?_)
      clear hK K
      try simp only [Act.put, List.setIfInBounds_toArray, List.set_cons_zero, List.set_cons_succ]
      refine wpK.step (i := 16) (by kernel_rfl) (by simp only [List.getElem?_toArray, List.getElem?_cons_succ, List.getElem?_cons_zero]; rfl) (fun K hK => ?_)
      go_simp
      (refine (ref21_In w9 (HBO7.out.rx.below HK9.out) ok1 oh1 os1).mono ?_); rintro e wA ⟨v2, rfl, ho2, hbA⟩; (have hkA := Below.next HK9.out hbA); (have HKA := hid hkA); (have HO2 := hid (SlI.of_own ho2)); (have HO3 := hid (HO1.out.below hbA)); clear ho2; go_simp
      refine hK.out _ _ (by assumption) (fun hH => ?_)
      clear hK K
      try simp only [Act.put, List.setIfInBounds_toArray, List.set_cons_zero, List.set_cons_succ]
      refine wpK.step (i := 17) (by kernel_rfl) (by simp only [List.getElem?_toArray, List.getElem?_cons_succ, List.getElem?_cons_zero]; rfl) (fun K hK => ?_)
      go_simp
      (refine (law21_equal _ v1 v2 wA HO3.out HO2.out).mono ?_); rintro e wB ⟨rfl, hbB⟩; (have hkB := Below.next HKA.out hbB); (have HKB := hid hkB); go_simp
      refine hK.out _ _ (by assumption) (fun hH => ?_)
      clear hK K
      try simp only [Act.put, List.setIfInBounds_toArray, List.set_cons_zero, List.set_cons_succ]
      refine wpK.take (i := 18) (v := _) (by simp only [List.getElem?_toArray, List.getElem?_cons_succ, List.getElem?_cons_zero]; rfl) (by kernel_rfl) (by kernel_rfl) (by kernel_rfl) (by kernel_rfl) (by kernel_rfl) (by exact fun _ _ _ h => h) (by first | exact Or.inl ⟨by rfl, by intro w hSw; go_simp; try with_reducible rfl⟩ | exact Or.inr ⟨by rfl, rfl⟩) hH ?_
      try simp only [Act.put, List.setIfInBounds_toArray, List.set_cons_zero, List.set_cons_succ]
      refine wpK.take (i := 19) (v := _) (by simp only [List.getElem?_toArray, List.getElem?_cons_succ, List.getElem?_cons_zero]; rfl) (by kernel_rfl) (by kernel_rfl) (by kernel_rfl) (by kernel_rfl) (by kernel_rfl) (by exact fun _ _ _ h => h) (by first | exact Or.inl ⟨by rfl, by intro w hSw; go_simp; try with_reducible rfl⟩ | exact Or.inr ⟨by rfl, rfl⟩) hH ?_
      try simp only [Act.put, List.setIfInBounds_toArray, List.set_cons_zero, List.set_cons_succ]
      refine wpK.done (by kernel_rfl) ?_ _
      have HX9 := hid (HX7.out.below HKB.out)
      have HBO9 := hid (HBO7.out.below HKB.out)
      have HB9 := hid (Below.next HB7.out HKB.out)
      clear x0 x1 cx4 cx5 cx6 hyd
      go_wp2_with fail
      go_roundw
      case rel => exact ⟨j + 1, X', F', a', c', by go_num, by omega, HBO9, HX9, hid ⟨HNF.out.1, HNF.out.2.1, by have := HN.out.2.2.1; have := HLEN.out.1; omega, by have := HN.out.2.2.2.1; have := HLEN.out.2; omega, HNF.out.2.2⟩, HB9⟩
      case measure => simp [intOf]; omega
    · obtain ⟨wo, hwo⟩ : ∃ wo, wo = wr := ⟨_, rfl⟩
      subst hwo
      have j1 : ¬ (j : Int) < (L.length : Int) := by omega
      have HSZ : Hid (X.L.length ≤ 80) := hid (by have := HN.out.2.2.1; have := HSM.out.2; omega)
      obtain ⟨n, hn⟩ : ∃ n, n = X.L.length := ⟨_, rfl⟩
      have HNE := hid hn
      have hn80 : n ≤ 80 := by rw [hn]; exact HSZ.out
      have x0 : wo.cell? ⟨bX, 0, none⟩ = some (.slice a4 n c4) := by rw [HBX.out.cell, hn]; rfl
      clear hn
      go_wp2_with fail
      go_loopw [65] (fun v65 wq => OutT wo n v65 wq) (fun v65 _ => n - (intOf v65).toNat)
      case atStart => exact ⟨0, rfl, by omega, hid (Below.refl _ _)⟩
      case round =>
        obtain ⟨wq, hwq⟩ : ∃ wq, wq = wr := ⟨_, rfl⟩
        subst hwq
        clear x0
        obtain ⟨k, rfl, hk, HBQ⟩ := hrel
        by_cases hlk : k < n
        · have k1 : (k : Int) < (n : Int) := by omega
          have k0 : (0 : Int) ≤ (k : Int) := by omega
          have HRQ := hid (HBO.out.rx.below HBQ.out)
          obtain ⟨a5, c5, e5, hrd, -⟩ := HRQ.out.t
          simp only [Value.slice.injEq, true_and] at e5
          obtain ⟨rfl, rfl⟩ := e5
          obtain ⟨b0, off, y, rfl, d0, d1, d2, d3, d4, d5, hy, -, -⟩ := hrd.six k (by rw [← HNE.out]; exact hlk)
          have HMY := hid (List.mem_of_getElem? hy)
          obtain ⟨yi, yn, yo, yk, yh, ys⟩ := y
          simp only at d0 d1 d2 d3 d4 d5
          clear hrd hy
          go_upto_region 16 with fail
          obtain ⟨w5, hw5⟩ : ∃ w5, w5 = wq.alloc (.cells #[.int .i64 yi, .string ⟨yn.toArray⟩, .int .i64 yo, .int .i64 yk, .int .i64 yh, .int .i64 ys] 45) := ⟨_, rfl⟩
          rw [← hw5]
          have hb5 : Below wq.heap.size wq w5 := by rw [hw5]; exact Below.new _ _
          obtain ⟨bb, hbb⟩ : ∃ bb, bb = wq.heap.size := ⟨_, rfl⟩
          rw [← hbb]
          have HO5 : Hid (Blk w5 bb #[.int .i64 yi, .string ⟨yn.toArray⟩, .int .i64 yo, .int .i64 yk, .int .i64 yh, .int .i64 ys]) := hid (by rw [hw5, hbb]; exact Blk.new _ _ _)
          have HB5 := hid (Below.next HBQ.out hb5)
          clear hw5 hb5 hbb d0 d1 d2 d3 d4 d5
          have cx3 : w5.cell? ⟨bb, 3, none⟩ = some (.int .i64 yk) := by rw [HO5.out.cell]; rfl
          have cx4 : w5.cell? ⟨bb, 4, none⟩ = some (.int .i64 yh) := by rw [HO5.out.cell]; rfl
          have cx5 : w5.cell? ⟨bb, 5, none⟩ = some (.int .i64 ys) := by rw [HO5.out.cell]; rfl
          obtain ⟨l, hl⟩ : ∃ l, inT X.L (yk, yh, ys) = l := ⟨_, rfl⟩
          have HLI := hid hl
          have HLL : Hid (l.length ≤ 80) := hid (by have := inT_len X.L (yk, yh, ys); have := HSZ.out; rw [← hl]; omega)
          clear hl
          go_wp2_with fail
          refine (thing_In w5 (HBO.out.st.below HB5.out).1 (by have := HSZ.out; omega) yk yh ys l HLI).mono ?_
          rintro e w6 ⟨v1, rfl, ho1, hb6⟩
          have HB6 := hid (Below.next HB5.out hb6)
          have HO6 := hid (HO5.out.below hb6)
          obtain ⟨a6, c6, rfl, hr6, -, -, -⟩ := SlI.of_own ho1
          have HR6 := hid hr6
          have hl80 : l.length ≤ 80 := HLL.out
          clear ho1 hb6 cx3 cx4 cx5 hr6
          go_wp2_with fail
          go_loopw [11, 75] (fun v11 v75 wp => InnT w6 l yi v11 v75 wp) (fun _ v75 _ => l.length - (intOf v75).toNat)
          case atStart => exact ⟨0, 0, rfl, rfl, by omega, hid rfl, hid (Below.refl _ _)⟩
          case round =>
            obtain ⟨wp, hwp⟩ : ∃ wp, wp = wr := ⟨_, rfl⟩
            subst hwp
            obtain ⟨i, m, rfl, rfl, hi, HC, HBP⟩ := hrel
            have hm : m ≤ i := by have := HC.out; rw [← this]; exact Nat.le_trans List.countP_le_length (by rw [List.length_take]; omega)
            by_cases hli : i < l.length
            · obtain ⟨b1, o1, x, rfl, d0, hx, -, htk, -⟩ := (HR6.out.below' HBP.out).int i hli
              have i1 : (i : Int) < (l.length : Int) := by omega
              have i0 : (0 : Int) ≤ (i : Int) := by omega
              have cx0 : wp.cell? ⟨bb, 0, none⟩ = some (.int .i64 yi) := by rw [(HO6.out.below HBP.out).cell]; rfl
              have HTK := hid htk
              clear hx htk
              by_cases hxe : x = yi
              · subst hxe
                have hq : (x == x) = true := by simp
                go_wp2_with fail
                go_roundw
                case rel => exact ⟨i + 1, m + 1, by go_num, by go_num, by omega, hid (by rw [HTK.out, List.countP_append, HC.out]; simp), HBP⟩
                case measure => simp [intOf]; omega
              · have hq : (x == yi) = false := by simpa using hxe
                have HXE := hid hxe
                clear hxe
                go_wp2_with fail
                go_roundw
                case rel => exact ⟨i + 1, m, rfl, by go_num, by omega, hid (by rw [HTK.out, List.countP_append, HC.out]; simp [hq]), HBP⟩
                case measure => simp [intOf]; omega
            · have i1 : ¬ (i : Int) < (l.length : Int) := by omega
              have hm1 : m = 1 := by
                have h1 := HC.out
                rw [List.take_of_length_le (by omega), ← HLI.out] at h1
                rw [← h1]
                exact inT_once HBO.out.st.2 HMY.out
              subst hm1
              have HBZ := hid (Below.next HB6.out HBP.out)
              go_wp2_with fail
              go_roundw
              case rel => exact ⟨k + 1, by go_num, by omega, HBZ⟩
              case measure => simp [intOf]; omega
        · have k1 : ¬ (k : Int) < (n : Int) := by omega
          go_wp2_with fail
          refine (law21_awake wq).mono ?_
          rintro e w9 ⟨rfl, hb9⟩
          have HB9 := hid (Below.next (Below.next HB.out HBQ.out) hb9)
          clear hb9
          go_wp2_with fail
          go_ret
          exact ⟨rfl, HB9.out⟩
set_option maxRecDepth 100000 in
theorem ThingPlays_walk {H : Type} {enc : TypeId × Value → H} {b0 : Nat} {d0 : DataW H} {p0 : List MemPlace} (v0 : Value) (w : World) (ok0 : Value.okWide Tryd.prog w .any b0 28 v0) (k0 : DataW.Trod enc Tryd.prog w 0 (fun _ => true) true 28 v0 d0 p0) :
    Calls Tryd.prog 4 #[v0] w fun e w' => e = .returned (.bool true) ∧ Below w.heap.size w w' := by
  obtain ⟨L, hl⟩ := open_opsT ok0 k0
  obtain ⟨a, c, rfl, h2⟩ := id hl
  exact law21_Plays L a c w hl
end Go.Proofs.YtdoflhiogoefjaaDoor
end
