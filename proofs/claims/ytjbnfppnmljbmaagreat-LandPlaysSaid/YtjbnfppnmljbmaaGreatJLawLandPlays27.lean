/- Joined texts, in this order: Law19St, LayKeys, Keys. Each one's first remark says what it proves; no condition beyond those that its theorems name. -/
import Derived.Test.YtjbnfppnmljbmaaGreatJLawLandPlays24
import Derived.Test.YtjbnfppnmljbmaaGreatJLawLandPlays26
import Derived.Shelf.SlGeneric
import Derived.Ground.NamesProg
import Derived.Shelf.Sort.Plain
import Derived.Shelf.Slices.In.SortNone
import Derived.Ground.GgzProg
import Derived.Shelf.SlIterI.Nil
import Derived.Test.YtjbnfppnmljbmaaGreatProg
import Derived.Test.YtjbnfppnmljbmaaGreatJLawLandPlays19
section
/- Law 19: step. -/
namespace Go.Proofs.YtjbnfppnmljbmaaGreat
open Go.RowKit Go.Deep
open Go.Lib (hid)
set_option linter.unusedVariables false
attribute [local go_sem] Oper.semAt_some

/-- one call of the law -/
structure OpL where
  k : Int
  i : Int
  r : R4
instance : Inhabited OpL := ⟨⟨0, 0, (0, 0, 0, 0)⟩⟩
def opVL (o : OpL) : Value := .agg #[.int .i64 o.k, .int .i64 o.i, .int .i64 o.r.1, .int .i64 o.r.2.1, .int .i64 o.r.2.2.1, .int .i64 o.r.2.2.2]
def stepL (S : Int) (B : List R4) (P : List Pl) (o : OpL) : List Pl := if o.k = 1 then claimP S B P o.i o.r else if o.k = 2 then freeP P o.i else P
/-- land and the document's -/
structure BothL (w : World) (l : Nat) (F : Nat → Prop) (k : Nat) (B : List R4) (vs vp : Value) (P : List Pl) : Prop where
  land : LandIs w l F k B P
  st : SlR w vs B
  pl : SlPl w vp P
  ns : ∀ b, vs.ownBlock = some b → ¬ F b
  np : ∀ b, vp.ownBlock = some b → ¬ F b
  ls : ∀ b, vs.ownBlock = some b → b < w.heap.size
  lp : ∀ b, vp.ownBlock = some b → b < w.heap.size
theorem BothL.upd {U : Nat → Prop} {w w' : World} {l : Nat} {F : Nat → Prop} {k : Nat} {B : List R4} {vs vp : Value} {P : List Pl} (h : BothL w l F k B vs vp P) (hu : Upd U w w') (hF : ∀ b, U b → ¬ F b) (hs : ∀ b, vs.ownBlock = some b → ¬ U b) (hp : ∀ b, vp.ownBlock = some b → ¬ U b) : BothL w' l F k B vs vp P :=
  ⟨h.land.upd hu hF, h.st.upd hu hs, h.pl.upd hu hp, h.ns, h.np, fun b e => Nat.lt_of_lt_of_le (h.ls b e) hu.size, fun b e => Nat.lt_of_lt_of_le (h.lp b e) hu.size⟩
theorem BothL.below {w w' : World} {l : Nat} {F : Nat → Prop} {k : Nat} {B : List R4} {vs vp : Value} {P : List Pl} (h : BothL w l F k B vs vp P) (hb : Below w.heap.size w w') : BothL w' l F k B vs vp P :=
  h.upd (U := fun _ => False) (Upd.of_below hb) (fun _ z => z.elim) (fun _ _ z => z) (fun _ _ z => z)
def StepPostL (w : World) (l : Nat) (F : Nat → Prop) (k : Nat) (B : List R4) (S : Int) (vs vp : Value) (P' : List Pl) (e : Ending) (w' : World) : Prop :=
  ∃ (F' : Nat → Prop) (vp' : Value), e = .returned (.tuple #[xV S vs vp', .bool true]) ∧ BothL w' l F' k B vs vp' P' ∧ Upd F w w' ∧ (∀ b, F' b → F b ∨ w.heap.size ≤ b) ∧ (vp' = vp ∨ ∀ b, vp'.ownBlock = some b → w.heap.size ≤ b)
/-- what lies at the new box behind the document's call -/
def CutL (w1 wx : World) (b8 : Nat) (S : Int) (vs vp vp' : Value) (P' : List Pl) : Prop :=
  Blk wx b8 #[.int .i64 S, vs, vp'] ∧ SlPl wx vp' P' ∧ w1.heap.size ≤ b8 ∧ (vp' = vp ∨ ∀ b, vp'.ownBlock = some b → w1.heap.size ≤ b ∧ b < wx.heap.size) ∧ (∀ b, vp'.ownBlock = some b → b ≠ b8) ∧ Below w1.heap.size w1 wx
theorem Blk.c6v {w : World} {g : Nat} {c0 c1 c2 c3 c4 c5 : Value} (h : Blk w g #[c0, c1, c2, c3, c4, c5]) : w.cell? ⟨g, 0, none⟩ = some c0 ∧ w.cell? ⟨g, 1, none⟩ = some c1 ∧ w.cell? ⟨g, 2, none⟩ = some c2 ∧ w.cell? ⟨g, 3, none⟩ = some c3 ∧ w.cell? ⟨g, 4, none⟩ = some c4 ∧ w.cell? ⟨g, 5, none⟩ = some c5 :=
  ⟨by rw [h.cell]; rfl, by rw [h.cell]; rfl, by rw [h.cell]; rfl, by rw [h.cell]; rfl, by rw [h.cell]; rfl, by rw [h.cell]; rfl⟩
/-- the end: the answer lies in the results' box -/
theorem CutL.post {w w1 w2 w6 wz : World} {b8 g6 l : Nat} {F F' : Nat → Prop} {k : Nat} {B : List R4} {S : Int} {vs vp vp' : Value} {P P' : List Pl} (h : BothL w l F k B vs vp P) (hc : CutL w1 w2 b8 S vs vp vp' P') (hFl : ∀ b, F b → b < w.heap.size) (hb1 : Below w.heap.size w w1) (h6 : w.heap.size ≤ g6 ∧ g6 < w1.heap.size) (hl : LandIs w6 l F' k B P') (hu : Upd F w2 w6) (hF : ∀ b, F' b → F b ∨ w2.heap.size ≤ b) (huz : Upd (fun b => b = g6) w6 wz) : StepPostL w l F k B S vs vp P' (.returned (.tuple #[xV S vs vp', .bool true])) wz := by
  obtain ⟨c1, c2, c3, c4, c5, c6⟩ := hc
  have z1 := hb1.size
  have z2 := c6.size
  have z3 := hu.size
  have z4 := huz.size
  have hw2 : Below w.heap.size w w2 := Below.next hb1 c6
  have hlow : ∀ b, vp'.ownBlock = some b → b < w2.heap.size ∧ ¬ F b ∧ b ≠ g6 := by
    intro b e
    rcases c4 with rfl | q
    · have h1 := h.lp b e
      exact ⟨by omega, h.np b e, by omega⟩
    · have h1 := q b e
      exact ⟨h1.2, fun y => by have := hFl b y; omega, by omega⟩
  have hnF : ∀ b, F' b → b < w2.heap.size → F b := fun b y z => by
    rcases hF b y with q | q
    · exact q
    · omega
  have hs2 : SlR w2 vs B := h.st.below hw2
  refine ⟨F', vp', rfl, ⟨hl.upd huz (fun b e y => ?_), (hs2.upd hu (fun b e y => h.ns b e y)).upd huz (fun b e y => by have := h.ls b e; have := h6.1; omega), (c2.upd hu (fun b e y => (hlow b e).2.1 y)).upd huz (fun b e y => (hlow b e).2.2 y), fun b e y => ?_, fun b e y => ?_, fun b e => by have := h.ls b e; omega, fun b e => by have := (hlow b e).1; omega⟩, ?_, fun b y => ?_, ?_⟩
  · have h1 := hnF b y (by have := h6.2; omega)
    have := hFl b h1
    have := h6.1
    omega
  · exact h.ns b e (hnF b y (by have := h.ls b e; omega))
  · exact (hlow b e).2.1 (hnF b y (hlow b e).1)
  · have hu2 : Upd F w w6 := (Upd.of_below hw2).trans hu (fun _ _ y => y)
    have hu3 : Upd (fun b => F b ∨ b = g6) w wz := (hu2.mono (fun _ _ q => .inl q)).trans huz (fun _ _ q => .inr q)
    exact hu3.mono (fun b hb q => q.elim id (fun e => by have := h6.1; omega))
  · rcases hF b y with q | q
    · exact .inl q
    · exact .inr (by omega)
  · exact c4.imp _root_.id (fun q b e => by have := (q b e).1; omega)
set_option maxRecDepth 100000 in
set_option maxHeartbeats 8000000 in
theorem law19_step0 (S : Int) (sa ap : Option Addr) (nb cb np cp : Nat) (k : Nat) (B : List R4) (P : List Pl) (kd id x y a b : Int) (l : Nat) (F : Nat → Prop) (w : World) (h : BothL w l F k B (.slice sa nb cb) (.slice ap np cp) P) (hS : sd k = S) (hlB : B.length ≤ 1000) (hFl : ∀ b, F b → b < w.heap.size) :
    Calls Tryz.prog 22 #[.pointer (some ⟨l, 0, none⟩), .agg #[.int .i64 S, .slice sa nb cb, .slice ap np cp], .agg #[.int .i64 kd, .int .i64 id, .int .i64 x, .int .i64 y, .int .i64 a, .int .i64 b]] w (StepPostL w l F k B S (.slice sa nb cb) (.slice ap np cp) (stepL S B P ⟨kd, id, (x, y, a, b)⟩)) := by
  have H := hid h
  have HSD := hid hS
  have HLB := hid hlB
  have HFL := hid hFl
  clear h hS hlB hFl
  go_enter Tryz.func22, Tryz.ntmps22
  go_upto_region 1 with fail
  generalize hW : World.alloc (World.alloc (World.alloc w _) _) _ = w1
  obtain ⟨g4, hg4⟩ : ∃ g, g = w.heap.size := ⟨_, rfl⟩
  obtain ⟨g5, hg5⟩ : ∃ go, go = w.heap.size + 1 := ⟨_, rfl⟩
  obtain ⟨g6, hg6⟩ : ∃ go, go = w.heap.size + 1 + 1 := ⟨_, rfl⟩
  have hz : (World.alloc w (.cells #[.int .i64 S, .slice sa nb cb, .slice ap np cp] 32)).heap.size = w.heap.size + 1 := by simp
  have hz2 : (World.alloc (World.alloc w (.cells #[.int .i64 S, .slice sa nb cb, .slice ap np cp] 32)) (.cells #[.int .i64 kd, .int .i64 id, .int .i64 x, .int .i64 y, .int .i64 a, .int .i64 b] 55)).heap.size = w.heap.size + 1 + 1 := by simp
  try rw [hz2]
  try rw [hz]
  try rw [← hg6]
  try rw [← hg5]
  try rw [← hg4]
  have hb1 : Below w.heap.size w w1 := by rw [← hW]; exact Below.next (Below.next (Below.new _ _) (Below.new _ _)) (Below.new _ _)
  have HX4 : Hid (Blk w1 g4 #[.int .i64 S, .slice sa nb cb, .slice ap np cp]) := hid (by rw [← hW, hg4]; exact ((Blk.new w _ _).below (Below.new _ _)).below (Below.new _ _))
  have HX5 : Hid (Blk w1 g5 #[.int .i64 kd, .int .i64 id, .int .i64 x, .int .i64 y, .int .i64 a, .int .i64 b]) := hid (by rw [← hW, hg5, ← hz]; exact (Blk.new _ _ _).below (Below.new _ _))
  have HX6 : Hid (Blk w1 g6 #[.int .i64 0, .slice none 0 0, .slice none 0 0]) := hid (by rw [← hW, hg6, ← hz2]; exact Blk.new _ _ _)
  have HB1 := hid hb1
  have HG : Hid (g4 = w.heap.size ∧ g5 = w.heap.size + 1 ∧ g6 = w.heap.size + 2 ∧ g6 < w1.heap.size) := hid ⟨hg4, hg5, by omega, HX6.out.lt⟩
  have HLP : Hid (∀ b, Value.ownBlock (.slice ap np cp) = some b → b < w1.heap.size) := hid (fun b e => by have := H.out.lp b e; have := hb1.size; omega)
  clear hW hg4 hg5 hg6 hz hz2 hb1
  obtain ⟨o0, o1, o2, o3, o4, o5⟩ := HX5.out.c6v
  obtain ⟨l0, l1, l2⟩ := HX4.out.c3v
  by_cases k1 : kd = 1
  · subst k1
    obtain ⟨E, hE⟩ : ∃ E, claimE S B P id (x, y, a, b) = E := ⟨_, rfl⟩
    obtain ⟨P', hP⟩ : ∃ P', claimP S B P id (x, y, a, b) = P' := ⟨_, rfl⟩
    have HST : Hid (stepL S B P ⟨1, id, (x, y, a, b)⟩ = P') := hid (by unfold stepL; rw [if_pos rfl]; exact hP)
    have HCLM : Hid (∀ z, Below w1.heap.size w1 z → Calls Tryz.prog 39 #[.agg #[.int .i64 S, .slice sa nb cb, .slice ap np cp], .int .i64 id, .agg #[.int .i64 x, .int .i64 y, .int .i64 a, .int .i64 b]] z (XPost z S (.slice sa nb cb) (.slice ap np cp) P' E)) := hid (fun z hz => by
      have hh := H.out.below (Below.next HB1.out hz)
      have := ref19_Claim S sa ap nb cb np cp B P id x y a b z hh.st hh.pl HLB.out (by have := hh.land.inv.len; omega)
      rw [hE, hP] at this
      exact this)
    have hlc : ∀ w2, Below w.heap.size w w2 → ∀ z, Below w2.heap.size w2 z → Calls Tryz.prog 28 #[.pointer (some ⟨l, 0, none⟩), .int .i64 id, .agg #[.int .i64 x, .int .i64 y, .int .i64 a, .int .i64 b]] z (LandPost z l F k B P' E) := fun w2 h2 z hz => by
      have := land_Claim z l F k B P id x y a b ((H.out.land.below h2).below hz)
      rw [HSD.out, hE, hP] at this
      exact this
    have HLCC := hid hlc
    clear hE hP hlc
    go_upto_region 3 with fail
    go_cut [8, 9] (fun v8 v9 wx => ∃ (b8 : Nat) (ap2 : Option Addr) (cp2 : Nat), v8 = .pointer (some ⟨b8, 0, none⟩) ∧ v9 = .int .i64 E ∧ Hid (CutL w1 wx b8 S (.slice sa nb cb) (.slice ap np cp) (Value.slice ap2 P'.length cp2) P'))
    case first =>
      replace l0 := fun (z : World) (hz : Below w1.heap.size w1 z) => cellOf_belowR hz l0
      replace l1 := fun (z : World) (hz : Below w1.heap.size w1 z) => cellOf_belowR hz l1
      replace l2 := fun (z : World) (hz : Below w1.heap.size w1 z) => cellOf_belowR hz l2
      replace o1 := fun (z : World) (hz : Below w1.heap.size w1 z) => cellOf_belowR hz o1
      replace o2 := fun (z : World) (hz : Below w1.heap.size w1 z) => cellOf_belowR hz o2
      replace o3 := fun (z : World) (hz : Below w1.heap.size w1 z) => cellOf_belowR hz o3
      replace o4 := fun (z : World) (hz : Below w1.heap.size w1 z) => cellOf_belowR hz o4
      replace o5 := fun (z : World) (hz : Below w1.heap.size w1 z) => cellOf_belowR hz o5
      clear o0
      have hyd := (Below.refl w1.heap.size w1).drew
      refine wp_region_kept [12] (fun z => Below w1.heap.size w1 z) (by kernel_rfl) (by assumption) (fun hH => ?_)
      refine wpK.take (i := 0) (v := _) (by simp only [List.getElem?_toArray, List.getElem?_cons_succ, List.getElem?_cons_zero]; rfl) (by kernel_rfl) (by kernel_rfl) (by kernel_rfl) (by kernel_rfl) (by kernel_rfl) (by exact fun _ _ _ h => h) (by first | exact Or.inl ⟨by rfl, by intro w hSw; go_simp; try with_reducible rfl⟩ | exact Or.inr ⟨by rfl, rfl⟩) hH ?_
      try simp only [Act.put, List.setIfInBounds_toArray, List.set_cons_zero, List.set_cons_succ]
      refine wpK.take (i := 1) (v := _) (by simp only [List.getElem?_toArray, List.getElem?_cons_succ, List.getElem?_cons_zero]; rfl) (by kernel_rfl) (by kernel_rfl) (by kernel_rfl) (by kernel_rfl) (by kernel_rfl) (by exact fun _ _ _ h => h) (by first | exact Or.inl ⟨by rfl, by intro w hSw; go_simp; try with_reducible rfl⟩ | exact Or.inr ⟨by rfl, rfl⟩) hH ?_
      try simp only [Act.put, List.setIfInBounds_toArray, List.set_cons_zero, List.set_cons_succ]
      refine wpK.take (i := 2) (v := _) (by simp only [List.getElem?_toArray, List.getElem?_cons_succ, List.getElem?_cons_zero]; rfl) (by kernel_rfl) (by kernel_rfl) (by kernel_rfl) (by kernel_rfl) (by kernel_rfl) (by exact fun _ _ _ h => h) (by first | exact Or.inl ⟨by rfl, by intro w hSw; go_simp; try with_reducible rfl⟩ | exact Or.inr ⟨by rfl, rfl⟩) hH ?_
      try simp only [Act.put, List.setIfInBounds_toArray, List.set_cons_zero, List.set_cons_succ]
      refine wpK.take (i := 3) (v := _) (by simp only [List.getElem?_toArray, List.getElem?_cons_succ, List.getElem?_cons_zero]; rfl) (by kernel_rfl) (by kernel_rfl) (by kernel_rfl) (by kernel_rfl) (by kernel_rfl) (by exact fun _ _ _ h => h) (by first | exact Or.inl ⟨by rfl, by intro w hSw; go_simp; try with_reducible rfl⟩ | exact Or.inr ⟨by rfl, rfl⟩) hH ?_
      try simp only [Act.put, List.setIfInBounds_toArray, List.set_cons_zero, List.set_cons_succ]
      refine wpK.take (i := 4) (v := _) (by simp only [List.getElem?_toArray, List.getElem?_cons_succ, List.getElem?_cons_zero]; rfl) (by kernel_rfl) (by kernel_rfl) (by kernel_rfl) (by kernel_rfl) (by kernel_rfl) (by exact fun _ _ _ h => h) (by first | exact Or.inl ⟨by rfl, by intro w hSw; go_simp; try with_reducible rfl⟩ | exact Or.inr ⟨by rfl, rfl⟩) hH ?_
      try simp only [Act.put, List.setIfInBounds_toArray, List.set_cons_zero, List.set_cons_succ]
      refine wpK.two (i := 5) (j := 10) (by kernel_rfl) (by simp only [List.getElem?_toArray, List.getElem?_cons_succ, List.getElem?_cons_zero]; rfl) (by simp only [List.getElem?_toArray, List.getElem?_cons_succ, List.getElem?_cons_zero]; rfl) (fun K hK => ?_) (fun K hK => ?_)
      · go_simp
        (refine (law19_ref x y a b _).mono ?_); rintro e wa ⟨rfl, hba⟩; (have hka : Below w1.heap.size w1 wa := Below.next hH hba); (try (have hblk8 := hblk8.below hba)); go_simp
        refine hK.out _ _ (by assumption) (fun hH => ?_)
        clear hK K
        try simp only [Act.put, List.setIfInBounds_toArray, List.set_cons_zero, List.set_cons_succ]
        refine wpK.two (i := 6) (j := 10) (by kernel_rfl) (by simp only [List.getElem?_toArray, List.getElem?_cons_succ, List.getElem?_cons_zero]; rfl) (by simp only [List.getElem?_toArray, List.getElem?_cons_succ, List.getElem?_cons_zero]; rfl) (fun K hK => ?_) (fun K hK => ?_)
        · go_simp
          (refine (HCLM.out _ hH).mono ?_); rintro e wb ⟨vp', rfl, hsb, hob, hbb⟩; (have hkb : Below w1.heap.size w1 wb := Below.next hH hbb); (try (have hne8 : Hid (∀ b, Value.ownBlock vp' = some b → b ≠ g8) := hid (fun b hb e => hob.elim (fun q => by rw [q] at hb; have := HLP.out b hb; have := hgl.out; omega) (fun q => by have := (q b hb).1; have := hblk8.lt; omega)))); (try (have hblk8 := hblk8.below hbb)); (have HSB := hid hsb); (have HOB : Hid ((vp' = .slice ap np cp ∨ ∀ b, Value.ownBlock vp' = some b → w1.heap.size ≤ b ∧ b < wb.heap.size)) := hid (hob.imp _root_.id (fun q b hb => ⟨by have := (q b hb).1; have := hH.size; omega, (q b hb).2⟩))); clear hsb hob; (obtain ⟨ap2, cp2, hv2, -⟩ := _root_.id HSB.out); subst hv2; simp only [xV]; go_simp
          refine hK.out _ _ (by assumption) (fun hH => ?_)
          clear hK K
          try simp only [Act.put, List.setIfInBounds_toArray, List.set_cons_zero, List.set_cons_succ]
          refine wpK.take (i := 7) (v := _) (by simp only [List.getElem?_toArray, List.getElem?_cons_succ, List.getElem?_cons_zero]; rfl) (by kernel_rfl) (by kernel_rfl) (by kernel_rfl) (by kernel_rfl) (by kernel_rfl) (by exact fun _ _ _ h => h) (by first | exact Or.inl ⟨by rfl, by intro w hSw; go_simp; try with_reducible rfl⟩ | exact Or.inr ⟨by rfl, rfl⟩) hH ?_
          try simp only [Act.put, List.setIfInBounds_toArray, List.set_cons_zero, List.set_cons_succ]
          refine wpK.take (i := 8) (v := _) (by simp only [List.getElem?_toArray, List.getElem?_cons_succ, List.getElem?_cons_zero]; rfl) (by kernel_rfl) (by kernel_rfl) (by kernel_rfl) (by kernel_rfl) (by kernel_rfl) (by exact fun _ _ _ h => h) (by first | exact Or.inl ⟨by rfl, by intro w hSw; go_simp; try with_reducible rfl⟩ | exact Or.inr ⟨by rfl, rfl⟩) hH ?_
          try simp only [Act.put, List.setIfInBounds_toArray, List.set_cons_zero, List.set_cons_succ]
          refine wpK.take (i := 9) (v := _) (by simp only [List.getElem?_toArray, List.getElem?_cons_succ, List.getElem?_cons_zero]; rfl) (by kernel_rfl) (by kernel_rfl) (by kernel_rfl) (by kernel_rfl) (by kernel_rfl) (by exact fun _ _ _ h => h) (by first | exact Or.inl ⟨by rfl, by intro w hSw; go_simp; try with_reducible rfl⟩ | exact Or.inr ⟨by rfl, rfl⟩) hH ?_
          try simp only [Act.put, List.setIfInBounds_toArray, List.set_cons_zero, List.set_cons_succ]
          refine wpK.step (i := 10) (by kernel_rfl) (by simp only [List.getElem?_toArray, List.getElem?_cons_succ, List.getElem?_cons_zero]; rfl) (fun K hK => ?_)
          go_simp
          (first | refine K_alloc (K := K) ?_ | refine K_allocD (K := K) ?_); intro g8 w8 hg8 hs8 hb8 hblk8; (try rw [← hg8]); (have hk8 : Below w1.heap.size w1 w8 := by first | exact Below.next hH hb8 | exact hb8); (have hgl : Hid (w1.heap.size ≤ g8) := hid (by rw [hg8]; exact hH.size)); (try (have hne8 : Hid (∀ b, Value.ownBlock (Value.slice ap2 P'.length cp2) = some b → b ≠ g8) := hid (fun b hb e => HOB.out.elim (fun q => by rw [q] at hb; have := HLP.out b hb; have := hgl.out; omega) (fun q => by have := (q b hb).2; omega)))); (try (have HSB := hid (HSB.out.below hb8))); (try (have HOB : Hid (((Value.slice ap2 P'.length cp2) = .slice ap np cp ∨ ∀ b, Value.ownBlock (Value.slice ap2 P'.length cp2) = some b → w1.heap.size ≤ b ∧ b < w8.heap.size)) := hid (HOB.out.imp _root_.id (fun q b hb => ⟨(q b hb).1, by have := (q b hb).2; have := hb8.size; omega⟩)))); clear hg8 hs8
          refine hK.out _ _ (by assumption) (fun hH => ?_)
          clear hK K
          try simp only [Act.put, List.setIfInBounds_toArray, List.set_cons_zero, List.set_cons_succ]
          refine wpK.step (i := 11) (by kernel_rfl) (by simp only [List.getElem?_toArray, List.getElem?_cons_succ, List.getElem?_cons_zero]; rfl) (fun K hK => ?_)
          (obtain ⟨p0, p1, p2⟩ := hblk8.c3v); (have f0 := hblk8.unfrozen 0); (have f1 := hblk8.unfrozen 1); (have f2 := hblk8.unfrozen 2); (obtain ⟨wz, hwz, hkz, huz⟩ := set3v hblk8 (.int .i64 S) (.slice sa nb cb) (Value.slice ap2 P'.length cp2)); (have hbz : Below w1.heap.size w1 wz := hH.trans (huz.below hH.size (fun k _ q => by rw [q]; exact hgl.out))); (have HWZ := hid hwz); (have HCUT : Hid (CutL w1 wz g8 S (.slice sa nb cb) (.slice ap np cp) (Value.slice ap2 P'.length cp2) P') := hid ⟨hkz, HSB.out.upd huz (fun b hb q => hne8.out b hb q), hgl.out, HOB.out.imp _root_.id (fun q b hb => ⟨(q b hb).1, by have := (q b hb).2; have := huz.size; omega⟩), hne8.out, hbz⟩); clear hwz hkz huz; go_simp; (try rw [← HWZ.out])
          refine hK.out _ _ (by assumption) (fun hH => ?_)
          clear hK K
          try simp only [Act.put, List.setIfInBounds_toArray, List.set_cons_zero, List.set_cons_succ]
          refine wpK.late (i := 12) (by kernel_rfl) (by simp only [List.getElem?_toArray, List.getElem?_cons_succ, List.getElem?_cons_zero]; rfl) (by kernel_rfl) (fun K hK => ?_)
          go_simp
          refine hK.out _ _ ?_
          clear hK K
          try simp only [Act.put, List.setIfInBounds_toArray, List.set_cons_zero, List.set_cons_succ]
          refine wpK.done (by kernel_rfl) ?_ _
          go_wp2_with fail
          go_meet
          exact ⟨g8, ap2, cp2, rfl, rfl, HCUT⟩
        · go_simp
          (first | refine K_alloc (K := K) ?_ | refine K_allocD (K := K) ?_); intro g8 w8 hg8 hs8 hb8 hblk8; (try rw [← hg8]); (have hk8 : Below w1.heap.size w1 w8 := by first | exact Below.next hH hb8 | exact hb8); (have hgl : Hid (w1.heap.size ≤ g8) := hid (by rw [hg8]; exact hH.size)); (try (have hne8 : Hid (∀ b, Value.ownBlock (Value.slice ap2 P'.length cp2) = some b → b ≠ g8) := hid (fun b hb e => HOB.out.elim (fun q => by rw [q] at hb; have := HLP.out b hb; have := hgl.out; omega) (fun q => by have := (q b hb).2; omega)))); (try (have HSB := hid (HSB.out.below hb8))); (try (have HOB : Hid (((Value.slice ap2 P'.length cp2) = .slice ap np cp ∨ ∀ b, Value.ownBlock (Value.slice ap2 P'.length cp2) = some b → w1.heap.size ≤ b ∧ b < w8.heap.size)) := hid (HOB.out.imp _root_.id (fun q b hb => ⟨(q b hb).1, by have := (q b hb).2; have := hb8.size; omega⟩)))); clear hg8 hs8
          refine hK.out _ _ (by assumption) (fun hH => ?_)
          clear hK K
          try simp only [Act.put, List.setIfInBounds_toArray, List.set_cons_zero, List.set_cons_succ]
          refine wpK.step (i := 6) (by kernel_rfl) (by simp only [List.getElem?_toArray, List.getElem?_cons_succ, List.getElem?_cons_zero]; rfl) (fun K hK => ?_)
          go_simp
          (refine (HCLM.out _ hH).mono ?_); rintro e wb ⟨vp', rfl, hsb, hob, hbb⟩; (have hkb : Below w1.heap.size w1 wb := Below.next hH hbb); (try (have hne8 : Hid (∀ b, Value.ownBlock vp' = some b → b ≠ g8) := hid (fun b hb e => hob.elim (fun q => by rw [q] at hb; have := HLP.out b hb; have := hgl.out; omega) (fun q => by have := (q b hb).1; have := hblk8.lt; omega)))); (try (have hblk8 := hblk8.below hbb)); (have HSB := hid hsb); (have HOB : Hid ((vp' = .slice ap np cp ∨ ∀ b, Value.ownBlock vp' = some b → w1.heap.size ≤ b ∧ b < wb.heap.size)) := hid (hob.imp _root_.id (fun q b hb => ⟨by have := (q b hb).1; have := hH.size; omega, (q b hb).2⟩))); clear hsb hob; (obtain ⟨ap2, cp2, hv2, -⟩ := _root_.id HSB.out); subst hv2; simp only [xV]; go_simp
          refine hK.out _ _ (by assumption) (fun hH => ?_)
          clear hK K
          try simp only [Act.put, List.setIfInBounds_toArray, List.set_cons_zero, List.set_cons_succ]
          refine wpK.take (i := 7) (v := _) (by simp only [List.getElem?_toArray, List.getElem?_cons_succ, List.getElem?_cons_zero]; rfl) (by kernel_rfl) (by kernel_rfl) (by kernel_rfl) (by kernel_rfl) (by kernel_rfl) (by exact fun _ _ _ h => h) (by first | exact Or.inl ⟨by rfl, by intro w hSw; go_simp; try with_reducible rfl⟩ | exact Or.inr ⟨by rfl, rfl⟩) hH ?_
          try simp only [Act.put, List.setIfInBounds_toArray, List.set_cons_zero, List.set_cons_succ]
          refine wpK.take (i := 8) (v := _) (by simp only [List.getElem?_toArray, List.getElem?_cons_succ, List.getElem?_cons_zero]; rfl) (by kernel_rfl) (by kernel_rfl) (by kernel_rfl) (by kernel_rfl) (by kernel_rfl) (by exact fun _ _ _ h => h) (by first | exact Or.inl ⟨by rfl, by intro w hSw; go_simp; try with_reducible rfl⟩ | exact Or.inr ⟨by rfl, rfl⟩) hH ?_
          try simp only [Act.put, List.setIfInBounds_toArray, List.set_cons_zero, List.set_cons_succ]
          refine wpK.take (i := 9) (v := _) (by simp only [List.getElem?_toArray, List.getElem?_cons_succ, List.getElem?_cons_zero]; rfl) (by kernel_rfl) (by kernel_rfl) (by kernel_rfl) (by kernel_rfl) (by kernel_rfl) (by exact fun _ _ _ h => h) (by first | exact Or.inl ⟨by rfl, by intro w hSw; go_simp; try with_reducible rfl⟩ | exact Or.inr ⟨by rfl, rfl⟩) hH ?_
          try simp only [Act.put, List.setIfInBounds_toArray, List.set_cons_zero, List.set_cons_succ]
          refine wpK.step (i := 11) (by kernel_rfl) (by simp only [List.getElem?_toArray, List.getElem?_cons_succ, List.getElem?_cons_zero]; rfl) (fun K hK => ?_)
          (obtain ⟨p0, p1, p2⟩ := hblk8.c3v); (have f0 := hblk8.unfrozen 0); (have f1 := hblk8.unfrozen 1); (have f2 := hblk8.unfrozen 2); (obtain ⟨wz, hwz, hkz, huz⟩ := set3v hblk8 (.int .i64 S) (.slice sa nb cb) (Value.slice ap2 P'.length cp2)); (have hbz : Below w1.heap.size w1 wz := hH.trans (huz.below hH.size (fun k _ q => by rw [q]; exact hgl.out))); (have HWZ := hid hwz); (have HCUT : Hid (CutL w1 wz g8 S (.slice sa nb cb) (.slice ap np cp) (Value.slice ap2 P'.length cp2) P') := hid ⟨hkz, HSB.out.upd huz (fun b hb q => hne8.out b hb q), hgl.out, HOB.out.imp _root_.id (fun q b hb => ⟨(q b hb).1, by have := (q b hb).2; have := huz.size; omega⟩), hne8.out, hbz⟩); clear hwz hkz huz; go_simp; (try rw [← HWZ.out])
          refine hK.out _ _ (by assumption) (fun hH => ?_)
          clear hK K
          try simp only [Act.put, List.setIfInBounds_toArray, List.set_cons_zero, List.set_cons_succ]
          refine wpK.late (i := 12) (by kernel_rfl) (by simp only [List.getElem?_toArray, List.getElem?_cons_succ, List.getElem?_cons_zero]; rfl) (by kernel_rfl) (fun K hK => ?_)
          go_simp
          refine hK.out _ _ ?_
          clear hK K
          try simp only [Act.put, List.setIfInBounds_toArray, List.set_cons_zero, List.set_cons_succ]
          refine wpK.done (by kernel_rfl) ?_ _
          go_wp2_with fail
          go_meet
          exact ⟨g8, ap2, cp2, rfl, rfl, HCUT⟩
      · go_simp
        (first | refine K_alloc (K := K) ?_ | refine K_allocD (K := K) ?_); intro g8 w8 hg8 hs8 hb8 hblk8; (try rw [← hg8]); (have hk8 : Below w1.heap.size w1 w8 := by first | exact Below.next hH hb8 | exact hb8); (have hgl : Hid (w1.heap.size ≤ g8) := hid (by rw [hg8]; exact hH.size)); (try (have hne8 : Hid (∀ b, Value.ownBlock (Value.slice ap2 P'.length cp2) = some b → b ≠ g8) := hid (fun b hb e => HOB.out.elim (fun q => by rw [q] at hb; have := HLP.out b hb; have := hgl.out; omega) (fun q => by have := (q b hb).2; omega)))); (try (have HSB := hid (HSB.out.below hb8))); (try (have HOB : Hid (((Value.slice ap2 P'.length cp2) = .slice ap np cp ∨ ∀ b, Value.ownBlock (Value.slice ap2 P'.length cp2) = some b → w1.heap.size ≤ b ∧ b < w8.heap.size)) := hid (HOB.out.imp _root_.id (fun q b hb => ⟨(q b hb).1, by have := (q b hb).2; have := hb8.size; omega⟩)))); clear hg8 hs8
        refine hK.out _ _ (by assumption) (fun hH => ?_)
        clear hK K
        try simp only [Act.put, List.setIfInBounds_toArray, List.set_cons_zero, List.set_cons_succ]
        refine wpK.step (i := 5) (by kernel_rfl) (by simp only [List.getElem?_toArray, List.getElem?_cons_succ, List.getElem?_cons_zero]; rfl) (fun K hK => ?_)
        go_simp
        (refine (law19_ref x y a b _).mono ?_); rintro e wa ⟨rfl, hba⟩; (have hka : Below w1.heap.size w1 wa := Below.next hH hba); (try (have hblk8 := hblk8.below hba)); go_simp
        refine hK.out _ _ (by assumption) (fun hH => ?_)
        clear hK K
        try simp only [Act.put, List.setIfInBounds_toArray, List.set_cons_zero, List.set_cons_succ]
        refine wpK.step (i := 6) (by kernel_rfl) (by simp only [List.getElem?_toArray, List.getElem?_cons_succ, List.getElem?_cons_zero]; rfl) (fun K hK => ?_)
        go_simp
        (refine (HCLM.out _ hH).mono ?_); rintro e wb ⟨vp', rfl, hsb, hob, hbb⟩; (have hkb : Below w1.heap.size w1 wb := Below.next hH hbb); (try (have hne8 : Hid (∀ b, Value.ownBlock vp' = some b → b ≠ g8) := hid (fun b hb e => hob.elim (fun q => by rw [q] at hb; have := HLP.out b hb; have := hgl.out; omega) (fun q => by have := (q b hb).1; have := hblk8.lt; omega)))); (try (have hblk8 := hblk8.below hbb)); (have HSB := hid hsb); (have HOB : Hid ((vp' = .slice ap np cp ∨ ∀ b, Value.ownBlock vp' = some b → w1.heap.size ≤ b ∧ b < wb.heap.size)) := hid (hob.imp _root_.id (fun q b hb => ⟨by have := (q b hb).1; have := hH.size; omega, (q b hb).2⟩))); clear hsb hob; (obtain ⟨ap2, cp2, hv2, -⟩ := _root_.id HSB.out); subst hv2; simp only [xV]; go_simp
        refine hK.out _ _ (by assumption) (fun hH => ?_)
        clear hK K
        try simp only [Act.put, List.setIfInBounds_toArray, List.set_cons_zero, List.set_cons_succ]
        refine wpK.take (i := 7) (v := _) (by simp only [List.getElem?_toArray, List.getElem?_cons_succ, List.getElem?_cons_zero]; rfl) (by kernel_rfl) (by kernel_rfl) (by kernel_rfl) (by kernel_rfl) (by kernel_rfl) (by exact fun _ _ _ h => h) (by first | exact Or.inl ⟨by rfl, by intro w hSw; go_simp; try with_reducible rfl⟩ | exact Or.inr ⟨by rfl, rfl⟩) hH ?_
        try simp only [Act.put, List.setIfInBounds_toArray, List.set_cons_zero, List.set_cons_succ]
        refine wpK.take (i := 8) (v := _) (by simp only [List.getElem?_toArray, List.getElem?_cons_succ, List.getElem?_cons_zero]; rfl) (by kernel_rfl) (by kernel_rfl) (by kernel_rfl) (by kernel_rfl) (by kernel_rfl) (by exact fun _ _ _ h => h) (by first | exact Or.inl ⟨by rfl, by intro w hSw; go_simp; try with_reducible rfl⟩ | exact Or.inr ⟨by rfl, rfl⟩) hH ?_
        try simp only [Act.put, List.setIfInBounds_toArray, List.set_cons_zero, List.set_cons_succ]
        refine wpK.take (i := 9) (v := _) (by simp only [List.getElem?_toArray, List.getElem?_cons_succ, List.getElem?_cons_zero]; rfl) (by kernel_rfl) (by kernel_rfl) (by kernel_rfl) (by kernel_rfl) (by kernel_rfl) (by exact fun _ _ _ h => h) (by first | exact Or.inl ⟨by rfl, by intro w hSw; go_simp; try with_reducible rfl⟩ | exact Or.inr ⟨by rfl, rfl⟩) hH ?_
        try simp only [Act.put, List.setIfInBounds_toArray, List.set_cons_zero, List.set_cons_succ]
        refine wpK.step (i := 11) (by kernel_rfl) (by simp only [List.getElem?_toArray, List.getElem?_cons_succ, List.getElem?_cons_zero]; rfl) (fun K hK => ?_)
        (obtain ⟨p0, p1, p2⟩ := hblk8.c3v); (have f0 := hblk8.unfrozen 0); (have f1 := hblk8.unfrozen 1); (have f2 := hblk8.unfrozen 2); (obtain ⟨wz, hwz, hkz, huz⟩ := set3v hblk8 (.int .i64 S) (.slice sa nb cb) (Value.slice ap2 P'.length cp2)); (have hbz : Below w1.heap.size w1 wz := hH.trans (huz.below hH.size (fun k _ q => by rw [q]; exact hgl.out))); (have HWZ := hid hwz); (have HCUT : Hid (CutL w1 wz g8 S (.slice sa nb cb) (.slice ap np cp) (Value.slice ap2 P'.length cp2) P') := hid ⟨hkz, HSB.out.upd huz (fun b hb q => hne8.out b hb q), hgl.out, HOB.out.imp _root_.id (fun q b hb => ⟨(q b hb).1, by have := (q b hb).2; have := huz.size; omega⟩), hne8.out, hbz⟩); clear hwz hkz huz; go_simp; (try rw [← HWZ.out])
        refine hK.out _ _ (by assumption) (fun hH => ?_)
        clear hK K
        try simp only [Act.put, List.setIfInBounds_toArray, List.set_cons_zero, List.set_cons_succ]
        refine wpK.late (i := 12) (by kernel_rfl) (by simp only [List.getElem?_toArray, List.getElem?_cons_succ, List.getElem?_cons_zero]; rfl) (by kernel_rfl) (fun K hK => ?_)
        go_simp
        refine hK.out _ _ ?_
        clear hK K
        try simp only [Act.put, List.setIfInBounds_toArray, List.set_cons_zero, List.set_cons_succ]
        refine wpK.done (by kernel_rfl) ?_ _
        go_wp2_with fail
        go_meet
        exact ⟨g8, ap2, cp2, rfl, rfl, HCUT⟩
    case rest =>
    rename World => w2
    obtain ⟨b8, ap2, cp2, rfl, rfl, HC⟩ := hcut
    clear o0 o1 o2 o3 o4 o5 l0 l1 l2
    have HLC := hid (HLCC.out w2 (Below.next HB1.out HC.out.2.2.2.2.2))
    have HB2 := hid (Below.next HB1.out HC.out.2.2.2.2.2)
    have HLI2 := hid (H.out.land.below HB2.out)
    have HK8 := hid HC.out.1
    have h5 := HX5.out.below HC.out.2.2.2.2.2
    have HR6 := hid (HX6.out.below HC.out.2.2.2.2.2)
    have n5 : ¬ F g5 := fun q => by have h1 := HFL.out g5 q; have h2 := HG.out; omega
    have n6 : ¬ F g6 := fun q => by have h1 := HFL.out g6 q; have h2 := HG.out; omega
    have n8 : ¬ F b8 := fun q => by have h1 := HFL.out b8 q; have h2 := HG.out; have h3 := HC.out.2.2.1; omega
    have HN6 := hid n6
    have m5 : ¬ (F g5 ∨ g5 = g6) := fun q => q.elim n5 (fun e => by have := HG.out; omega)
    have m8 : ¬ (F b8 ∨ b8 = g6) := fun q => q.elim n8 (fun e => by have := HG.out; have := HC.out.2.2.1; omega)
    obtain ⟨x0, x1, x2, x3, x4, x5⟩ := h5.c6v
    obtain ⟨d0, d1, d2⟩ := HK8.out.c3v
    clear h5 x0
    go_upto_region 4 with fail
    replace d0 := fun (z : World) (hz : Upd (fun b => F b ∨ b = g6) w2 z) => hz.cell d0 m8
    replace d1 := fun (z : World) (hz : Upd (fun b => F b ∨ b = g6) w2 z) => hz.cell d1 m8
    replace d2 := fun (z : World) (hz : Upd (fun b => F b ∨ b = g6) w2 z) => hz.cell d2 m8
    replace x1 := fun (z : World) (hz : Upd (fun b => F b ∨ b = g6) w2 z) => hz.cell x1 m5
    replace x2 := fun (z : World) (hz : Upd (fun b => F b ∨ b = g6) w2 z) => hz.cell x2 m5
    replace x3 := fun (z : World) (hz : Upd (fun b => F b ∨ b = g6) w2 z) => hz.cell x3 m5
    replace x4 := fun (z : World) (hz : Upd (fun b => F b ∨ b = g6) w2 z) => hz.cell x4 m5
    replace x5 := fun (z : World) (hz : Upd (fun b => F b ∨ b = g6) w2 z) => hz.cell x5 m5
    clear n5 n6 n8 m5 m8
    have hyb := (Below.refl w2.heap.size w2).drew
    have hyd : Upd (fun b => F b ∨ b = g6) w2 w2.drew := Upd.of_below hyb
    have HYB := hid hyb
    refine wp_region_kept [10] (fun z => Upd (fun b => F b ∨ b = g6) w2 z) (by kernel_rfl) (by assumption) (fun hH => ?_)
    refine wpK.take (i := 0) (v := _) (by simp only [List.getElem?_toArray, List.getElem?_cons_succ, List.getElem?_cons_zero]; rfl) (by kernel_rfl) (by kernel_rfl) (by kernel_rfl) (by kernel_rfl) (by kernel_rfl) (by exact fun _ _ _ h => h) (by first | exact Or.inl ⟨by rfl, by intro w hSw; go_simp; try with_reducible rfl⟩ | exact Or.inr ⟨by rfl, rfl⟩) hH ?_
    try simp only [Act.put, List.setIfInBounds_toArray, List.set_cons_zero, List.set_cons_succ]
    refine wpK.take (i := 1) (v := _) (by simp only [List.getElem?_toArray, List.getElem?_cons_succ, List.getElem?_cons_zero]; rfl) (by kernel_rfl) (by kernel_rfl) (by kernel_rfl) (by kernel_rfl) (by kernel_rfl) (by exact fun _ _ _ h => h) (by first | exact Or.inl ⟨by rfl, by intro w hSw; go_simp; try with_reducible rfl⟩ | exact Or.inr ⟨by rfl, rfl⟩) hH ?_
    try simp only [Act.put, List.setIfInBounds_toArray, List.set_cons_zero, List.set_cons_succ]
    refine wpK.take (i := 2) (v := _) (by simp only [List.getElem?_toArray, List.getElem?_cons_succ, List.getElem?_cons_zero]; rfl) (by kernel_rfl) (by kernel_rfl) (by kernel_rfl) (by kernel_rfl) (by kernel_rfl) (by exact fun _ _ _ h => h) (by first | exact Or.inl ⟨by rfl, by intro w hSw; go_simp; try with_reducible rfl⟩ | exact Or.inr ⟨by rfl, rfl⟩) hH ?_
    try simp only [Act.put, List.setIfInBounds_toArray, List.set_cons_zero, List.set_cons_succ]
    refine wpK.take (i := 3) (v := _) (by simp only [List.getElem?_toArray, List.getElem?_cons_succ, List.getElem?_cons_zero]; rfl) (by kernel_rfl) (by kernel_rfl) (by kernel_rfl) (by kernel_rfl) (by kernel_rfl) (by exact fun _ _ _ h => h) (by first | exact Or.inl ⟨by rfl, by intro w hSw; go_simp; try with_reducible rfl⟩ | exact Or.inr ⟨by rfl, rfl⟩) hH ?_
    try simp only [Act.put, List.setIfInBounds_toArray, List.set_cons_zero, List.set_cons_succ]
    refine wpK.take (i := 4) (v := _) (by simp only [List.getElem?_toArray, List.getElem?_cons_succ, List.getElem?_cons_zero]; rfl) (by kernel_rfl) (by kernel_rfl) (by kernel_rfl) (by kernel_rfl) (by kernel_rfl) (by exact fun _ _ _ h => h) (by first | exact Or.inl ⟨by rfl, by intro w hSw; go_simp; try with_reducible rfl⟩ | exact Or.inr ⟨by rfl, rfl⟩) hH ?_
    try simp only [Act.put, List.setIfInBounds_toArray, List.set_cons_zero, List.set_cons_succ]
    refine wpK.take (i := 5) (v := _) (by simp only [List.getElem?_toArray, List.getElem?_cons_succ, List.getElem?_cons_zero]; rfl) (by kernel_rfl) (by kernel_rfl) (by kernel_rfl) (by kernel_rfl) (by kernel_rfl) (by exact fun _ _ _ h => h) (by first | exact Or.inl ⟨by rfl, by intro w hSw; go_simp; try with_reducible rfl⟩ | exact Or.inr ⟨by rfl, rfl⟩) hH ?_
    try simp only [Act.put, List.setIfInBounds_toArray, List.set_cons_zero, List.set_cons_succ]
    refine wpK.take (i := 7) (v := _) (by simp only [List.getElem?_toArray, List.getElem?_cons_succ, List.getElem?_cons_zero]; rfl) (by kernel_rfl) (by kernel_rfl) (by kernel_rfl) (by kernel_rfl) (by kernel_rfl) (by exact fun _ _ _ h => h) (by first | exact Or.inl ⟨by rfl, by intro w hSw; go_simp; try with_reducible rfl⟩ | exact Or.inr ⟨by rfl, rfl⟩) hH ?_
    try simp only [Act.put, List.setIfInBounds_toArray, List.set_cons_zero, List.set_cons_succ]
    refine wpK.step (i := 6) (by kernel_rfl) (by simp only [List.getElem?_toArray, List.getElem?_cons_succ, List.getElem?_cons_zero]; rfl) (fun K hK => ?_)
    go_simp
    (refine (HLC.out _ hyb).mono ?_); rintro e w6 ⟨F', rfl, hl6, hu6, hF6⟩; (have hk6 : Upd (fun b => F b ∨ b = g6) w2 w6 := hyd.trans hu6 (fun _ _ q => .inl q)); (have hm6 : Upd F w2 w6 := (Upd.of_below HYB.out).trans hu6 (fun _ _ q => q)); (have HL6 := hid (And.intro hl6 (And.intro hm6 hF6))); clear hm6; clear hl6 hu6 hF6; go_simp
    refine hK.out _ _ (by assumption) (fun hH => ?_)
    clear hK K
    try simp only [Act.put, List.setIfInBounds_toArray, List.set_cons_zero, List.set_cons_succ]
    refine wpK.take (i := 8) (v := _) (by simp only [List.getElem?_toArray, List.getElem?_cons_succ, List.getElem?_cons_zero]; rfl) (by kernel_rfl) (by kernel_rfl) (by kernel_rfl) (by kernel_rfl) (by kernel_rfl) (by exact fun _ _ _ h => h) (by first | exact Or.inl ⟨by rfl, by intro w hSw; go_simp; try with_reducible rfl⟩ | exact Or.inr ⟨by rfl, rfl⟩) hH ?_
    try simp only [Act.put, List.setIfInBounds_toArray, List.set_cons_zero, List.set_cons_succ]
    refine wpK.step (i := 9) (by kernel_rfl) (by simp only [List.getElem?_toArray, List.getElem?_cons_succ, List.getElem?_cons_zero]; rfl) (fun K hK => ?_)
    (have hr6 := HR6.out.upd HL6.out.2.1 HN6.out); (obtain ⟨p0, p1, p2⟩ := hr6.c3v); (have f0 := hr6.unfrozen 0); (have f1 := hr6.unfrozen 1); (have f2 := hr6.unfrozen 2); (obtain ⟨wz, hwz, hkz, huz⟩ := set3v hr6 (.int .i64 S) (.slice sa nb cb) (Value.slice ap2 P'.length cp2)); (have HWZ := hid hwz); (have HKZ := hid hkz); (have HUZ := hid huz); (have hk9 : Upd (fun b => F b ∨ b = g6) w2 wz := hH.trans huz (fun _ _ q => .inr q)); clear hwz hkz huz hr6; go_simp; (try rw [← HWZ.out])
    refine hK.out _ _ (by assumption) (fun hH => ?_)
    clear hK K
    try simp only [Act.put, List.setIfInBounds_toArray, List.set_cons_zero, List.set_cons_succ]
    refine wpK.late (i := 10) (by kernel_rfl) (by simp only [List.getElem?_toArray, List.getElem?_cons_succ, List.getElem?_cons_zero]; rfl) (by kernel_rfl) (fun K hK => ?_)
    go_simp
    refine hK.out _ _ ?_
    clear hK K
    try simp only [Act.put, List.setIfInBounds_toArray, List.set_cons_zero, List.set_cons_succ]
    refine wpK.done (by kernel_rfl) ?_ _
    clear hyb hyd hk6 hk9 d0 d1 d2 x1
    go_wp2_with fail
    obtain ⟨z0, z1, z2⟩ := HKZ.out.c3v
    refine bodyPost_ret (results_cell_tmp rfl _ _ _ rfl (by go_simp; rfl)) rfl ?_
    rw [HST.out]
    exact CutL.post H.out HC.out HFL.out HB1.out (by have := HG.out; omega) HL6.out.1 HL6.out.2.1 (fun b q => (HL6.out.2.2 b q).imp _root_.id (fun z => by have := HYB.out.size; omega)) HUZ.out
  · by_cases k2 : kd = 2
    · subst k2
      obtain ⟨E, hE⟩ : ∃ E, freeE P id = E := ⟨_, rfl⟩
      obtain ⟨P', hP⟩ : ∃ P', freeP P id = P' := ⟨_, rfl⟩
      have HST : Hid (stepL S B P ⟨2, id, (x, y, a, b)⟩ = P') := hid (by unfold stepL; rw [if_neg (show ¬ (2 : Int) = 1 by decide), if_pos rfl]; exact hP)
      have hfr := ref19_Free S sa ap nb cb np cp P id w1 (H.out.below HB1.out).pl (by have := H.out.land.inv.len; omega) (SortK.nodup keyP H.out.land.inv.sorted)
      rw [hE, hP] at hfr
      have HFR := hid hfr
      have hlc : ∀ w2, Below w.heap.size w w2 → ∀ z, Below w2.heap.size w2 z → Calls Tryz.prog 41 #[.pointer (some ⟨l, 0, none⟩), .int .i64 id] z (LandPost z l F k B P' E) := fun w2 h2 z hz => by
        have := land_Free z l F k B P id ((H.out.land.below h2).below hz)
        rw [hE, hP] at this
        exact this
      have HLCC := hid hlc
      clear hE hP hlc hfr o2 o3 o4 o5
      go_wp2_with fail
      refine HFR.out.mono ?_
      rintro e wb ⟨vp', rfl, hsb, hob, hbb⟩
      have HSB := hid hsb
      have HOB := hid hob
      have HBB := hid hbb
      clear hsb hob hbb o0 o1 l0 l1 l2
      obtain ⟨ap2, cp2, hv2, -⟩ := _root_.id HSB.out
      subst hv2
      simp only [xV]
      go_upto_region 7 with fail
      obtain ⟨w2, hw2⟩ : ∃ w2, w2 = wb.alloc (.cells #[.int .i64 S, .slice sa nb cb, .slice ap2 P'.length cp2] 32) := ⟨_, rfl⟩
      rw [← hw2]
      obtain ⟨b8, hb8⟩ : ∃ b8, b8 = wb.heap.size := ⟨_, rfl⟩
      rw [← hb8]
      have HC : Hid (CutL w1 w2 b8 S (.slice sa nb cb) (.slice ap np cp) (Value.slice ap2 P'.length cp2) P') := hid (by
        have hn : Below wb.heap.size wb w2 := by rw [hw2]; exact Below.new _ _
        have hk : Blk w2 b8 #[.int .i64 S, .slice sa nb cb, .slice ap2 P'.length cp2] := by rw [hw2, hb8]; exact Blk.new _ _ _
        have z1 := HBB.out.size
        have z2 := hn.size
        refine ⟨hk, HSB.out.below hn, by omega, HOB.out.imp _root_.id (fun q b hb => ⟨(q b hb).1, by have := (q b hb).2; omega⟩), fun b hb e => ?_, Below.next HBB.out hn⟩
        rcases HOB.out with q | q
        · rw [q] at hb; have := HLP.out b hb; omega
        · have := (q b hb).2; omega)
      clear hw2 hb8
      have HLC := hid (HLCC.out w2 (Below.next HB1.out HC.out.2.2.2.2.2))
      have HB2 := hid (Below.next HB1.out HC.out.2.2.2.2.2)
      have HLI2 := hid (H.out.land.below HB2.out)
      have HK8 := hid HC.out.1
      have h5 := HX5.out.below HC.out.2.2.2.2.2
      have HR6 := hid (HX6.out.below HC.out.2.2.2.2.2)
      have n5 : ¬ F g5 := fun q => by have h1 := HFL.out g5 q; have h2 := HG.out; omega
      have n6 : ¬ F g6 := fun q => by have h1 := HFL.out g6 q; have h2 := HG.out; omega
      have n8 : ¬ F b8 := fun q => by have h1 := HFL.out b8 q; have h2 := HG.out; have h3 := HC.out.2.2.1; omega
      have HN6 := hid n6
      have m5 : ¬ (F g5 ∨ g5 = g6) := fun q => q.elim n5 (fun e => by have := HG.out; omega)
      have m8 : ¬ (F b8 ∨ b8 = g6) := fun q => q.elim n8 (fun e => by have := HG.out; have := HC.out.2.2.1; omega)
      obtain ⟨x0, x1, x2, x3, x4, x5⟩ := h5.c6v
      obtain ⟨d0, d1, d2⟩ := HK8.out.c3v
      clear h5 x0
      clear x2 x3 x4 x5
      go_upto_region 7 with fail
      replace d0 := fun (z : World) (hz : Upd (fun b => F b ∨ b = g6) w2 z) => hz.cell d0 m8
      replace d1 := fun (z : World) (hz : Upd (fun b => F b ∨ b = g6) w2 z) => hz.cell d1 m8
      replace d2 := fun (z : World) (hz : Upd (fun b => F b ∨ b = g6) w2 z) => hz.cell d2 m8
      replace x1 := fun (z : World) (hz : Upd (fun b => F b ∨ b = g6) w2 z) => hz.cell x1 m5
      clear n5 n6 n8 m5 m8
      have hyb := (Below.refl w2.heap.size w2).drew
      have hyd : Upd (fun b => F b ∨ b = g6) w2 w2.drew := Upd.of_below hyb
      have HYB := hid hyb
      refine wp_region_kept [8] (fun z => Upd (fun b => F b ∨ b = g6) w2 z) (by kernel_rfl) (by assumption) (fun hH => ?_)
      refine wpK.take (i := 0) (v := _) (by simp only [List.getElem?_toArray, List.getElem?_cons_succ, List.getElem?_cons_zero]; rfl) (by kernel_rfl) (by kernel_rfl) (by kernel_rfl) (by kernel_rfl) (by kernel_rfl) (by exact fun _ _ _ h => h) (by first | exact Or.inl ⟨by rfl, by intro w hSw; go_simp; try with_reducible rfl⟩ | exact Or.inr ⟨by rfl, rfl⟩) hH ?_
      try simp only [Act.put, List.setIfInBounds_toArray, List.set_cons_zero, List.set_cons_succ]
      refine wpK.take (i := 1) (v := _) (by simp only [List.getElem?_toArray, List.getElem?_cons_succ, List.getElem?_cons_zero]; rfl) (by kernel_rfl) (by kernel_rfl) (by kernel_rfl) (by kernel_rfl) (by kernel_rfl) (by exact fun _ _ _ h => h) (by first | exact Or.inl ⟨by rfl, by intro w hSw; go_simp; try with_reducible rfl⟩ | exact Or.inr ⟨by rfl, rfl⟩) hH ?_
      try simp only [Act.put, List.setIfInBounds_toArray, List.set_cons_zero, List.set_cons_succ]
      refine wpK.take (i := 2) (v := _) (by simp only [List.getElem?_toArray, List.getElem?_cons_succ, List.getElem?_cons_zero]; rfl) (by kernel_rfl) (by kernel_rfl) (by kernel_rfl) (by kernel_rfl) (by kernel_rfl) (by exact fun _ _ _ h => h) (by first | exact Or.inl ⟨by rfl, by intro w hSw; go_simp; try with_reducible rfl⟩ | exact Or.inr ⟨by rfl, rfl⟩) hH ?_
      try simp only [Act.put, List.setIfInBounds_toArray, List.set_cons_zero, List.set_cons_succ]
      refine wpK.take (i := 3) (v := _) (by simp only [List.getElem?_toArray, List.getElem?_cons_succ, List.getElem?_cons_zero]; rfl) (by kernel_rfl) (by kernel_rfl) (by kernel_rfl) (by kernel_rfl) (by kernel_rfl) (by exact fun _ _ _ h => h) (by first | exact Or.inl ⟨by rfl, by intro w hSw; go_simp; try with_reducible rfl⟩ | exact Or.inr ⟨by rfl, rfl⟩) hH ?_
      try simp only [Act.put, List.setIfInBounds_toArray, List.set_cons_zero, List.set_cons_succ]
      refine wpK.take (i := 5) (v := _) (by simp only [List.getElem?_toArray, List.getElem?_cons_succ, List.getElem?_cons_zero]; rfl) (by kernel_rfl) (by kernel_rfl) (by kernel_rfl) (by kernel_rfl) (by kernel_rfl) (by exact fun _ _ _ h => h) (by first | exact Or.inl ⟨by rfl, by intro w hSw; go_simp; try with_reducible rfl⟩ | exact Or.inr ⟨by rfl, rfl⟩) hH ?_
      try simp only [Act.put, List.setIfInBounds_toArray, List.set_cons_zero, List.set_cons_succ]
      refine wpK.step (i := 4) (by kernel_rfl) (by simp only [List.getElem?_toArray, List.getElem?_cons_succ, List.getElem?_cons_zero]; rfl) (fun K hK => ?_)
      go_simp
      (refine (HLC.out _ hyb).mono ?_); rintro e w6 ⟨F', rfl, hl6, hu6, hF6⟩; (have hk6 : Upd (fun b => F b ∨ b = g6) w2 w6 := hyd.trans hu6 (fun _ _ q => .inl q)); (have hm6 : Upd F w2 w6 := (Upd.of_below HYB.out).trans hu6 (fun _ _ q => q)); (have HL6 := hid (And.intro hl6 (And.intro hm6 hF6))); clear hm6; clear hl6 hu6 hF6; go_simp
      refine hK.out _ _ (by assumption) (fun hH => ?_)
      clear hK K
      try simp only [Act.put, List.setIfInBounds_toArray, List.set_cons_zero, List.set_cons_succ]
      refine wpK.take (i := 6) (v := _) (by simp only [List.getElem?_toArray, List.getElem?_cons_succ, List.getElem?_cons_zero]; rfl) (by kernel_rfl) (by kernel_rfl) (by kernel_rfl) (by kernel_rfl) (by kernel_rfl) (by exact fun _ _ _ h => h) (by first | exact Or.inl ⟨by rfl, by intro w hSw; go_simp; try with_reducible rfl⟩ | exact Or.inr ⟨by rfl, rfl⟩) hH ?_
      try simp only [Act.put, List.setIfInBounds_toArray, List.set_cons_zero, List.set_cons_succ]
      refine wpK.step (i := 7) (by kernel_rfl) (by simp only [List.getElem?_toArray, List.getElem?_cons_succ, List.getElem?_cons_zero]; rfl) (fun K hK => ?_)
      (have hr6 := HR6.out.upd HL6.out.2.1 HN6.out); (obtain ⟨p0, p1, p2⟩ := hr6.c3v); (have f0 := hr6.unfrozen 0); (have f1 := hr6.unfrozen 1); (have f2 := hr6.unfrozen 2); (obtain ⟨wz, hwz, hkz, huz⟩ := set3v hr6 (.int .i64 S) (.slice sa nb cb) (Value.slice ap2 P'.length cp2)); (have HWZ := hid hwz); (have HKZ := hid hkz); (have HUZ := hid huz); (have hk9 : Upd (fun b => F b ∨ b = g6) w2 wz := hH.trans huz (fun _ _ q => .inr q)); clear hwz hkz huz hr6; go_simp; (try rw [← HWZ.out])
      refine hK.out _ _ (by assumption) (fun hH => ?_)
      clear hK K
      try simp only [Act.put, List.setIfInBounds_toArray, List.set_cons_zero, List.set_cons_succ]
      refine wpK.late (i := 8) (by kernel_rfl) (by simp only [List.getElem?_toArray, List.getElem?_cons_succ, List.getElem?_cons_zero]; rfl) (by kernel_rfl) (fun K hK => ?_)
      go_simp
      refine hK.out _ _ ?_
      clear hK K
      try simp only [Act.put, List.setIfInBounds_toArray, List.set_cons_zero, List.set_cons_succ]
      refine wpK.done (by kernel_rfl) ?_ _
      clear hyb hyd hk6 hk9 d0 d1 d2 x1
      go_wp2_with fail
      obtain ⟨z0, z1, z2⟩ := HKZ.out.c3v
      refine bodyPost_ret (results_cell_tmp rfl _ _ _ rfl (by go_simp; rfl)) rfl ?_
      rw [HST.out]
      exact CutL.post H.out HC.out HFL.out HB1.out (by have := HG.out; omega) HL6.out.1 HL6.out.2.1 (fun b q => (HL6.out.2.2 b q).imp _root_.id (fun z => by have := HYB.out.size; omega)) HUZ.out
    · have HST : Hid (stepL S B P ⟨kd, id, (x, y, a, b)⟩ = P) := hid (by unfold stepL; rw [if_neg k1, if_neg k2])
      obtain ⟨p0, p1, p2⟩ := HX6.out.c3v
      have f0 : w1.frozen? ⟨g6, 0, none⟩ = false := HX6.out.unfrozen 0
      have f1 : w1.frozen? ⟨g6, 1, none⟩ = false := HX6.out.unfrozen 1
      have f2 : w1.frozen? ⟨g6, 2, none⟩ = false := HX6.out.unfrozen 2
      obtain ⟨wz, hwz, hkz, huz⟩ := set3v HX6.out (.int .i64 S) (.slice sa nb cb) (.slice ap np cp)
      have HWZ := hid hwz
      have HKZ := hid hkz
      have HUZ := hid huz
      clear hwz hkz huz
      go_wp2_with fail
      try rw [← HWZ.out]
      obtain ⟨z0, z1, z2⟩ := HKZ.out.c3v
      refine bodyPost_ret (results_cell_tmp rfl _ _ _ rfl (by go_simp; rfl)) rfl ?_
      rw [HST.out]
      have hz : Below w.heap.size w wz := HB1.out.trans (HUZ.out.below HB1.out.size (fun b _ q => by have := HG.out; omega))
      exact ⟨F, _, rfl, H.out.below hz, Upd.of_below hz, fun b q => .inl q, .inl rfl⟩
theorem law19_step (S : Int) (vs vp : Value) (k : Nat) (B : List R4) (P : List Pl) (o : OpL) (l : Nat) (F : Nat → Prop) (w : World) (h : BothL w l F k B vs vp P) (hS : sd k = S) (hlB : B.length ≤ 1000) :
    Calls Tryz.prog 22 #[.pointer (some ⟨l, 0, none⟩), xV S vs vp, opVL o] w (StepPostL w l F k B S vs vp (stepL S B P o)) := by
  obtain ⟨kd, id, x, y, a, b⟩ := o
  obtain ⟨sa, cb, rfl, -⟩ := _root_.id h.st
  obtain ⟨ap, cp, rfl, -⟩ := _root_.id h.pl
  refine (law19_step0 S sa ap _ cb _ cp k B P kd id x y a b l (fun b => F b ∧ b < w.heap.size) w ⟨h.land.weaken (fun b y z => ⟨y, z⟩), h.st, h.pl, fun b e y => h.ns b e y.1, fun b e y => h.np b e y.1, h.ls, h.lp⟩ hS hlB (fun b y => y.2)).mono ?_
  rintro e w' ⟨F', v', h1, h2, h3, h4, h5⟩
  exact ⟨F', v', h1, h2, h3.mono (fun b _ q => q.1), fun b q => (h4 b q).imp (fun z => z.1) _root_.id, h5⟩
end Go.Proofs.YtjbnfppnmljbmaaGreat
end
section
/- Layings of the shelf's contracts at this dump (printed by the shelf's lay-plain). -/
namespace Go.Proofs
open Go.Shelf
def Tryz.lays_Lays_n189_ren : Go.Shelf.Ren := ⟨fun | 189 => 32 | 125 => 55 | 257 => 54 | 128 => 85 | 129 => 86 | 294 => 76 | 295 => 77 | 296 => 78 | 297 => 79 | 298 => 80 | 299 => 81 | 216 => 82 | 300 => 83 | 301 => 84 | 328 => 101 | 329 => 102 | 330 => 103 | 331 => 104 | 332 => 105 | 215 => 106 | 343 => 113 | n => n, fun | 28 => 35 | 3 => 3 | 46 => 97 | 0 => 0 | 51 => 131 | 53 => 133 | 4 => 4 | 183 => 125 | 182 => 124 | 131 => 42 | 5 => 5 | 9 => 9 | 218 => 147 | 222 => 151 | 228 => 160 | 229 => 135 | n => n, fun | n => n⟩
theorem Tryz.lays_Lays_n189 : Go.Proofs.Lays.n189 Tryz.prog Tryz.lays_Lays_n189_ren := {
  mixed := by kernel_rfl
  f125 := Tryz.func55.trans (congrArg some (by kernel_rfl))
  f128 := Tryz.func85.trans (congrArg some (by kernel_rfl))
  f129 := Tryz.func86.trans (congrArg some (by kernel_rfl))
  f189 := Tryz.func32.trans (congrArg some (by kernel_rfl))
  f215 := Tryz.func106.trans (congrArg some (by kernel_rfl))
  f216 := Tryz.func82.trans (congrArg some (by kernel_rfl))
  f257 := Tryz.func54.trans (congrArg some (by kernel_rfl))
  f294 := Tryz.func76.trans (congrArg some (by kernel_rfl))
  f295 := Tryz.func77.trans (congrArg some (by kernel_rfl))
  f296 := Tryz.func78.trans (congrArg some (by kernel_rfl))
  f297 := Tryz.func79.trans (congrArg some (by kernel_rfl))
  f298 := Tryz.func80.trans (congrArg some (by kernel_rfl))
  f299 := Tryz.func81.trans (congrArg some (by kernel_rfl))
  f300 := Tryz.func83.trans (congrArg some (by kernel_rfl))
  f301 := Tryz.func84.trans (congrArg some (by kernel_rfl))
  f328 := Tryz.func101.trans (congrArg some (by kernel_rfl))
  f329 := Tryz.func102.trans (congrArg some (by kernel_rfl))
  f330 := Tryz.func103.trans (congrArg some (by kernel_rfl))
  f331 := Tryz.func104.trans (congrArg some (by kernel_rfl))
  f332 := Tryz.func105.trans (congrArg some (by kernel_rfl))
  f343 := Tryz.func113.trans (congrArg some (by kernel_rfl))
  t0 := Tryz.underlying0
  a0 := Tryz.isAgg0
  z0 := Tryz.sizeOf0
  v0 := Tryz.zeroValue0
  t3 := Tryz.underlying3
  a3 := Tryz.isAgg3
  z3 := Tryz.sizeOf3
  v3 := Tryz.zeroValue3
  t4 := Tryz.underlying4
  a4 := Tryz.isAgg4
  z4 := Tryz.sizeOf4
  v4 := Tryz.zeroValue4
  t5 := Tryz.underlying5
  a5 := Tryz.isAgg5
  z5 := Tryz.sizeOf5
  v5 := Tryz.zeroValue5
  t9 := Tryz.underlying9
  a9 := Tryz.isAgg9
  z9 := Tryz.sizeOf9
  v9 := Tryz.zeroValue9
  t28 := Tryz.underlying35
  a28 := Tryz.isAgg35
  z28 := Tryz.sizeOf35
  v28 := Tryz.zeroValue35
  t46 := Tryz.underlying97
  a46 := Tryz.isAgg97
  z46 := Tryz.sizeOf97
  v46 := Tryz.zeroValue97
  t51 := Tryz.underlying131
  a51 := Tryz.isAgg131
  z51 := Tryz.sizeOf131
  v51 := Tryz.zeroValue131
  t53 := Tryz.underlying133
  a53 := Tryz.isAgg133
  z53 := Tryz.sizeOf133
  v53 := Tryz.zeroValue133
  t131 := Tryz.underlying42
  a131 := Tryz.isAgg42
  z131 := Tryz.sizeOf42
  v131 := Tryz.zeroValue42
  t182 := Tryz.underlying124
  a182 := Tryz.isAgg124
  z182 := Tryz.sizeOf124
  v182 := Tryz.zeroValue124
  t183 := Tryz.underlying125
  a183 := Tryz.isAgg125
  z183 := Tryz.sizeOf125
  v183 := Tryz.zeroValue125
  t218 := Tryz.underlying147
  a218 := Tryz.isAgg147
  z218 := Tryz.sizeOf147
  v218 := Tryz.zeroValue147
  t222 := Tryz.underlying151
  a222 := Tryz.isAgg151
  z222 := Tryz.sizeOf151
  v222 := Tryz.zeroValue151
  t228 := Tryz.underlying160
  a228 := Tryz.isAgg160
  z228 := Tryz.sizeOf160
  v228 := Tryz.zeroValue160
  t229 := Tryz.underlying135
  a229 := Tryz.isAgg135
  z229 := Tryz.sizeOf135
  v229 := Tryz.zeroValue135 }
def Tryz.lays_SlLaysZI_n6_62_ren : Go.Shelf.Ren := ⟨fun | 6 => 62 | 8 => 95 | 9 => 32 | 11 => 109 | 13 => 55 | 12 => 54 | 23 => 85 | 24 => 86 | 14 => 76 | 15 => 77 | 16 => 78 | 17 => 79 | 18 => 80 | 19 => 81 | 20 => 82 | 21 => 83 | 22 => 84 | 25 => 101 | 26 => 102 | 27 => 103 | 28 => 104 | 29 => 105 | 30 => 106 | 31 => 113 | n => n, fun | 26 => 3 | 28 => 103 | 24 => 35 | 0 => 0 | 3 => 3 | 37 => 97 | 48 => 131 | 50 => 133 | 4 => 4 | 40 => 125 | 39 => 124 | 45 => 42 | 5 => 5 | 9 => 9 | 51 => 147 | 55 => 151 | 57 => 160 | 58 => 135 | 33 => 116 | n => n, fun | n => n⟩
theorem Tryz.lays_SlLaysZI_n6_62 : Go.Proofs.SlLaysZI.n6 Tryz.prog Tryz.lays_SlLaysZI_n6_62_ren := {
  mixed := by kernel_rfl
  f6 := ⟨Tryz.f62.name, by decide, Tryz.func62.trans (congrArg some (by kernel_rfl))⟩
  f8 := ⟨Tryz.f95.name, by decide, Tryz.func95.trans (congrArg some (by kernel_rfl))⟩
  f11 := ⟨Tryz.f109.name, by decide, Tryz.func109.trans (congrArg some (by kernel_rfl))⟩
  t0 := Tryz.underlying0
  a0 := Tryz.isAgg0
  z0 := Tryz.sizeOf0
  v0 := Tryz.zeroValue0
  t24 := Tryz.underlying35
  a24 := Tryz.isAgg35
  z24 := Tryz.sizeOf35
  v24 := Tryz.zeroValue35
  t26 := Tryz.underlying3
  a26 := Tryz.isAgg3
  z26 := Tryz.sizeOf3
  v26 := Tryz.zeroValue3
  t28 := Tryz.underlying103
  a28 := Tryz.isAgg103
  z28 := Tryz.sizeOf103
  v28 := Tryz.zeroValue103
  i26 := by kernel_rfl }
def Tryz.lays_SlLaysZI_n7_63_ren : Go.Shelf.Ren := ⟨fun | 7 => 63 | 10 => 96 | n => n, fun | 23 => 74 | 26 => 3 | 3 => 25 | 28 => 103 | 0 => 0 | 27 => 102 | 33 => 116 | 4 => 4 | n => n, fun | n => n⟩
theorem Tryz.lays_SlLaysZI_n7_63 : Go.Proofs.SlLaysZI.n7 Tryz.prog Tryz.lays_SlLaysZI_n7_63_ren := {
  mixed := by kernel_rfl
  f7 := ⟨Tryz.f63.name, by decide, Tryz.func63.trans (congrArg some (by kernel_rfl))⟩
  f10 := ⟨Tryz.f96.name, by decide, Tryz.func96.trans (congrArg some (by kernel_rfl))⟩
  t0 := Tryz.underlying0
  a0 := Tryz.isAgg0
  z0 := Tryz.sizeOf0
  v0 := Tryz.zeroValue0
  t4 := Tryz.underlying4
  a4 := Tryz.isAgg4
  z4 := Tryz.sizeOf4
  v4 := Tryz.zeroValue4
  t23 := Tryz.underlying74
  a23 := Tryz.isAgg74
  z23 := Tryz.sizeOf74
  v23 := Tryz.zeroValue74
  t26 := Tryz.underlying3
  a26 := Tryz.isAgg3
  z26 := Tryz.sizeOf3
  v26 := Tryz.zeroValue3
  t27 := Tryz.underlying102
  a27 := Tryz.isAgg102
  z27 := Tryz.sizeOf102
  v27 := Tryz.zeroValue102
  t28 := Tryz.underlying103
  a28 := Tryz.isAgg103
  z28 := Tryz.sizeOf103
  v28 := Tryz.zeroValue103
  t33 := Tryz.underlying116
  a33 := Tryz.isAgg116
  z33 := Tryz.sizeOf116
  v33 := Tryz.zeroValue116 }
end Go.Proofs
end
section
/- slices.Sorted(maps.Keys(m)) at maps from integers, by the shelf's contracts. -/
namespace Go.Proofs.YtjbnfppnmljbmaaGreat
open Go.RowKit Go.Maps Go.Sort Go.Shelf
open Go.Lib (hid)
set_option linter.unusedVariables false

/-- the number of a key -/
def vkeyI : Value → Int
  | .int _ a => a
  | _ => 0
/-- a map's keys, rising -/
def keysL {α : Type} (m : List (Int × α)) : List Int := (m.map (·.1)).mergeSort (fun x y => decide (x ≤ y))
theorem MapE.ownsMap {P : Program} {w : World} {b : Nat} {m : List (Int × Value)} {k : TypeId} (hk : P.underlying k = some (.int .i64)) (h : MapE w b m) (hwf : ∀ p ∈ m, (Lit.int .i64 p.1).wf = true) (hm : m.length ≤ 1000000) :
    ∃ D : DataW Unit, w.ownsMap P k (fun _ => some (.nil, [])) b m.length D ∧ Maps.size D = m.length ∧ (intKeys D).Perm (m.map (·.1)) := by
  obtain ⟨es, clock, hb, hst, he⟩ := h
  have hlen : es.size = m.length := by have := congrArg List.length he; simpa using this
  have hkey : ∀ x ∈ es.toList, ∃ a : Int, x.key = .int .i64 a ∧ (Lit.int .i64 a).wf = true := by
    intro x hx
    have : (x.key, x.val) ∈ m.map (fun p => (Value.int .i64 p.1, p.2)) := by rw [← he]; exact List.mem_map.2 ⟨x, hx, rfl⟩
    obtain ⟨p, hp, h⟩ := List.mem_map.1 this
    exact ⟨p.1, (Prod.mk.inj h).1.symm, hwf p hp⟩
  have hrd : ∀ x ∈ es.toList, ∃ a : Int, x.key = .int .i64 a ∧ Go.WideElems.rd (H := Unit) P k (fun _ => some (.nil, [])) x = some (.int .i64 a, .nil) := by
    intro x hx
    obtain ⟨a, e, ha⟩ := hkey x hx
    refine ⟨a, e, ?_⟩
    unfold Go.WideElems.rd
    rw [e, Maps.keyOf_int_mk hk ha]
    rfl
  refine ⟨_, ⟨es, clock, hb, ⟨by unfold maxLen; omega, hst, fun x hx => by obtain ⟨a, -, h⟩ := hrd x hx; exact ⟨_, h⟩⟩, by omega, rfl⟩, ?_, ?_⟩
  · show ((es.toList.map (Go.WideElems.rg P k _)).foldr DataW.insert []).length = m.length
    rw [length_sorted]; simpa using hlen
  · show (((es.toList.map (Go.WideElems.rg P k _)).foldr DataW.insert []).map fun p => Go.intOf p.1).Perm _
    refine ((Go.WideShapes.sorted_perm _).map _).trans ?_
    rw [List.map_map]
    have e1 : es.toList.map ((fun p : Lit × DataW Unit => Go.intOf p.1) ∘ Go.WideElems.rg P k (fun _ => some (.nil, []))) = es.toList.map (fun x => vkeyI x.key) := by
      apply List.map_congr_left
      intro x hx
      obtain ⟨a, e, h⟩ := hrd x hx
      simp only [Function.comp, Go.WideElems.rg_of h, e]
      rfl
    have e2 : m.map (·.1) = es.toList.map (fun x => vkeyI x.key) := by
      have := congrArg (List.map fun q : Value × Value => vkeyI q.1) he
      rw [List.map_map, List.map_map] at this
      exact this.symm
    rw [e1, e2]
theorem sortsI (m : Nat) : AnyZI.SortsIn Tryz.prog Tryz.lays_SlLaysZI_n6_62_ren Fence.wide m :=
  ⟨fun blk off cap ss W hH hblk hsz => callsIn_wide.2 (Any.slices_Sort_int Tryz.lays_Lays_n189 blk off cap ss W hH hblk hsz),
   fun p cap W => callsIn_wide.2 (Any.slices_Sort_int_none Tryz.lays_Lays_n189 p cap W)⟩
theorem keys_LR (mb : Option Nat) (W : World) : Calls Tryz.prog 63 #[.map mb] W fun e w' => e = .returned (.func (.func 96) #[] #[.pointer (some ⟨W.heap.size, 0, none⟩)]) ∧ w' = W.alloc (.cells #[.map mb] 74) :=
  (callsIn_wide (n := 5)).1 (AnyZI.keys_in Tryz.lays_SlLaysZI_n7_63 Fence.wide 5 trivial rfl mb W)
set_option maxHeartbeats 1000000 in
theorem sorted_LR (b : Nat) (m : List (Int × Value)) (w : World) (h : MapE w b m) (hwf : ∀ p ∈ m, (Lit.int .i64 p.1).wf = true) (hm : m.length ≤ 1000000) :
    Calls Tryz.prog 62 #[.func (.func 96) #[] #[.pointer (some ⟨w.heap.size, 0, none⟩)]] (w.alloc (.cells #[.map (some b)] 74)) fun e w' => ∃ v, e = .returned v ∧ w'.ownsRow (w.heap.size + 1) 3 1 v (keysL m).length ((keysL m).map (.int .i64)) ∧ Below w.heap.size w w' := by
  obtain ⟨D, hown, hsz, hperm⟩ := h.ownsMap (P := Tryz.prog) Tryz.underlying3 hwf hm
  have hseq : SeqGives Fence.wide 2 Tryz.prog 96 #[.pointer (some ⟨w.heap.size, 0, none⟩)] encZ (fun ss => ss.Perm (intKeys D)) (Maps.size D) (w.alloc (.cells #[.map (some b)] 74)) :=
    AnyZI.keys_gives (ρ := Tryz.lays_SlLaysZI_n7_63_ren) { Tryz.lays_SlLaysZI_n7_63 with } Fence.wide _ trivial rfl (by omega) w.heap.size b m.length D _ (by simp) (by simp) (by
      have hbl := hown.lt
      obtain ⟨es, clock, hb, Ft, hs, hD⟩ := hown
      exact ⟨es, clock, (Below.heap_alloc _ _ b hbl).trans hb, Ft, hs, hD⟩)
  have cS := AnyZI.sorted_in Tryz.lays_SlLaysZI_n6_62 Fence.wide 5 trivial trivial trivial trivial rfl (by omega) (sortsI _) (enters_of Tryz.func32 (by kernel_rfl) rfl) 96 #[.pointer (some ⟨w.heap.size, 0, none⟩)] trivial (enters_of Tryz.func96 (by kernel_rfl) rfl) _ _ (by rw [hsz]; unfold maxLen; omega) (by rw [hsz]; omega) _ hseq
  refine ((callsIn_wide (n := 5)).1 cS).mono ?_
  rintro e w' ⟨v, ss, rfl, hS, hrow, -, hb⟩
  have hk : ss.mergeSort (fun x y => decide (x ≤ y)) = keysL m := mergeSort_of_perm_i (hS.trans hperm)
  have hl : ss.length = (keysL m).length := by rw [← hk, List.length_mergeSort]
  rw [hk, hl] at hrow
  have hz : (w.alloc (.cells #[.map (some b)] 74)).heap.size = w.heap.size + 1 := by simp
  exact ⟨v, rfl, by rw [hz] at hrow; exact hrow, ((Below.refl _ w).alloc (Nat.le_refl _) _).trans (hb.mono (by rw [hz]; omega))⟩
end Go.Proofs.YtjbnfppnmljbmaaGreat
end
