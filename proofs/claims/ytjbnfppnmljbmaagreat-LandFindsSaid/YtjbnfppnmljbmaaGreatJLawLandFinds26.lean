/- Joined texts, in this order: Law19St, OpenE, OpenL. Each one's first remark says what it proves; no condition beyond those that its theorems name. -/
import Derived.Test.YtjbnfppnmljbmaaGreatJLawLandFinds22
import Derived.Test.YtjbnfppnmljbmaaGreatJLawLandFinds25
import Derived.Test.YtjbnfppnmljbmaaGreatJLawLandFinds01
import Derived.Test.YtjbnfppnmljbmaaGreatJLawLandFinds02
import Derived.Deep.Slices
import Derived.Deep.Fields
import Derived.ChangeSame
import Derived.OpenShut
import Derived.Lib.SmallJoins
section
/- Law 19: step. -/
namespace Go.Proofs.YtjbnfppnmljbmaaGreat
open Go.RowKit Go.Deep
open Go.Lib (hid)
set_option linter.unusedVariables false
attribute [local go_sem] Oper.semAt_some

/-- one call of the law -/
structure OpL where
  k : Int
  i : Int
  r : R4
instance : Inhabited OpL := ⟨⟨0, 0, (0, 0, 0, 0)⟩⟩
def opVL (o : OpL) : Value := .agg #[.int .i64 o.k, .int .i64 o.i, .int .i64 o.r.1, .int .i64 o.r.2.1, .int .i64 o.r.2.2.1, .int .i64 o.r.2.2.2]
def stepL (S : Int) (B : List R4) (P : List Pl) (o : OpL) : List Pl := if o.k = 1 then claimP S B P o.i o.r else if o.k = 2 then freeP P o.i else P
def KeyWf (P : List Pl) : Prop := ∀ p ∈ P, (Lit.int .i64 p.1).wf = true
/-- land and the document's -/
structure BothL (w : World) (l : Nat) (F : Nat → Prop) (k : Nat) (B : List R4) (vs vp : Value) (P : List Pl) : Prop where
  land : LandIs w l F k B P
  st : SlR w vs B
  pl : SlPl w vp P
  ns : ∀ b, vs.ownBlock = some b → ¬ F b
  np : ∀ b, vp.ownBlock = some b → ¬ F b
  ls : ∀ b, vs.ownBlock = some b → b < w.heap.size
  lp : ∀ b, vp.ownBlock = some b → b < w.heap.size
theorem BothL.upd {U : Nat → Prop} {w w' : World} {l : Nat} {F : Nat → Prop} {k : Nat} {B : List R4} {vs vp : Value} {P : List Pl} (h : BothL w l F k B vs vp P) (hu : Upd U w w') (hF : ∀ b, U b → ¬ F b) (hs : ∀ b, vs.ownBlock = some b → ¬ U b) (hp : ∀ b, vp.ownBlock = some b → ¬ U b) : BothL w' l F k B vs vp P :=
  ⟨h.land.upd hu hF, h.st.upd hu hs, h.pl.upd hu hp, h.ns, h.np, fun b e => Nat.lt_of_lt_of_le (h.ls b e) hu.size, fun b e => Nat.lt_of_lt_of_le (h.lp b e) hu.size⟩
theorem BothL.below {w w' : World} {l : Nat} {F : Nat → Prop} {k : Nat} {B : List R4} {vs vp : Value} {P : List Pl} (h : BothL w l F k B vs vp P) (hb : Below w.heap.size w w') : BothL w' l F k B vs vp P :=
  h.upd (U := fun _ => False) (Upd.of_below hb) (fun _ z => z.elim) (fun _ _ z => z) (fun _ _ z => z)
def StepPostL (w : World) (l : Nat) (F : Nat → Prop) (k : Nat) (B : List R4) (S : Int) (vs vp : Value) (P' : List Pl) (e : Ending) (w' : World) : Prop :=
  ∃ (F' : Nat → Prop) (vp' : Value), e = .returned (.tuple #[xV S vs vp', .bool true]) ∧ BothL w' l F' k B vs vp' P' ∧ Upd F w w' ∧ (∀ b, F' b → F b ∨ w.heap.size ≤ b) ∧ (vp' = vp ∨ ∀ b, vp'.ownBlock = some b → w.heap.size ≤ b)
/-- what lies at the new box behind the document's call -/
def CutL (w1 wx : World) (b8 : Nat) (S : Int) (vs vp vp' : Value) (P' : List Pl) : Prop :=
  Blk wx b8 #[.int .i64 S, vs, vp'] ∧ SlPl wx vp' P' ∧ w1.heap.size ≤ b8 ∧ (vp' = vp ∨ ∀ b, vp'.ownBlock = some b → w1.heap.size ≤ b ∧ b < wx.heap.size) ∧ (∀ b, vp'.ownBlock = some b → b ≠ b8) ∧ Below w1.heap.size w1 wx
theorem Blk.c6v {w : World} {g : Nat} {c0 c1 c2 c3 c4 c5 : Value} (h : Blk w g #[c0, c1, c2, c3, c4, c5]) : w.cell? ⟨g, 0, none⟩ = some c0 ∧ w.cell? ⟨g, 1, none⟩ = some c1 ∧ w.cell? ⟨g, 2, none⟩ = some c2 ∧ w.cell? ⟨g, 3, none⟩ = some c3 ∧ w.cell? ⟨g, 4, none⟩ = some c4 ∧ w.cell? ⟨g, 5, none⟩ = some c5 :=
  ⟨by rw [h.cell]; rfl, by rw [h.cell]; rfl, by rw [h.cell]; rfl, by rw [h.cell]; rfl, by rw [h.cell]; rfl, by rw [h.cell]; rfl⟩
/-- the end: the answer lies in the results' box -/
theorem CutL.post {w w1 w2 w6 wz : World} {b8 g6 l : Nat} {F F' : Nat → Prop} {k : Nat} {B : List R4} {S : Int} {vs vp vp' : Value} {P P' : List Pl} (h : BothL w l F k B vs vp P) (hc : CutL w1 w2 b8 S vs vp vp' P') (hFl : ∀ b, F b → b < w.heap.size) (hb1 : Below w.heap.size w w1) (h6 : w.heap.size ≤ g6 ∧ g6 < w1.heap.size) (hl : LandIs w6 l F' k B P') (hu : Upd F w2 w6) (hF : ∀ b, F' b → F b ∨ w2.heap.size ≤ b) (huz : Upd (fun b => b = g6) w6 wz) : StepPostL w l F k B S vs vp P' (.returned (.tuple #[xV S vs vp', .bool true])) wz := by
  obtain ⟨c1, c2, c3, c4, c5, c6⟩ := hc
  have z1 := hb1.size
  have z2 := c6.size
  have z3 := hu.size
  have z4 := huz.size
  have hw2 : Below w.heap.size w w2 := Below.next hb1 c6
  have hlow : ∀ b, vp'.ownBlock = some b → b < w2.heap.size ∧ ¬ F b ∧ b ≠ g6 := by
    intro b e
    rcases c4 with rfl | q
    · have h1 := h.lp b e
      exact ⟨by omega, h.np b e, by omega⟩
    · have h1 := q b e
      exact ⟨h1.2, fun y => by have := hFl b y; omega, by omega⟩
  have hnF : ∀ b, F' b → b < w2.heap.size → F b := fun b y z => by
    rcases hF b y with q | q
    · exact q
    · omega
  have hs2 : SlR w2 vs B := h.st.below hw2
  refine ⟨F', vp', rfl, ⟨hl.upd huz (fun b e y => ?_), (hs2.upd hu (fun b e y => h.ns b e y)).upd huz (fun b e y => by have := h.ls b e; have := h6.1; omega), (c2.upd hu (fun b e y => (hlow b e).2.1 y)).upd huz (fun b e y => (hlow b e).2.2 y), fun b e y => ?_, fun b e y => ?_, fun b e => by have := h.ls b e; omega, fun b e => by have := (hlow b e).1; omega⟩, ?_, fun b y => ?_, ?_⟩
  · have h1 := hnF b y (by have := h6.2; omega)
    have := hFl b h1
    have := h6.1
    omega
  · exact h.ns b e (hnF b y (by have := h.ls b e; omega))
  · exact (hlow b e).2.1 (hnF b y (hlow b e).1)
  · have hu2 : Upd F w w6 := (Upd.of_below hw2).trans hu (fun _ _ y => y)
    have hu3 : Upd (fun b => F b ∨ b = g6) w wz := (hu2.mono (fun _ _ q => .inl q)).trans huz (fun _ _ q => .inr q)
    exact hu3.mono (fun b hb q => q.elim id (fun e => by have := h6.1; omega))
  · rcases hF b y with q | q
    · exact .inl q
    · exact .inr (by omega)
  · exact c4.imp _root_.id (fun q b e => by have := (q b e).1; omega)
set_option maxRecDepth 100000 in
set_option maxHeartbeats 8000000 in
theorem law19_step0 (S : Int) (sa ap : Option Addr) (nb cb np cp : Nat) (k : Nat) (B : List R4) (P : List Pl) (kd id x y a b : Int) (l : Nat) (F : Nat → Prop) (w : World) (h : BothL w l F k B (.slice sa nb cb) (.slice ap np cp) P) (hS : sd k = S) (hlB : B.length ≤ 1000) (hFl : ∀ b, F b → b < w.heap.size) :
    Calls Tryz.prog 22 #[.pointer (some ⟨l, 0, none⟩), .agg #[.int .i64 S, .slice sa nb cb, .slice ap np cp], .agg #[.int .i64 kd, .int .i64 id, .int .i64 x, .int .i64 y, .int .i64 a, .int .i64 b]] w (StepPostL w l F k B S (.slice sa nb cb) (.slice ap np cp) (stepL S B P ⟨kd, id, (x, y, a, b)⟩)) := by
  have H := hid h
  have HSD := hid hS
  have HLB := hid hlB
  have HFL := hid hFl
  clear h hS hlB hFl
  go_enter Tryz.func22, Tryz.ntmps22
  go_upto_region 1 with fail
  generalize hW : World.alloc (World.alloc (World.alloc w _) _) _ = w1
  obtain ⟨g4, hg4⟩ : ∃ g, g = w.heap.size := ⟨_, rfl⟩
  obtain ⟨g5, hg5⟩ : ∃ go, go = w.heap.size + 1 := ⟨_, rfl⟩
  obtain ⟨g6, hg6⟩ : ∃ go, go = w.heap.size + 1 + 1 := ⟨_, rfl⟩
  have hz : (World.alloc w (.cells #[.int .i64 S, .slice sa nb cb, .slice ap np cp] 32)).heap.size = w.heap.size + 1 := by simp
  have hz2 : (World.alloc (World.alloc w (.cells #[.int .i64 S, .slice sa nb cb, .slice ap np cp] 32)) (.cells #[.int .i64 kd, .int .i64 id, .int .i64 x, .int .i64 y, .int .i64 a, .int .i64 b] 55)).heap.size = w.heap.size + 1 + 1 := by simp
  try rw [hz2]
  try rw [hz]
  try rw [← hg6]
  try rw [← hg5]
  try rw [← hg4]
  have hb1 : Below w.heap.size w w1 := by rw [← hW]; exact Below.next (Below.next (Below.new _ _) (Below.new _ _)) (Below.new _ _)
  have HX4 : Hid (Blk w1 g4 #[.int .i64 S, .slice sa nb cb, .slice ap np cp]) := hid (by rw [← hW, hg4]; exact ((Blk.new w _ _).below (Below.new _ _)).below (Below.new _ _))
  have HX5 : Hid (Blk w1 g5 #[.int .i64 kd, .int .i64 id, .int .i64 x, .int .i64 y, .int .i64 a, .int .i64 b]) := hid (by rw [← hW, hg5, ← hz]; exact (Blk.new _ _ _).below (Below.new _ _))
  have HX6 : Hid (Blk w1 g6 #[.int .i64 0, .slice none 0 0, .slice none 0 0]) := hid (by rw [← hW, hg6, ← hz2]; exact Blk.new _ _ _)
  have HB1 := hid hb1
  have HG : Hid (g4 = w.heap.size ∧ g5 = w.heap.size + 1 ∧ g6 = w.heap.size + 2 ∧ g6 < w1.heap.size) := hid ⟨hg4, hg5, by omega, HX6.out.lt⟩
  have HLP : Hid (∀ b, Value.ownBlock (.slice ap np cp) = some b → b < w1.heap.size) := hid (fun b e => by have := H.out.lp b e; have := hb1.size; omega)
  clear hW hg4 hg5 hg6 hz hz2 hb1
  obtain ⟨o0, o1, o2, o3, o4, o5⟩ := HX5.out.c6v
  obtain ⟨l0, l1, l2⟩ := HX4.out.c3v
  by_cases k1 : kd = 1
  · subst k1
    obtain ⟨E, hE⟩ : ∃ E, claimE S B P id (x, y, a, b) = E := ⟨_, rfl⟩
    obtain ⟨P', hP⟩ : ∃ P', claimP S B P id (x, y, a, b) = P' := ⟨_, rfl⟩
    have HST : Hid (stepL S B P ⟨1, id, (x, y, a, b)⟩ = P') := hid (by unfold stepL; rw [if_pos rfl]; exact hP)
    have HCLM : Hid (∀ z, Below w1.heap.size w1 z → Calls Tryz.prog 39 #[.agg #[.int .i64 S, .slice sa nb cb, .slice ap np cp], .int .i64 id, .agg #[.int .i64 x, .int .i64 y, .int .i64 a, .int .i64 b]] z (XPost z S (.slice sa nb cb) (.slice ap np cp) P' E)) := hid (fun z hz => by
      have hh := H.out.below (Below.next HB1.out hz)
      have := ref19_Claim S sa ap nb cb np cp B P id x y a b z hh.st hh.pl HLB.out (by have := hh.land.inv.len; omega)
      rw [hE, hP] at this
      exact this)
    have hlc : ∀ w2, Below w.heap.size w w2 → ∀ z, Below w2.heap.size w2 z → Calls Tryz.prog 28 #[.pointer (some ⟨l, 0, none⟩), .int .i64 id, .agg #[.int .i64 x, .int .i64 y, .int .i64 a, .int .i64 b]] z (LandPost z l F k B P' E) := fun w2 h2 z hz => by
      have := land_Claim z l F k B P id x y a b ((H.out.land.below h2).below hz)
      rw [HSD.out, hE, hP] at this
      exact this
    have HLCC := hid hlc
    clear hE hP hlc
    go_upto_region 3 with fail
    go_cut [8, 9] (fun v8 v9 wx => ∃ (b8 : Nat) (ap2 : Option Addr) (cp2 : Nat), v8 = .pointer (some ⟨b8, 0, none⟩) ∧ v9 = .int .i64 E ∧ Hid (CutL w1 wx b8 S (.slice sa nb cb) (.slice ap np cp) (Value.slice ap2 P'.length cp2) P'))
    case first =>
      replace l0 := fun (z : World) (hz : Below w1.heap.size w1 z) => cellOf_belowR hz l0
      replace l1 := fun (z : World) (hz : Below w1.heap.size w1 z) => cellOf_belowR hz l1
      replace l2 := fun (z : World) (hz : Below w1.heap.size w1 z) => cellOf_belowR hz l2
      replace o1 := fun (z : World) (hz : Below w1.heap.size w1 z) => cellOf_belowR hz o1
      replace o2 := fun (z : World) (hz : Below w1.heap.size w1 z) => cellOf_belowR hz o2
      replace o3 := fun (z : World) (hz : Below w1.heap.size w1 z) => cellOf_belowR hz o3
      replace o4 := fun (z : World) (hz : Below w1.heap.size w1 z) => cellOf_belowR hz o4
      replace o5 := fun (z : World) (hz : Below w1.heap.size w1 z) => cellOf_belowR hz o5
      clear o0
      have hyd := (Below.refl w1.heap.size w1).drew
      refine wp_region_kept [12] (fun z => Below w1.heap.size w1 z) (by kernel_rfl) (by assumption) (fun hH => ?_)
      refine wpK.take (i := 0) (v := _) (by simp only [List.getElem?_toArray, List.getElem?_cons_succ, List.getElem?_cons_zero]; rfl) (by kernel_rfl) (by kernel_rfl) (by kernel_rfl) (by kernel_rfl) (by kernel_rfl) (by exact fun _ _ _ h => h) (by first | exact Or.inl ⟨by rfl, by intro w hSw; go_simp; try with_reducible rfl⟩ | exact Or.inr ⟨by rfl, rfl⟩) hH ?_
      try simp only [Act.put, List.setIfInBounds_toArray, List.set_cons_zero, List.set_cons_succ]
      refine wpK.take (i := 1) (v := _) (by simp only [List.getElem?_toArray, List.getElem?_cons_succ, List.getElem?_cons_zero]; rfl) (by kernel_rfl) (by kernel_rfl) (by kernel_rfl) (by kernel_rfl) (by kernel_rfl) (by exact fun _ _ _ h => h) (by first | exact Or.inl ⟨by rfl, by intro w hSw; go_simp; try with_reducible rfl⟩ | exact Or.inr ⟨by rfl, rfl⟩) hH ?_
      try simp only [Act.put, List.setIfInBounds_toArray, List.set_cons_zero, List.set_cons_succ]
      refine wpK.take (i := 2) (v := _) (by simp only [List.getElem?_toArray, List.getElem?_cons_succ, List.getElem?_cons_zero]; rfl) (by kernel_rfl) (by kernel_rfl) (by kernel_rfl) (by kernel_rfl) (by kernel_rfl) (by exact fun _ _ _ h => h) (by first | exact Or.inl ⟨by rfl, by intro w hSw; go_simp; try with_reducible rfl⟩ | exact Or.inr ⟨by rfl, rfl⟩) hH ?_
      try simp only [Act.put, List.setIfInBounds_toArray, List.set_cons_zero, List.set_cons_succ]
      refine wpK.take (i := 3) (v := _) (by simp only [List.getElem?_toArray, List.getElem?_cons_succ, List.getElem?_cons_zero]; rfl) (by kernel_rfl) (by kernel_rfl) (by kernel_rfl) (by kernel_rfl) (by kernel_rfl) (by exact fun _ _ _ h => h) (by first | exact Or.inl ⟨by rfl, by intro w hSw; go_simp; try with_reducible rfl⟩ | exact Or.inr ⟨by rfl, rfl⟩) hH ?_
      try simp only [Act.put, List.setIfInBounds_toArray, List.set_cons_zero, List.set_cons_succ]
      refine wpK.take (i := 4) (v := _) (by simp only [List.getElem?_toArray, List.getElem?_cons_succ, List.getElem?_cons_zero]; rfl) (by kernel_rfl) (by kernel_rfl) (by kernel_rfl) (by kernel_rfl) (by kernel_rfl) (by exact fun _ _ _ h => h) (by first | exact Or.inl ⟨by rfl, by intro w hSw; go_simp; try with_reducible rfl⟩ | exact Or.inr ⟨by rfl, rfl⟩) hH ?_
      try simp only [Act.put, List.setIfInBounds_toArray, List.set_cons_zero, List.set_cons_succ]
      refine wpK.two (i := 5) (j := 10) (by kernel_rfl) (by simp only [List.getElem?_toArray, List.getElem?_cons_succ, List.getElem?_cons_zero]; rfl) (by simp only [List.getElem?_toArray, List.getElem?_cons_succ, List.getElem?_cons_zero]; rfl) (fun K hK => ?_) (fun K hK => ?_)
      · go_simp
        (refine (law19_ref x y a b _).mono ?_); rintro e wa ⟨rfl, hba⟩; (have hka : Below w1.heap.size w1 wa := Below.next hH hba); (try (have hblk8 := hblk8.below hba)); go_simp
        refine hK.out _ _ (by assumption) (fun hH => ?_)
        clear hK K
        try simp only [Act.put, List.setIfInBounds_toArray, List.set_cons_zero, List.set_cons_succ]
        refine wpK.two (i := 6) (j := 10) (by kernel_rfl) (by simp only [List.getElem?_toArray, List.getElem?_cons_succ, List.getElem?_cons_zero]; rfl) (by simp only [List.getElem?_toArray, List.getElem?_cons_succ, List.getElem?_cons_zero]; rfl) (fun K hK => ?_) (fun K hK => ?_)
        · go_simp
          (refine (HCLM.out _ hH).mono ?_); rintro e wb ⟨vp', rfl, hsb, hob, hbb⟩; (have hkb : Below w1.heap.size w1 wb := Below.next hH hbb); (try (have hne8 : Hid (∀ b, Value.ownBlock vp' = some b → b ≠ g8) := hid (fun b hb e => hob.elim (fun q => by rw [q] at hb; have := HLP.out b hb; have := hgl.out; omega) (fun q => by have := (q b hb).1; have := hblk8.lt; omega)))); (try (have hblk8 := hblk8.below hbb)); (have HSB := hid hsb); (have HOB : Hid ((vp' = .slice ap np cp ∨ ∀ b, Value.ownBlock vp' = some b → w1.heap.size ≤ b ∧ b < wb.heap.size)) := hid (hob.imp _root_.id (fun q b hb => ⟨by have := (q b hb).1; have := hH.size; omega, (q b hb).2⟩))); clear hsb hob; (obtain ⟨ap2, cp2, hv2, -⟩ := _root_.id HSB.out); subst hv2; simp only [xV]; go_simp
          refine hK.out _ _ (by assumption) (fun hH => ?_)
          clear hK K
          try simp only [Act.put, List.setIfInBounds_toArray, List.set_cons_zero, List.set_cons_succ]
          refine wpK.take (i := 7) (v := _) (by simp only [List.getElem?_toArray, List.getElem?_cons_succ, List.getElem?_cons_zero]; rfl) (by kernel_rfl) (by kernel_rfl) (by kernel_rfl) (by kernel_rfl) (by kernel_rfl) (by exact fun _ _ _ h => h) (by first | exact Or.inl ⟨by rfl, by intro w hSw; go_simp; try with_reducible rfl⟩ | exact Or.inr ⟨by rfl, rfl⟩) hH ?_
          try simp only [Act.put, List.setIfInBounds_toArray, List.set_cons_zero, List.set_cons_succ]
          refine wpK.take (i := 8) (v := _) (by simp only [List.getElem?_toArray, List.getElem?_cons_succ, List.getElem?_cons_zero]; rfl) (by kernel_rfl) (by kernel_rfl) (by kernel_rfl) (by kernel_rfl) (by kernel_rfl) (by exact fun _ _ _ h => h) (by first | exact Or.inl ⟨by rfl, by intro w hSw; go_simp; try with_reducible rfl⟩ | exact Or.inr ⟨by rfl, rfl⟩) hH ?_
          try simp only [Act.put, List.setIfInBounds_toArray, List.set_cons_zero, List.set_cons_succ]
          refine wpK.take (i := 9) (v := _) (by simp only [List.getElem?_toArray, List.getElem?_cons_succ, List.getElem?_cons_zero]; rfl) (by kernel_rfl) (by kernel_rfl) (by kernel_rfl) (by kernel_rfl) (by kernel_rfl) (by exact fun _ _ _ h => h) (by first | exact Or.inl ⟨by rfl, by intro w hSw; go_simp; try with_reducible rfl⟩ | exact Or.inr ⟨by rfl, rfl⟩) hH ?_
          try simp only [Act.put, List.setIfInBounds_toArray, List.set_cons_zero, List.set_cons_succ]
          refine wpK.step (i := 10) (by kernel_rfl) (by simp only [List.getElem?_toArray, List.getElem?_cons_succ, List.getElem?_cons_zero]; rfl) (fun K hK => ?_)
          go_simp
          (first | refine K_alloc (K := K) ?_ | refine K_allocD (K := K) ?_); intro g8 w8 hg8 hs8 hb8 hblk8; (try rw [← hg8]); (have hk8 : Below w1.heap.size w1 w8 := by first | exact Below.next hH hb8 | exact hb8); (have hgl : Hid (w1.heap.size ≤ g8) := hid (by rw [hg8]; exact hH.size)); (try (have hne8 : Hid (∀ b, Value.ownBlock (Value.slice ap2 P'.length cp2) = some b → b ≠ g8) := hid (fun b hb e => HOB.out.elim (fun q => by rw [q] at hb; have := HLP.out b hb; have := hgl.out; omega) (fun q => by have := (q b hb).2; omega)))); (try (have HSB := hid (HSB.out.below hb8))); (try (have HOB : Hid (((Value.slice ap2 P'.length cp2) = .slice ap np cp ∨ ∀ b, Value.ownBlock (Value.slice ap2 P'.length cp2) = some b → w1.heap.size ≤ b ∧ b < w8.heap.size)) := hid (HOB.out.imp _root_.id (fun q b hb => ⟨(q b hb).1, by have := (q b hb).2; have := hb8.size; omega⟩)))); clear hg8 hs8
          refine hK.out _ _ (by assumption) (fun hH => ?_)
          clear hK K
          try simp only [Act.put, List.setIfInBounds_toArray, List.set_cons_zero, List.set_cons_succ]
          refine wpK.step (i := 11) (by kernel_rfl) (by simp only [List.getElem?_toArray, List.getElem?_cons_succ, List.getElem?_cons_zero]; rfl) (fun K hK => ?_)
          (obtain ⟨p0, p1, p2⟩ := hblk8.c3v); (have f0 := hblk8.unfrozen 0); (have f1 := hblk8.unfrozen 1); (have f2 := hblk8.unfrozen 2); (obtain ⟨wz, hwz, hkz, huz⟩ := set3v hblk8 (.int .i64 S) (.slice sa nb cb) (Value.slice ap2 P'.length cp2)); (have hbz : Below w1.heap.size w1 wz := hH.trans (huz.below hH.size (fun k _ q => by rw [q]; exact hgl.out))); (have HWZ := hid hwz); (have HCUT : Hid (CutL w1 wz g8 S (.slice sa nb cb) (.slice ap np cp) (Value.slice ap2 P'.length cp2) P') := hid ⟨hkz, HSB.out.upd huz (fun b hb q => hne8.out b hb q), hgl.out, HOB.out.imp _root_.id (fun q b hb => ⟨(q b hb).1, by have := (q b hb).2; have := huz.size; omega⟩), hne8.out, hbz⟩); clear hwz hkz huz; go_simp; (try rw [← HWZ.out])
          refine hK.out _ _ (by assumption) (fun hH => ?_)
          clear hK K
          try simp only [Act.put, List.setIfInBounds_toArray, List.set_cons_zero, List.set_cons_succ]
          refine wpK.late (i := 12) (by kernel_rfl) (by simp only [List.getElem?_toArray, List.getElem?_cons_succ, List.getElem?_cons_zero]; rfl) (by kernel_rfl) (fun K hK => ?_)
          go_simp
          refine hK.out _ _ ?_
          clear hK K
          try simp only [Act.put, List.setIfInBounds_toArray, List.set_cons_zero, List.set_cons_succ]
          refine wpK.done (by kernel_rfl) ?_ _
          go_wp2_with fail
          go_meet
          exact ⟨g8, ap2, cp2, rfl, rfl, HCUT⟩
        · go_simp
          (first | refine K_alloc (K := K) ?_ | refine K_allocD (K := K) ?_); intro g8 w8 hg8 hs8 hb8 hblk8; (try rw [← hg8]); (have hk8 : Below w1.heap.size w1 w8 := by first | exact Below.next hH hb8 | exact hb8); (have hgl : Hid (w1.heap.size ≤ g8) := hid (by rw [hg8]; exact hH.size)); (try (have hne8 : Hid (∀ b, Value.ownBlock (Value.slice ap2 P'.length cp2) = some b → b ≠ g8) := hid (fun b hb e => HOB.out.elim (fun q => by rw [q] at hb; have := HLP.out b hb; have := hgl.out; omega) (fun q => by have := (q b hb).2; omega)))); (try (have HSB := hid (HSB.out.below hb8))); (try (have HOB : Hid (((Value.slice ap2 P'.length cp2) = .slice ap np cp ∨ ∀ b, Value.ownBlock (Value.slice ap2 P'.length cp2) = some b → w1.heap.size ≤ b ∧ b < w8.heap.size)) := hid (HOB.out.imp _root_.id (fun q b hb => ⟨(q b hb).1, by have := (q b hb).2; have := hb8.size; omega⟩)))); clear hg8 hs8
          refine hK.out _ _ (by assumption) (fun hH => ?_)
          clear hK K
          try simp only [Act.put, List.setIfInBounds_toArray, List.set_cons_zero, List.set_cons_succ]
          refine wpK.step (i := 6) (by kernel_rfl) (by simp only [List.getElem?_toArray, List.getElem?_cons_succ, List.getElem?_cons_zero]; rfl) (fun K hK => ?_)
          go_simp
          (refine (HCLM.out _ hH).mono ?_); rintro e wb ⟨vp', rfl, hsb, hob, hbb⟩; (have hkb : Below w1.heap.size w1 wb := Below.next hH hbb); (try (have hne8 : Hid (∀ b, Value.ownBlock vp' = some b → b ≠ g8) := hid (fun b hb e => hob.elim (fun q => by rw [q] at hb; have := HLP.out b hb; have := hgl.out; omega) (fun q => by have := (q b hb).1; have := hblk8.lt; omega)))); (try (have hblk8 := hblk8.below hbb)); (have HSB := hid hsb); (have HOB : Hid ((vp' = .slice ap np cp ∨ ∀ b, Value.ownBlock vp' = some b → w1.heap.size ≤ b ∧ b < wb.heap.size)) := hid (hob.imp _root_.id (fun q b hb => ⟨by have := (q b hb).1; have := hH.size; omega, (q b hb).2⟩))); clear hsb hob; (obtain ⟨ap2, cp2, hv2, -⟩ := _root_.id HSB.out); subst hv2; simp only [xV]; go_simp
          refine hK.out _ _ (by assumption) (fun hH => ?_)
          clear hK K
          try simp only [Act.put, List.setIfInBounds_toArray, List.set_cons_zero, List.set_cons_succ]
          refine wpK.take (i := 7) (v := _) (by simp only [List.getElem?_toArray, List.getElem?_cons_succ, List.getElem?_cons_zero]; rfl) (by kernel_rfl) (by kernel_rfl) (by kernel_rfl) (by kernel_rfl) (by kernel_rfl) (by exact fun _ _ _ h => h) (by first | exact Or.inl ⟨by rfl, by intro w hSw; go_simp; try with_reducible rfl⟩ | exact Or.inr ⟨by rfl, rfl⟩) hH ?_
          try simp only [Act.put, List.setIfInBounds_toArray, List.set_cons_zero, List.set_cons_succ]
          refine wpK.take (i := 8) (v := _) (by simp only [List.getElem?_toArray, List.getElem?_cons_succ, List.getElem?_cons_zero]; rfl) (by kernel_rfl) (by kernel_rfl) (by kernel_rfl) (by kernel_rfl) (by kernel_rfl) (by exact fun _ _ _ h => h) (by first | exact Or.inl ⟨by rfl, by intro w hSw; go_simp; try with_reducible rfl⟩ | exact Or.inr ⟨by rfl, rfl⟩) hH ?_
          try simp only [Act.put, List.setIfInBounds_toArray, List.set_cons_zero, List.set_cons_succ]
          refine wpK.take (i := 9) (v := _) (by simp only [List.getElem?_toArray, List.getElem?_cons_succ, List.getElem?_cons_zero]; rfl) (by kernel_rfl) (by kernel_rfl) (by kernel_rfl) (by kernel_rfl) (by kernel_rfl) (by exact fun _ _ _ h => h) (by first | exact Or.inl ⟨by rfl, by intro w hSw; go_simp; try with_reducible rfl⟩ | exact Or.inr ⟨by rfl, rfl⟩) hH ?_
          try simp only [Act.put, List.setIfInBounds_toArray, List.set_cons_zero, List.set_cons_succ]
          refine wpK.step (i := 11) (by kernel_rfl) (by simp only [List.getElem?_toArray, List.getElem?_cons_succ, List.getElem?_cons_zero]; rfl) (fun K hK => ?_)
          (obtain ⟨p0, p1, p2⟩ := hblk8.c3v); (have f0 := hblk8.unfrozen 0); (have f1 := hblk8.unfrozen 1); (have f2 := hblk8.unfrozen 2); (obtain ⟨wz, hwz, hkz, huz⟩ := set3v hblk8 (.int .i64 S) (.slice sa nb cb) (Value.slice ap2 P'.length cp2)); (have hbz : Below w1.heap.size w1 wz := hH.trans (huz.below hH.size (fun k _ q => by rw [q]; exact hgl.out))); (have HWZ := hid hwz); (have HCUT : Hid (CutL w1 wz g8 S (.slice sa nb cb) (.slice ap np cp) (Value.slice ap2 P'.length cp2) P') := hid ⟨hkz, HSB.out.upd huz (fun b hb q => hne8.out b hb q), hgl.out, HOB.out.imp _root_.id (fun q b hb => ⟨(q b hb).1, by have := (q b hb).2; have := huz.size; omega⟩), hne8.out, hbz⟩); clear hwz hkz huz; go_simp; (try rw [← HWZ.out])
          refine hK.out _ _ (by assumption) (fun hH => ?_)
          clear hK K
          try simp only [Act.put, List.setIfInBounds_toArray, List.set_cons_zero, List.set_cons_succ]
          refine wpK.late (i := 12) (by kernel_rfl) (by simp only [List.getElem?_toArray, List.getElem?_cons_succ, List.getElem?_cons_zero]; rfl) (by kernel_rfl) (fun K hK => ?_)
          go_simp
          refine hK.out _ _ ?_
          clear hK K
          try simp only [Act.put, List.setIfInBounds_toArray, List.set_cons_zero, List.set_cons_succ]
          refine wpK.done (by kernel_rfl) ?_ _
          go_wp2_with fail
          go_meet
          exact ⟨g8, ap2, cp2, rfl, rfl, HCUT⟩
      · go_simp
        (first | refine K_alloc (K := K) ?_ | refine K_allocD (K := K) ?_); intro g8 w8 hg8 hs8 hb8 hblk8; (try rw [← hg8]); (have hk8 : Below w1.heap.size w1 w8 := by first | exact Below.next hH hb8 | exact hb8); (have hgl : Hid (w1.heap.size ≤ g8) := hid (by rw [hg8]; exact hH.size)); (try (have hne8 : Hid (∀ b, Value.ownBlock (Value.slice ap2 P'.length cp2) = some b → b ≠ g8) := hid (fun b hb e => HOB.out.elim (fun q => by rw [q] at hb; have := HLP.out b hb; have := hgl.out; omega) (fun q => by have := (q b hb).2; omega)))); (try (have HSB := hid (HSB.out.below hb8))); (try (have HOB : Hid (((Value.slice ap2 P'.length cp2) = .slice ap np cp ∨ ∀ b, Value.ownBlock (Value.slice ap2 P'.length cp2) = some b → w1.heap.size ≤ b ∧ b < w8.heap.size)) := hid (HOB.out.imp _root_.id (fun q b hb => ⟨(q b hb).1, by have := (q b hb).2; have := hb8.size; omega⟩)))); clear hg8 hs8
        refine hK.out _ _ (by assumption) (fun hH => ?_)
        clear hK K
        try simp only [Act.put, List.setIfInBounds_toArray, List.set_cons_zero, List.set_cons_succ]
        refine wpK.step (i := 5) (by kernel_rfl) (by simp only [List.getElem?_toArray, List.getElem?_cons_succ, List.getElem?_cons_zero]; rfl) (fun K hK => ?_)
        go_simp
        (refine (law19_ref x y a b _).mono ?_); rintro e wa ⟨rfl, hba⟩; (have hka : Below w1.heap.size w1 wa := Below.next hH hba); (try (have hblk8 := hblk8.below hba)); go_simp
        refine hK.out _ _ (by assumption) (fun hH => ?_)
        clear hK K
        try simp only [Act.put, List.setIfInBounds_toArray, List.set_cons_zero, List.set_cons_succ]
        refine wpK.step (i := 6) (by kernel_rfl) (by simp only [List.getElem?_toArray, List.getElem?_cons_succ, List.getElem?_cons_zero]; rfl) (fun K hK => ?_)
        go_simp
        (refine (HCLM.out _ hH).mono ?_); rintro e wb ⟨vp', rfl, hsb, hob, hbb⟩; (have hkb : Below w1.heap.size w1 wb := Below.next hH hbb); (try (have hne8 : Hid (∀ b, Value.ownBlock vp' = some b → b ≠ g8) := hid (fun b hb e => hob.elim (fun q => by rw [q] at hb; have := HLP.out b hb; have := hgl.out; omega) (fun q => by have := (q b hb).1; have := hblk8.lt; omega)))); (try (have hblk8 := hblk8.below hbb)); (have HSB := hid hsb); (have HOB : Hid ((vp' = .slice ap np cp ∨ ∀ b, Value.ownBlock vp' = some b → w1.heap.size ≤ b ∧ b < wb.heap.size)) := hid (hob.imp _root_.id (fun q b hb => ⟨by have := (q b hb).1; have := hH.size; omega, (q b hb).2⟩))); clear hsb hob; (obtain ⟨ap2, cp2, hv2, -⟩ := _root_.id HSB.out); subst hv2; simp only [xV]; go_simp
        refine hK.out _ _ (by assumption) (fun hH => ?_)
        clear hK K
        try simp only [Act.put, List.setIfInBounds_toArray, List.set_cons_zero, List.set_cons_succ]
        refine wpK.take (i := 7) (v := _) (by simp only [List.getElem?_toArray, List.getElem?_cons_succ, List.getElem?_cons_zero]; rfl) (by kernel_rfl) (by kernel_rfl) (by kernel_rfl) (by kernel_rfl) (by kernel_rfl) (by exact fun _ _ _ h => h) (by first | exact Or.inl ⟨by rfl, by intro w hSw; go_simp; try with_reducible rfl⟩ | exact Or.inr ⟨by rfl, rfl⟩) hH ?_
        try simp only [Act.put, List.setIfInBounds_toArray, List.set_cons_zero, List.set_cons_succ]
        refine wpK.take (i := 8) (v := _) (by simp only [List.getElem?_toArray, List.getElem?_cons_succ, List.getElem?_cons_zero]; rfl) (by kernel_rfl) (by kernel_rfl) (by kernel_rfl) (by kernel_rfl) (by kernel_rfl) (by exact fun _ _ _ h => h) (by first | exact Or.inl ⟨by rfl, by intro w hSw; go_simp; try with_reducible rfl⟩ | exact Or.inr ⟨by rfl, rfl⟩) hH ?_
        try simp only [Act.put, List.setIfInBounds_toArray, List.set_cons_zero, List.set_cons_succ]
        refine wpK.take (i := 9) (v := _) (by simp only [List.getElem?_toArray, List.getElem?_cons_succ, List.getElem?_cons_zero]; rfl) (by kernel_rfl) (by kernel_rfl) (by kernel_rfl) (by kernel_rfl) (by kernel_rfl) (by exact fun _ _ _ h => h) (by first | exact Or.inl ⟨by rfl, by intro w hSw; go_simp; try with_reducible rfl⟩ | exact Or.inr ⟨by rfl, rfl⟩) hH ?_
        try simp only [Act.put, List.setIfInBounds_toArray, List.set_cons_zero, List.set_cons_succ]
        refine wpK.step (i := 11) (by kernel_rfl) (by simp only [List.getElem?_toArray, List.getElem?_cons_succ, List.getElem?_cons_zero]; rfl) (fun K hK => ?_)
        (obtain ⟨p0, p1, p2⟩ := hblk8.c3v); (have f0 := hblk8.unfrozen 0); (have f1 := hblk8.unfrozen 1); (have f2 := hblk8.unfrozen 2); (obtain ⟨wz, hwz, hkz, huz⟩ := set3v hblk8 (.int .i64 S) (.slice sa nb cb) (Value.slice ap2 P'.length cp2)); (have hbz : Below w1.heap.size w1 wz := hH.trans (huz.below hH.size (fun k _ q => by rw [q]; exact hgl.out))); (have HWZ := hid hwz); (have HCUT : Hid (CutL w1 wz g8 S (.slice sa nb cb) (.slice ap np cp) (Value.slice ap2 P'.length cp2) P') := hid ⟨hkz, HSB.out.upd huz (fun b hb q => hne8.out b hb q), hgl.out, HOB.out.imp _root_.id (fun q b hb => ⟨(q b hb).1, by have := (q b hb).2; have := huz.size; omega⟩), hne8.out, hbz⟩); clear hwz hkz huz; go_simp; (try rw [← HWZ.out])
        refine hK.out _ _ (by assumption) (fun hH => ?_)
        clear hK K
        try simp only [Act.put, List.setIfInBounds_toArray, List.set_cons_zero, List.set_cons_succ]
        refine wpK.late (i := 12) (by kernel_rfl) (by simp only [List.getElem?_toArray, List.getElem?_cons_succ, List.getElem?_cons_zero]; rfl) (by kernel_rfl) (fun K hK => ?_)
        go_simp
        refine hK.out _ _ ?_
        clear hK K
        try simp only [Act.put, List.setIfInBounds_toArray, List.set_cons_zero, List.set_cons_succ]
        refine wpK.done (by kernel_rfl) ?_ _
        go_wp2_with fail
        go_meet
        exact ⟨g8, ap2, cp2, rfl, rfl, HCUT⟩
    case rest =>
    rename World => w2
    obtain ⟨b8, ap2, cp2, rfl, rfl, HC⟩ := hcut
    clear o0 o1 o2 o3 o4 o5 l0 l1 l2
    have HLC := hid (HLCC.out w2 (Below.next HB1.out HC.out.2.2.2.2.2))
    have HB2 := hid (Below.next HB1.out HC.out.2.2.2.2.2)
    have HLI2 := hid (H.out.land.below HB2.out)
    have HK8 := hid HC.out.1
    have h5 := HX5.out.below HC.out.2.2.2.2.2
    have HR6 := hid (HX6.out.below HC.out.2.2.2.2.2)
    have n5 : ¬ F g5 := fun q => by have h1 := HFL.out g5 q; have h2 := HG.out; omega
    have n6 : ¬ F g6 := fun q => by have h1 := HFL.out g6 q; have h2 := HG.out; omega
    have n8 : ¬ F b8 := fun q => by have h1 := HFL.out b8 q; have h2 := HG.out; have h3 := HC.out.2.2.1; omega
    have HN6 := hid n6
    have m5 : ¬ (F g5 ∨ g5 = g6) := fun q => q.elim n5 (fun e => by have := HG.out; omega)
    have m8 : ¬ (F b8 ∨ b8 = g6) := fun q => q.elim n8 (fun e => by have := HG.out; have := HC.out.2.2.1; omega)
    obtain ⟨x0, x1, x2, x3, x4, x5⟩ := h5.c6v
    obtain ⟨d0, d1, d2⟩ := HK8.out.c3v
    clear h5 x0
    go_upto_region 4 with fail
    replace d0 := fun (z : World) (hz : Upd (fun b => F b ∨ b = g6) w2 z) => hz.cell d0 m8
    replace d1 := fun (z : World) (hz : Upd (fun b => F b ∨ b = g6) w2 z) => hz.cell d1 m8
    replace d2 := fun (z : World) (hz : Upd (fun b => F b ∨ b = g6) w2 z) => hz.cell d2 m8
    replace x1 := fun (z : World) (hz : Upd (fun b => F b ∨ b = g6) w2 z) => hz.cell x1 m5
    replace x2 := fun (z : World) (hz : Upd (fun b => F b ∨ b = g6) w2 z) => hz.cell x2 m5
    replace x3 := fun (z : World) (hz : Upd (fun b => F b ∨ b = g6) w2 z) => hz.cell x3 m5
    replace x4 := fun (z : World) (hz : Upd (fun b => F b ∨ b = g6) w2 z) => hz.cell x4 m5
    replace x5 := fun (z : World) (hz : Upd (fun b => F b ∨ b = g6) w2 z) => hz.cell x5 m5
    clear n5 n6 n8 m5 m8
    have hyb := (Below.refl w2.heap.size w2).drew
    have hyd : Upd (fun b => F b ∨ b = g6) w2 w2.drew := Upd.of_below hyb
    have HYB := hid hyb
    refine wp_region_kept [10] (fun z => Upd (fun b => F b ∨ b = g6) w2 z) (by kernel_rfl) (by assumption) (fun hH => ?_)
    refine wpK.take (i := 0) (v := _) (by simp only [List.getElem?_toArray, List.getElem?_cons_succ, List.getElem?_cons_zero]; rfl) (by kernel_rfl) (by kernel_rfl) (by kernel_rfl) (by kernel_rfl) (by kernel_rfl) (by exact fun _ _ _ h => h) (by first | exact Or.inl ⟨by rfl, by intro w hSw; go_simp; try with_reducible rfl⟩ | exact Or.inr ⟨by rfl, rfl⟩) hH ?_
    try simp only [Act.put, List.setIfInBounds_toArray, List.set_cons_zero, List.set_cons_succ]
    refine wpK.take (i := 1) (v := _) (by simp only [List.getElem?_toArray, List.getElem?_cons_succ, List.getElem?_cons_zero]; rfl) (by kernel_rfl) (by kernel_rfl) (by kernel_rfl) (by kernel_rfl) (by kernel_rfl) (by exact fun _ _ _ h => h) (by first | exact Or.inl ⟨by rfl, by intro w hSw; go_simp; try with_reducible rfl⟩ | exact Or.inr ⟨by rfl, rfl⟩) hH ?_
    try simp only [Act.put, List.setIfInBounds_toArray, List.set_cons_zero, List.set_cons_succ]
    refine wpK.take (i := 2) (v := _) (by simp only [List.getElem?_toArray, List.getElem?_cons_succ, List.getElem?_cons_zero]; rfl) (by kernel_rfl) (by kernel_rfl) (by kernel_rfl) (by kernel_rfl) (by kernel_rfl) (by exact fun _ _ _ h => h) (by first | exact Or.inl ⟨by rfl, by intro w hSw; go_simp; try with_reducible rfl⟩ | exact Or.inr ⟨by rfl, rfl⟩) hH ?_
    try simp only [Act.put, List.setIfInBounds_toArray, List.set_cons_zero, List.set_cons_succ]
    refine wpK.take (i := 3) (v := _) (by simp only [List.getElem?_toArray, List.getElem?_cons_succ, List.getElem?_cons_zero]; rfl) (by kernel_rfl) (by kernel_rfl) (by kernel_rfl) (by kernel_rfl) (by kernel_rfl) (by exact fun _ _ _ h => h) (by first | exact Or.inl ⟨by rfl, by intro w hSw; go_simp; try with_reducible rfl⟩ | exact Or.inr ⟨by rfl, rfl⟩) hH ?_
    try simp only [Act.put, List.setIfInBounds_toArray, List.set_cons_zero, List.set_cons_succ]
    refine wpK.take (i := 4) (v := _) (by simp only [List.getElem?_toArray, List.getElem?_cons_succ, List.getElem?_cons_zero]; rfl) (by kernel_rfl) (by kernel_rfl) (by kernel_rfl) (by kernel_rfl) (by kernel_rfl) (by exact fun _ _ _ h => h) (by first | exact Or.inl ⟨by rfl, by intro w hSw; go_simp; try with_reducible rfl⟩ | exact Or.inr ⟨by rfl, rfl⟩) hH ?_
    try simp only [Act.put, List.setIfInBounds_toArray, List.set_cons_zero, List.set_cons_succ]
    refine wpK.take (i := 5) (v := _) (by simp only [List.getElem?_toArray, List.getElem?_cons_succ, List.getElem?_cons_zero]; rfl) (by kernel_rfl) (by kernel_rfl) (by kernel_rfl) (by kernel_rfl) (by kernel_rfl) (by exact fun _ _ _ h => h) (by first | exact Or.inl ⟨by rfl, by intro w hSw; go_simp; try with_reducible rfl⟩ | exact Or.inr ⟨by rfl, rfl⟩) hH ?_
    try simp only [Act.put, List.setIfInBounds_toArray, List.set_cons_zero, List.set_cons_succ]
    refine wpK.take (i := 7) (v := _) (by simp only [List.getElem?_toArray, List.getElem?_cons_succ, List.getElem?_cons_zero]; rfl) (by kernel_rfl) (by kernel_rfl) (by kernel_rfl) (by kernel_rfl) (by kernel_rfl) (by exact fun _ _ _ h => h) (by first | exact Or.inl ⟨by rfl, by intro w hSw; go_simp; try with_reducible rfl⟩ | exact Or.inr ⟨by rfl, rfl⟩) hH ?_
    try simp only [Act.put, List.setIfInBounds_toArray, List.set_cons_zero, List.set_cons_succ]
    refine wpK.step (i := 6) (by kernel_rfl) (by simp only [List.getElem?_toArray, List.getElem?_cons_succ, List.getElem?_cons_zero]; rfl) (fun K hK => ?_)
    go_simp
    (refine (HLC.out _ hyb).mono ?_); rintro e w6 ⟨F', rfl, hl6, hu6, hF6⟩; (have hk6 : Upd (fun b => F b ∨ b = g6) w2 w6 := hyd.trans hu6 (fun _ _ q => .inl q)); (have hm6 : Upd F w2 w6 := (Upd.of_below HYB.out).trans hu6 (fun _ _ q => q)); (have HL6 := hid (And.intro hl6 (And.intro hm6 hF6))); clear hm6; clear hl6 hu6 hF6; go_simp
    refine hK.out _ _ (by assumption) (fun hH => ?_)
    clear hK K
    try simp only [Act.put, List.setIfInBounds_toArray, List.set_cons_zero, List.set_cons_succ]
    refine wpK.take (i := 8) (v := _) (by simp only [List.getElem?_toArray, List.getElem?_cons_succ, List.getElem?_cons_zero]; rfl) (by kernel_rfl) (by kernel_rfl) (by kernel_rfl) (by kernel_rfl) (by kernel_rfl) (by exact fun _ _ _ h => h) (by first | exact Or.inl ⟨by rfl, by intro w hSw; go_simp; try with_reducible rfl⟩ | exact Or.inr ⟨by rfl, rfl⟩) hH ?_
    try simp only [Act.put, List.setIfInBounds_toArray, List.set_cons_zero, List.set_cons_succ]
    refine wpK.step (i := 9) (by kernel_rfl) (by simp only [List.getElem?_toArray, List.getElem?_cons_succ, List.getElem?_cons_zero]; rfl) (fun K hK => ?_)
    (have hr6 := HR6.out.upd HL6.out.2.1 HN6.out); (obtain ⟨p0, p1, p2⟩ := hr6.c3v); (have f0 := hr6.unfrozen 0); (have f1 := hr6.unfrozen 1); (have f2 := hr6.unfrozen 2); (obtain ⟨wz, hwz, hkz, huz⟩ := set3v hr6 (.int .i64 S) (.slice sa nb cb) (Value.slice ap2 P'.length cp2)); (have HWZ := hid hwz); (have HKZ := hid hkz); (have HUZ := hid huz); (have hk9 : Upd (fun b => F b ∨ b = g6) w2 wz := hH.trans huz (fun _ _ q => .inr q)); clear hwz hkz huz hr6; go_simp; (try rw [← HWZ.out])
    refine hK.out _ _ (by assumption) (fun hH => ?_)
    clear hK K
    try simp only [Act.put, List.setIfInBounds_toArray, List.set_cons_zero, List.set_cons_succ]
    refine wpK.late (i := 10) (by kernel_rfl) (by simp only [List.getElem?_toArray, List.getElem?_cons_succ, List.getElem?_cons_zero]; rfl) (by kernel_rfl) (fun K hK => ?_)
    go_simp
    refine hK.out _ _ ?_
    clear hK K
    try simp only [Act.put, List.setIfInBounds_toArray, List.set_cons_zero, List.set_cons_succ]
    refine wpK.done (by kernel_rfl) ?_ _
    clear hyb hyd hk6 hk9 d0 d1 d2 x1
    go_wp2_with fail
    obtain ⟨z0, z1, z2⟩ := HKZ.out.c3v
    refine bodyPost_ret (results_cell_tmp rfl _ _ _ rfl (by go_simp; rfl)) rfl ?_
    rw [HST.out]
    exact CutL.post H.out HC.out HFL.out HB1.out (by have := HG.out; omega) HL6.out.1 HL6.out.2.1 (fun b q => (HL6.out.2.2 b q).imp _root_.id (fun z => by have := HYB.out.size; omega)) HUZ.out
  · by_cases k2 : kd = 2
    · subst k2
      obtain ⟨E, hE⟩ : ∃ E, freeE P id = E := ⟨_, rfl⟩
      obtain ⟨P', hP⟩ : ∃ P', freeP P id = P' := ⟨_, rfl⟩
      have HST : Hid (stepL S B P ⟨2, id, (x, y, a, b)⟩ = P') := hid (by unfold stepL; rw [if_neg (show ¬ (2 : Int) = 1 by decide), if_pos rfl]; exact hP)
      have hfr := ref19_Free S sa ap nb cb np cp P id w1 (H.out.below HB1.out).pl (by have := H.out.land.inv.len; omega) (SortK.nodup keyP H.out.land.inv.sorted)
      rw [hE, hP] at hfr
      have HFR := hid hfr
      have hlc : ∀ w2, Below w.heap.size w w2 → ∀ z, Below w2.heap.size w2 z → Calls Tryz.prog 41 #[.pointer (some ⟨l, 0, none⟩), .int .i64 id] z (LandPost z l F k B P' E) := fun w2 h2 z hz => by
        have := land_Free z l F k B P id ((H.out.land.below h2).below hz)
        rw [hE, hP] at this
        exact this
      have HLCC := hid hlc
      clear hE hP hlc hfr o2 o3 o4 o5
      go_wp2_with fail
      refine HFR.out.mono ?_
      rintro e wb ⟨vp', rfl, hsb, hob, hbb⟩
      have HSB := hid hsb
      have HOB := hid hob
      have HBB := hid hbb
      clear hsb hob hbb o0 o1 l0 l1 l2
      obtain ⟨ap2, cp2, hv2, -⟩ := _root_.id HSB.out
      subst hv2
      simp only [xV]
      go_upto_region 7 with fail
      obtain ⟨w2, hw2⟩ : ∃ w2, w2 = wb.alloc (.cells #[.int .i64 S, .slice sa nb cb, .slice ap2 P'.length cp2] 32) := ⟨_, rfl⟩
      rw [← hw2]
      obtain ⟨b8, hb8⟩ : ∃ b8, b8 = wb.heap.size := ⟨_, rfl⟩
      rw [← hb8]
      have HC : Hid (CutL w1 w2 b8 S (.slice sa nb cb) (.slice ap np cp) (Value.slice ap2 P'.length cp2) P') := hid (by
        have hn : Below wb.heap.size wb w2 := by rw [hw2]; exact Below.new _ _
        have hk : Blk w2 b8 #[.int .i64 S, .slice sa nb cb, .slice ap2 P'.length cp2] := by rw [hw2, hb8]; exact Blk.new _ _ _
        have z1 := HBB.out.size
        have z2 := hn.size
        refine ⟨hk, HSB.out.below hn, by omega, HOB.out.imp _root_.id (fun q b hb => ⟨(q b hb).1, by have := (q b hb).2; omega⟩), fun b hb e => ?_, Below.next HBB.out hn⟩
        rcases HOB.out with q | q
        · rw [q] at hb; have := HLP.out b hb; omega
        · have := (q b hb).2; omega)
      clear hw2 hb8
      have HLC := hid (HLCC.out w2 (Below.next HB1.out HC.out.2.2.2.2.2))
      have HB2 := hid (Below.next HB1.out HC.out.2.2.2.2.2)
      have HLI2 := hid (H.out.land.below HB2.out)
      have HK8 := hid HC.out.1
      have h5 := HX5.out.below HC.out.2.2.2.2.2
      have HR6 := hid (HX6.out.below HC.out.2.2.2.2.2)
      have n5 : ¬ F g5 := fun q => by have h1 := HFL.out g5 q; have h2 := HG.out; omega
      have n6 : ¬ F g6 := fun q => by have h1 := HFL.out g6 q; have h2 := HG.out; omega
      have n8 : ¬ F b8 := fun q => by have h1 := HFL.out b8 q; have h2 := HG.out; have h3 := HC.out.2.2.1; omega
      have HN6 := hid n6
      have m5 : ¬ (F g5 ∨ g5 = g6) := fun q => q.elim n5 (fun e => by have := HG.out; omega)
      have m8 : ¬ (F b8 ∨ b8 = g6) := fun q => q.elim n8 (fun e => by have := HG.out; have := HC.out.2.2.1; omega)
      obtain ⟨x0, x1, x2, x3, x4, x5⟩ := h5.c6v
      obtain ⟨d0, d1, d2⟩ := HK8.out.c3v
      clear h5 x0
      clear x2 x3 x4 x5
      go_upto_region 7 with fail
      replace d0 := fun (z : World) (hz : Upd (fun b => F b ∨ b = g6) w2 z) => hz.cell d0 m8
      replace d1 := fun (z : World) (hz : Upd (fun b => F b ∨ b = g6) w2 z) => hz.cell d1 m8
      replace d2 := fun (z : World) (hz : Upd (fun b => F b ∨ b = g6) w2 z) => hz.cell d2 m8
      replace x1 := fun (z : World) (hz : Upd (fun b => F b ∨ b = g6) w2 z) => hz.cell x1 m5
      clear n5 n6 n8 m5 m8
      have hyb := (Below.refl w2.heap.size w2).drew
      have hyd : Upd (fun b => F b ∨ b = g6) w2 w2.drew := Upd.of_below hyb
      have HYB := hid hyb
      refine wp_region_kept [8] (fun z => Upd (fun b => F b ∨ b = g6) w2 z) (by kernel_rfl) (by assumption) (fun hH => ?_)
      refine wpK.take (i := 0) (v := _) (by simp only [List.getElem?_toArray, List.getElem?_cons_succ, List.getElem?_cons_zero]; rfl) (by kernel_rfl) (by kernel_rfl) (by kernel_rfl) (by kernel_rfl) (by kernel_rfl) (by exact fun _ _ _ h => h) (by first | exact Or.inl ⟨by rfl, by intro w hSw; go_simp; try with_reducible rfl⟩ | exact Or.inr ⟨by rfl, rfl⟩) hH ?_
      try simp only [Act.put, List.setIfInBounds_toArray, List.set_cons_zero, List.set_cons_succ]
      refine wpK.take (i := 1) (v := _) (by simp only [List.getElem?_toArray, List.getElem?_cons_succ, List.getElem?_cons_zero]; rfl) (by kernel_rfl) (by kernel_rfl) (by kernel_rfl) (by kernel_rfl) (by kernel_rfl) (by exact fun _ _ _ h => h) (by first | exact Or.inl ⟨by rfl, by intro w hSw; go_simp; try with_reducible rfl⟩ | exact Or.inr ⟨by rfl, rfl⟩) hH ?_
      try simp only [Act.put, List.setIfInBounds_toArray, List.set_cons_zero, List.set_cons_succ]
      refine wpK.take (i := 2) (v := _) (by simp only [List.getElem?_toArray, List.getElem?_cons_succ, List.getElem?_cons_zero]; rfl) (by kernel_rfl) (by kernel_rfl) (by kernel_rfl) (by kernel_rfl) (by kernel_rfl) (by exact fun _ _ _ h => h) (by first | exact Or.inl ⟨by rfl, by intro w hSw; go_simp; try with_reducible rfl⟩ | exact Or.inr ⟨by rfl, rfl⟩) hH ?_
      try simp only [Act.put, List.setIfInBounds_toArray, List.set_cons_zero, List.set_cons_succ]
      refine wpK.take (i := 3) (v := _) (by simp only [List.getElem?_toArray, List.getElem?_cons_succ, List.getElem?_cons_zero]; rfl) (by kernel_rfl) (by kernel_rfl) (by kernel_rfl) (by kernel_rfl) (by kernel_rfl) (by exact fun _ _ _ h => h) (by first | exact Or.inl ⟨by rfl, by intro w hSw; go_simp; try with_reducible rfl⟩ | exact Or.inr ⟨by rfl, rfl⟩) hH ?_
      try simp only [Act.put, List.setIfInBounds_toArray, List.set_cons_zero, List.set_cons_succ]
      refine wpK.take (i := 5) (v := _) (by simp only [List.getElem?_toArray, List.getElem?_cons_succ, List.getElem?_cons_zero]; rfl) (by kernel_rfl) (by kernel_rfl) (by kernel_rfl) (by kernel_rfl) (by kernel_rfl) (by exact fun _ _ _ h => h) (by first | exact Or.inl ⟨by rfl, by intro w hSw; go_simp; try with_reducible rfl⟩ | exact Or.inr ⟨by rfl, rfl⟩) hH ?_
      try simp only [Act.put, List.setIfInBounds_toArray, List.set_cons_zero, List.set_cons_succ]
      refine wpK.step (i := 4) (by kernel_rfl) (by simp only [List.getElem?_toArray, List.getElem?_cons_succ, List.getElem?_cons_zero]; rfl) (fun K hK => ?_)
      go_simp
      (refine (HLC.out _ hyb).mono ?_); rintro e w6 ⟨F', rfl, hl6, hu6, hF6⟩; (have hk6 : Upd (fun b => F b ∨ b = g6) w2 w6 := hyd.trans hu6 (fun _ _ q => .inl q)); (have hm6 : Upd F w2 w6 := (Upd.of_below HYB.out).trans hu6 (fun _ _ q => q)); (have HL6 := hid (And.intro hl6 (And.intro hm6 hF6))); clear hm6; clear hl6 hu6 hF6; go_simp
      refine hK.out _ _ (by assumption) (fun hH => ?_)
      clear hK K
      try simp only [Act.put, List.setIfInBounds_toArray, List.set_cons_zero, List.set_cons_succ]
      refine wpK.take (i := 6) (v := _) (by simp only [List.getElem?_toArray, List.getElem?_cons_succ, List.getElem?_cons_zero]; rfl) (by kernel_rfl) (by kernel_rfl) (by kernel_rfl) (by kernel_rfl) (by kernel_rfl) (by exact fun _ _ _ h => h) (by first | exact Or.inl ⟨by rfl, by intro w hSw; go_simp; try with_reducible rfl⟩ | exact Or.inr ⟨by rfl, rfl⟩) hH ?_
      try simp only [Act.put, List.setIfInBounds_toArray, List.set_cons_zero, List.set_cons_succ]
      refine wpK.step (i := 7) (by kernel_rfl) (by simp only [List.getElem?_toArray, List.getElem?_cons_succ, List.getElem?_cons_zero]; rfl) (fun K hK => ?_)
      (have hr6 := HR6.out.upd HL6.out.2.1 HN6.out); (obtain ⟨p0, p1, p2⟩ := hr6.c3v); (have f0 := hr6.unfrozen 0); (have f1 := hr6.unfrozen 1); (have f2 := hr6.unfrozen 2); (obtain ⟨wz, hwz, hkz, huz⟩ := set3v hr6 (.int .i64 S) (.slice sa nb cb) (Value.slice ap2 P'.length cp2)); (have HWZ := hid hwz); (have HKZ := hid hkz); (have HUZ := hid huz); (have hk9 : Upd (fun b => F b ∨ b = g6) w2 wz := hH.trans huz (fun _ _ q => .inr q)); clear hwz hkz huz hr6; go_simp; (try rw [← HWZ.out])
      refine hK.out _ _ (by assumption) (fun hH => ?_)
      clear hK K
      try simp only [Act.put, List.setIfInBounds_toArray, List.set_cons_zero, List.set_cons_succ]
      refine wpK.late (i := 8) (by kernel_rfl) (by simp only [List.getElem?_toArray, List.getElem?_cons_succ, List.getElem?_cons_zero]; rfl) (by kernel_rfl) (fun K hK => ?_)
      go_simp
      refine hK.out _ _ ?_
      clear hK K
      try simp only [Act.put, List.setIfInBounds_toArray, List.set_cons_zero, List.set_cons_succ]
      refine wpK.done (by kernel_rfl) ?_ _
      clear hyb hyd hk6 hk9 d0 d1 d2 x1
      go_wp2_with fail
      obtain ⟨z0, z1, z2⟩ := HKZ.out.c3v
      refine bodyPost_ret (results_cell_tmp rfl _ _ _ rfl (by go_simp; rfl)) rfl ?_
      rw [HST.out]
      exact CutL.post H.out HC.out HFL.out HB1.out (by have := HG.out; omega) HL6.out.1 HL6.out.2.1 (fun b q => (HL6.out.2.2 b q).imp _root_.id (fun z => by have := HYB.out.size; omega)) HUZ.out
    · have HST : Hid (stepL S B P ⟨kd, id, (x, y, a, b)⟩ = P) := hid (by unfold stepL; rw [if_neg k1, if_neg k2])
      obtain ⟨p0, p1, p2⟩ := HX6.out.c3v
      have f0 : w1.frozen? ⟨g6, 0, none⟩ = false := HX6.out.unfrozen 0
      have f1 : w1.frozen? ⟨g6, 1, none⟩ = false := HX6.out.unfrozen 1
      have f2 : w1.frozen? ⟨g6, 2, none⟩ = false := HX6.out.unfrozen 2
      obtain ⟨wz, hwz, hkz, huz⟩ := set3v HX6.out (.int .i64 S) (.slice sa nb cb) (.slice ap np cp)
      have HWZ := hid hwz
      have HKZ := hid hkz
      have HUZ := hid huz
      clear hwz hkz huz
      go_wp2_with fail
      try rw [← HWZ.out]
      obtain ⟨z0, z1, z2⟩ := HKZ.out.c3v
      refine bodyPost_ret (results_cell_tmp rfl _ _ _ rfl (by go_simp; rfl)) rfl ?_
      rw [HST.out]
      have hz : Below w.heap.size w wz := HB1.out.trans (HUZ.out.below HB1.out.size (fun b _ q => by have := HG.out; omega))
      exact ⟨F, _, rfl, H.out.below hz, Upd.of_below hz, fun b q => .inl q, .inl rfl⟩
theorem law19_step (S : Int) (vs vp : Value) (k : Nat) (B : List R4) (P : List Pl) (o : OpL) (l : Nat) (F : Nat → Prop) (w : World) (h : BothL w l F k B vs vp P) (hS : sd k = S) (hlB : B.length ≤ 1000) :
    Calls Tryz.prog 22 #[.pointer (some ⟨l, 0, none⟩), xV S vs vp, opVL o] w (StepPostL w l F k B S vs vp (stepL S B P o)) := by
  obtain ⟨kd, id, x, y, a, b⟩ := o
  obtain ⟨sa, cb, rfl, -⟩ := _root_.id h.st
  obtain ⟨ap, cp, rfl, -⟩ := _root_.id h.pl
  refine (law19_step0 S sa ap _ cb _ cp k B P kd id x y a b l (fun b => F b ∧ b < w.heap.size) w ⟨h.land.weaken (fun b y z => ⟨y, z⟩), h.st, h.pl, fun b e y => h.ns b e y.1, fun b e y => h.np b e y.1, h.ls, h.lp⟩ hS hlB (fun b y => y.2)).mono ?_
  rintro e w' ⟨F', v', h1, h2, h3, h4, h5⟩
  exact ⟨F', v', h1, h2, h3.mono (fun b _ q => q.1), fun b q => (h4 b q).imp (fun z => z.1) _root_.id, h5⟩
end Go.Proofs.YtjbnfppnmljbmaaGreat
end
section
/- What comes in, opened: a slice of elements of k cells, each of which reads as E says. No program in sight. -/
namespace Go.Proofs.YtjbnfppnmljbmaaGreat
open Go.RowKit Go.ChangeShapes Go.WideShapes Go.Deep
open Go.Lib (hid)
set_option linter.unusedVariables false

/-- a slice whose elements of k cells read as E says -/
def SlE {α : Type} (E : World → (Nat → Option Value) → α → Prop) (k : Nat) (w : World) (v : Value) (L : List α) : Prop :=
  ∃ a c, v = .slice a L.length c ∧ L.length ≤ c ∧ c ≤ 9223372036854775807 ∧ (a = none → c = 0) ∧
    ∀ i x, L[i]? = some x → ∃ b off, a = some ⟨b, off, none⟩ ∧ b < w.heap.size ∧ E w (fun j => w.cell? ⟨b, off + i * k + j, none⟩) x
/-- what a reading of an element keeps -/
structure Kept {α : Type} (E : World → (Nat → Option Value) → α → Prop) (k : Nat) : Prop where
  keep : ∀ {w w' : World} {f g : Nat → Option Value} {x : α}, Below w.heap.size w w' → (∀ j u, j < k → f j = some u → g j = some u) → E w f x → E w' g x
  zero : ∀ {w : World} {f : Nat → Option Value} {x : α}, E w f x → ∃ u, f 0 = some u
theorem SlE.below {α : Type} {E : World → (Nat → Option Value) → α → Prop} {k : Nat} (K : Kept E k) {w w' : World} {v : Value} {L : List α} (h : SlE E k w v L) (hb : Below w.heap.size w w') : SlE E k w' v L := by
  obtain ⟨a, c, h1, h2, h3, h4, h5⟩ := h
  refine ⟨a, c, h1, h2, h3, h4, fun i x hx => ?_⟩
  obtain ⟨b, off, k1, k2, k3⟩ := h5 i x hx
  exact ⟨b, off, k1, Nat.lt_of_lt_of_le k2 hb.size, K.keep hb (fun j u _ hu => by rw [← hu]; exact World.cell?_of_block (hb.block b k2)) k3⟩
theorem open_slE {α : Type} [Inhabited α] {E : World → (Nat → Option Value) → α → Prop} {k : Nat} (K : Kept E k) {H : Type} {enc : TypeId × Value → H} {P : Program} {t e : TypeId} {w : World} {r0 : Reach} {b0 : Nat} {v : Value} {d : DataW H} {p : List MemPlace}
    (ht : P.underlying t = some (.slice e)) (hk : P.cellsOf e = k) (elem : ∀ (n : Nat) (cs : List Value) (x : DataW H × List MemPlace), DataW.trod enc P w 0 (fun _ => true) true n e cs = some x → ∃ t, E w (fun j => cs[j]?) t)
    (hok : Value.okWide P w r0 b0 t v) (h : DataW.Trod enc P w 0 (fun _ => true) true t v d p) : ∃ L, SlE E k w v L := by
  obtain ⟨a0, len0, cap0, rfl⟩ := okWide_slice ht hok
  obtain ⟨fuel, hf⟩ := h
  rcases open_slice ht hf with ⟨hcs, -⟩ | ⟨a, len, cap, m, n, D, Pl, hcs, hb, hl, hm, hmm, hx, hi⟩
  · simp [Value.cells] at hcs
    obtain ⟨rfl, rfl, rfl⟩ := hcs
    exact ⟨[], none, 0, rfl, by simp, by omega, fun _ => rfl, fun i r hr => by simp at hr⟩
  · simp [Value.cells] at hcs
    obtain ⟨rfl, rfl, rfl⟩ := hcs
    simp only [if_true] at hmm
    obtain rfl : cap0 = m := hmm.symm
    have key : ∀ i, i < cap0 → ∃ q : α, E w (fun j => w.cell? (a.add (i * k + j))) q := by
      intro i hic
      obtain ⟨cs', hc, ht'⟩ := hi i hic
      rw [hk] at hc
      obtain ⟨t, ht⟩ := elem _ _ _ ht'
      obtain ⟨-, hcl, hat⟩ := World.cells?_some hc
      exact ⟨t, K.keep (Below.refl _ _) (fun j u hj hu => by rw [← Go.Deep.add_add, hat j hj]; exact hu) ht⟩
    obtain ⟨f, hfun⟩ := choose_lt key
    have hlen : ((List.range len0).map f).length = len0 := by simp
    refine ⟨(List.range len0).map f, some a, cap0, by rw [hlen], by rw [hlen]; exact hl, by unfold maxLen at hm; omega, nofun, ?_⟩
    intro i r hr
    rw [List.getElem?_map] at hr
    by_cases hil : i < len0
    · rw [List.getElem?_range hil] at hr
      simp at hr
      subst hr
      have q := hfun i (by omega)
      obtain ⟨b, off, spot⟩ := a
      obtain ⟨u0, p0⟩ := K.zero (hfun 0 (by omega))
      have hspot : spot = none := by simpa [Addr.add] using World.cell?_spot p0
      subst hspot
      obtain ⟨u1, q0⟩ := K.zero q
      simp only [Addr.add_lit] at q0
      refine ⟨b, off, rfl, World.block_lt_of_cell? w _ q0, K.keep (Below.refl _ _) (fun j u hj hu => ?_) q⟩
      rw [Addr.add_lit] at hu
      rw [Nat.add_assoc]; exact hu
    · rw [List.getElem?_eq_none (by simp; omega)] at hr; simp at hr
theorem structE_fields {H : Type} {enc : TypeId × Value → H} {P : Program} {w : World} {base : Nat} {spare : Nat → Bool} {held : Bool} {t : TypeId} {fs : Array Field} {n : Nat} {cs : List Value} {x : DataW H × List MemPlace} (ht : P.underlying t = some (.struct fs)) (hone : oneCellFields P fs = true)
    (h : DataW.trod enc P w base spare held n t cs = some x) : cs.length = P.cellsOf t ∧ ∃ (ys : List (DataW H × List MemPlace)) (n' : Nat), ys.length = fs.size ∧ ∀ (j : Nat) (f : Field), fs[j]? = some f → DataW.trod enc P w base spare held n' f.type ((cs.drop j).take 1) = ys[j]? := by
  obtain ⟨ys, n', hn', hy, hlen, hyl, hf⟩ := DataW.trod_struct ht h
  refine ⟨hlen, ys, n', hyl, fun j f hj => ?_⟩
  obtain ⟨ho, hk⟩ := hone_of hone j f hj
  have := hf j f hj
  rwa [ho, hk] at this
theorem listOf2 {α : Type} : ∀ {l : List α}, l.length = 2 → ∃ a b, l = [a, b]
  | [a, b], _ => ⟨a, b, rfl⟩
theorem listOf3 {α : Type} : ∀ {l : List α}, l.length = 3 → ∃ a b c, l = [a, b, c]
  | [a, b, c], _ => ⟨a, b, c, rfl⟩
theorem listOf4 {α : Type} : ∀ {l : List α}, l.length = 4 → ∃ a b c d, l = [a, b, c, d]
  | [a, b, c, d], _ => ⟨a, b, c, d, rfl⟩
theorem listOf5 {α : Type} : ∀ {l : List α}, l.length = 5 → ∃ a b c d e, l = [a, b, c, d, e]
  | [a, b, c, d, e], _ => ⟨a, b, c, d, e, rfl⟩
theorem listOf6 {α : Type} : ∀ {l : List α}, l.length = 6 → ∃ a b c d e f, l = [a, b, c, d, e, f]
  | [a, b, c, d, e, f], _ => ⟨a, b, c, d, e, f, rfl⟩
end Go.Proofs.YtjbnfppnmljbmaaGreat
end
section
/- What comes in, opened: the law's calls of land; rectangles. -/
namespace Go.Proofs.YtjbnfppnmljbmaaGreat
open Go.RowKit Go.ChangeShapes Go.WideShapes Go.Deep Go.Joins
open Go.Lib (hid)
set_option linter.unusedVariables false

set_option maxRecDepth 100000 in
theorem trod_rectL {H : Type} {enc : TypeId × Value → H} {w : World} {n : Nat} {cs : List Value} {x : DataW H × List MemPlace} (h : DataW.trod enc Tryz.prog w 0 (fun _ => true) true n 25 cs = some x) :
    ∃ r : R4, cs = [.int .i64 r.1, .int .i64 r.2.1, .int .i64 r.2.2.1, .int .i64 r.2.2.2] := by
  obtain ⟨ys, n', -, -, hlen0, hyl, hf⟩ := DataW.trod_struct Tryz.underlying25 h
  have h4 : Tryz.prog.cellsOf 25 = 4 := by kernel_rfl
  have hlen : cs.length = 4 := by rw [← h4]; exact hlen0
  obtain ⟨c0, c1, c2, c3, rfl⟩ := listOf4 hlen
  obtain ⟨z0, z1, z2, z3, rfl⟩ := listOf4 (show ys.length = 4 from hyl)
  have g0 : DataW.trod enc Tryz.prog w 0 (fun _ => true) true n' 3 [c0] = some z0 := hf 0 _ rfl
  have g1 : DataW.trod enc Tryz.prog w 0 (fun _ => true) true n' 3 [c1] = some z1 := hf 1 _ rfl
  have g2 : DataW.trod enc Tryz.prog w 0 (fun _ => true) true n' 3 [c2] = some z2 := hf 2 _ rfl
  have g3 : DataW.trod enc Tryz.prog w 0 (fun _ => true) true n' 3 [c3] = some z3 := hf 3 _ rfl
  obtain ⟨i0, e0, -, w0⟩ := DataW.trod_int Tryz.underlying3 g0
  obtain ⟨i1, e1, -, w1⟩ := DataW.trod_int Tryz.underlying3 g1
  obtain ⟨i2, e2, -, w2⟩ := DataW.trod_int Tryz.underlying3 g2
  obtain ⟨i3, e3, -, w3⟩ := DataW.trod_int Tryz.underlying3 g3
  simp only [List.cons.injEq, and_true] at e0 e1 e2 e3
  subst e0 e1 e2 e3
  exact ⟨(i0, i1, i2, i3), rfl⟩
set_option maxRecDepth 100000 in
theorem open_rectL {H : Type} {enc : TypeId × Value → H} {w : World} {b0 : Nat} {d0 : DataW H} {p0 : List MemPlace} {v0 : Value} (ok0 : Value.okWide Tryz.prog w .any b0 25 v0) (k0 : DataW.Trod enc Tryz.prog w 0 (fun _ => true) true 25 v0 d0 p0) :
    ∃ r : R4, v0 = rV r := by
  obtain ⟨cs, rfl, hsz⟩ := okWide_struct Tryz.underlying25 ok0
  obtain ⟨fuel, h⟩ := k0
  obtain ⟨l⟩ := cs
  have h' : DataW.trod enc Tryz.prog w 0 (fun _ => true) true fuel 25 l = some (d0, p0) := h
  obtain ⟨r, rfl⟩ := trod_rectL h'
  exact ⟨r, rfl⟩
def RcE (w : World) (f : Nat → Option Value) (x : R4) : Prop :=
  f 0 = some (.int .i64 x.1) ∧ f 1 = some (.int .i64 x.2.1) ∧ f 2 = some (.int .i64 x.2.2.1) ∧ f 3 = some (.int .i64 x.2.2.2)
theorem rcKept : Kept RcE 4 := ⟨fun hb hf h => ⟨hf 0 _ (by omega) h.1, hf 1 _ (by omega) h.2.1, hf 2 _ (by omega) h.2.2.1, hf 3 _ (by omega) h.2.2.2⟩, fun h => ⟨_, h.1⟩⟩
def OpLE (w : World) (f : Nat → Option Value) (x : OpL) : Prop :=
  f 0 = some (.int .i64 x.k) ∧ f 1 = some (.int .i64 x.i) ∧ f 2 = some (.int .i64 x.r.1) ∧ f 3 = some (.int .i64 x.r.2.1) ∧ f 4 = some (.int .i64 x.r.2.2.1) ∧ f 5 = some (.int .i64 x.r.2.2.2) ∧ (Lit.int .i64 x.i).wf = true
theorem opLKept : Kept OpLE 6 := ⟨fun hb hf h => ⟨hf 0 _ (by omega) h.1, hf 1 _ (by omega) h.2.1, hf 2 _ (by omega) h.2.2.1, hf 3 _ (by omega) h.2.2.2.1, hf 4 _ (by omega) h.2.2.2.2.1, hf 5 _ (by omega) h.2.2.2.2.2.1, h.2.2.2.2.2.2⟩, fun h => ⟨_, h.1⟩⟩
set_option maxRecDepth 100000 in
theorem elem_opL {H : Type} {enc : TypeId × Value → H} {w : World} (n : Nat) (cs : List Value) (x : DataW H × List MemPlace) (h : DataW.trod enc Tryz.prog w 0 (fun _ => true) true n 55 cs = some x) : ∃ t, OpLE w (fun j => cs[j]?) t := by
  obtain ⟨ys, n', -, -, hlen0, hyl, one⟩ := DataW.trod_struct Tryz.underlying55 h
  have h6 : Tryz.prog.cellsOf 55 = 6 := by kernel_rfl
  have hlen : cs.length = 6 := by rw [← h6]; exact hlen0
  obtain ⟨c0, c1, c2, c3, c4, c5, rfl⟩ := listOf6 hlen
  obtain ⟨z0, z1, z2, rfl⟩ := listOf3 (show ys.length = 3 from hyl)
  have g0 : DataW.trod enc Tryz.prog w 0 (fun _ => true) true n' 3 [c0] = some z0 := one 0 _ rfl
  have g1 : DataW.trod enc Tryz.prog w 0 (fun _ => true) true n' 3 [c1] = some z1 := one 1 _ rfl
  have g2 : DataW.trod enc Tryz.prog w 0 (fun _ => true) true n' 25 [c2, c3, c4, c5] = some z2 := one 2 _ rfl
  obtain ⟨i0, e0, -, w0⟩ := DataW.trod_int Tryz.underlying3 g0
  obtain ⟨i1, e1, -, w1⟩ := DataW.trod_int Tryz.underlying3 g1
  obtain ⟨⟨r1, r2, r3, r4⟩, e3⟩ := trod_rectL g2
  simp only [List.cons.injEq, and_true] at e0 e1 e3
  obtain ⟨q0, q1, q2, q3⟩ := e3
  subst e0 e1 q0 q1 q2 q3
  exact ⟨⟨i0, i1, (r1, r2, r3, r4)⟩, rfl, rfl, rfl, rfl, rfl, rfl, w1⟩
theorem elem_rc {H : Type} {enc : TypeId × Value → H} {w : World} (n : Nat) (cs : List Value) (x : DataW H × List MemPlace) (h : DataW.trod enc Tryz.prog w 0 (fun _ => true) true n 25 cs = some x) : ∃ t, RcE w (fun j => cs[j]?) t := by
  obtain ⟨r, rfl⟩ := trod_rectL h
  exact ⟨r, rfl, rfl, rfl, rfl⟩
set_option maxRecDepth 100000 in
theorem open_opsL {H : Type} {enc : TypeId × Value → H} {w : World} {b0 : Nat} {d0 : DataW H} {p0 : List MemPlace} {v0 : Value} (ok0 : Value.okWide Tryz.prog w .any b0 23 v0) (k0 : DataW.Trod enc Tryz.prog w 0 (fun _ => true) true 23 v0 d0 p0) : ∃ L, SlE OpLE 6 w v0 L :=
  open_slE opLKept Tryz.underlying23 (by kernel_rfl) elem_opL ok0 k0
theorem SlE.opL {w w' : World} {a : Option Addr} {c : Nat} {L : List OpL} (h : SlE OpLE 6 w (.slice a L.length c) L) (hb : Below w.heap.size w w') {i : Nat} {o : OpL} (hi : L[i]? = some o) :
    (∃ b off, a = some ⟨b, off, none⟩ ∧ w'.cell? ⟨b, off + i * 6, none⟩ = some (.int .i64 o.k) ∧ w'.cell? ⟨b, off + i * 6 + 1, none⟩ = some (.int .i64 o.i) ∧ w'.cell? ⟨b, off + i * 6 + 2, none⟩ = some (.int .i64 o.r.1) ∧ w'.cell? ⟨b, off + i * 6 + 3, none⟩ = some (.int .i64 o.r.2.1) ∧ w'.cell? ⟨b, off + i * 6 + 4, none⟩ = some (.int .i64 o.r.2.2.1) ∧ w'.cell? ⟨b, off + i * 6 + 5, none⟩ = some (.int .i64 o.r.2.2.2)) ∧ (Lit.int .i64 o.i).wf = true := by
  obtain ⟨a', c', e, -, -, -, h5⟩ := h.below opLKept hb
  simp only [Value.slice.injEq, true_and] at e
  obtain ⟨rfl, rfl⟩ := e
  obtain ⟨b, off, rfl, -, k0, k1, k2, k3, k4, k5, k6⟩ := h5 i o hi
  exact ⟨⟨b, off, rfl, k0, k1, k2, k3, k4, k5⟩, k6⟩
theorem SlE.slR {w : World} {v : Value} {X : List R4} (h : SlE RcE 4 w v X) : SlR w v X := by
  obtain ⟨a, c, h1, h2, h3, h4, h5⟩ := h
  refine ⟨a, c, h1, fun i hi => ?_, h2, h3, h4⟩
  rw [svR_length] at hi
  have hj : i / 4 < X.length := by omega
  obtain ⟨x, hx⟩ : ∃ x, X[i / 4]? = some x := ⟨_, List.getElem?_eq_getElem hj⟩
  obtain ⟨b, off, rfl, -, k0, k1, k2, k3⟩ := h5 _ x hx
  obtain ⟨e0, e1, e2, e3⟩ := svR_at X (i / 4) x hx
  refine ⟨b, off, rfl, ?_⟩
  have hr : i % 4 = 0 ∨ i % 4 = 1 ∨ i % 4 = 2 ∨ i % 4 = 3 := by omega
  rcases hr with r | r | r | r
  · have : i = i / 4 * 4 := by omega
    rw [this, e0]; exact k0
  · have : i = i / 4 * 4 + 1 := by omega
    rw [this, e1]; exact k1
  · have : i = i / 4 * 4 + 2 := by omega
    rw [this, e2]; exact k2
  · have : i = i / 4 * 4 + 3 := by omega
    rw [this, e3]; exact k3
set_option maxRecDepth 100000 in
theorem open_rcs {H : Type} {enc : TypeId × Value → H} {w : World} {b0 : Nat} {d0 : DataW H} {p0 : List MemPlace} {v0 : Value} (ok0 : Value.okWide Tryz.prog w .any b0 22 v0) (k0 : DataW.Trod enc Tryz.prog w 0 (fun _ => true) true 22 v0 d0 p0) : ∃ L, SlR w v0 L := by
  obtain ⟨L, h⟩ := open_slE rcKept Tryz.underlying22 (by kernel_rfl) elem_rc ok0 k0
  exact ⟨L, h.slR⟩
end Go.Proofs.YtjbnfppnmljbmaaGreat
end
