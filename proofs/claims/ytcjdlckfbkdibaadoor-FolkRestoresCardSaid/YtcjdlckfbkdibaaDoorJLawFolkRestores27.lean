/- Joined texts, in this order: FolkRestores. Each one's first remark says what it proves; no condition beyond those that its theorems name. -/
import Derived.Test.YtcjdlckfbkdibaaDoorJLawFolkRestores26
import Derived.Test.YtcjdlckfbkdibaaDoorJLawFolkRestores21
section
/- The law FolkRestores, walked. -/
namespace Go.Proofs.YtcjdlckfbkdibaaDoor
open Go.RowKit Go.ChangeShapes Go.WideShapes Go.Deep Go.Joins
open Go.Lib (hid)
set_option linter.unusedVariables false

/-- a call that comes in -/
structure OpF where
  k : Int
  a : Int
  b : Int
  n : Int
  s : List UInt8
deriving Inhabited
def OpFE (w : World) (f : Nat → Option Value) (o : OpF) : Prop := f 0 = some (.int .i64 o.k) ∧ f 1 = some (.int .i64 o.a) ∧ f 2 = some (.int .i64 o.b) ∧ f 3 = some (.int .i64 o.n) ∧ f 4 = some (.string ⟨o.s.toArray⟩)
theorem opFKept : Kept OpFE 5 := ⟨fun hb hf h => ⟨hf 0 _ (by omega) h.1, hf 1 _ (by omega) h.2.1, hf 2 _ (by omega) h.2.2.1, hf 3 _ (by omega) h.2.2.2.1, hf 4 _ (by omega) h.2.2.2.2⟩, fun h => ⟨_, h.1⟩⟩
set_option maxRecDepth 100000 in
theorem elem_op17 {H : Type} {enc : TypeId × Value → H} {w : World} (n : Nat) (cs : List Value) (x : DataW H × List MemPlace) (h : DataW.trod enc Tryd.prog w 0 (fun _ => true) true n 38 cs = some x) : ∃ t, OpFE w (fun j => cs[j]?) t := by
  obtain ⟨hlen, ys, n', hyl, one⟩ := structE_fields Tryd.underlying38 (by kernel_rfl) h
  have h5 : Tryd.prog.cellsOf 38 = 5 := by kernel_rfl
  rw [h5] at hlen
  obtain ⟨c0, c1, c2, c3, c4, rfl⟩ := listOf5 hlen
  have hyl2 : ys.length = 5 := hyl
  obtain ⟨z0, z1, z2, z3, z4, rfl⟩ := listOf5 hyl2
  have g0 : DataW.trod enc Tryd.prog w 0 (fun _ => true) true n' 3 [c0] = some z0 := one 0 _ rfl
  have g1 : DataW.trod enc Tryd.prog w 0 (fun _ => true) true n' 3 [c1] = some z1 := one 1 _ rfl
  have g2 : DataW.trod enc Tryd.prog w 0 (fun _ => true) true n' 3 [c2] = some z2 := one 2 _ rfl
  have g3 : DataW.trod enc Tryd.prog w 0 (fun _ => true) true n' 3 [c3] = some z3 := one 3 _ rfl
  have g4 : DataW.trod enc Tryd.prog w 0 (fun _ => true) true n' 9 [c4] = some z4 := one 4 _ rfl
  obtain ⟨x0, e0, -, -⟩ := DataW.trod_int Tryd.underlying3 g0
  obtain ⟨x1, e1, -, -⟩ := DataW.trod_int Tryd.underlying3 g1
  obtain ⟨x2, e2, -, -⟩ := DataW.trod_int Tryd.underlying3 g2
  obtain ⟨x3, e3, -, -⟩ := DataW.trod_int Tryd.underlying3 g3
  obtain ⟨s, e4, -, -⟩ := DataW.trod_string Tryd.underlying9 g4
  simp only [List.cons.injEq, and_true] at e0 e1 e2 e3 e4
  subst e0 e1 e2 e3 e4
  exact ⟨⟨x0, x1, x2, x3, s.data.toList⟩, rfl, rfl, rfl, rfl, rfl⟩
set_option maxRecDepth 100000 in
theorem elem_row17 {H : Type} {enc : TypeId × Value → H} {w : World} (n : Nat) (cs : List Value) (x : DataW H × List MemPlace) (h : DataW.trod enc Tryd.prog w 0 (fun _ => true) true n 52 cs = some x) : ∃ t, RowFE w (fun j => cs[j]?) t := by
  obtain ⟨hlen, ys, n', hyl, one⟩ := structE_fields Tryd.underlying52 (by kernel_rfl) h
  have h5 : Tryd.prog.cellsOf 52 = 2 := by kernel_rfl
  rw [h5] at hlen
  obtain ⟨c0, c1, rfl⟩ := listOf2 hlen
  have hyl2 : ys.length = 2 := hyl
  obtain ⟨z0, z1, rfl⟩ := listOf2 hyl2
  have g0 : DataW.trod enc Tryd.prog w 0 (fun _ => true) true n' 9 [c0] = some z0 := one 0 _ rfl
  have g1 : DataW.trod enc Tryd.prog w 0 (fun _ => true) true n' 3 [c1] = some z1 := one 1 _ rfl
  obtain ⟨s, e0, -, -⟩ := DataW.trod_string Tryd.underlying9 g0
  obtain ⟨x1, e1, -, -⟩ := DataW.trod_int Tryd.underlying3 g1
  simp only [List.cons.injEq, and_true] at e0 e1
  subst e0 e1
  exact ⟨(s.data.toList, x1), rfl, rfl⟩
set_option maxRecDepth 100000 in
theorem open_ops17 {H : Type} {enc : TypeId × Value → H} {w : World} {b0 : Nat} {d0 : DataW H} {p0 : List MemPlace} {v0 : Value} (ok0 : Value.okWide Tryd.prog w .any b0 44 v0) (k0 : DataW.Trod enc Tryd.prog w 0 (fun _ => true) true 44 v0 d0 p0) : ∃ L, SlE OpFE 5 w v0 L :=
  open_slE opFKept Tryd.underlying44 (by kernel_rfl) elem_op17 ok0 k0
set_option maxRecDepth 100000 in
theorem open_rows17 {H : Type} {enc : TypeId × Value → H} {w : World} {b0 : Nat} {d0 : DataW H} {p0 : List MemPlace} {v0 : Value} (ok0 : Value.okWide Tryd.prog w .any b0 45 v0) (k0 : DataW.Trod enc Tryd.prog w 0 (fun _ => true) true 45 v0 d0 p0) : ∃ L, SlE RowFE 2 w v0 L :=
  open_slE rowFKept Tryd.underlying45 (by kernel_rfl) elem_row17 ok0 k0
theorem SlE.opF {w wr : World} {a : Option Addr} {n c : Nat} {L : List OpF} (h : SlE OpFE 5 w (.slice a n c) L) (hb : Below w.heap.size w wr) {k : Nat} {o : OpF} (hp : L[k]? = some o) :
    ∃ b off, a = some ⟨b, off, none⟩ ∧ wr.cell? ⟨b, off + k * 5, none⟩ = some (.int .i64 o.k) ∧ wr.cell? ⟨b, off + k * 5 + 1, none⟩ = some (.int .i64 o.a) ∧ wr.cell? ⟨b, off + k * 5 + 2, none⟩ = some (.int .i64 o.b) ∧ wr.cell? ⟨b, off + k * 5 + 3, none⟩ = some (.int .i64 o.n) ∧ wr.cell? ⟨b, off + k * 5 + 4, none⟩ = some (.string ⟨o.s.toArray⟩) := by
  obtain ⟨a', c', e', -, -, -, hrows⟩ := h
  simp only [Value.slice.injEq] at e'
  obtain ⟨rfl, -, rfl⟩ := e'
  obtain ⟨b, off, rfl, hbs, h0, h1, h2, h3, h4⟩ := hrows k o hp
  have hc : ∀ j, wr.cell? ⟨b, j, none⟩ = w.cell? ⟨b, j, none⟩ := fun j => World.cell?_of_block (hb.block b hbs)
  exact ⟨b, off, rfl, by rw [hc]; exact h0, by rw [hc]; exact h1, by rw [hc]; exact h2, by rw [hc]; exact h3, by rw [hc]; exact h4⟩
def okF (o : OpF) : Bool := decide (o.s.length ≤ 60)
def smallF (L : List OpF) (most : Nat) : Bool := L.all okF && decide (L.length ≤ most)
def SmF (w : World) (L : List OpF) (v9 : Value) (wr : World) : Prop := ∃ k : Nat, v9 = .int .i64 (k : Int) ∧ k ≤ L.length ∧ (L.take k).all okF = true ∧ Below w.heap.size w wr
set_option maxRecDepth 100000 in
set_option maxHeartbeats 1000000 in
theorem law17_small (L : List OpF) (most : Nat) (hm : most ≤ 1000) (v : Value) (w : World) (h : SlE OpFE 5 w v L) (bb : Bool) (hbb : Hid (smallF L most = bb)) :
    Calls Tryd.prog 20 #[v, .int .i64 (most : Int)] w fun e w' => e = .returned (.bool bb) ∧ Below w.heap.size w w' := by
  have HL := hid h
  obtain ⟨a, c, rfl, hlc, hcm, -⟩ := h
  have hl63 : L.length ≤ 9223372036854775807 := by omega
  clear hlc hcm
  go_enter Tryd.func20, Tryd.ntmps20
  go_wp2_with fail
  go_loopw [9] (fun v9 wr => SmF w L v9 wr) (fun v9 _ => L.length - (intOf v9).toNat)
  case atStart => exact ⟨0, rfl, by omega, by simp, Below.refl _ _⟩
  case round =>
    obtain ⟨k, rfl, hk, hall, hb⟩ := hrel
    have HALL := hid hall
    have HB := hid hb
    clear hall
    by_cases hlt : k < L.length
    · obtain ⟨o, hp⟩ : ∃ o, L[k]? = some o := ⟨_, List.getElem?_eq_getElem hlt⟩
      have HTK := hid (show L.take (k + 1) = L.take k ++ [o] from by
        obtain ⟨hk, rfl⟩ := List.getElem?_eq_some_iff.1 hp
        exact List.take_succ_eq_append_getElem hk)
      have HMEM := hid (List.mem_of_getElem? hp)
      obtain ⟨b, off, rfl, q0, q1, q2, q3, q4⟩ := HL.out.opF hb hp
      have e0 : (0 : Int) ≤ (k : Int) := by omega
      have e1 : (k : Int) < (L.length : Int) := by omega
      obtain ⟨ok, oa, ob, on, os⟩ := o
      simp only at q0 q1 q2 q3 q4
      clear hp hb
      go_upto_region 4 with fail
      obtain ⟨w5, hw5⟩ : ∃ w5, w5 = wr.alloc (.cells #[.int .i64 ok, .int .i64 oa, .int .i64 ob, .int .i64 on, .string ⟨os.toArray⟩] 38) := ⟨_, rfl⟩
      rw [← hw5]
      have hb5 : Below wr.heap.size wr w5 := by rw [hw5]; exact Below.new _ _
      have HX5 : Hid (Blk w5 wr.heap.size #[.int .i64 ok, .int .i64 oa, .int .i64 ob, .int .i64 on, .string ⟨os.toArray⟩]) := hid (by rw [hw5]; exact Blk.new _ _ _)
      have cx4 : w5.cell? ⟨wr.heap.size, 4, none⟩ = some (.string ⟨os.toArray⟩) := by rw [HX5.out.cell]; rfl
      have HB5 := hid (Below.next HB.out hb5)
      clear hw5 hb5 q0 q1 q2 q3 q4
      by_cases h60 : os.length ≤ 60
      · have h6 : ¬ (60 : Int) < (os.length : Int) := by omega
        go_wp2_with fail
        go_roundw
        case rel => exact ⟨k + 1, by go_num, by omega, by rw [HTK.out, List.all_append, HALL.out]; simp [okF]; omega, HB5.out⟩
        case measure => simp [intOf]; omega
      · have h6 : (60 : Int) < (os.length : Int) := by omega
        have hbf : bb = false := by
          rw [← hbb.out]; unfold smallF
          have : L.all okF = false := by
            rw [List.all_eq_false]
            exact ⟨_, HMEM.out, by simp [okF]; omega⟩
          rw [this]; rfl
        subst hbf
        go_wp2_with fail
        go_ret
        exact ⟨rfl, HB5.out⟩
    · have e1 : ¬ (k : Int) < (L.length : Int) := by omega
      have hbf : bb = decide (L.length ≤ most) := by
        have := HALL.out
        rw [List.take_of_length_le (by omega)] at this
        rw [← hbb.out]; unfold smallF; rw [this]; rfl
      by_cases hlm : L.length ≤ most
      · have hlm2 : (L.length : Int) ≤ (most : Int) := by omega
        have hb2 : bb = true := by rw [hbf]; simpa using hlm
        subst hb2
        clear hbf
        go_wp2_with fail
        go_ret
        exact ⟨by simp [hlm2], HB.out⟩
      · have hlm2 : ¬ (L.length : Int) ≤ (most : Int) := by omega
        have hb2 : bb = false := by rw [hbf]; simpa using hlm
        subst hb2
        clear hbf
        go_wp2_with fail
        go_ret
        exact ⟨by simp, HB.out⟩
def ResL1 (w : World) (g b d n : Nat) (v43 : Value) (wr : World) : Prop :=
  ∃ (j : Nat) (v vn vg : Value) (M : List (List UInt8 × Int)) (held : Int), v43 = .int .i64 (j : Int) ∧ j ≤ n ∧ Hid (BothF w wr g b v d vn vg M held (held + sumG M)) ∧ Hid (FkOk M held)
def ResL2 (w : World) (d : Nat) (R : List (List UInt8 × Int)) (held : Int) (r : Option (List (List UInt8 × Int))) (v14 v83 : Value) (wr : World) : Prop :=
  ∃ (j : Nat) (wn : Bool) (vn vg : Value) (M : List (List UInt8 × Int)), v14 = .bool wn ∧ v83 = .int .i64 (j : Int) ∧ j ≤ R.length ∧ Hid (∀ p ∈ R.take j, p.1.length ≤ 60) ∧ Hid (RefIs wr d vn vg M held) ∧ Hid (wn = true → FkOk M held) ∧ Hid ((if wn then restL (R.drop j) M held else none) = r) ∧ Hid (Below w.heap.size w wr ∧ ∀ k, (k = d ∨ vn.ownBlock = some k ∨ vg.ownBlock = some k) → w.heap.size ≤ k)
theorem RefStep.belowR {d : Nat} {vn vg vn' vg' : Value} {w0 w w' : World} (h : RefStep d vn vg vn' vg' w w') (hb : Below w0.heap.size w0 w) (hf : ∀ k, (k = d ∨ vn.ownBlock = some k ∨ vg.ownBlock = some k) → w0.heap.size ≤ k) : Below w0.heap.size w0 w' ∧ ∀ k, (k = d ∨ vn'.ownBlock = some k ∨ vg'.ownBlock = some k) → w0.heap.size ≤ k :=
  ⟨hb.trans (h.upd.below hb.size (fun k _ e => hf k e)), fun k hk => by
    have hz := hb.size
    rcases hk with hk | hk | hk
    · exact hf k (.inl hk)
    · rcases h.w1 k hk with e | e
      · exact hf k (.inr (.inl e))
      · omega
    · rcases h.w2 k hk with e | e
      · exact hf k (.inr (.inr e))
      · omega⟩
set_option maxRecDepth 100000 in
set_option maxHeartbeats 16000000 in
theorem law17_Restores (L : List OpF) (R : List (List UInt8 × Int)) (a1 a2 : Option Addr) (c1 c2 : Nat) (held : Int) (w : World) (hl : SlE OpFE 5 w (.slice a1 L.length c1) L) (hr : SlE RowFE 2 w (.slice a2 R.length c2) R) (h1 : smallF L 60 = true) (h2 : R.length ≤ 20) :
    Calls Tryd.prog 5 #[.slice a1 L.length c1, .slice a2 R.length c2, .int .i64 held] w fun e w' => e = .returned (.bool true) ∧ Below w.heap.size w w' := by
  have HL := hid hl
  have HR := hid hr
  have HSM := hid h1
  have i2 : ¬ (20 : Int) < (R.length : Int) := by omega
  have hLl : L.length ≤ 60 := by
    unfold smallF at h1; simp only [Bool.and_eq_true, decide_eq_true_eq] at h1; exact h1.2
  have HOKL : Hid (∀ o ∈ L, o.s.length ≤ 60) := hid (by
    unfold smallF at h1; simp only [Bool.and_eq_true, decide_eq_true_eq, List.all_eq_true, okF] at h1; exact h1.1)
  clear hl hr h1
  go_enter Tryd.func5, Tryd.ntmps5
  go_wp2_with fail
  refine (folk_New w).mono ?_
  rintro e w1 ⟨g, b, rfl, hf1, hg, hb, hb1⟩
  have H1 := hid hf1
  have HG := hid (And.intro hg hb)
  have HB1 := hid hb1
  clear hf1 hg hb hb1
  go_wp2_with fail
  refine (law17_small L 60 (by omega) _ w1 (HL.out.below opFKept HB1.out) true HSM).mono ?_
  rintro e w2 ⟨rfl, hb2⟩
  have H2 := hid (H1.out.below hb2)
  have HB2 := hid (Below.next HB1.out hb2)
  clear hb2 H1 HB1
  go_upto_region 5 with fail
  generalize hw3 : World.alloc w2 _ = w3
  obtain ⟨d, hd⟩ : ∃ d, d = w2.heap.size := ⟨_, rfl⟩
  rw [← hd]
  have hb3 : Below w2.heap.size w2 w3 := by rw [← hw3]; exact Below.new _ _
  have HD : Hid (Blk w3 d #[.slice none 0 0, .slice none 0 0, .int .i64 0]) := hid (by rw [← hw3, hd]; exact Blk.new w2 _ _)
  have HBF : Hid (BothF w w3 g b (.slice none 0 0) d (.slice none 0 0) (.slice none 0 0) [] 0 (0 + sumG [])) := hid (by
    refine ⟨H2.out.below hb3, ⟨HD.out, World.ownsRow_nil _ _ _ _, World.ownsRow_nil _ _ _ _, by simp [Value.ownBlock], by simp [Value.ownBlock], by simp [Value.ownBlock]⟩, ?_, Below.next HB2.out hb3, ?_⟩
    · intro k hk q
      have := H2.out.lt k hk
      rcases q with q | q | q
      · omega
      · simp [Value.ownBlock] at q
      · simp [Value.ownBlock] at q
    · intro k hk
      have h1 := HG.out.1
      have h2 := HG.out.2
      have h3 := HB2.out.size
      rcases hk with (hk | hk | hk) | (hk | hk | hk)
      · omega
      · omega
      · simp [Value.ownBlock] at hk
      · omega
      · simp [Value.ownBlock] at hk
      · simp [Value.ownBlock] at hk)
  have HOK0 : Hid (FkOk [] 0) := hid ⟨by simp, by simp, by simp, by omega, by simp [sumG], by simp⟩
  clear hw3 hb3 hd HD H2
  go_wp2_with fail
  go_loopw [43] (fun v43 wr => ResL1 w g b d L.length v43 wr) (fun v43 _ => L.length - (intOf v43).toNat)
  case atStart => exact ⟨0, _, _, _, [], 0, rfl, by omega, HBF, HOK0⟩
  case round =>
    clear HBF HOK0
    obtain ⟨j, v, vn, vg, M, hm, rfl, hj, HF, HOK⟩ := hrel
    by_cases hlt : j < L.length
    · have j1 : (j : Int) < (L.length : Int) := by omega
      have j0 : (0 : Int) ≤ (j : Int) := by omega
      obtain ⟨o, hp⟩ : ∃ o, L[j]? = some o := ⟨_, List.getElem?_eq_getElem hlt⟩
      obtain ⟨bo, off, rfl, q0, q1, q2, q3, q4⟩ := HL.out.opF HF.out.bl hp
      have HS := hid (HOKL.out o (List.mem_of_getElem? hp))
      obtain ⟨ok, oa, ob, on, os⟩ := o
      simp only at q0 q1 q2 q3 q4 HS
      clear hp
      go_upto_region 8 with fail
      obtain ⟨w5, hw5⟩ : ∃ w5, w5 = wr.alloc (.cells #[.int .i64 ok, .int .i64 oa, .int .i64 ob, .int .i64 on, .string ⟨os.toArray⟩] 38) := ⟨_, rfl⟩
      rw [← hw5]
      have hb5 : Below wr.heap.size wr w5 := by rw [hw5]; exact Below.new _ _
      obtain ⟨bb, hbb⟩ : ∃ bb, bb = wr.heap.size := ⟨_, rfl⟩
      have HX5 : Hid (Blk w5 bb #[.int .i64 ok, .int .i64 oa, .int .i64 ob, .int .i64 on, .string ⟨os.toArray⟩]) := hid (by rw [hw5, hbb]; exact Blk.new _ _ _)
      have cx0 : w5.cell? ⟨bb, 0, none⟩ = some (.int .i64 ok) := by rw [HX5.out.cell]; rfl
      have cx1 : w5.cell? ⟨bb, 1, none⟩ = some (.int .i64 oa) := by rw [HX5.out.cell]; rfl
      have cx2 : w5.cell? ⟨bb, 2, none⟩ = some (.int .i64 ob) := by rw [HX5.out.cell]; rfl
      have cx3 : w5.cell? ⟨bb, 3, none⟩ = some (.int .i64 on) := by rw [HX5.out.cell]; rfl
      have cx4 : w5.cell? ⟨bb, 4, none⟩ = some (.string ⟨os.toArray⟩) := by rw [HX5.out.cell]; rfl
      have HF5 : Hid (BothF w w5 g b v d vn vg M hm (hm + sumG M)) := hid ⟨HF.out.f.below hb5, HF.out.r.below hb5, HF.out.sep, Below.next HF.out.bl hb5, HF.out.far⟩
      rw [← hbb]
      clear hw5 hb5 hbb q0 q1 q2 q3 q4 HF
      go_wp2_with fail
      refine (law17_step w g b v d vn vg M hm w5 HF5.out HOK.out os (by have := HS.out; omega) ok oa ob on).mono ?_
      rintro e w6 ⟨v6, vn6, vg6, M6, h6, rfl, hb6, hok6⟩
      have HF6 := hid hb6
      have HOK6 := hid hok6
      clear hb6 hok6 cx0 cx1 cx2 cx3 cx4
      go_wp2_with fail
      go_roundw
      case rel => exact ⟨j + 1, v6, vn6, vg6, M6, h6, by go_num, by omega, HF6, HOK6⟩
      case measure => simp [intOf]; omega
    · have j1 : ¬ (j : Int) < (L.length : Int) := by omega
      go_wp2_with fail
      refine (folk_Rows g b v M hm _ wr HF.out.f HOK.out.len).mono ?_
      rintro e w5 ⟨u, rfl, hu, hb5⟩
      have HU := hid (rowF_own hu)
      have HF5 := hid (HF.out.f.below hb5)
      have HR5 := hid (HF.out.r.below hb5)
      have HB5 := hid (Below.next HF.out.bl hb5)
      obtain ⟨au, cu, rfl, -⟩ := ownsRow.rd hu
      clear hu hb5
      go_wp2_with fail
      refine (folk_Held g b v M hm _ w5 HF5.out).mono ?_
      rintro e w6 ⟨rfl, rfl⟩
      go_wp2_with fail
      refine (folk_Restore M _ hm w5 HU.out (by have := HOK.out.len; omega) (fun p hp => by have := nameB_len (HOK.out.names p hp); omega) (some M) (hid (restF_own M hm HOK.out))).mono ?_
      rintro e w6 ⟨g2, b2, v2, rfl, hf6, hok6, hb6⟩
      have HF6 := hid hf6
      have HR6 := hid (HR5.out.below hb6)
      have HB6 := hid (Below.next HB5.out hb6)
      clear hf6 hok6 hb6 HU HF5 HR5
      go_wp2_with fail
      refine (law17_same g2 b2 v2 d vn vg M hm w6 HF6.out HR6.out HOK.out).mono ?_
      rintro e w7 ⟨rfl, hb7⟩
      have HB7 := hid (Below.next HB6.out hb7)
      clear hb7 HF6 HR6 HF HOK
      go_upto_region 14 with fail
      generalize hw8 : World.alloc w7 _ = w8
      obtain ⟨d2, hd2⟩ : ∃ d, d = w7.heap.size := ⟨_, rfl⟩
      rw [← hd2]
      have hb8 : Below w7.heap.size w7 w8 := by rw [← hw8]; exact Below.new _ _
      have HD : Hid (Blk w8 d2 #[.slice none 0 0, .slice none 0 0, .int .i64 held]) := hid (by rw [← hw8, hd2]; exact Blk.new w7 _ _)
      have HR8 : Hid (RefIs w8 d2 (.slice none 0 0) (.slice none 0 0) [] held) := hid ⟨HD.out, World.ownsRow_nil _ _ _ _, World.ownsRow_nil _ _ _ _, by simp [Value.ownBlock], by simp [Value.ownBlock], by simp [Value.ownBlock]⟩
      have HB8 : Hid (Below w.heap.size w w8 ∧ ∀ k, (k = d2 ∨ (Value.slice none 0 0).ownBlock = some k ∨ (Value.slice none 0 0).ownBlock = some k) → w.heap.size ≤ k) := hid ⟨Below.next HB7.out hb8, fun k hk => by
        have := HB7.out.size
        rcases hk with hk | hk | hk
        · omega
        · simp [Value.ownBlock] at hk
        · simp [Value.ownBlock] at hk⟩
      clear hw8 hb8 hd2 HD
      obtain ⟨r, hr⟩ : ∃ r, restF R held = r := ⟨_, rfl⟩
      have HRR := hid hr
      obtain ⟨wn, hwn⟩ : ∃ wn, goldR held = wn := ⟨_, rfl⟩
      have HOK8 : Hid (wn = true → FkOk [] held) := hid (fun h => by
        have hg : goldR held = true := by rw [hwn]; exact h
        have hg2 : 0 ≤ held ∧ held ≤ 1099511627776 := by unfold goldR at hg; simpa using hg
        exact ⟨by simp, by simp, by simp, hg2.1, by simpa [sumG] using hg2.2, by simp⟩)
      have HW8 : Hid ((if wn then restL R [] held else none) = r) := hid (by rw [← hwn, ← hr]; rfl)
      have hww : wn = decide (0 ≤ held ∧ held ≤ 1099511627776) := by rw [← hwn]; rfl
      have HWW := hid hww
      clear hr hwn hww
      go_cut [14] (fun c wx => c = .bool wn ∧ w8 = wx)
      case first =>
        by_cases c1 : 0 ≤ held
        · by_cases c2 : held ≤ 1099511627776
          · go_wp2_with fail
            go_meet
            exact ⟨congrArg Value.bool (HWW.out.trans (decide_eq_true ⟨c1, c2⟩)).symm, rfl⟩
          · go_wp2_with fail
            go_meet
            exact ⟨congrArg Value.bool (HWW.out.trans (decide_eq_false (by omega))).symm, rfl⟩
        · go_wp2_with fail
          go_meet
          exact ⟨congrArg Value.bool (HWW.out.trans (decide_eq_false (by omega))).symm, rfl⟩
      case rest =>
      obtain ⟨rfl, rfl⟩ := hcut
      clear HWW
      go_wp2_with fail
      go_loopw [14, 83] (fun v14 v83 wr => ResL2 w d2 R held r v14 v83 wr) (fun _ v83 _ => R.length - (intOf v83).toNat)
      case atStart => exact ⟨0, wn, _, _, [], rfl, rfl, by omega, hid (by simp), HR8, HOK8, by rw [List.drop_zero]; exact HW8, HB8⟩
      case round =>
        clear HR8 HOK8 HW8 HB8
        obtain ⟨k, wn, vn, vg, M, rfl, rfl, hk, H60, HRI, HOK, HWN, HB⟩ := hrel
        by_cases hlt : k < R.length
        · obtain ⟨⟨x, y⟩, hp⟩ : ∃ p, R[k]? = some p := ⟨_, List.getElem?_eq_getElem hlt⟩
          have hdr : R.drop k = (x, y) :: R.drop (k + 1) := by
            rw [List.drop_eq_getElem_cons hlt]
            congr 1
            exact (List.getElem?_eq_some_iff.1 hp).2
          have htk : R.take (k + 1) = R.take k ++ [(x, y)] := by
            obtain ⟨hk, e⟩ := List.getElem?_eq_some_iff.1 hp
            rw [List.take_succ_eq_append_getElem hk, e]
          have HTK := hid htk
          have HDR := hid hdr
          obtain ⟨br, orr, rfl, q0, q1⟩ := HR.out.rowF HB.out.1 hp
          simp only at q0 q1
          have e0 : (0 : Int) ≤ (k : Int) := by omega
          have e1 : (k : Int) < (R.length : Int) := by omega
          clear hp hdr htk
          go_upto_region 18 with fail
          obtain ⟨w15, hw5⟩ : ∃ w5, w5 = wr.alloc (.cells #[.string ⟨x.toArray⟩, .int .i64 y] 52) := ⟨_, rfl⟩
          rw [← hw5]
          have hb5 : Below wr.heap.size wr w15 := by rw [hw5]; exact Below.new _ _
          obtain ⟨bb, hbb⟩ : ∃ bb, bb = wr.heap.size := ⟨_, rfl⟩
          have HX5 : Hid (Blk w15 bb #[.string ⟨x.toArray⟩, .int .i64 y]) := hid (by rw [hw5, hbb]; exact Blk.new _ _ _)
          have HB15 : Hid (Below w.heap.size w w15) := hid (Below.next HB.out.1 hb5)
          have HR5 := hid (HRI.out.below hb5)
          have HLB : Hid (∀ k, (k = d2 ∨ vn.ownBlock = some k ∨ vg.ownBlock = some k) → k ≠ bb) := hid (fun k hk => by have := HRI.out.lt k hk; omega)
          have cx0 : w15.cell? ⟨bb, 0, none⟩ = some (.string ⟨x.toArray⟩) := by rw [HX5.out.cell]; rfl
          rw [← hbb]
          clear q0 q1 hw5 hb5 hbb
          by_cases h60 : x.length ≤ 60
          · have h6 : ¬ (60 : Int) < (x.length : Int) := by omega
            have H62 : Hid (∀ p ∈ R.take (k + 1), p.1.length ≤ 60) := hid (fun p hp => by
              rw [HTK.out] at hp
              rcases List.mem_append.1 hp with hp | hp
              · exact H60.out p hp
              · simp at hp; subst hp; exact h60)
            have HXL : Hid (x.length ≤ 1000) := hid (by omega)
            clear h60 H60 HTK
            cases wn with
            | false =>
              have HWN2 : Hid ((if false then restL (R.drop (k + 1)) M held else none) = r) := hid HWN.out
              have HFR : Hid (Below w.heap.size w w15 ∧ ∀ k, (k = d2 ∨ vn.ownBlock = some k ∨ vg.ownBlock = some k) → w.heap.size ≤ k) := hid ⟨HB15.out, HB.out.2⟩
              go_wp2_with fail
              go_roundw
              case rel => exact ⟨k + 1, false, vn, vg, M, rfl, by go_num, by omega, H62, HR5, HOK, HWN2, HFR⟩
              case measure => simp [intOf]; omega
            | true =>
              have HOKM := hid (HOK.out rfl)
              obtain ⟨E, hE⟩ : ∃ E, addFE M x = E := ⟨_, rfl⟩
              obtain ⟨I, hI⟩ : ∃ I, addFI M x = I := ⟨_, rfl⟩
              have hrl : restL (R.drop k) M held = r := HWN.out
              rw [HDR.out, restL] at hrl
              simp only at hrl
              rw [hE, hI] at hrl
              have HRL2 := hid hrl
              have HEE := hid hE
              have HII := hid hI
              clear hE hI hrl
              go_wp2_with fail
              refine (ref17_Add d2 vn vg M held w15 HR5.out HOKM.out.len x HXL.out).mono ?_
              rintro e w16 ⟨vn6, vg6, rfl, hr6, hs6⟩
              rw [HEE.out, HII.out]
              obtain ⟨hok6, hsum6⟩ := addF_ok HOKM.out x
              have HR6 := hid hr6
              have HOK6 := hid hok6
              have HB6 := hid (hs6.belowR HB15.out HB.out.2)
              have HX6 := hid (HX5.out.upd hs6.upd (fun q => HLB.out bb q rfl))
              have cx1 : w16.cell? ⟨bb, 1, none⟩ = some (.int .i64 y) := by rw [HX6.out.cell]; rfl
              clear hr6 hs6 hok6 hsum6 cx0
              by_cases hE0 : E = 0
              · subst hE0
                have hrl := HRL2.out
                rw [if_pos rfl] at hrl
                obtain ⟨q, hq⟩ : ∃ q, gop 2 I 0 y (addFL M x) held = q := ⟨_, rfl⟩
                rw [hq] at hrl
                have HQ := hid hq
                have HQ2 : Hid (q.2.2 = held) := hid (by rw [← hq]; exact gop2_held _ _ _ _ _)
                have HOK7 : Hid (FkOk q.2.1 q.2.2) := hid (by rw [← hq]; exact gop_ok 2 I 0 y _ held (by omega) HOK6.out)
                have HRL3 := hid hrl
                obtain ⟨E2, M2, H2⟩ := q
                simp only at HQ2 HOK7 HRL3
                obtain rfl : H2 = held := HQ2.out
                clear hq hrl
                go_wp2_with fail
                refine (ref17_Mint d2 vn6 vg6 (addFL M x) H2 w16 HR6.out HOK6.out I y 0).mono ?_
                intro e w17 hp7
                rw [HQ.out] at hp7
                obtain ⟨vn7, vg7, rfl, hr7, hs7⟩ := hp7
                simp only at hr7
                have HR7 := hid hr7
                have HB7' := hid (hs7.belowR HB6.out.1 HB6.out.2)
                clear hr7 hs7 cx1
                by_cases hE2 : E2 = 0
                · subst hE2
                  have HRL4 : Hid ((if true then restL (R.drop (k + 1)) M2 H2 else none) = r) := hid (by have := HRL3.out; rw [if_pos rfl] at this; exact this)
                  go_wp2_with fail
                  go_roundw
                  case rel => exact ⟨k + 1, true, vn7, vg7, M2, rfl, by go_num, by omega, H62, HR7, hid (fun _ => HOK7.out), HRL4, HB7'⟩
                  case measure => simp [intOf]; omega
                · have HRL4 : Hid ((if false then restL (R.drop (k + 1)) M2 H2 else none) = r) := hid (by have := HRL3.out; rw [if_neg hE2] at this; exact this)
                  have e3 : (E2 == 0) = false := by simpa using hE2
                  clear hE2
                  go_wp2_with fail
                  go_roundw
                  case rel => exact ⟨k + 1, false, vn7, vg7, M2, by go_num, by go_num, by omega, H62, HR7, hid (fun h => by cases h), HRL4, HB7'⟩
                  case measure => simp [intOf]; omega
              · have HRL4 : Hid ((if false then restL (R.drop (k + 1)) (addFL M x) held else none) = r) := hid (by have := HRL2.out; rw [if_neg hE0] at this; exact this)
                have e3 : (E == 0) = false := by simpa using hE0
                clear hE0
                go_wp2_with fail
                go_roundw
                case rel => exact ⟨k + 1, false, vn6, vg6, addFL M x, by go_num, by go_num, by omega, H62, HR6, hid (fun h => by cases h), HRL4, HB6⟩
                case measure => simp [intOf]; omega
          · have h6 : (60 : Int) < (x.length : Int) := by omega
            go_wp2_with fail
            refine (law17_awake w15).mono ?_
            rintro e w16 ⟨rfl, hb6⟩
            have HB6 := hid (Below.next HB15.out hb6)
            clear hb6
            go_wp2_with fail
            go_ret
            exact ⟨rfl, HB6.out⟩
        · have e1 : ¬ (k : Int) < (R.length : Int) := by omega
          have HN60 : Hid (∀ p ∈ R, p.1.length ≤ 1000) := hid (fun p hp => by
            have := H60.out p (by rw [List.take_of_length_le (by omega)]; exact hp)
            omega)
          have hrr : (if wn then some M else none) = r := by
            have := HWN.out
            rw [List.drop_of_length_le (by omega)] at this
            exact this
          have HRB := hid (HR.out.below rowFKept HB.out.1)
          cases wn with
          | false =>
            have hrn : none = r := hrr
            subst hrn
            clear hrr HWN
            go_wp2_with fail
            refine (folk_Restore R _ held wr HRB.out (by omega) HN60.out none HRR).mono ?_
            rintro e w16 ⟨rfl, hb6⟩
            have HB6 := hid (Below.next HB.out.1 hb6)
            clear hb6
            go_wp2_with fail
            refine (law17_awake w16).mono ?_
            rintro e w17 ⟨rfl, hb7⟩
            have HB8 := hid (Below.next HB6.out hb7)
            clear hb7
            go_wp2_with fail
            go_ret
            exact ⟨rfl, HB8.out⟩
          | true =>
            have hrn : some M = r := hrr
            subst hrn
            have HOKM := hid (HOK.out rfl)
            clear hrr HWN
            go_wp2_with fail
            refine (folk_Restore R _ held wr HRB.out (by omega) HN60.out (some M) HRR).mono ?_
            rintro e w16 ⟨g3, b3, v3, rfl, hf6, hok6, hb6⟩
            have HF6 := hid hf6
            have HRI6 := hid (HRI.out.below hb6)
            have HB6 := hid (Below.next HB.out.1 hb6)
            clear hf6 hok6 hb6
            go_wp2_with fail
            refine (law17_same g3 b3 v3 d2 vn vg M held w16 HF6.out HRI6.out HOKM.out).mono ?_
            rintro e w17 ⟨rfl, hb7⟩
            have HB8 := hid (Below.next HB6.out hb7)
            clear hb7
            go_wp2_with fail
            refine (law17_awake w17).mono ?_
            rintro e w18 ⟨rfl, hb8⟩
            have HB9 := hid (Below.next HB8.out hb8)
            clear hb8
            go_wp2_with fail
            go_ret
            exact ⟨rfl, HB9.out⟩
set_option maxRecDepth 100000 in
set_option maxHeartbeats 2000000 in
theorem FolkRestores_walk {H : Type} {enc : TypeId × Value → H} {b0 b1 : Nat} {d0 d1 : DataW H} {p0 p1 : List MemPlace} (v0 v1 : Value) (held : Int) (w : World) (ok0 : Value.okWide Tryd.prog w .any b0 44 v0) (k0 : DataW.Trod enc Tryd.prog w 0 (fun _ => true) true 44 v0 d0 p0)
    (ok1 : Value.okWide Tryd.prog w .any b1 45 v1) (k1 : DataW.Trod enc Tryd.prog w 0 (fun _ => true) true 45 v1 d1 p1) (wh : (Lit.int .i64 held).wf = true) :
    Calls Tryd.prog 5 #[v0, v1, .int .i64 held] w fun e w' => e = .returned (.bool true) ∧ Below w.heap.size w w' := by
  obtain ⟨L, hl⟩ := open_ops17 ok0 k0
  obtain ⟨R, hr⟩ := open_rows17 ok1 k1
  have HL := hid hl
  have HR := hid hr
  obtain ⟨a1, c1, rfl, -⟩ := hl
  obtain ⟨a2, c2, rfl, h2, h3, -⟩ := hr
  clear ok0 k0 ok1 k1 wh
  have hR63 : R.length ≤ 9223372036854775807 := by omega
  clear h2 h3
  cases hs : smallF L 60 with
  | true =>
    have HS := hid hs
    clear hs
    by_cases hR : R.length ≤ 20
    · exact law17_Restores L R a1 a2 c1 c2 held w HL.out HR.out HS.out hR
    · have i2 : (20 : Int) < (R.length : Int) := by omega
      clear hR
      go_enter Tryd.func5, Tryd.ntmps5
      go_wp2_with fail
      refine (folk_New w).mono ?_
      rintro e w1 ⟨g, b, rfl, hf1, hg, hb, hb1⟩
      have HB1 := hid hb1
      clear hf1 hg hb hb1
      go_wp2_with fail
      refine (law17_small L 60 (by omega) _ w1 (HL.out.below opFKept HB1.out) true HS).mono ?_
      rintro e w2 ⟨rfl, hb2⟩
      have HB2 := hid (Below.next HB1.out hb2)
      clear hb2
      go_wp2_with fail
      refine (law17_awake w2).mono ?_
      rintro e w3 ⟨rfl, hb3⟩
      have HB3 := hid (Below.next HB2.out hb3)
      clear hb3
      go_wp2_with fail
      go_ret
      exact ⟨rfl, HB3.out⟩
  | false =>
    have HS := hid hs
    clear hs
    go_enter Tryd.func5, Tryd.ntmps5
    go_wp2_with fail
    refine (folk_New w).mono ?_
    rintro e w1 ⟨g, b, rfl, hf1, hg, hb, hb1⟩
    have HB1 := hid hb1
    clear hf1 hg hb hb1
    go_wp2_with fail
    refine (law17_small L 60 (by omega) _ w1 (HL.out.below opFKept HB1.out) false HS).mono ?_
    rintro e w2 ⟨rfl, hb2⟩
    have HB2 := hid (Below.next HB1.out hb2)
    clear hb2
    go_wp2_with fail
    refine (law17_awake w2).mono ?_
    rintro e w3 ⟨rfl, hb3⟩
    have HB3 := hid (Below.next HB2.out hb3)
    clear hb3
    go_wp2_with fail
    go_ret
    exact ⟨rfl, HB3.out⟩
end Go.Proofs.YtcjdlckfbkdibaaDoor
end
