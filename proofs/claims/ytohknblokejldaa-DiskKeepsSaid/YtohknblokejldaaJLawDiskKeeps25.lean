/- Joined texts, in this order: DiskOps. Each one's first remark says what it proves; no condition beyond those that its theorems name. -/
import Derived.Test.YtohknblokejldaaJLawDiskKeeps24
section
/- The operations of the laws of layer 5: opened; are they small? -/
namespace Go.Proofs.Ytohknblokejldaa
open Go.RowKit Go.ChangeShapes Go.WideShapes Go.Deep Go.Joins
open Go.Lib (hid)
set_option linter.unusedVariables false

structure OpT where
  kind : Int
  sec : Int
  n : Int
  data : List UInt8
  keep : List Int
  torn : Int
  cut : Int
instance : Inhabited OpT := ⟨⟨0, 0, 0, [], [], 0, 0⟩⟩
def OpE (w : World) (f : Nat → Option Value) (o : OpT) : Prop :=
  f 0 = some (.int .i64 o.kind) ∧ f 1 = some (.int .i64 o.sec) ∧ f 2 = some (.int .i64 o.n) ∧ (∃ dv, f 3 = some dv ∧ SlB w dv o.data) ∧ (∃ kv, f 4 = some kv ∧ SlI w kv o.keep) ∧ f 5 = some (.int .i64 o.torn) ∧ f 6 = some (.int .i64 o.cut)
theorem SlB.belowV {w w' : World} {v : Value} {l : List UInt8} (h : SlB w v l) (hb : Below w.heap.size w w') : SlB w' v l := h.below hb
theorem opKept : Kept OpE 7 :=
  ⟨fun hb hf h => by
    obtain ⟨h0, h1, h2, ⟨dv, h3, hd⟩, ⟨kv, h4, hk⟩, h5, h6⟩ := h
    exact ⟨hf 0 _ (by omega) h0, hf 1 _ (by omega) h1, hf 2 _ (by omega) h2, ⟨dv, hf 3 _ (by omega) h3, hd.below hb⟩, ⟨kv, hf 4 _ (by omega) h4, hk.below hb⟩, hf 5 _ (by omega) h5, hf 6 _ (by omega) h6⟩, fun h => ⟨_, h.1⟩⟩
theorem listOf7 {α : Type} : ∀ {l : List α}, l.length = 7 → ∃ a b c d e f g, l = [a, b, c, d, e, f, g]
  | [a, b, c, d, e, f, g], _ => ⟨a, b, c, d, e, f, g, rfl⟩
set_option maxRecDepth 100000 in
theorem open_slbF {H : Type} {enc : TypeId × Value → H} {w : World} {n : Nat} {v : Value} {y : DataW H × List MemPlace} (t4 : DataW.trod enc Try.prog w 0 (fun _ => true) true n 27 [v] = some y) : ∃ l : List UInt8, SlB w v l := by
  have hrow : ∃ (a : Option Addr) (len cap : Nat) (zs : List Int), v = .slice a len cap ∧ ((a = none ∧ len = 0 ∧ cap = 0 ∧ zs = []) ∨
      ∃ x, a = some x ∧ len ≤ cap ∧ cap ≤ maxLen ∧ zs.length = cap ∧ (∀ i, i < zs.length → w.cell? (x.add i) = some (.int .u8 (zs.getD i 0))) ∧ ∀ n ∈ zs, (Lit.int .u8 n).wf = true) := by
    rcases open_ints Try.underlying27 Try.underlying5 (by kernel_rfl) t4 with ⟨hcs, _⟩ | ⟨x, l, c, zs, hcs, _, hl, hm, hz, _, hcell, hwz⟩
    · simp at hcs
      exact ⟨none, 0, 0, [], hcs, .inl ⟨rfl, rfl, rfl, rfl⟩⟩
    · simp at hcs
      exact ⟨some x, l, c, zs, hcs, .inr ⟨_, rfl, hl, hm, by simpa using hz, hcell, hwz⟩⟩
  obtain ⟨la, len, lc, zs, rfl, hr⟩ := hrow
  obtain ⟨l, -, h⟩ := slb_of_row hr
  exact ⟨l, h⟩
set_option maxRecDepth 100000 in
theorem elem_op05 {H : Type} {enc : TypeId × Value → H} {w : World} (n : Nat) (cs : List Value) (x : DataW H × List MemPlace) (h : DataW.trod enc Try.prog w 0 (fun _ => true) true n 81 cs = some x) : ∃ t, OpE w (fun j => cs[j]?) t := by
  obtain ⟨ys, n', -, -, hlen, hyl, hf⟩ := DataW.trod_struct Try.underlying81 h
  have h7 : Try.prog.cellsOf 81 = 7 := by kernel_rfl
  rw [h7] at hlen
  obtain ⟨c0, c1, c2, c3, c4, c5, c6, rfl⟩ := listOf7 hlen
  have hyl2 : ys.length = 5 := hyl
  obtain ⟨z0, z1, z2, z3, z4, rfl⟩ := listOf5 hyl2
  have g0 : DataW.trod enc Try.prog w 0 (fun _ => true) true n' 3 [c0] = some z0 := hf 0 _ rfl
  have g1 : DataW.trod enc Try.prog w 0 (fun _ => true) true n' 3 [c1] = some z1 := hf 1 _ rfl
  have g2 : DataW.trod enc Try.prog w 0 (fun _ => true) true n' 3 [c2] = some z2 := hf 2 _ rfl
  have g3 : DataW.trod enc Try.prog w 0 (fun _ => true) true n' 27 [c3] = some z3 := hf 3 _ rfl
  have g4 : DataW.trod enc Try.prog w 0 (fun _ => true) true n' 49 [c4, c5, c6] = some z4 := hf 4 _ rfl
  obtain ⟨-, zs, n'', hzl, one⟩ := structE_fields Try.underlying49 (by kernel_rfl) g4
  have hzl3 : zs.length = 3 := hzl
  obtain ⟨y0, y1, y2, rfl⟩ := listOf3 hzl3
  have k0 : DataW.trod enc Try.prog w 0 (fun _ => true) true n'' 22 [c4] = some y0 := one 0 _ rfl
  have k1 : DataW.trod enc Try.prog w 0 (fun _ => true) true n'' 3 [c5] = some y1 := one 1 _ rfl
  have k2 : DataW.trod enc Try.prog w 0 (fun _ => true) true n'' 3 [c6] = some y2 := one 2 _ rfl
  obtain ⟨kd, e0, -, -⟩ := DataW.trod_int Try.underlying3 g0
  obtain ⟨sc, e1, -, -⟩ := DataW.trod_int Try.underlying3 g1
  obtain ⟨nn, e2, -, -⟩ := DataW.trod_int Try.underlying3 g2
  obtain ⟨tn, e5, -, -⟩ := DataW.trod_int Try.underlying3 k1
  obtain ⟨ct, e6, -, -⟩ := DataW.trod_int Try.underlying3 k2
  simp only [List.cons.injEq, and_true] at e0 e1 e2 e5 e6
  subst e0; subst e1; subst e2; subst e5; subst e6
  obtain ⟨dl, hd⟩ := open_slbF g3
  obtain ⟨kl, hk, -⟩ := open_sliF k0
  exact ⟨⟨kd, sc, nn, dl, kl, tn, ct⟩, rfl, rfl, rfl, ⟨c3, rfl, hd⟩, ⟨c4, rfl, hk⟩, rfl, rfl⟩
set_option maxRecDepth 100000 in
theorem open_ops05 {H : Type} {enc : TypeId × Value → H} {w : World} {b0 : Nat} {d0 : DataW H} {p0 : List MemPlace} {v0 : Value} (ok0 : Value.okWide Try.prog w .any b0 77 v0) (k0 : DataW.Trod enc Try.prog w 0 (fun _ => true) true 77 v0 d0 p0) : ∃ L, SlE OpE 7 w v0 L :=
  open_slE opKept Try.underlying77 (by kernel_rfl) elem_op05 ok0 k0
/-- one operation that comes in, in any later world -/
theorem SlE.op05 {w wr : World} {a : Option Addr} {n c : Nat} {L : List OpT} (h : SlE OpE 7 w (.slice a n c) L) (hb : Below w.heap.size w wr) {k : Nat} {o : OpT} (hp : L[k]? = some o) :
    ∃ b off da dc ka kc, a = some ⟨b, off, none⟩ ∧ wr.cell? ⟨b, off + k * 7, none⟩ = some (.int .i64 o.kind) ∧ wr.cell? ⟨b, off + k * 7 + 1, none⟩ = some (.int .i64 o.sec) ∧ wr.cell? ⟨b, off + k * 7 + 2, none⟩ = some (.int .i64 o.n) ∧
      wr.cell? ⟨b, off + k * 7 + 3, none⟩ = some (.slice da o.data.length dc) ∧ wr.cell? ⟨b, off + k * 7 + 4, none⟩ = some (.slice ka o.keep.length kc) ∧ wr.cell? ⟨b, off + k * 7 + 5, none⟩ = some (.int .i64 o.torn) ∧ wr.cell? ⟨b, off + k * 7 + 6, none⟩ = some (.int .i64 o.cut) ∧
      SlB w (.slice da o.data.length dc) o.data ∧ SlI w (.slice ka o.keep.length kc) o.keep := by
  obtain ⟨a', c', e', -, -, -, hrows⟩ := h
  simp only [Value.slice.injEq] at e'
  obtain ⟨rfl, -, rfl⟩ := e'
  obtain ⟨b, off, rfl, hbs, h0, h1, h2, ⟨dv, h3, hd⟩, ⟨kv, h4, hk⟩, h5, h6⟩ := hrows k o hp
  obtain ⟨da, dc, rfl, -⟩ := id hd
  obtain ⟨ka, kc, rfl, -⟩ := id hk
  have hc : ∀ j, wr.cell? ⟨b, j, none⟩ = w.cell? ⟨b, j, none⟩ := fun j => World.cell?_of_block (hb.block b hbs)
  exact ⟨b, off, da, dc, ka, kc, rfl, by rw [hc]; exact h0, by rw [hc]; exact h1, by rw [hc]; exact h2, by rw [hc]; exact h3, by rw [hc]; exact h4, by rw [hc]; exact h5, by rw [hc]; exact h6, hd, hk⟩
def okOp (o : OpT) : Bool := decide (o.data.length ≤ 100) && decide (o.keep.length ≤ 50)
def smallB (L : List OpT) (most : Nat) : Bool := L.all okOp && decide (L.length ≤ most)
def SmL (w : World) (L : List OpT) (v9 : Value) (wr : World) : Prop := ∃ k : Nat, v9 = .int .i64 k ∧ k ≤ L.length ∧ (L.take k).all okOp = true ∧ Below w.heap.size w wr
set_option maxRecDepth 100000 in
set_option maxHeartbeats 1000000 in
theorem law05_small (L : List OpT) (most : Nat) (hm : most ≤ 1000) (v : Value) (w : World) (h : SlE OpE 7 w v L) (bb : Bool) (hbb : Hid (smallB L most = bb)) :
    Calls Try.prog 34 #[v, .int .i64 (most : Int)] w fun e w' => e = .returned (.bool bb) ∧ Below w.heap.size w w' := by
  have HL := hid h
  obtain ⟨a, c, rfl, hlc, hcm, -⟩ := h
  have hl63 : L.length ≤ 9223372036854775807 := by omega
  clear hlc hcm
  go_enter Try.func34, Try.ntmps34
  go_wp2_with fail
  go_loopw [9] (fun v9 wr => SmL w L v9 wr) (fun v9 _ => L.length - (intOf v9).toNat)
  case atStart => exact ⟨0, rfl, by omega, rfl, Below.refl _ _⟩
  case round =>
    obtain ⟨k, rfl, hk, hall, hb⟩ := hrel
    have HB := hid hb
    have HALL := hid hall
    by_cases hlt : k < L.length
    · obtain ⟨o, hp⟩ : ∃ o, L[k]? = some o := ⟨_, List.getElem?_eq_getElem hlt⟩
      obtain ⟨b, off, da, dc, ka, kc, rfl, c0, c1, c2, c3, c4, c5, c6, hd, hkp⟩ := HL.out.op05 hb hp
      obtain ⟨kd, sc, nn, dl, kl, tn, ct⟩ := o
      simp only at c0 c1 c2 c3 c4 c5 c6 hd hkp
      have hdl : dl.length ≤ 9223372036854775807 := by obtain ⟨_, _, _, h1, -⟩ := hd; exact h1
      have hkl : kl.length ≤ 9223372036854775807 := by obtain ⟨_, _, _, -, h1, h2, -⟩ := hkp; omega
      have htk : L.take (k + 1) = L.take k ++ [⟨kd, sc, nn, dl, kl, tn, ct⟩] := by
        obtain ⟨hk, e⟩ := List.getElem?_eq_some_iff.1 hp
        rw [List.take_succ_eq_append_getElem hk, e]
      have HTK := hid htk
      have hbad : okOp ⟨kd, sc, nn, dl, kl, tn, ct⟩ = false → bb = false := fun hf => by
        rw [← hbb.out]
        unfold smallB
        have : L.all okOp = false := by
          rw [List.all_eq_false]
          exact ⟨_, List.mem_of_getElem? hp, by simp [hf]⟩
        rw [this]; rfl
      have HBAD := hid hbad
      have e0 : (0 : Int) ≤ (k : Int) := by omega
      have e1 : (k : Int) < (L.length : Int) := by omega
      clear hp htk hd hkp hb hall hbad
      by_cases h1 : dl.length ≤ 100
      · have t1 : ¬ (100 : Int) < (dl.length : Int) := by omega
        by_cases h2 : kl.length ≤ 50
        · have t2 : ¬ (50 : Int) < (kl.length : Int) := by omega
          have HOK : Hid ((L.take (k + 1)).all okOp = true) := hid (by
            rw [HTK.out, List.all_append, HALL.out]
            simp [okOp, h1, h2])
          have HNW : Hid (∀ ob, Below w.heap.size w (wr.alloc ob)) := hid (fun ob => Below.next HB.out (Below.new _ _))
          go_wp2_with fail
          go_roundw
          case rel => exact ⟨k + 1, by go_num, by omega, HOK.out, HNW.out _⟩
          case measure => simp [intOf]; omega
        · have t2 : (50 : Int) < (kl.length : Int) := by omega
          obtain rfl := HBAD.out (by simp [okOp, h2])
          have HNW : Hid (∀ ob, Below w.heap.size w (wr.alloc ob)) := hid (fun ob => Below.next HB.out (Below.new _ _))
          go_wp2_with fail
          go_ret
          exact ⟨rfl, HNW.out _⟩
      · have t1 : (100 : Int) < (dl.length : Int) := by omega
        obtain rfl := HBAD.out (by simp [okOp, h1])
        have HNW : Hid (∀ ob, Below w.heap.size w (wr.alloc ob)) := hid (fun ob => Below.next HB.out (Below.new _ _))
        go_wp2_with fail
        go_ret
        exact ⟨rfl, HNW.out _⟩
    · have hkk : k = L.length := by omega
      have hb2 : bb = decide (L.length ≤ most) := by
        rw [← hbb.out]
        unfold smallB
        have h1 := HALL.out
        rw [List.take_of_length_le (by omega)] at h1
        rw [h1]; rfl
      have HB2 := hid hb2
      clear hb hall hb2 hkk
      by_cases hmo : L.length ≤ most
      · have t1 : decide ((L.length : Int) ≤ (most : Int)) = true := by simp; omega
        obtain rfl : bb = true := by rw [HB2.out]; simpa using hmo
        go_wp2_with fail
        go_ret
        exact ⟨rfl, HB.out⟩
      · have t1 : decide ((L.length : Int) ≤ (most : Int)) = false := by simp; omega
        obtain rfl : bb = false := by rw [HB2.out]; simpa using hmo
        go_wp2_with fail
        go_ret
        exact ⟨rfl, HB.out⟩
end Go.Proofs.Ytohknblokejldaa
end
