/- Joined texts, in this order: DiskOps, DiskStep. Each one's first remark says what it proves; no condition beyond those that its theorems name. -/
import Derived.Test.YtohknblokejldaaJLawDiskCopies23
import Derived.Test.YtohknblokejldaaJLawDiskCopies05
import Derived.Test.YtohknblokejldaaJLawDiskCopies15
section
/- The operations of the laws of layer 5: opened; are they small? -/
namespace Go.Proofs.Ytohknblokejldaa
open Go.RowKit Go.ChangeShapes Go.WideShapes Go.Deep Go.Joins
open Go.Lib (hid)
set_option linter.unusedVariables false

structure OpT where
  kind : Int
  sec : Int
  n : Int
  data : List UInt8
  keep : List Int
  torn : Int
  cut : Int
instance : Inhabited OpT := ⟨⟨0, 0, 0, [], [], 0, 0⟩⟩
def OpE (w : World) (f : Nat → Option Value) (o : OpT) : Prop :=
  f 0 = some (.int .i64 o.kind) ∧ f 1 = some (.int .i64 o.sec) ∧ f 2 = some (.int .i64 o.n) ∧ (∃ dv, f 3 = some dv ∧ SlB w dv o.data) ∧ (∃ kv, f 4 = some kv ∧ SlI w kv o.keep) ∧ f 5 = some (.int .i64 o.torn) ∧ f 6 = some (.int .i64 o.cut)
theorem SlB.belowV {w w' : World} {v : Value} {l : List UInt8} (h : SlB w v l) (hb : Below w.heap.size w w') : SlB w' v l := h.below hb
theorem opKept : Kept OpE 7 :=
  ⟨fun hb hf h => by
    obtain ⟨h0, h1, h2, ⟨dv, h3, hd⟩, ⟨kv, h4, hk⟩, h5, h6⟩ := h
    exact ⟨hf 0 _ (by omega) h0, hf 1 _ (by omega) h1, hf 2 _ (by omega) h2, ⟨dv, hf 3 _ (by omega) h3, hd.below hb⟩, ⟨kv, hf 4 _ (by omega) h4, hk.below hb⟩, hf 5 _ (by omega) h5, hf 6 _ (by omega) h6⟩, fun h => ⟨_, h.1⟩⟩
theorem listOf7 {α : Type} : ∀ {l : List α}, l.length = 7 → ∃ a b c d e f g, l = [a, b, c, d, e, f, g]
  | [a, b, c, d, e, f, g], _ => ⟨a, b, c, d, e, f, g, rfl⟩
set_option maxRecDepth 100000 in
theorem open_slbF {H : Type} {enc : TypeId × Value → H} {w : World} {n : Nat} {v : Value} {y : DataW H × List MemPlace} (t4 : DataW.trod enc Try.prog w 0 (fun _ => true) true n 27 [v] = some y) : ∃ l : List UInt8, SlB w v l := by
  have hrow : ∃ (a : Option Addr) (len cap : Nat) (zs : List Int), v = .slice a len cap ∧ ((a = none ∧ len = 0 ∧ cap = 0 ∧ zs = []) ∨
      ∃ x, a = some x ∧ len ≤ cap ∧ cap ≤ maxLen ∧ zs.length = cap ∧ (∀ i, i < zs.length → w.cell? (x.add i) = some (.int .u8 (zs.getD i 0))) ∧ ∀ n ∈ zs, (Lit.int .u8 n).wf = true) := by
    rcases open_ints Try.underlying27 Try.underlying5 (by kernel_rfl) t4 with ⟨hcs, _⟩ | ⟨x, l, c, zs, hcs, _, hl, hm, hz, _, hcell, hwz⟩
    · simp at hcs
      exact ⟨none, 0, 0, [], hcs, .inl ⟨rfl, rfl, rfl, rfl⟩⟩
    · simp at hcs
      exact ⟨some x, l, c, zs, hcs, .inr ⟨_, rfl, hl, hm, by simpa using hz, hcell, hwz⟩⟩
  obtain ⟨la, len, lc, zs, rfl, hr⟩ := hrow
  obtain ⟨l, -, h⟩ := slb_of_row hr
  exact ⟨l, h⟩
set_option maxRecDepth 100000 in
theorem elem_op05 {H : Type} {enc : TypeId × Value → H} {w : World} (n : Nat) (cs : List Value) (x : DataW H × List MemPlace) (h : DataW.trod enc Try.prog w 0 (fun _ => true) true n 81 cs = some x) : ∃ t, OpE w (fun j => cs[j]?) t := by
  obtain ⟨ys, n', -, -, hlen, hyl, hf⟩ := DataW.trod_struct Try.underlying81 h
  have h7 : Try.prog.cellsOf 81 = 7 := by kernel_rfl
  rw [h7] at hlen
  obtain ⟨c0, c1, c2, c3, c4, c5, c6, rfl⟩ := listOf7 hlen
  have hyl2 : ys.length = 5 := hyl
  obtain ⟨z0, z1, z2, z3, z4, rfl⟩ := listOf5 hyl2
  have g0 : DataW.trod enc Try.prog w 0 (fun _ => true) true n' 3 [c0] = some z0 := hf 0 _ rfl
  have g1 : DataW.trod enc Try.prog w 0 (fun _ => true) true n' 3 [c1] = some z1 := hf 1 _ rfl
  have g2 : DataW.trod enc Try.prog w 0 (fun _ => true) true n' 3 [c2] = some z2 := hf 2 _ rfl
  have g3 : DataW.trod enc Try.prog w 0 (fun _ => true) true n' 27 [c3] = some z3 := hf 3 _ rfl
  have g4 : DataW.trod enc Try.prog w 0 (fun _ => true) true n' 49 [c4, c5, c6] = some z4 := hf 4 _ rfl
  obtain ⟨-, zs, n'', hzl, one⟩ := structE_fields Try.underlying49 (by kernel_rfl) g4
  have hzl3 : zs.length = 3 := hzl
  obtain ⟨y0, y1, y2, rfl⟩ := listOf3 hzl3
  have k0 : DataW.trod enc Try.prog w 0 (fun _ => true) true n'' 22 [c4] = some y0 := one 0 _ rfl
  have k1 : DataW.trod enc Try.prog w 0 (fun _ => true) true n'' 3 [c5] = some y1 := one 1 _ rfl
  have k2 : DataW.trod enc Try.prog w 0 (fun _ => true) true n'' 3 [c6] = some y2 := one 2 _ rfl
  obtain ⟨kd, e0, -, -⟩ := DataW.trod_int Try.underlying3 g0
  obtain ⟨sc, e1, -, -⟩ := DataW.trod_int Try.underlying3 g1
  obtain ⟨nn, e2, -, -⟩ := DataW.trod_int Try.underlying3 g2
  obtain ⟨tn, e5, -, -⟩ := DataW.trod_int Try.underlying3 k1
  obtain ⟨ct, e6, -, -⟩ := DataW.trod_int Try.underlying3 k2
  simp only [List.cons.injEq, and_true] at e0 e1 e2 e5 e6
  subst e0; subst e1; subst e2; subst e5; subst e6
  obtain ⟨dl, hd⟩ := open_slbF g3
  obtain ⟨kl, hk, -⟩ := open_sliF k0
  exact ⟨⟨kd, sc, nn, dl, kl, tn, ct⟩, rfl, rfl, rfl, ⟨c3, rfl, hd⟩, ⟨c4, rfl, hk⟩, rfl, rfl⟩
set_option maxRecDepth 100000 in
theorem open_ops05 {H : Type} {enc : TypeId × Value → H} {w : World} {b0 : Nat} {d0 : DataW H} {p0 : List MemPlace} {v0 : Value} (ok0 : Value.okWide Try.prog w .any b0 77 v0) (k0 : DataW.Trod enc Try.prog w 0 (fun _ => true) true 77 v0 d0 p0) : ∃ L, SlE OpE 7 w v0 L :=
  open_slE opKept Try.underlying77 (by kernel_rfl) elem_op05 ok0 k0
/-- one operation that comes in, in any later world -/
theorem SlE.op05 {w wr : World} {a : Option Addr} {n c : Nat} {L : List OpT} (h : SlE OpE 7 w (.slice a n c) L) (hb : Below w.heap.size w wr) {k : Nat} {o : OpT} (hp : L[k]? = some o) :
    ∃ b off da dc ka kc, a = some ⟨b, off, none⟩ ∧ wr.cell? ⟨b, off + k * 7, none⟩ = some (.int .i64 o.kind) ∧ wr.cell? ⟨b, off + k * 7 + 1, none⟩ = some (.int .i64 o.sec) ∧ wr.cell? ⟨b, off + k * 7 + 2, none⟩ = some (.int .i64 o.n) ∧
      wr.cell? ⟨b, off + k * 7 + 3, none⟩ = some (.slice da o.data.length dc) ∧ wr.cell? ⟨b, off + k * 7 + 4, none⟩ = some (.slice ka o.keep.length kc) ∧ wr.cell? ⟨b, off + k * 7 + 5, none⟩ = some (.int .i64 o.torn) ∧ wr.cell? ⟨b, off + k * 7 + 6, none⟩ = some (.int .i64 o.cut) ∧
      SlB w (.slice da o.data.length dc) o.data ∧ SlI w (.slice ka o.keep.length kc) o.keep := by
  obtain ⟨a', c', e', -, -, -, hrows⟩ := h
  simp only [Value.slice.injEq] at e'
  obtain ⟨rfl, -, rfl⟩ := e'
  obtain ⟨b, off, rfl, hbs, h0, h1, h2, ⟨dv, h3, hd⟩, ⟨kv, h4, hk⟩, h5, h6⟩ := hrows k o hp
  obtain ⟨da, dc, rfl, -⟩ := id hd
  obtain ⟨ka, kc, rfl, -⟩ := id hk
  have hc : ∀ j, wr.cell? ⟨b, j, none⟩ = w.cell? ⟨b, j, none⟩ := fun j => World.cell?_of_block (hb.block b hbs)
  exact ⟨b, off, da, dc, ka, kc, rfl, by rw [hc]; exact h0, by rw [hc]; exact h1, by rw [hc]; exact h2, by rw [hc]; exact h3, by rw [hc]; exact h4, by rw [hc]; exact h5, by rw [hc]; exact h6, hd, hk⟩
def okOp (o : OpT) : Bool := decide (o.data.length ≤ 100) && decide (o.keep.length ≤ 50)
def smallB (L : List OpT) (most : Nat) : Bool := L.all okOp && decide (L.length ≤ most)
def SmL (w : World) (L : List OpT) (v9 : Value) (wr : World) : Prop := ∃ k : Nat, v9 = .int .i64 k ∧ k ≤ L.length ∧ (L.take k).all okOp = true ∧ Below w.heap.size w wr
set_option maxRecDepth 100000 in
set_option maxHeartbeats 1000000 in
theorem law05_small (L : List OpT) (most : Nat) (hm : most ≤ 1000) (v : Value) (w : World) (h : SlE OpE 7 w v L) (bb : Bool) (hbb : Hid (smallB L most = bb)) :
    Calls Try.prog 34 #[v, .int .i64 (most : Int)] w fun e w' => e = .returned (.bool bb) ∧ Below w.heap.size w w' := by
  have HL := hid h
  obtain ⟨a, c, rfl, hlc, hcm, -⟩ := h
  have hl63 : L.length ≤ 9223372036854775807 := by omega
  clear hlc hcm
  go_enter Try.func34, Try.ntmps34
  go_wp2_with fail
  go_loopw [9] (fun v9 wr => SmL w L v9 wr) (fun v9 _ => L.length - (intOf v9).toNat)
  case atStart => exact ⟨0, rfl, by omega, rfl, Below.refl _ _⟩
  case round =>
    obtain ⟨k, rfl, hk, hall, hb⟩ := hrel
    have HB := hid hb
    have HALL := hid hall
    by_cases hlt : k < L.length
    · obtain ⟨o, hp⟩ : ∃ o, L[k]? = some o := ⟨_, List.getElem?_eq_getElem hlt⟩
      obtain ⟨b, off, da, dc, ka, kc, rfl, c0, c1, c2, c3, c4, c5, c6, hd, hkp⟩ := HL.out.op05 hb hp
      obtain ⟨kd, sc, nn, dl, kl, tn, ct⟩ := o
      simp only at c0 c1 c2 c3 c4 c5 c6 hd hkp
      have hdl : dl.length ≤ 9223372036854775807 := by obtain ⟨_, _, _, h1, -⟩ := hd; exact h1
      have hkl : kl.length ≤ 9223372036854775807 := by obtain ⟨_, _, _, -, h1, h2, -⟩ := hkp; omega
      have htk : L.take (k + 1) = L.take k ++ [⟨kd, sc, nn, dl, kl, tn, ct⟩] := by
        obtain ⟨hk, e⟩ := List.getElem?_eq_some_iff.1 hp
        rw [List.take_succ_eq_append_getElem hk, e]
      have HTK := hid htk
      have hbad : okOp ⟨kd, sc, nn, dl, kl, tn, ct⟩ = false → bb = false := fun hf => by
        rw [← hbb.out]
        unfold smallB
        have : L.all okOp = false := by
          rw [List.all_eq_false]
          exact ⟨_, List.mem_of_getElem? hp, by simp [hf]⟩
        rw [this]; rfl
      have HBAD := hid hbad
      have e0 : (0 : Int) ≤ (k : Int) := by omega
      have e1 : (k : Int) < (L.length : Int) := by omega
      clear hp htk hd hkp hb hall hbad
      by_cases h1 : dl.length ≤ 100
      · have t1 : ¬ (100 : Int) < (dl.length : Int) := by omega
        by_cases h2 : kl.length ≤ 50
        · have t2 : ¬ (50 : Int) < (kl.length : Int) := by omega
          have HOK : Hid ((L.take (k + 1)).all okOp = true) := hid (by
            rw [HTK.out, List.all_append, HALL.out]
            simp [okOp, h1, h2])
          have HNW : Hid (∀ ob, Below w.heap.size w (wr.alloc ob)) := hid (fun ob => Below.next HB.out (Below.new _ _))
          go_wp2_with fail
          go_roundw
          case rel => exact ⟨k + 1, by go_num, by omega, HOK.out, HNW.out _⟩
          case measure => simp [intOf]; omega
        · have t2 : (50 : Int) < (kl.length : Int) := by omega
          obtain rfl := HBAD.out (by simp [okOp, h2])
          have HNW : Hid (∀ ob, Below w.heap.size w (wr.alloc ob)) := hid (fun ob => Below.next HB.out (Below.new _ _))
          go_wp2_with fail
          go_ret
          exact ⟨rfl, HNW.out _⟩
      · have t1 : (100 : Int) < (dl.length : Int) := by omega
        obtain rfl := HBAD.out (by simp [okOp, h1])
        have HNW : Hid (∀ ob, Below w.heap.size w (wr.alloc ob)) := hid (fun ob => Below.next HB.out (Below.new _ _))
        go_wp2_with fail
        go_ret
        exact ⟨rfl, HNW.out _⟩
    · have hkk : k = L.length := by omega
      have hb2 : bb = decide (L.length ≤ most) := by
        rw [← hbb.out]
        unfold smallB
        have h1 := HALL.out
        rw [List.take_of_length_le (by omega)] at h1
        rw [h1]; rfl
      have HB2 := hid hb2
      clear hb hall hb2 hkk
      by_cases hmo : L.length ≤ most
      · have t1 : decide ((L.length : Int) ≤ (most : Int)) = true := by simp; omega
        obtain rfl : bb = true := by rw [HB2.out]; simpa using hmo
        go_wp2_with fail
        go_ret
        exact ⟨rfl, HB.out⟩
      · have t1 : decide ((L.length : Int) ≤ (most : Int)) = false := by simp; omega
        obtain rfl : bb = false := by rw [HB2.out]; simpa using hmo
        go_wp2_with fail
        go_ret
        exact ⟨rfl, HB.out⟩
end Go.Proofs.Ytohknblokejldaa
end
section
/- Contract of the statements' own function step of layer 5: one call of both disks. -/
namespace Go.Proofs.Ytohknblokejldaa
open Go.RowKit
open Go.Lib (hid)
set_option linter.unusedVariables false

structure DSt (w : World) (g : Nat) (W R : Nat → Prop) (p : RfP) (s : Dk) (x : Rf) (N : Nat) : Prop where
  disk : DiskIs w g W R s
  ok : s.Ok
  rel : RfRel s x
  ref : RfIs w p x
  far : ∀ k, RfW p k → ¬ W k ∧ ¬ R k
  n6 : s.D.length = 6
  sz : s.size = 16
  cl : s.C.length ≤ N
def DW (W : Nat → Prop) (p : RfP) (k : Nat) : Prop := W k ∨ RfW p k
theorem DSt.upd {S : Nat → Prop} {w w' : World} {g : Nat} {W R : Nat → Prop} {p : RfP} {s : Dk} {x : Rf} {N : Nat} (h : DSt w g W R p s x N) (hu : Upd S w w') (h1 : ∀ k, S k → ¬ W k ∧ ¬ R k ∧ ¬ RfW p k) : DSt w' g W R p s x N :=
  ⟨h.disk.upd hu (fun k hk => (h1 k hk).1) (fun k hk => (h1 k hk).2.1), h.ok, h.rel, h.ref.upd hu (fun k hk hs => (h1 k hs).2.2 hk), h.far, h.n6, h.sz, h.cl⟩
theorem DSt.below {w w' : World} {g : Nat} {W R : Nat → Prop} {p : RfP} {s : Dk} {x : Rf} {N : Nat} (h : DSt w g W R p s x N) (hb : Below w.heap.size w w') : DSt w' g W R p s x N :=
  h.upd (S := fun _ => False) (Upd.of_below hb) (fun _ q => q.elim)
theorem DSt.more {w : World} {g : Nat} {W R : Nat → Prop} {p : RfP} {s : Dk} {x : Rf} {N M : Nat} (h : DSt w g W R p s x N) (hm : N ≤ M) : DSt w g W R p s x M := ⟨h.disk, h.ok, h.rel, h.ref, h.far, h.n6, h.sz, Nat.le_trans h.cl hm⟩
theorem DSt.len {w : World} {g : Nat} {W R : Nat → Prop} {p : RfP} {s : Dk} {x : Rf} {N : Nat} (h : DSt w g W R p s x N) : x.C.length = x.D.length ∧ x.D.length = 6 ∧ x.size = 16 ∧ (∀ k, k < x.D.length → (x.D.getD k []).length = x.size) ∧ (∀ k, k < x.D.length → x.C.getD k [] = [] ∨ (x.C.getD k []).length = x.size) := by
  refine ⟨by rw [h.rel.len, h.rel.D], by rw [h.rel.D]; exact h.n6, by rw [h.rel.size]; exact h.sz, fun k hk => ?_, fun k hk => ?_⟩
  · rw [h.rel.D] at hk ⊢
    rw [h.rel.size]
    exact h.ok.sec _ (by rw [List.getD_eq_getElem?_getD, List.getElem?_eq_getElem hk]; exact List.getElem_mem hk)
  · rw [h.rel.D] at hk
    rw [h.rel.C k hk, h.rel.size]
    cases hl : s.C.lookup (k : Int) with
    | none => exact .inl rfl
    | some b => exact .inr (h.ok.lookup hl).2.2.1
def StepD (w : World) (g : Nat) (W R : Nat → Prop) (p : RfP) (N : Nat) (e : Ending) (w' : World) : Prop :=
  ∃ s' x' R', e = .returned (.bool true) ∧ DSt w' g W R' p s' x' (N + 1) ∧ (∀ k, R' k → R k ∨ w.heap.size ≤ k) ∧ Upd (DW W p) w w'
theorem SlB.updE {S : Nat → Prop} {w w' : World} {v : Value} {l : List UInt8} (h : SlB w v l) (hu : Upd S w w') (hn : ∀ k, v.ownBlock = some k → l = [] ∨ ¬ S k) : SlB w' v l := by
  by_cases hl : l = []
  · subst hl
    obtain ⟨a, c, rfl, h1, -, h3⟩ := h
    exact ⟨a, c, rfl, h1, Rd.nil _ _, h3⟩
  · obtain ⟨a, c, rfl, h1, h2, h3⟩ := h
    exact hu.slb ⟨a, c, rfl, h1, h2, h3⟩ (fun b off e => (hn b (by rw [e]; rfl)).resolve_left hl)
theorem aput_len {α : Type} (m : List (Int × α)) (k : Int) (v : α) : (aput m k v).length ≤ m.length + 1 := by
  unfold aput
  split
  · simp
  · simp
theorem DSt.rlt {w : World} {g : Nat} {W R : Nat → Prop} {p : RfP} {s : Dk} {x : Rf} {N : Nat} (h : DSt w g W R p s x N) : (∀ k, R k → k < w.heap.size) ∧ (∀ k, W k → k < w.heap.size) := by
  obtain ⟨b, dv, V, M, hd⟩ := h.disk
  exact ⟨hd.rlt, hd.wlt⟩
/-- both have gone on -/
theorem DSt.next {w w6 w7 : World} {g : Nat} {W R R6 : Nat → Prop} {p : RfP} {s s1 : Dk} {x x1 : Rf} {N : Nat} (h : DSt w g W R p s x N) (hd6 : DiskIs w6 g W R6 s1) (hr6 : ∀ k, R6 k → R k ∨ w.heap.size ≤ k) (hu6 : Upd W w w6) (hi7 : RfIs w7 p x1) (hu7 : Upd (RfW p) w6 w7)
    (hok : s1.Ok) (hrel : RfRel s1 x1) (hn : s1.D.length = 6) (hz : s1.size = 16) (hc : s1.C.length ≤ N + 1) {e : Ending} (he : e = .returned (.bool true)) : StepD w g W R p N e w7 := by
  have hl := h.ref.lt
  refine ⟨s1, x1, R6, he, ⟨hd6.upd hu7 (fun k hk => (h.far k hk).1) (fun k hk q => ?_), hok, hrel, hi7, fun k hk => ⟨(h.far k hk).1, fun q => ?_⟩, hn, hz, hc⟩, hr6, (hu6.mono (fun _ _ q => .inl q)).trans (hu7.mono (fun _ _ q => .inr q)) (fun _ _ q => q)⟩
  · rcases hr6 k q with q | q
    · exact (h.far k hk).2 q
    · have := hl k hk; omega
  · rcases hr6 k q with q | q
    · exact (h.far k hk).2 q
    · have := hl k hk; omega
theorem opBlk5 (w : World) (a b c : Int) (dv kv : Value) (d e : Int) : Blk (w.alloc (.cells #[.int .i64 a, .int .i64 b, .int .i64 c, dv, kv, .int .i64 d, .int .i64 e] 81)) w.heap.size #[.int .i64 a, .int .i64 b, .int .i64 c, dv, kv, .int .i64 d, .int .i64 e] := Blk.new _ _ _
theorem Blk.c7 {w : World} {g : Nat} {a b c d e f h : Value} (H : Blk w g #[a, b, c, d, e, f, h]) : w.cell? ⟨g, 0, none⟩ = some a ∧ w.cell? ⟨g, 1, none⟩ = some b ∧ w.cell? ⟨g, 2, none⟩ = some c ∧ w.cell? ⟨g, 3, none⟩ = some d ∧ w.cell? ⟨g, 4, none⟩ = some e ∧ w.cell? ⟨g, 5, none⟩ = some f ∧ w.cell? ⟨g, 6, none⟩ = some h :=
  ⟨by rw [H.cell]; rfl, by rw [H.cell]; rfl, by rw [H.cell]; rfl, by rw [H.cell]; rfl, by rw [H.cell]; rfl, by rw [H.cell]; rfl, by rw [H.cell]; rfl⟩
theorem dkWrite_same (s : Dk) (i : Int) (l : List UInt8) : (dkWrite s i l).2.D = s.D ∧ (dkWrite s i l).2.size = s.size ∧ (dkWrite s i l).2.C.length ≤ s.C.length + 1 := by
  unfold dkWrite
  split
  · exact ⟨rfl, rfl, Nat.le_succ _⟩
  · split
    · exact ⟨rfl, rfl, Nat.le_succ _⟩
    · have := dkCommand_same { s with C := aput s.C i l }
      refine ⟨this.1, this.2.2, ?_⟩
      rw [this.2.1]
      exact aput_len _ _ _
theorem dkFlush_same (s : Dk) : (dkFlush s).2.D.length = s.D.length ∧ (dkFlush s).2.size = s.size ∧ (dkFlush s).2.C.length ≤ s.C.length := by
  have hc := dkCommand_same s
  unfold dkFlush
  split
  · exact ⟨rfl, rfl, Nat.le_refl _⟩
  · split
    · exact ⟨by rw [hc.1], hc.2.2, by rw [hc.2.1]; omega⟩
    · exact ⟨by show (flushD _).length = _; unfold flushD; rw [mixF_len, hc.1], hc.2.2, by simp⟩
set_option maxRecDepth 100000 in
set_option maxHeartbeats 4000000 in
theorem law05_step (o : OpT) (hd100 : o.data.length ≤ 100) (hk50 : o.keep.length ≤ 50) (dv kv : Value) (g : Nat) (W R : Nat → Prop) (p : RfP) (s : Dk) (x : Rf) (N : Nat) (w : World) (P : DSt w g W R p s x N) (hd : SlB w dv o.data) (hk : SlI w kv o.keep)
    (hdo : ∀ j, dv.ownBlock = some j → o.data = [] ∨ ¬ DW W p j) (hko : ∀ j, kv.ownBlock = some j → o.keep = [] ∨ ¬ DW W p j) :
    Calls Try.prog 41 #[.pointer (some ⟨g, 0, none⟩), .pointer (some ⟨p.g, 0, none⟩), .agg #[.int .i64 o.kind, .int .i64 o.sec, .int .i64 o.n, dv, kv, .int .i64 o.torn, .int .i64 o.cut]] w (StepD w g W R p N) := by
  obtain ⟨kd, sc, nn, dl, kl, tn, ct⟩ := o
  simp only at hd100 hk50 hd hk hdo hko ⊢
  have HD0 := hid hd
  have HK0 := hid hk
  have HDO := hid hdo
  have HKO := hid hko
  obtain ⟨da, dc, rfl, hd63, -⟩ := hd
  obtain ⟨ka, kc, rfl, -⟩ := hk
  obtain ⟨w5, hw5⟩ : ∃ w5, w5 = w.alloc (.cells #[.int .i64 kd, .int .i64 sc, .int .i64 nn, .slice da dl.length dc, .slice ka kl.length kc, .int .i64 tn, .int .i64 ct] 81) := ⟨_, rfl⟩
  have HW5 := hid hw5
  have HB5 : Hid (Below w.heap.size w w5) := hid (by rw [hw5]; exact Below.new _ _)
  have HX5 : Hid (Blk w5 w.heap.size #[.int .i64 kd, .int .i64 sc, .int .i64 nn, .slice da dl.length dc, .slice ka kl.length kc, .int .i64 tn, .int .i64 ct]) := hid (by rw [hw5]; exact Blk.new _ _ _)
  have HP := hid (P.below HB5.out)
  obtain ⟨hxl, hx6, hxz, hxD, hxC⟩ := P.len
  have HXL := hid hxl
  have HXD := hid hxD
  have HXC := hid hxC
  have hsize : w.heap.size ≤ w5.heap.size := HB5.out.size
  have HPW : Hid (∀ e w', StepD w5 g W R p N e w' → StepD w g W R p N e w') := hid (fun e w' ⟨s', x', R', h1, h2, h3, h4⟩ => ⟨s', x', R', h1, h2, fun k hk => (h3 k hk).imp id (fun q => Nat.le_trans HB5.out.size q), (Upd.of_below (S := DW W p) HB5.out).trans h4 (fun _ _ q => q)⟩)
  have HOB : Hid (¬ DW W p w.heap.size) := hid (fun q => by
    rcases q with q | q
    · have := P.rlt.2 _ q; omega
    · have := P.ref.lt _ q; omega)
  have HSTR : Hid (∀ y, Upd (DW W p) w5 y → SlB y (.slice da dl.length dc) dl) := hid (fun y hy => (HD0.out.below HB5.out).updE hy HDO.out)
  have HKY : Hid (∀ y, Upd (DW W p) w5 y → SlI y (.slice ka kl.length kc) kl) := hid (fun y hy => (HK0.out.below HB5.out).updE hy HKO.out)
  obtain ⟨c0, c1, c2, c3, c4, c5, c6⟩ := HX5.out.c7
  clear hw5 P hdo hko hxl hxD hxC hsize
  by_cases hk1 : kd = 1
  · have t1 : (kd == 1) = true := by simpa using hk1
    obtain ⟨e1, s1, hw1⟩ : ∃ e1 s1, dkWrite s sc dl = (e1, s1) := ⟨_, _, rfl⟩
    have hrw := HP.out.rel.write HP.out.ok sc dl
    have hsame := dkWrite_same s sc dl
    rw [hw1] at hrw hsame
    obtain ⟨x1, hx1⟩ : ∃ x1, rfWrite x sc dl = (e1, x1) := ⟨_, Prod.ext hrw.1 rfl⟩
    rw [hx1] at hrw
    have HW1 := hid hw1
    have HX1 := hid hx1
    have HRW := hid hrw
    have HSAME := hid hsame
    have hq1 : ∀ y, Upd (DW W p) w5 y → y.cell? ⟨w.heap.size, 1, none⟩ = some (.int .i64 sc) := fun y hy => (HX5.out.upd hy HOB.out).c7.2.1
    have hq3 : ∀ y, Upd (DW W p) w5 y → y.cell? ⟨w.heap.size, 3, none⟩ = some (.slice da dl.length dc) := fun y hy => (HX5.out.upd hy HOB.out).c7.2.2.2.1
    have hst : ∀ y, Upd (DW W p) w5 y → (convert 27 9 (.slice da dl.length dc)).run Try.prog y = .ok (.string ⟨dl.toArray⟩) y := fun y hy => (HSTR.out y hy).str y (Below.refl _ _)
    have hk0 : Upd (DW W p) w5 w5.drew := (Upd.refl _ _).drew
    clear hw1 hx1 hrw hsame hk1 c1 c3
    go_enter Try.func41, Try.ntmps41
    go_wp2_with fail
    rw [← HW5.out]
    refine wp_region_kept [] (fun y => Upd (DW W p) w5 y) (by kernel_rfl) (by first | exact hk0 | exact hk6 | exact hk7) (fun hH => ?_)
    refine wpK.take (i := 0) (v := _) (by simp only [List.getElem?_toArray, List.getElem?_cons_succ, List.getElem?_cons_zero]; rfl) (by kernel_rfl) (by kernel_rfl) (by kernel_rfl) (by kernel_rfl) (by kernel_rfl) (by exact fun _ _ _ h => h) (by first | exact Or.inl ⟨by rfl, by intro w hSw; go_simp; try with_reducible rfl⟩ | exact Or.inr ⟨by rfl, rfl⟩) hH ?_
    try simp only [Act.put, List.setIfInBounds_toArray, List.set_cons_zero, List.set_cons_succ]
    refine wpK.take (i := 1) (v := _) (by simp only [List.getElem?_toArray, List.getElem?_cons_succ, List.getElem?_cons_zero]; rfl) (by kernel_rfl) (by kernel_rfl) (by kernel_rfl) (by kernel_rfl) (by kernel_rfl) (by exact fun _ _ _ h => h) (by first | exact Or.inl ⟨by rfl, by intro w hSw; go_simp; try with_reducible rfl⟩ | exact Or.inr ⟨by rfl, rfl⟩) hH ?_
    try simp only [Act.put, List.setIfInBounds_toArray, List.set_cons_zero, List.set_cons_succ]
    refine wpK.take (i := 2) (v := _) (by simp only [List.getElem?_toArray, List.getElem?_cons_succ, List.getElem?_cons_zero]; rfl) (by kernel_rfl) (by kernel_rfl) (by kernel_rfl) (by kernel_rfl) (by kernel_rfl) (by exact fun _ _ _ h => h) (by first | exact Or.inl ⟨by rfl, by intro w hSw; go_simp; try with_reducible rfl⟩ | exact Or.inr ⟨by rfl, rfl⟩) hH ?_
    try simp only [Act.put, List.setIfInBounds_toArray, List.set_cons_zero, List.set_cons_succ]
    refine wpK.take (i := 3) (v := _) (by simp only [List.getElem?_toArray, List.getElem?_cons_succ, List.getElem?_cons_zero]; rfl) (by kernel_rfl) (by kernel_rfl) (by kernel_rfl) (by kernel_rfl) (by kernel_rfl) (by exact fun _ _ _ h => h) (by first | exact Or.inl ⟨by rfl, by intro w hSw; go_simp; try with_reducible rfl⟩ | exact Or.inr ⟨by rfl, rfl⟩) hH ?_
    try simp only [Act.put, List.setIfInBounds_toArray, List.set_cons_zero, List.set_cons_succ]
    refine wpK.take (i := 4) (v := _) (by simp only [List.getElem?_toArray, List.getElem?_cons_succ, List.getElem?_cons_zero]; rfl) (by kernel_rfl) (by kernel_rfl) (by kernel_rfl) (by kernel_rfl) (by kernel_rfl) (by exact fun _ _ _ h => h) (by first | exact Or.inl ⟨by rfl, by intro w hSw; go_simp; try with_reducible rfl⟩ | exact Or.inr ⟨by rfl, rfl⟩) hH ?_
    try simp only [Act.put, List.setIfInBounds_toArray, List.set_cons_zero, List.set_cons_succ]
    refine wpK.take (i := 6) (v := _) (by simp only [List.getElem?_toArray, List.getElem?_cons_succ, List.getElem?_cons_zero]; rfl) (by kernel_rfl) (by kernel_rfl) (by kernel_rfl) (by kernel_rfl) (by kernel_rfl) (by exact fun _ _ _ h => h) (by first | exact Or.inl ⟨by rfl, by intro w hSw; go_simp; try with_reducible rfl⟩ | exact Or.inr ⟨by rfl, rfl⟩) hH ?_
    try simp only [Act.put, List.setIfInBounds_toArray, List.set_cons_zero, List.set_cons_succ]
    refine wpK.take (i := 7) (v := _) (by simp only [List.getElem?_toArray, List.getElem?_cons_succ, List.getElem?_cons_zero]; rfl) (by kernel_rfl) (by kernel_rfl) (by kernel_rfl) (by kernel_rfl) (by kernel_rfl) (by exact fun _ _ _ h => h) (by first | exact Or.inl ⟨by rfl, by intro w hSw; go_simp; try with_reducible rfl⟩ | exact Or.inr ⟨by rfl, rfl⟩) hH ?_
    try simp only [Act.put, List.setIfInBounds_toArray, List.set_cons_zero, List.set_cons_succ]
    refine wpK.take (i := 8) (v := _) (by simp only [List.getElem?_toArray, List.getElem?_cons_succ, List.getElem?_cons_zero]; rfl) (by kernel_rfl) (by kernel_rfl) (by kernel_rfl) (by kernel_rfl) (by kernel_rfl) (by exact fun _ _ _ h => h) (by first | exact Or.inl ⟨by rfl, by intro w hSw; go_simp; try with_reducible rfl⟩ | exact Or.inr ⟨by rfl, rfl⟩) hH ?_
    try simp only [Act.put, List.setIfInBounds_toArray, List.set_cons_zero, List.set_cons_succ]
    refine wpK.take (i := 9) (v := _) (by simp only [List.getElem?_toArray, List.getElem?_cons_succ, List.getElem?_cons_zero]; rfl) (by kernel_rfl) (by kernel_rfl) (by kernel_rfl) (by kernel_rfl) (by kernel_rfl) (by exact fun _ _ _ h => h) (by first | exact Or.inl ⟨by rfl, by intro w hSw; go_simp; try with_reducible rfl⟩ | exact Or.inr ⟨by rfl, rfl⟩) hH ?_
    try simp only [Act.put, List.setIfInBounds_toArray, List.set_cons_zero, List.set_cons_succ]
    refine wpK.take (i := 10) (v := _) (by simp only [List.getElem?_toArray, List.getElem?_cons_succ, List.getElem?_cons_zero]; rfl) (by kernel_rfl) (by kernel_rfl) (by kernel_rfl) (by kernel_rfl) (by kernel_rfl) (by exact fun _ _ _ h => h) (by first | exact Or.inl ⟨by rfl, by intro w hSw; go_simp; try with_reducible rfl⟩ | exact Or.inr ⟨by rfl, rfl⟩) hH ?_
    try simp only [Act.put, List.setIfInBounds_toArray, List.set_cons_zero, List.set_cons_succ]
    refine wpK.take (i := 11) (v := _) (by simp only [List.getElem?_toArray, List.getElem?_cons_succ, List.getElem?_cons_zero]; rfl) (by kernel_rfl) (by kernel_rfl) (by kernel_rfl) (by kernel_rfl) (by kernel_rfl) (by exact fun _ _ _ h => h) (by first | exact Or.inl ⟨by rfl, by intro w hSw; go_simp; try with_reducible rfl⟩ | exact Or.inr ⟨by rfl, rfl⟩) hH ?_
    try simp only [Act.put, List.setIfInBounds_toArray, List.set_cons_zero, List.set_cons_succ]
    refine wpK.step (i := 5) (by kernel_rfl) (by simp only [List.getElem?_toArray, List.getElem?_cons_succ, List.getElem?_cons_zero]; rfl) (fun K hK => ?_)
    go_simp
    (refine (disk_Write s sc dl _ g W R _ (HP.out.disk.below (Below.refl _ _).drew) (HSTR.out _ hk0) (by omega) e1 s1 HW1).mono ?_); rintro e w6 ⟨R6, rfl, hd6, hr6, hu6⟩; (have hk6 : Upd (DW W p) w5 w6 := hk0.trans (hu6.mono (fun _ _ q => .inl q)) (fun _ _ q => q))
    refine hK.out _ _ (by first | exact hk0 | exact hk6 | exact hk7) (fun hH => ?_)
    clear hK K
    try simp only [Act.put, List.setIfInBounds_toArray, List.set_cons_zero, List.set_cons_succ]
    refine wpK.step (i := 12) (by kernel_rfl) (by simp only [List.getElem?_toArray, List.getElem?_cons_succ, List.getElem?_cons_zero]; rfl) (fun K hK => ?_)
    go_simp
    (refine (rf_Write p x HXL.out sc dl (by omega) w6 (HP.out.ref.upd (S := W) ((Upd.refl W w5).drew.trans hu6 (fun _ _ q => q)) (fun k hk => (HP.out.far k hk).1)) e1 x1 HX1).mono ?_); rintro e w7 ⟨rfl, hi7, hu7⟩; (have hk7 : Upd (DW W p) w5 w7 := hk6.trans (hu7.mono (fun _ _ q => .inr q)) (fun _ _ q => q))
    refine hK.out _ _ (by first | exact hk0 | exact hk6 | exact hk7) (fun hH => ?_)
    clear hK K
    try simp only [Act.put, List.setIfInBounds_toArray, List.set_cons_zero, List.set_cons_succ]
    refine wpK.take (i := 13) (v := _) (by simp only [List.getElem?_toArray, List.getElem?_cons_succ, List.getElem?_cons_zero]; rfl) (by kernel_rfl) (by kernel_rfl) (by kernel_rfl) (by kernel_rfl) (by kernel_rfl) (by exact fun _ _ _ h => h) (by first | exact Or.inl ⟨by rfl, by intro w hSw; go_simp; try with_reducible rfl⟩ | exact Or.inr ⟨by rfl, rfl⟩) hH ?_
    try simp only [Act.put, List.setIfInBounds_toArray, List.set_cons_zero, List.set_cons_succ]
    refine wpK.take (i := 14) (v := _) (by simp only [List.getElem?_toArray, List.getElem?_cons_succ, List.getElem?_cons_zero]; rfl) (by kernel_rfl) (by kernel_rfl) (by kernel_rfl) (by kernel_rfl) (by kernel_rfl) (by exact fun _ _ _ h => h) (by first | exact Or.inl ⟨by rfl, by intro w hSw; go_simp; try with_reducible rfl⟩ | exact Or.inr ⟨by rfl, rfl⟩) hH ?_
    try simp only [Act.put, List.setIfInBounds_toArray, List.set_cons_zero, List.set_cons_succ]
    refine wpK.done (by kernel_rfl) ?_ _
    have HEND := hid (HPW.out _ _ (HP.out.next hd6 (fun k q => hr6 k q) ((Upd.refl W w5).drew.trans hu6 (fun _ _ q => q)) hi7 hu7 HRW.out.2.2 HRW.out.2.1 (by rw [HSAME.out.1]; exact HP.out.n6) (by rw [HSAME.out.2.1]; exact HP.out.sz) (by have := HSAME.out.2.2; have := HP.out.cl; omega) rfl))
    clear hq1 hq3 hst hk0 hk6 hk7 hd6 hr6 hu6 hi7 hu7 hH
    go_wp2_with fail
    go_ret
    exact HEND.out
  have t1 : (kd == 1) = false := by simpa using hk1
  by_cases hk2 : kd = 2
  · have t2 : (kd == 2) = true := by simpa using hk2
    obtain ⟨e1, s1, hw1⟩ : ∃ e1 s1, dkFlush s = (e1, s1) := ⟨_, _, rfl⟩
    have hrw := HP.out.rel.flush HP.out.ok
    have hsame := dkFlush_same s
    rw [hw1] at hrw hsame
    obtain ⟨x1, hx1⟩ : ∃ x1, rfFlush x = (e1, x1) := ⟨_, Prod.ext hrw.1 rfl⟩
    rw [hx1] at hrw
    have HW1 := hid hw1
    have HX1 := hid hx1
    have HRW := hid hrw
    have HSAME := hid hsame
    clear hw1 hx1 hrw hsame hk2 hk1
    go_enter Try.func41, Try.ntmps41
    go_wp2_with fail
    rw [← HW5.out]
    refine (disk_Flush s HP.out.ok g W R w5 HP.out.disk e1 s1 HW1).mono ?_
    rintro e w6 ⟨rfl, hd6, hu6⟩
    have HD6 := hid hd6
    have HU6 := hid hu6
    clear hd6 hu6
    go_wp2_with fail
    refine (rf_Flush p x HXL.out (by omega) w6 (HP.out.ref.upd HU6.out (fun k hk => (HP.out.far k hk).1)) e1 x1 HX1).mono ?_
    rintro e w7 ⟨rfl, hi7, hu7⟩
    have HEND := hid (HPW.out _ _ (HP.out.next HD6.out (fun k q => .inl q) HU6.out hi7 hu7 HRW.out.2.2 HRW.out.2.1 (by rw [HSAME.out.1]; exact HP.out.n6) (by rw [HSAME.out.2.1]; exact HP.out.sz) (by have := HSAME.out.2.2; have := HP.out.cl; omega) rfl))
    clear hi7 hu7
    go_wp2_with fail
    go_ret
    exact HEND.out
  have t2 : (kd == 2) = false := by simpa using hk2
  by_cases hk3 : kd = 3
  · have t3 : (kd == 3) = true := by simpa using hk3
    obtain ⟨l, e0, hrd⟩ : ∃ l e0, dkRead s sc = (l, e0) := ⟨_, _, rfl⟩
    have hrr := HP.out.rel.read HP.out.ok sc
    rw [hrd] at hrr
    have hll : l.length ≤ 1000000 := by
      unfold dkRead at hrd
      by_cases hc : dkCheck s sc = 0
      · rw [if_neg (by simpa using hc)] at hrd
        obtain ⟨rfl, -⟩ := Prod.mk.inj hrd
        unfold dkSector
        cases hlk : s.C.lookup sc with
        | some b => rw [Option.getD_some, (HP.out.ok.lookup hlk).2.2.1, HP.out.sz]; omega
        | none =>
          rw [Option.getD_none, List.getD_eq_getElem?_getD]
          cases hq : s.D[sc.toNat]? with
          | none => simp
          | some d => rw [Option.getD_some, HP.out.ok.sec d (List.mem_of_getElem? hq), HP.out.sz]; omega
      · rw [if_pos hc] at hrd
        obtain ⟨rfl, -⟩ := Prod.mk.inj hrd
        simp
    have HRD := hid hrd
    have HRR := hid hrr
    clear hrd hrr hk1 hk2 hk3
    go_enter Try.func41, Try.ntmps41
    go_wp2_with fail
    rw [← HW5.out]
    refine (disk_Read s sc g W R w5 HP.out.disk l e0 HRD hll).mono ?_
    rintro e w6 ⟨v6, rfl, hown6, hb6⟩
    have hsl6 := ownsRow.slb hown6 (by omega)
    have HSL6 := hid hsl6
    obtain ⟨a6, c6', rfl, -⟩ := hsl6
    have HB6 := hid hb6
    have HP6 := hid (HP.out.below hb6)
    obtain ⟨-, d1, -⟩ := (HX5.out.below hb6).c7
    clear hown6 hb6 c0 c1 c2 c3 c4 c5 c6
    go_wp2_with fail
    refine (rf_Read p x HXL.out sc w6 HP6.out.ref l e0 HRR).mono ?_
    rintro e w' ⟨rfl, rfl⟩
    have hst := HSL6.out.str w6 (Below.refl _ _)
    have HEND : Hid (StepD w g W R p N (.returned (.bool true)) w6) := hid (HPW.out _ _ ⟨s, x, R, rfl, HP6.out.more (by omega), fun k q => .inl q, Upd.of_below HB6.out⟩)
    go_wp2_with fail
    go_ret
    exact HEND.out
  have t3 : (kd == 3) = false := by simpa using hk3
  by_cases hk4 : kd = 4
  · have t4 : (kd == 4) = true := by simpa using hk4
    clear hk1 hk2 hk3 hk4
    go_enter Try.func41, Try.ntmps41
    go_wp2_with fail
    rw [← HW5.out]
    refine (disk_Arm s nn g W R w5 HP.out.disk).mono ?_
    rintro e w6 ⟨rfl, hd6, hu6⟩
    have HD6 := hid hd6
    have HU6 := hid hu6
    have HR6 := hid (HP.out.ref.upd hu6 (fun k hk => (HP.out.far k hk).1))
    have HOBG : Hid (w.heap.size ≠ p.g) := hid (fun q => HOB.out (.inr (.inl q)))
    have HX6 := hid (HX5.out.upd hu6 (fun q => HOB.out (.inl q)))
    obtain ⟨-, -, -, r3, -, r5, -⟩ := HR6.out.cells
    have f3 := HR6.out.blk.unfrozen 3
    have f5 := HR6.out.blk.unfrozen 5
    have hq2 : ∀ y, Upd (fun k => k = p.g) w6 y → y.cell? ⟨w.heap.size, 2, none⟩ = some (.int .i64 nn) := fun y hy => (HX6.out.upd hy HOBG.out).c7.2.2.1
    have hk0 : Upd (fun k => k = p.g) w6 w6.drew := (Upd.refl _ _).drew
    clear hd6 hu6 c0 c1 c2 c3 c4 c5 c6
    go_wp2_with fail
    refine wp_region_kept [10, 11, 12] (fun y => Upd (fun k => k = p.g) w6 y) (by kernel_rfl) (by first | exact hk0 | exact hk0.trans (Upd.setCell _ p.g 3 _) (fun _ _ q => q) | exact (Upd.setCell w6 p.g 3 _).drew) (fun hH => ?_)
    refine wpK.take (i := 0) (v := _) (by simp only [List.getElem?_toArray, List.getElem?_cons_succ, List.getElem?_cons_zero]; rfl) (by kernel_rfl) (by kernel_rfl) (by kernel_rfl) (by kernel_rfl) (by kernel_rfl) (by exact fun _ _ _ h => h) (by first | exact Or.inl ⟨by rfl, by intro w hSw; go_simp; try with_reducible rfl⟩ | exact Or.inr ⟨by rfl, rfl⟩) hH ?_
    try simp only [Act.put, List.setIfInBounds_toArray, List.set_cons_zero, List.set_cons_succ]
    refine wpK.take (i := 1) (v := _) (by simp only [List.getElem?_toArray, List.getElem?_cons_succ, List.getElem?_cons_zero]; rfl) (by kernel_rfl) (by kernel_rfl) (by kernel_rfl) (by kernel_rfl) (by kernel_rfl) (by exact fun _ _ _ h => h) (by first | exact Or.inl ⟨by rfl, by intro w hSw; go_simp; try with_reducible rfl⟩ | exact Or.inr ⟨by rfl, rfl⟩) hH ?_
    try simp only [Act.put, List.setIfInBounds_toArray, List.set_cons_zero, List.set_cons_succ]
    refine wpK.take (i := 2) (v := _) (by simp only [List.getElem?_toArray, List.getElem?_cons_succ, List.getElem?_cons_zero]; rfl) (by kernel_rfl) (by kernel_rfl) (by kernel_rfl) (by kernel_rfl) (by kernel_rfl) (by exact fun _ _ _ h => h) (by first | exact Or.inl ⟨by rfl, by intro w hSw; go_simp; try with_reducible rfl⟩ | exact Or.inr ⟨by rfl, rfl⟩) hH ?_
    try simp only [Act.put, List.setIfInBounds_toArray, List.set_cons_zero, List.set_cons_succ]
    refine wpK.take (i := 3) (v := _) (by simp only [List.getElem?_toArray, List.getElem?_cons_succ, List.getElem?_cons_zero]; rfl) (by kernel_rfl) (by kernel_rfl) (by kernel_rfl) (by kernel_rfl) (by kernel_rfl) (by exact fun _ _ _ h => h) (by first | exact Or.inl ⟨by rfl, by intro w hSw; go_simp; try with_reducible rfl⟩ | exact Or.inr ⟨by rfl, rfl⟩) hH ?_
    try simp only [Act.put, List.setIfInBounds_toArray, List.set_cons_zero, List.set_cons_succ]
    refine wpK.take (i := 4) (v := _) (by simp only [List.getElem?_toArray, List.getElem?_cons_succ, List.getElem?_cons_zero]; rfl) (by kernel_rfl) (by kernel_rfl) (by kernel_rfl) (by kernel_rfl) (by kernel_rfl) (by exact fun _ _ _ h => h) (by first | exact Or.inl ⟨by rfl, by intro w hSw; go_simp; try with_reducible rfl⟩ | exact Or.inr ⟨by rfl, rfl⟩) hH ?_
    try simp only [Act.put, List.setIfInBounds_toArray, List.set_cons_zero, List.set_cons_succ]
    refine wpK.take (i := 5) (v := _) (by simp only [List.getElem?_toArray, List.getElem?_cons_succ, List.getElem?_cons_zero]; rfl) (by kernel_rfl) (by kernel_rfl) (by kernel_rfl) (by kernel_rfl) (by kernel_rfl) (by exact fun _ _ _ h => h) (by first | exact Or.inl ⟨by rfl, by intro w hSw; go_simp; try with_reducible rfl⟩ | exact Or.inr ⟨by rfl, rfl⟩) hH ?_
    try simp only [Act.put, List.setIfInBounds_toArray, List.set_cons_zero, List.set_cons_succ]
    refine wpK.take (i := 6) (v := _) (by simp only [List.getElem?_toArray, List.getElem?_cons_succ, List.getElem?_cons_zero]; rfl) (by kernel_rfl) (by kernel_rfl) (by kernel_rfl) (by kernel_rfl) (by kernel_rfl) (by exact fun _ _ _ h => h) (by first | exact Or.inl ⟨by rfl, by intro w hSw; go_simp; try with_reducible rfl⟩ | exact Or.inr ⟨by rfl, rfl⟩) hH ?_
    try simp only [Act.put, List.setIfInBounds_toArray, List.set_cons_zero, List.set_cons_succ]
    refine wpK.take (i := 7) (v := _) (by simp only [List.getElem?_toArray, List.getElem?_cons_succ, List.getElem?_cons_zero]; rfl) (by kernel_rfl) (by kernel_rfl) (by kernel_rfl) (by kernel_rfl) (by kernel_rfl) (by exact fun _ _ _ h => h) (by first | exact Or.inl ⟨by rfl, by intro w hSw; go_simp; try with_reducible rfl⟩ | exact Or.inr ⟨by rfl, rfl⟩) hH ?_
    try simp only [Act.put, List.setIfInBounds_toArray, List.set_cons_zero, List.set_cons_succ]
    refine wpK.take (i := 8) (v := _) (by simp only [List.getElem?_toArray, List.getElem?_cons_succ, List.getElem?_cons_zero]; rfl) (by kernel_rfl) (by kernel_rfl) (by kernel_rfl) (by kernel_rfl) (by kernel_rfl) (by exact fun _ _ _ h => h) (by first | exact Or.inl ⟨by rfl, by intro w hSw; go_simp; try with_reducible rfl⟩ | exact Or.inr ⟨by rfl, rfl⟩) hH ?_
    try simp only [Act.put, List.setIfInBounds_toArray, List.set_cons_zero, List.set_cons_succ]
    refine wpK.step (i := 9) (by kernel_rfl) (by simp only [List.getElem?_toArray, List.getElem?_cons_succ, List.getElem?_cons_zero]; rfl) (fun K hK => ?_)
    go_simp
    refine hK.out _ _ (by first | exact hk0 | exact hk0.trans (Upd.setCell _ p.g 3 _) (fun _ _ q => q) | exact (Upd.setCell w6 p.g 3 _).drew) (fun hH => ?_)
    clear hK K
    try simp only [Act.put, List.setIfInBounds_toArray, List.set_cons_zero, List.set_cons_succ]
    refine wpK.late (i := 10) (by kernel_rfl) (by simp only [List.getElem?_toArray, List.getElem?_cons_succ, List.getElem?_cons_zero]; rfl) (by kernel_rfl) (fun K hK => ?_)
    go_simp
    refine hK.out _ _ ?_
    clear hK K
    try simp only [Act.put, List.setIfInBounds_toArray, List.set_cons_zero, List.set_cons_succ]
    refine wpK.late (i := 11) (by kernel_rfl) (by simp only [List.getElem?_toArray, List.getElem?_cons_succ, List.getElem?_cons_zero]; rfl) (by kernel_rfl) (fun K hK => ?_)
    go_simp
    refine hK.out _ _ ?_
    clear hK K
    try simp only [Act.put, List.setIfInBounds_toArray, List.set_cons_zero, List.set_cons_succ]
    refine wpK.late (i := 12) (by kernel_rfl) (by simp only [List.getElem?_toArray, List.getElem?_cons_succ, List.getElem?_cons_zero]; rfl) (by kernel_rfl) (fun K hK => ?_)
    go_simp
    refine hK.out _ _ ?_
    clear hK K
    try simp only [Act.put, List.setIfInBounds_toArray, List.set_cons_zero, List.set_cons_succ]
    refine wpK.done (by kernel_rfl) ?_ _
    have hu3 := (Upd.setCell w6 p.g 3 (.bool (decide (0 ≤ nn)))).trans (Upd.setCell _ p.g 5 (.int .i64 nn)) (fun _ _ q => q)
    have hi7 : RfIs ((w6.setCell ⟨p.g, 3, none⟩ (.bool (decide (0 ≤ nn)))).setCell ⟨p.g, 5, none⟩ (.int .i64 nn)).drew p (rfArm x nn) := RfIs.below (HR6.out.reblk hu3 (by simpa [rfArm] using (HR6.out.blk.set 3 (.bool (decide (0 ≤ nn)))).set 5 (.int .i64 nn)) rfl rfl) (Below.refl _ _).drew
    have HEND := hid (HPW.out _ _ (HP.out.next HD6.out (fun k q => .inl q) HU6.out hi7 ((hu3.mono (fun _ _ q => .inl q)).drew) (HP.out.ok.arm nn) (HP.out.rel.arm nn) HP.out.n6 HP.out.sz (by have := HP.out.cl; show s.C.length ≤ N + 1; omega) rfl))
    clear hu3 hi7 hq2 hk0 hH r3 r5 f3 f5
    go_wp2_with fail
    go_ret
    exact HEND.out
  have t4 : (kd == 4) = false := by simpa using hk4
  by_cases hk5 : kd = 5
  · have t5 : (kd == 5) = true := by simpa using hk5
    clear hk1 hk2 hk3 hk4 hk5
    go_enter Try.func41, Try.ntmps41
    go_wp2_with fail
    rw [← HW5.out]
    refine (disk_Crash s HP.out.ok kl tn ct _ g W R w5 HP.out.disk (HKY.out w5 (Upd.refl _ _)) (fun j hj => (HKO.out j hj).imp id (fun q z => q (.inl z)))).mono ?_
    rintro e w6 ⟨R6, rfl, hd6, hr6, hu6⟩
    have HD6 := hid hd6
    have HU6 := hid hu6
    have HR6 := hid hr6
    have HK6 := hid (HKY.out w6 (hu6.mono (fun _ _ q => .inl q)))
    obtain ⟨-, -, -, -, d4, d5, d6⟩ := (HX5.out.upd hu6 (fun q => HOB.out (.inl q))).c7
    clear hd6 hu6 hr6 c0 c1 c2 c3 c4 c5 c6
    go_wp2_with fail
    refine (rf_Crash p x HXL.out (by omega) (by omega) HXD.out HXC.out kl tn ct _ w6 (HP.out.ref.upd HU6.out (fun k hk => (HP.out.far k hk).1)) HK6.out (fun j hj => (HKO.out j hj).imp id (fun q z => q (.inr z)))).mono ?_
    rintro e w7 ⟨rfl, hi7, hu7⟩
    have HEND := hid (HPW.out _ _ (HP.out.next HD6.out HR6.out HU6.out hi7 hu7 (HP.out.ok.crash kl tn ct) (HP.out.rel.crash HP.out.ok kl tn ct) (by show (mixF _ s.D s.C []).length = 6; rw [mixF_len]; exact HP.out.n6) HP.out.sz (by show ([] : List (Int × List UInt8)).length ≤ N + 1; simp) rfl))
    clear hi7 hu7
    go_wp2_with fail
    go_ret
    exact HEND.out
  have t5 : (kd == 5) = false := by simpa using hk5
  have HEND : Hid (StepD w g W R p N (.returned (.bool true)) w5) := hid (HPW.out _ _ ⟨s, x, R, rfl, HP.out.more (by omega), fun k q => .inl q, Upd.refl _ _⟩)
  clear hk1 hk2 hk3 hk4 hk5
  go_enter Try.func41, Try.ntmps41
  go_wp2_with fail
  rw [← HW5.out]
  go_ret
  exact HEND.out
end Go.Proofs.Ytohknblokejldaa
end
