/- The law VarintTells, walked. -/
import Derived.Test.YtdchopckbklncaaVarTellsLaw
namespace Go.Proofs.Ytdchopckbklncaa
open Go.RowKit Go.ChangeShapes Go.WideShapes
open Go.Lib (hid)
set_option linter.unusedVariables false

theorem smallB_ok {L : List Thing} (h : smallB L = true) (hb : ∀ x ∈ L, -9223372036854775808 ≤ x.n ∧ x.n ≤ 9223372036854775807 ∧ ∀ y ∈ x.list, -9223372036854775808 ≤ y ∧ y ≤ 9223372036854775807) : (∀ x ∈ L, x.Ok) ∧ L.length ≤ 40 := by
  unfold smallB at h
  simp only [Bool.and_eq_true, List.all_eq_true, decide_eq_true_eq] at h
  refine ⟨fun x hx => ?_, h.2⟩
  have h1 := h.1 x hx
  unfold okB at h1
  simp only [Bool.and_eq_true, decide_eq_true_eq] at h1
  exact ⟨(hb x hx).1, (hb x hx).2.1, h1.1, h1.2, (hb x hx).2.2⟩
theorem SlTh.bd {w : World} {v : Value} {L : List Thing} (h : SlTh w v L) : ∀ x ∈ L, -9223372036854775808 ≤ x.n ∧ x.n ≤ 9223372036854775807 ∧ ∀ y ∈ x.list, -9223372036854775808 ≤ y ∧ y ≤ 9223372036854775807 := by
  obtain ⟨a, c, -, -, -, -, h5⟩ := h
  intro x hx
  obtain ⟨i, hi⟩ := List.getElem?_of_mem hx
  obtain ⟨b, off, la, lc, -, -, k3⟩ := h5 i x hi
  exact ⟨k3.n1, k3.n2, k3.bd⟩
/-- where each thing's bytes end -/
def endN (L : List Thing) (k : Nat) : Nat := (encT (L.take k)).length
def endsL (L : List Thing) (k : Nat) : List Int := (List.range k).map fun i => (endN L (i + 1) : Int)
theorem endsL_succ (L : List Thing) (k : Nat) : endsL L (k + 1) = endsL L k ++ [(endN L (k + 1) : Int)] := by unfold endsL; rw [List.range_succ, List.map_append]; rfl
theorem endsL_len (L : List Thing) (k : Nat) : (endsL L k).length = k := by simp [endsL]
theorem endsL_at (L : List Thing) (n k : Nat) (h : k < n) : (endsL L n)[k]? = some (endN L (k + 1) : Int) := by unfold endsL; rw [List.getElem?_map, List.getElem?_range h]; rfl
theorem encT_take (L : List Thing) (k : Nat) (x : Thing) (h : L[k]? = some x) : encT (L.take (k + 1)) = encT (L.take k) ++ x.enc := by
  have hk := (List.getElem?_eq_some_iff.1 h)
  rw [List.take_succ_eq_append_getElem hk.1, hk.2, encT_append]; simp [encT]
theorem encT_drop (L : List Thing) (k : Nat) (x : Thing) (h : L[k]? = some x) : encT (L.drop k) = x.enc ++ encT (L.drop (k + 1)) := by
  have hk := (List.getElem?_eq_some_iff.1 h)
  rw [List.drop_eq_getElem_cons hk.1, hk.2]; rfl
theorem encT_split (L : List Thing) (k : Nat) : encT L = encT (L.take k) ++ encT (L.drop k) := by rw [← encT_append, List.take_append_drop]
theorem endN_succ (L : List Thing) (k : Nat) (x : Thing) (h : L[k]? = some x) : endN L (k + 1) = endN L k + x.enc.length := by unfold endN; rw [encT_take L k x h, List.length_append]
theorem endN_le (L : List Thing) (k : Nat) : endN L k ≤ (encT L).length := by unfold endN; have := congrArg List.length (encT_split L k); rw [List.length_append] at this; omega
/-- what is left of the bytes that were cut, ahead of thing k -/
def cutS (L : List Thing) (cut k : Nat) : Option (List UInt8) := if endN L k ≤ cut then some (((encT L).take cut).drop (endN L k)) else none
theorem cutS_zero (L : List Thing) (cut : Nat) : cutS L cut 0 = some ((encT L).take cut) := by unfold cutS endN; simp [encT]
theorem cutS_len (L : List Thing) (cut k : Nat) : ((cutS L cut k).getD []).length ≤ (encT L).length := by
  unfold cutS
  split
  · simp; omega
  · simp
theorem cutS_told (L : List Thing) (cut k : Nat) (x : Thing) (h : L[k]? = some x) (hx : x.Ok) (hcut : cut ≤ (encT L).length) : ∃ b, x.told (cutS L cut k) = (b, cutS L cut (k + 1)) ∧ (endN L (k + 1) ≤ cut → b = true) := by
  have he := endN_succ L k x h
  have hsp : (encT L).drop (endN L k) = x.enc ++ encT (L.drop (k + 1)) := by
    rw [encT_split L k, endN, List.drop_left, encT_drop L k x h]
  by_cases h1 : endN L k ≤ cut
  · have e0 : cutS L cut k = some ((x.enc ++ encT (L.drop (k + 1))).take (cut - endN L k)) := by
      unfold cutS; rw [if_pos h1, List.drop_take, hsp]
    by_cases h2 : endN L (k + 1) ≤ cut
    · have e1 : cutS L cut (k + 1) = some ((encT (L.drop (k + 1))).take (cut - endN L (k + 1))) := by
        unfold cutS
        rw [if_pos h2, List.drop_take]
        congr 2
        rw [encT_split L (k + 1), endN, List.drop_left]
      refine ⟨true, ?_, fun _ => rfl⟩
      rw [e0, e1]
      have e2 : (x.enc ++ encT (L.drop (k + 1))).take (cut - endN L k) = x.enc ++ (encT (L.drop (k + 1))).take (cut - endN L (k + 1)) := by
        rw [List.take_append, List.take_of_length_le (by omega)]
        congr 2
        omega
      rw [e2]
      exact x.told_enc hx _
    · have e1 : cutS L cut (k + 1) = none := by unfold cutS; rw [if_neg h2]
      have e2 : (x.enc ++ encT (L.drop (k + 1))).take (cut - endN L k) = x.enc.take (cut - endN L k) := List.take_append_of_le_length (by omega)
      refine ⟨(x.told (cutS L cut k)).1, ?_, fun q => absurd q h2⟩
      · rw [e1, e0, e2]
        have := x.told_cut (x.enc.take (cut - endN L k)) (x.enc.drop (cut - endN L k)) (List.take_append_drop _ _) (fun q => by
          have := congrArg List.length q
          simp at this
          omega)
        rw [← this]
  · have e0 : cutS L cut k = none := by unfold cutS; rw [if_neg h1]
    have e1 : cutS L cut (k + 1) = none := by unfold cutS; rw [if_neg (by omega)]
    refine ⟨(x.told (cutS L cut k)).1, ?_, fun q => by omega⟩
    · rw [e1, e0]
      exact Prod.ext rfl x.told_none
theorem cutS_none (L : List Thing) (cut k : Nat) : (cutS L cut k).isNone = !decide (endN L k ≤ cut) := by
  unfold cutS
  by_cases h : endN L k ≤ cut
  · rw [if_pos h]; simp [h]
  · rw [if_neg h]; simp [h]

/-- thing k of what came in, in a later world -/
theorem SlTh.row {w wr : World} {a : Option Addr} {n c : Nat} {L : List Thing} (h : SlTh w (.slice a n c) L) (hb : Below w.heap.size w wr) (k : Nat) (x : Thing) (hx : L[k]? = some x) :
    ∃ b off la lc, a = some ⟨b, off, none⟩ ∧ ThingAt wr (fun j => wr.cell? ⟨b, off + k * 5 + j, none⟩) x la lc ∧ (0 < x.list.length → ∀ b off, la = some ⟨b, off, none⟩ → b < w.heap.size) := by
  obtain ⟨a', c', e', -, -, -, hrows⟩ := h
  simp only [Value.slice.injEq] at e'
  obtain ⟨rfl, -, rfl⟩ := e'
  obtain ⟨b, off, la, lc, ha, hlt, ht⟩ := hrows k x hx
  refine ⟨b, off, la, lc, ha, ht.below hb (fun j u _ hu => by rw [← hu]; exact World.cell?_of_block (hb.block b hlt)), fun h0 b' off' e => ?_⟩
  obtain ⟨b2, off2, y, e2, hc, -⟩ := Rd.int ht.rd 0 h0
  rw [e] at e2
  simp at e2
  obtain ⟨rfl, rfl⟩ := e2
  exact World.block_lt_of_cell? w _ hc
theorem ownsRow_slice' {w : World} {base : Nat} {e : TypeId} {v : Value} {n : Nat} {xs : List Value} {size : Nat} (h : w.ownsRow base e size v n xs) : ∃ a c, v = .slice a n c := by
  rcases h.2 with ⟨rfl, hx⟩ | ⟨g, cap, cur, rfl, -⟩
  · have := h.1
    exact ⟨_, _, by rw [hx]⟩
  · exact ⟨_, _, rfl⟩

/-- while the things are put -/
structure TellSt (w0 wr : World) (g : Nat) (v v6 v7 : Value) (L : List Thing) (k : Nat) : Prop where
  out : OutIs wr g v (encT (L.take k))
  want : wr.ownsRow w0.heap.size 5 1 v6 (encT (L.take k)).length (bv (encT (L.take k)))
  ends : wr.ownsRow w0.heap.size 3 1 v7 k (iv (endsL L k))
  ge : w0.heap.size ≤ g
  vge : ∀ j, v.ownBlock = some j → w0.heap.size ≤ j
  d6 : ∀ j, v6.ownBlock = some j → j ≠ g ∧ v.ownBlock ≠ some j ∧ v7.ownBlock ≠ some j
  d7 : ∀ j, v7.ownBlock = some j → j ≠ g ∧ v.ownBlock ≠ some j
  bel : Below w0.heap.size w0 wr
theorem TellSt.step {w0 wr wa wb wc wd : World} {g : Nat} {v v' v6 v7 v6' v7' : Value} {L : List Thing} {k : Nat} {x : Thing} (h : TellSt w0 wr g v v6 v7 L k) (hx : L[k]? = some x) (ha : Below wr.heap.size wr wa) (ho : OutIs wb g v' (encT (L.take k) ++ x.enc)) (hs : OutStep g v v' wa wb)
    (h6 : wc.ownsRow w0.heap.size 5 1 v6' ((encT (L.take k)).length + x.enc.length) (bv (encT (L.take k)) ++ bv x.enc)) (g6 : wb.grownBy wc v6.ownBlock) (wh6 : ∀ j, v6'.ownBlock = some j → v6.ownBlock = some j ∨ wb.heap.size ≤ j)
    (h7 : wd.ownsRow w0.heap.size 3 1 v7' (k + 1) (iv (endsL L k) ++ [.int .i64 (endN L (k + 1) : Int)])) (g7 : wc.grownBy wd v7.ownBlock) (wh7 : ∀ j, v7'.ownBlock = some j → v7.ownBlock = some j ∨ wc.heap.size ≤ j) : TellSt w0 wd g v' v6' v7' L (k + 1) := by
  have sa := ha.size
  have sb := hs.upd.size
  have sc := g6.size
  have sw := h.bel.size
  have gl := h.out.blk.lt
  have vl : ∀ j, v.ownBlock = some j → j < wr.heap.size := fun j hj => ownBlock_lt h.out.own hj
  have l6 : ∀ j, v6.ownBlock = some j → j < wr.heap.size := fun j hj => (h.want.lt j hj).2
  have l7 : ∀ j, v7.ownBlock = some j → j < wr.heap.size := fun j hj => (h.ends.lt j hj).2
  have vl' : ∀ j, v'.ownBlock = some j → j < wb.heap.size := fun j hj => ownBlock_lt ho.own hj
  -- what was made is apart
  have n6 : ∀ j, v6'.ownBlock = some j → j ≠ g ∧ v'.ownBlock ≠ some j := fun j hj => by
    rcases wh6 j hj with q | q
    · refine ⟨(h.d6 j q).1, fun e => ?_⟩
      rcases hs.wh j e with r | r
      · exact (h.d6 j q).2.1 r
      · have := l6 j q; omega
    · exact ⟨by omega, fun e => by have := vl' j e; omega⟩
  have n7 : ∀ j, v7'.ownBlock = some j → j ≠ g ∧ v'.ownBlock ≠ some j := fun j hj => by
    rcases wh7 j hj with q | q
    · refine ⟨(h.d7 j q).1, fun e => ?_⟩
      rcases hs.wh j e with r | r
      · exact (h.d7 j q).2 r
      · have := l7 j q; omega
    · exact ⟨by omega, fun e => by have := vl' j e; omega⟩
  have u6 : Upd (fun j => v6.ownBlock = some j) wb wc := Upd.of_grown g6
  have u7 : Upd (fun j => v7.ownBlock = some j) wc wd := Upd.of_grown g7
  -- an Out stays while others grow
  have keep : ∀ {S : Nat → Prop} {a b : World}, OutIs a g v' (encT (L.take k) ++ x.enc) → Upd S a b → (∀ j, S j → j ≠ g ∧ v'.ownBlock ≠ some j) → OutIs b g v' (encT (L.take k) ++ x.enc) := fun hO hU hS =>
    ⟨hO.blk.upd hU (fun s => (hS g s).1 rfl), hU.owns hO.own (fun j hj s => (hS j s).2 hj), hO.ne⟩
  have p6 : ∀ j, v6.ownBlock = some j → j ≠ g ∧ v'.ownBlock ≠ some j := fun j q => ⟨(h.d6 j q).1, fun e => by
    rcases hs.wh j e with r | r
    · exact (h.d6 j q).2.1 r
    · have := l6 j q; omega⟩
  have p7 : ∀ j, v7.ownBlock = some j → j ≠ g ∧ v'.ownBlock ≠ some j := fun j q => ⟨(h.d7 j q).1, fun e => by
    rcases hs.wh j e with r | r
    · exact (h.d7 j q).2 r
    · have := l7 j q; omega⟩
  refine ⟨?_, ?_, ?_, h.ge, ?_, ?_, n7, ?_⟩
  · rw [encT_take L k x hx]
    exact keep (keep ho u6 p6) u7 p7
  · rw [encT_take L k x hx, List.length_append, bv_append]
    refine u7.owns h6 (fun j hj s => ?_)
    rcases wh6 j hj with q | q
    · exact (h.d6 j q).2.2 s
    · have := l7 j s; omega
  · rw [endsL_succ, iv, List.map_append]; exact h7
  · intro j hj
    rcases hs.wh j hj with q | q
    · exact h.vge j q
    · omega
  · intro j hj
    refine ⟨(n6 j hj).1, (n6 j hj).2, fun e => ?_⟩
    rcases wh7 j e with q | q
    · rcases wh6 j hj with r | r
      · exact (h.d6 j r).2.2 q
      · have := l7 j q; omega
    · have := (h6.lt j hj).2; omega
  · have hb : Below w0.heap.size w0 wa := h.bel.trans (ha.mono sw)
    have hb2 : Below w0.heap.size wa wb := hs.upd.below (by omega) (fun j _ q => by rcases q with q | q; have := h.ge; omega; exact h.vge j q)
    have hb3 : Below w0.heap.size wb wc := u6.below (by omega) (fun j _ q => (h.want.lt j q).1)
    have hb4 : Below w0.heap.size wc wd := u7.below (by omega) (fun j _ q => (h.ends.lt j q).1)
    exact ((hb.trans hb2).trans hb3).trans hb4
theorem TellSt.zero (w0 w1 : World) (h : Below w0.heap.size w0 w1) (L : List Thing) : TellSt w0 (w1.alloc (.cells #[.slice none 0 0] 24)) w1.heap.size (.slice none 0 0) (.slice none 0 0) (.slice none 0 0) L 0 :=
  ⟨by simpa [encT] using OutIs.new w1, by simpa [encT, bv] using World.ownsRow_nil _ _ _ _, by simpa [endsL, iv] using World.ownsRow_nil _ _ _ _, h.size, fun j hj => by simp [Value.ownBlock] at hj, fun j hj => by simp [Value.ownBlock] at hj, fun j hj => by simp [Value.ownBlock] at hj, below_then h (below_new _ _)⟩

set_option maxRecDepth 100000 in
set_option maxHeartbeats 4000000 in
theorem VarintTells_walk {H : Type} {enc : TypeId × Value → H} {b0 : Nat} {d0 : DataW H} {p0 : List MemPlace} (v0 : Value) (cut : Int) (w : World) (ok0 : Value.okWide Try.prog w .any b0 53 v0) (k0 : DataW.Trod enc Try.prog w 0 (fun _ => true) true 53 v0 d0 p0)
    (wc : (Lit.int .i64 cut).wf = true) :
    Calls Try.prog 8 #[v0, .int .i64 cut] w fun e w' => e = .returned (.bool true) ∧ Below w.heap.size w w' := by
  obtain ⟨L, hL⟩ := open_things ok0 k0
  obtain ⟨n1, n2⟩ := wf64 wc
  clear ok0 k0 wc
  have HL := hid hL
  have hbd := hL.bd
  obtain ⟨a, c, rfl, -⟩ := hL
  by_cases hsm : smallB L = true
  case neg =>
    have HSM : Hid (smallB L = false) := hid (by simpa using hsm)
    clear hbd hsm
    go_enter Try.func8, Try.ntmps8
    go_wp2_with (first | (go_at_call 40; (with_reducible refine (law04_small L _ _ HL.out false HSM).mono ?_); rintro e w1 ⟨rfl, hb1⟩) | (go_at_call 22; (with_reducible refine (var_awake _).mono ?_); rintro e w2 ⟨rfl, hb2⟩))
    go_ret
    exact ⟨rfl, below_then hb1 hb2⟩
  obtain ⟨hok, hl40⟩ := smallB_ok hsm hbd
  have HSM := hid hsm
  have HOK := hid hok
  have hLE : (encT L).length ≤ 16400 := by have := encT_le L hok; omega
  clear hsm hok hbd
  go_enter Try.func8, Try.ntmps8
  go_wp2_with (go_at_call 40; (with_reducible refine (law04_small L _ _ HL.out true HSM).mono ?_); rintro e w1 ⟨rfl, hb1⟩)
  have HB1 := hid hb1
  have HT0 := hid (TellSt.zero w w1 hb1 L)
  clear hb1
  go_loopw [6, 7, 24] (fun v6 v7 v24 wr => ∃ (k : Nat) (v : Value), v24 = .int .i64 k ∧ k ≤ L.length ∧ Hid (TellSt w wr w1.heap.size v v6 v7 L k)) (fun _ _ v24 _ => L.length - (intOf v24).toNat)
  case atStart => exact ⟨0, .slice none 0 0, rfl, by omega, HT0⟩
  case round =>
    clear HT0 HB1
    obtain ⟨k, v, rfl, hk, HT⟩ := hrel
    by_cases hlt : k < L.length
    · obtain ⟨x, hx⟩ : ∃ x, L[k]? = some x := ⟨_, List.getElem?_eq_getElem hlt⟩
      obtain ⟨bb, off, la, lc, rfl, ht, hub⟩ := HL.out.row HT.out.bel k x hx
      have c0 := ht.c0
      have c1 := ht.c1
      have c2 := ht.c2
      have c3 := ht.c3
      have c4 := ht.c4
      rw [Nat.add_zero] at c0
      have HRD := hid ht.rd
      have hxok := HOK.out x (List.mem_of_getElem? hx)
      have HXOK := hid hxok
      have HX := hid hx
      have hle := x.enc_le hxok
      have hpre : (encT (L.take k)).length ≤ 16400 := by have := endN_le L k; unfold endN at this; omega
      have HBN := hid (below_new wr (.cells (thV x la lc) 56))
      unfold thV at HBN
      have HUB := hid hub
      clear hx ht hxok hub
      go_wp2_with fail
      refine (law04_put x HXOK.out la lc w1.heap.size v (encT (L.take k)) _ (HT.out.out.below HBN.out) (by omega) (HRD.out.below' HBN.out) (hid (fun h0 b off e => by
        have := HUB.out h0 b off e
        have := HT.out.ge
        exact ⟨by omega, fun q => by have := HT.out.vge _ q; omega⟩))).mono ?_
      rintro e w2 ⟨vr, v', rfl, hownr, ho, hst⟩
      have hown6 : w2.ownsRow w.heap.size 5 1 u6 (encT (L.take k)).length (bv (encT (L.take k))) := hst.upd.owns (ownsRow_below HT.out.want HBN.out) (fun j hj s => by
        rcases s with s | s
        · exact (HT.out.d6 j hj).1 s
        · exact (HT.out.d6 j hj).2.1 s)
      obtain ⟨ar, cr, rfl, hr1, hr2, hrdr, hcr⟩ := ownsRow.rd hownr
      have HOWN6 := hid hown6
      have HO := hid ho
      have HST := hid hst
      have HRR := hid hrdr
      have hsz2 : w.heap.size ≤ w2.heap.size := by have := HT.out.bel.size; have := HBN.out.size; have := hst.upd.size; omega
      clear hownr ho hst hown6 hrdr
      go_wp2_with (at_builtin; refine wpList_appendNw T_bytes _ rfl _ _ rfl w.heap.size _ _ _ rfl HOWN6.out ar x.enc.length cr (bv x.enc) rfl ?c1 (fun _ => hcr) HRR.out (bv_oneCell x.enc) ?c2 ?c3 ?_)
      case c1 => rw [bv_length]; omega
      case c2 => omega
      case c3 => exact hsz2
      intro v6 w3 hown6 hg6 hnil6 hwh6
      obtain ⟨a6, c6, rfl⟩ := ownsRow_slice' hown6
      have hown7 : w3.ownsRow w.heap.size 3 1 u7 k (iv (endsL L k)) := (Upd.of_grown hg6).owns (HST.out.upd.owns (ownsRow_below HT.out.ends HBN.out) (fun j hj s => by
        rcases s with s | s
        · exact (HT.out.d7 j hj).1 s
        · exact (HT.out.d7 j hj).2 s)) (fun j hj s => (HT.out.d6 j s).2.2 hj)
      have HOWN7 := hid hown7
      have HOWN6' := hid hown6
      have HG6 := hid hg6
      have HWH6 := hid hwh6
      have hsz3 : w.heap.size ≤ w3.heap.size := by have := hg6.size; omega
      clear hown6 hg6 hwh6 hnil6 hown7
      go_wp2_with (at_builtin; refine wpList_append1w T_ints _ rfl _ _ _ rfl w.heap.size _ _ _ rfl HOWN7.out rfl rfl ?d1 ?d2 ?d3 ?_)
      case d1 => rfl
      case d2 => omega
      case d3 => exact hsz3
      intro v7 w4 hown7 hg7 hne7 hwh7
      have HT2 : Hid (TellSt w w4 w1.heap.size v' (.slice a6 ((encT (L.take k)).length + x.enc.length) c6) v7 L (k + 1)) := hid (HT.out.step HX.out HBN.out HO.out HST.out HOWN6'.out HG6.out HWH6.out (by rw [endN_succ L k x HX.out, endN]; simpa using hown7) hg7 hwh7)
      clear hown7 hg7 hne7 hwh7
      go_wp2_with fail
      go_roundw
      case rel => exact ⟨k + 1, v', by go_num, by omega, HT2⟩
      case measure => simp [intOf]; omega
    · obtain rfl : k = L.length := by omega
      obtain ⟨w2, hw2⟩ : ∃ w2, w2 = wr := ⟨_, rfl⟩
      subst hw2
      have hout := HT.out.out
      have hwant := HT.out.want
      have hends := HT.out.ends
      rw [List.take_length] at hout hwant
      obtain ⟨a6, c6, rfl⟩ := ownsRow_slice' hwant
      obtain ⟨a7, c7, rfl⟩ := ownsRow_slice' hends
      have HB2 := hid HT.out.bel
      obtain ⟨E, hE⟩ : ∃ E, encT L = E := ⟨_, rfl⟩
      rw [hE] at hout hwant hLE ⊢
      have HE := hid hE
      have HO2 := hid hout
      have HWANT := hid (ownsRow.slb hwant (by omega))
      have HENDS := hid hends
      clear hout hwant hends HT hE hk hlt
      go_wp2_with fail
      refine (out_All w1.heap.size v E w2 HO2.out (by omega)).mono ?_
      rintro e w3 ⟨v10, rfl, hown, hb⟩
      obtain ⟨a10, c10, rfl⟩ := ownsRow_slice' hown
      have HOWN := hid hown
      have HS10 := hid (ownsRow.slb hown (by omega))
      have HB3 := hid (below_then HB2.out hb)
      have HO3 := hid (HO2.out.below hb)
      have HENDS3 := hid (ownsRow_below HENDS.out hb)
      have st1 := HS10.out.str w3 (Below.refl _ _)
      have st2 := (HWANT.out.below hb).str w3 (Below.refl _ _)
      clear hown hb HENDS HO2 HB2 HWANT
      go_wp2_with (first | (go_at_call 42; (with_reducible refine (out_Len w1.heap.size v E _ HO3.out (by omega)).mono ?_); rintro e w' ⟨rfl, rfl⟩) | (go_at_call 17; (with_reducible refine (var_NewIn E _ _ HS10.out (by omega)).mono ?_); rintro e w4 ⟨g, D, rfl, hi, hg, hD, hb4⟩))
      have HI := hid hi
      have HG := hid hg
      have HB34 := hid hb4
      clear hi hg hD hb4 st1 st2 HO3
      go_loopw [54] (fun v54 wr => ∃ (k : Nat), v54 = .int .i64 k ∧ k ≤ L.length ∧ Hid (InIs wr g D (some (encT (L.drop k)))) ∧ Hid (Below w3.heap.size w3 wr)) (fun v54 _ => L.length - (intOf v54).toNat)
      case atStart => exact ⟨0, rfl, by omega, hid (by rw [List.drop_zero, HE.out]; exact HI.out), HB34⟩
      case round =>
        clear HI HB34
        obtain ⟨k, rfl, hk, HI, HB3r⟩ := hrel
        have HBr := hid (below_then HB3.out HB3r.out)
        by_cases hlt : k < L.length
        · obtain ⟨x, hx⟩ : ∃ x, L[k]? = some x := ⟨_, List.getElem?_eq_getElem hlt⟩
          obtain ⟨bb, off, la, lc, rfl, ht, hub⟩ := HL.out.row HBr.out k x hx
          have c0 := ht.c0
          have c1 := ht.c1
          have c2 := ht.c2
          have c3 := ht.c3
          have c4 := ht.c4
          rw [Nat.add_zero] at c0
          have HRD := hid ht.rd
          have HXOK := hid (HOK.out x (List.mem_of_getElem? hx))
          have HUB := hid hub
          have HTD : Hid (x.told (some (encT (L.drop k))) = (true, some (encT (L.drop (k + 1))))) := hid (by rw [encT_drop L k x hx]; exact x.told_enc HXOK.out _)
          have hle2 : (encT (L.drop k)).length ≤ E.length := by
            have := congrArg List.length (encT_split L k)
            rw [List.length_append, HE.out] at this; omega
          have HBN := hid (below_new wr (.cells (thV x la lc) 56))
          unfold thV at HBN
          clear hx ht hub
          go_wp2_with fail
          refine (law04_told x HXOK.out la lc g D _ _ (HI.out.below HBN.out) (by simp; omega) (HRD.out.below' HBN.out) (hid (fun h0 b off e => by
            have := HUB.out h0 b off e
            have := HG.out
            have := HB3.out.size
            omega)) true _ HTD).mono ?_
          rintro e w5 ⟨rfl, hi5, hu5⟩
          have HI5 := hid hi5
          have HB5 := hid ((below_then HB3r.out HBN.out).trans (hu5.below (B := w3.heap.size) (by have := HB3r.out.size; have := HBN.out.size; omega) (fun j _ q => by have := HG.out; omega)))
          clear hi5 hu5
          go_wp2_with (go_at_call 25; (with_reducible refine (in_Bad _ g D _ HI5.out).mono ?_); rintro e w' ⟨rfl, rfl⟩)
          go_roundw
          case rel => exact ⟨k + 1, by go_num, by omega, HI5, HB5⟩
          case measure => simp [intOf]; omega
        · obtain rfl : k = L.length := by omega
          rw [List.drop_length] at HI
          have HID : Hid (InIs wr g D (some [])) := HI
          have hdn : inDone (some []) = true := rfl
          obtain ⟨w4, hw4⟩ : ∃ w4, w4 = wr := ⟨_, rfl⟩
          subst hw4
          clear HI hk hlt
          by_cases q1 : cut < 0
          · go_wp2_with (first | (go_at_call 21; (with_reducible refine (in_Done _ g D _ HID.out).mono ?_); rintro e w' ⟨rfl, rfl⟩; rw [hdn]) | (go_at_call 22; (with_reducible refine (var_awake _).mono ?_); rintro e w5 ⟨rfl, hb5⟩))
            go_ret
            exact ⟨rfl, below_then HBr.out hb5⟩
          by_cases q2 : (E.length : Int) ≤ cut
          · go_wp2_with (first | (go_at_call 21; (with_reducible refine (in_Done _ g D _ HID.out).mono ?_); rintro e w' ⟨rfl, rfl⟩; rw [hdn]) | (go_at_call 22; (with_reducible refine (var_awake _).mono ?_); rintro e w5 ⟨rfl, hb5⟩))
            go_ret
            exact ⟨rfl, below_then HBr.out hb5⟩
          obtain ⟨m, rfl⟩ := Int.eq_ofNat_of_zero_le (show 0 ≤ cut by omega)
          have hm : m < E.length := by omega
          have q1' : ¬ ((m : Int) < 0) := by omega
          have q2' : ¬ ((E.length : Int) ≤ (m : Int)) := by omega
          have hL0 : 0 < L.length := by
            rcases Nat.eq_zero_or_pos L.length with h | h
            · have : L = [] := List.eq_nil_of_length_eq_zero h
              rw [← HE.out, this] at hm
              simp [encT] at hm
            · exact h
          obtain ⟨g10, c10', e10⟩ := Joins.ownsRow_form HOWN.out (by omega)
          simp only [Value.slice.injEq, true_and] at e10
          obtain ⟨rfl, rfl⟩ := e10
          obtain ⟨g7, c7', e7⟩ := Joins.ownsRow_form HENDS3.out hL0
          simp only [Value.slice.injEq, true_and] at e7
          obtain ⟨rfl, rfl⟩ := e7
          have hs10 : SlB w4 (.slice (some ⟨g10, 0, none⟩) E.length c10) E := HS10.out.below HB3r.out
          obtain ⟨aa, cc, ee, j1, j2, j3, j4, j5⟩ := hs10
          simp only [Value.slice.injEq] at ee
          obtain ⟨rfl, -, rfl⟩ := ee
          have HSM2 : Hid (SlB w4 (.slice (some ⟨g10, 0, none⟩) m c10) (E.take m)) := hid (by
            have htl : (E.take m).length = m := by rw [List.length_take]; omega
            refine ⟨some ⟨g10, 0, none⟩, c10, by rw [htl], by omega, ?_, by omega, j4, nofun⟩
            have := j2.sub 0 m
            rw [List.drop_zero, Nat.add_zero] at this
            rw [show bv (E.take m) = (bv E).take m by unfold bv; rw [List.map_take]]
            exact this)
          have hmc : m ≤ c10 := by omega
          have hmc' : (m : Int) ≤ (c10 : Int) := by omega
          have hm0 : (0 : Int) ≤ (m : Int) := by omega
          have HENDS4 := hid (ownsRow_below HENDS3.out HB3r.out)
          clear q1 q2 j1 j2 j3 j4 j5 HENDS3 hm HOWN
          go_wp2_with (first | (go_at_call 21; (with_reducible refine (in_Done _ g D _ HID.out).mono ?_); rintro e w' ⟨rfl, rfl⟩; rw [hdn]) | (go_at_call 17; (with_reducible refine (var_NewIn (E.take m) _ _ HSM2.out (by rw [List.length_take]; omega)).mono ?_); rintro e w5 ⟨g', D', rfl, hi5, hg5, hD5, hb5⟩))
          have HI5 := hid hi5
          have HG5 := hid hg5
          have HB45 := hid hb5
          have HB5 := hid (below_then HBr.out hb5)
          clear hi5 hg5 hD5 hb5
          have hsz4 := HBr.out.size
          go_loopw [91] (fun v91 wr => ∃ (k : Nat), v91 = .int .i64 k ∧ k ≤ L.length ∧ Hid (InIs wr g' D' (cutS L m k)) ∧ Hid (Below w4.heap.size w4 wr)) (fun v91 _ => L.length - (intOf v91).toNat)
          case atStart => exact ⟨0, rfl, by omega, hid (by rw [cutS_zero, HE.out]; exact HI5.out), HB45⟩
          case round =>
            clear HI5 HB45 HB5
            obtain ⟨k, rfl, hk, HI, HB4r⟩ := hrel
            have HBw := hid (below_then HBr.out HB4r.out)
            by_cases hlt : k < L.length
            · obtain ⟨x, hx⟩ : ∃ x, L[k]? = some x := ⟨_, List.getElem?_eq_getElem hlt⟩
              obtain ⟨bb, off, la, lc, rfl, ht, hub⟩ := HL.out.row HBw.out k x hx
              have c0 := ht.c0
              have c1 := ht.c1
              have c2 := ht.c2
              have c3 := ht.c3
              have c4 := ht.c4
              rw [Nat.add_zero] at c0
              have HRD := hid ht.rd
              have HXOK := hid (HOK.out x (List.mem_of_getElem? hx))
              have HUB := hid hub
              obtain ⟨bl, htd, hbl⟩ := cutS_told L m k x hx HXOK.out (by rw [HE.out]; omega)
              have HTD := hid htd
              have HBL := hid hbl
              have hcl := cutS_len L m k
              rw [HE.out] at hcl
              have HBN := hid (below_new wr (.cells (thV x la lc) 56))
              unfold thV at HBN
              clear hx ht hub htd hbl
              go_wp2_with fail
              refine (law04_told x HXOK.out la lc g' D' _ _ (HI.out.below HBN.out) (by omega) (HRD.out.below' HBN.out) (hid (fun h0 b off e => by
                have := HUB.out h0 b off e
                have := HG5.out
                omega)) bl _ HTD).mono ?_
              rintro e w6 ⟨rfl, hi6, hu6⟩
              have HI6 := hid hi6
              have hb6 : Below w4.heap.size w4 w6 := (below_then HB4r.out HBN.out).trans (hu6.below (B := w4.heap.size) (by have := HB4r.out.size; have := HBN.out.size; omega) (fun j _ q => by have := HG5.out; omega))
              have HB6 := hid hb6
              have hends := ownsRow_below HENDS4.out hb6
              have he0 : w6.cell? ⟨g7, k, none⟩ = some (.int .i64 (endN L (k + 1) : Int)) := by
                rw [hends.cellAt k (by omega), iv, List.getElem?_map, endsL_at L L.length k hlt]; rfl
              have hk0 : (0 : Int) ≤ (k : Int) := by omega
              have hk1 : (k : Int) < (L.length : Int) := by omega
              clear hi6 hu6 hb6 hends
              by_cases hend : endN L (k + 1) ≤ m
              · obtain rfl : bl = true := HBL.out hend
                have HNB : Hid ((cutS L m (k + 1)).isNone = false) := hid (by rw [cutS_none]; simp [hend])
                have e1 : (endN L (k + 1) : Int) ≤ (m : Int) := by omega
                have e2 : ¬ (m : Int) < (endN L (k + 1) : Int) := by omega
                clear hend
                go_wp2_with (go_at_call 25; (with_reducible refine (in_Bad _ g' D' _ HI6.out).mono ?_); rintro e w' ⟨rfl, rfl⟩; rw [HNB.out])
                go_roundw
                case rel => exact ⟨k + 1, by go_num, by omega, HI6, HB6⟩
                case measure => simp [intOf]; omega
              · have HNB : Hid ((cutS L m (k + 1)).isNone = true) := hid (by rw [cutS_none]; simp [hend])
                have e1 : ¬ (endN L (k + 1) : Int) ≤ (m : Int) := by omega
                have e2 : (m : Int) < (endN L (k + 1) : Int) := by omega
                clear hend
                go_wp2_with (go_at_call 25; (with_reducible refine (in_Bad _ g' D' _ HI6.out).mono ?_); rintro e w' ⟨rfl, rfl⟩; rw [HNB.out])
                go_roundw
                case rel => exact ⟨k + 1, by go_num, by omega, HI6, HB6⟩
                case measure => simp [intOf]; omega
            · obtain rfl : k = L.length := by omega
              have HNB : Hid ((cutS L m L.length).isNone = true) := hid (by
                rw [cutS_none, endN, List.take_length, HE.out]; simp; omega)
              clear hk hlt
              go_wp2_with (first | (go_at_call 25; (with_reducible refine (in_Bad _ g' D' _ HI.out).mono ?_); rintro e w' ⟨rfl, rfl⟩; rw [HNB.out]) | (go_at_call 22; (with_reducible refine (var_awake _).mono ?_); rintro e w7 ⟨rfl, hb7⟩))
              go_ret
              exact ⟨rfl, below_then HBw.out hb7⟩
end Go.Proofs.Ytdchopckbklncaa
