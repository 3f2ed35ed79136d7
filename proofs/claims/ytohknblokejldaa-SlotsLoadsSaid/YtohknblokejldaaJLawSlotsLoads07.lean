/- Joined texts, in this order: RefInts, VarOuts, Mem2, Ints. Each one's first remark says what it proves; no condition beyond those that its theorems name. -/
import Derived.Test.YtohknblokejldaaJLawSlotsLoads06
import Derived.Test.YtohknblokejldaaJLawSlotsLoads02
import Derived.Test.YtohknblokejldaaJLawSlotsLoads01
import Derived.Test.YtohknblokejldaaProg
section
/- Contract: the reference's Ints. -/
namespace Go.Proofs.Ytohknblokejldaa
open Go.RowKit
open Go.Lib (hid)
set_option linter.unusedVariables false

theorem encs_drop (li : List Int) (i : Nat) (x : Int) (h : li.drop i = x :: li.drop (i + 1)) : encs (li.drop i) = enc (zz x) ++ encs (li.drop (i + 1)) := by
  rw [h, encs]

set_option maxRecDepth 100000 in
set_option maxHeartbeats 1000000 in
/-- the reference's bytes of a list of numbers -/
theorem ref_Ints (li : List Int) (hb : Hid (∀ x ∈ li, -9223372036854775808 ≤ x ∧ x ≤ 9223372036854775807)) (a : Option Addr) (n c : Nat) (hn : n = li.length) (hlen : li.length ≤ 1048576) (w : World) (hr : Rd w a (iv li)) (all : List UInt8) (HALL : Hid (all = enc (zz (li.length : Int)) ++ encs li)) :
    Calls Try.prog 97 #[.slice a n c] w fun e w' => ∃ v, e = .returned v ∧ w'.ownsRow w.heap.size 5 1 v all.length (bv all) ∧ Below w.heap.size w w' := by
  subst hn
  have HR := hid hr
  clear hr
  go_enter Try.func97, Try.ntmps97
  go_wp2_with fail
  refine (ref_Int (li.length : Int) (by omega) (by omega) _).mono ?_
  rintro e w1 ⟨v1, rfl, hown1, hb1⟩
  have HO1 := hid hown1
  have HB1 := hid hb1
  have HL1 := hid (enc_len10 (zz (li.length : Int)) (zz_lt _ (by omega) (by omega)))
  clear hown1 hb1
  go_wp2_with fail
  go_loopw [3, 4] (fun v3 v4 wr => ∃ (i : Nat) (m : List UInt8), v4 = .int .i64 i ∧ i ≤ li.length ∧ wr.ownsRow w.heap.size 5 1 v3 m.length (bv m) ∧ Hid (m ++ encs (li.drop i) = all) ∧ Hid (Below w.heap.size w wr) ∧ Hid (m.length ≤ 10 * (i + 1))) (fun _ v4 _ => li.length - (intOf v4).toNat)
  case atStart => exact ⟨0, _, rfl, by omega, HO1.out, hid (by rw [HALL.out]; simp), HB1, hid (by have := HL1.out; omega)⟩
  case round =>
    obtain ⟨i, m, rfl, hi, hown, hm, hbw, hml⟩ := hrel
    by_cases hil : i < li.length
    · obtain ⟨b, off, x, rfl, hcc, -, hd, -, hmem⟩ := (HR.out.below' hbw.out).int i hil
      obtain ⟨hx1, hx2⟩ := hb.out x hmem
      have HD := hid hd
      have HOWN := hid hown
      clear hd hmem hown
      go_wp2_with fail
      refine (ref_Int x hx1 hx2 _).mono ?_
      rintro e w2 ⟨v2, rfl, hown2, hb2⟩
      obtain ⟨q, hq⟩ : ∃ q, q = enc (zz x) := ⟨_, rfl⟩
      rw [← hq] at hown2
      have hq10 : q.length ≤ 10 := by rw [hq]; exact enc_len10 (zz x) (zz_lt x hx1 hx2)
      obtain ⟨g2, c2, rfl⟩ := Joins.ownsRow_form hown2 (by rw [hq]; exact enc_pos _)
      have HG2 := hid (show wr.heap.size ≤ g2 ∧ g2 < w2.heap.size from hown2.lt g2 rfl)
      have hq2 : Hid (Rd w2 (some ⟨g2, 0, none⟩) (bv q)) := hid (by
        obtain ⟨a', c', e, -, -, h, -⟩ := ownsRow.rd hown2
        simp only [Value.slice.injEq] at e
        rw [e.1]; exact h)
      have HO2 := hid (ownsRow_below HOWN.out hb2)
      have HNE := hid (fun k hk => (HOWN.out.lt k hk).2)
      have HB2 := hid (Below.next hbw.out hb2)
      have HM : Hid (m ++ q ++ encs (li.drop (i + 1)) = all) := hid (by rw [hq, List.append_assoc, ← encs_drop li i x HD.out]; exact hm.out)
      have HML := hid (show m.length + q.length ≤ 10 * (i + 1 + 1) by have := hml.out; omega)
      clear hown2 hb2 hq
      go_wp2_with fail
      go_loopw [3, 6] (fun v3 v6 w3 => ∃ (k : Nat) (m3 : List UInt8), v6 = .int .i64 k ∧ k ≤ q.length ∧ w3.ownsRow w.heap.size 5 1 v3 m3.length (bv m3) ∧ Hid (m3 = m ++ q.take k) ∧ Hid (Below w.heap.size w w3) ∧ Hid (Rd w3 (some ⟨g2, 0, none⟩) (bv q)) ∧ Hid (v3.ownBlock ≠ some g2) ∧ Hid (g2 < w3.heap.size)) (fun _ v6 _ => q.length - (intOf v6).toNat)
      case atStart => exact ⟨0, m, rfl, by omega, HO2.out, hid (by simp), HB2, hq2, hid (fun h => by have := HNE.out _ h; have := HG2.out.1; omega), hid HG2.out.2⟩
      case round =>
        obtain ⟨k, m3, rfl, hk, hown3, hm3, hbw3, hq3, hne3, hg3⟩ := hrel
        by_cases hkq : k < q.length
        · obtain ⟨b', off', y, e', hcc', -, -, htk⟩ := hq3.out.byte k hkq
          simp only [Option.some.injEq, Addr.mk.injEq, and_true] at e'
          obtain ⟨rfl, rfl⟩ := e'
          rw [Nat.zero_add] at hcc'
          have HTK := hid htk
          have HO3 := hid hown3
          have hm3l : m3.length ≤ 10485790 := by
            have := HML.out
            rw [hm3.out]; simp; omega
          have hsz3 := hbw3.out.size
          clear htk hown3
          go_wp2_with (at_builtin; refine wpList_append1w T_bytes _ rfl _ _ #[.int .u8 (y.toNat : Int)] rfl w.heap.size _ _ _ rfl HO3.out rfl rfl ?c1 ?c2 hsz3 ?_)
          case c1 => rfl
          case c2 => omega
          intro v' w4 hown4 hgrow hne hwh
          have hu := Upd.of_grown hgrow
          have HQ4 := hid (hu.rd hq3.out (fun b off e h => by simp at e; obtain ⟨rfl, -⟩ := e; exact hne3.out h))
          have HB4 := hid (hbw3.out.trans (hu.below (B := w.heap.size) hsz3 (fun k _ h => (HO3.out.lt k h).1)))
          have HNE4 := hid (show v'.ownBlock ≠ some g2 from fun h => by rcases hwh _ h with h | h; exact hne3.out h; have := hg3.out; omega)
          have HG4 := hid (Nat.lt_of_lt_of_le hg3.out hu.size)
          have HO4 : Hid (w4.ownsRow w.heap.size 5 1 v' (m3 ++ [y]).length (bv (m3 ++ [y]))) := hid (by rw [bv_append, bv_one]; simpa using hown4)
          clear hown4 hgrow hwh hu
          go_wp2_with fail
          go_roundw
          case rel => exact ⟨k + 1, m3 ++ [y], by go_num, by omega, HO4.out, hid (by rw [hm3.out, HTK.out, List.append_assoc]), HB4, HQ4, HNE4, HG4⟩
          case measure => simp [intOf]; omega
        · have HM3 := hid (show m3 = m ++ q by rw [hm3.out, List.take_of_length_le (by omega)])
          have HO3 := hid hown3
          clear hm3 hown3
          go_wp2_with fail
          go_roundw
          case rel => exact ⟨i + 1, m3, by go_num, by omega, HO3.out, hid (by rw [HM3.out]; exact HM.out), hbw3, hid (by rw [HM3.out]; simpa using HML.out)⟩
          case measure => simp [intOf]; omega
    · have hm2 := hm.out
      rw [List.drop_of_length_le (by omega), encs, List.append_nil] at hm2
      subst hm2
      have HOWN := hid hown
      clear hm hown
      go_wp2_with fail
      go_ret
      exact ⟨_, rfl, HOWN.out, hbw.out⟩
end Go.Proofs.Ytohknblokejldaa
end
section
/- Contracts: Out.Bytes, Out.Ints. -/
namespace Go.Proofs.Ytohknblokejldaa
open Go.RowKit
open Go.Lib (hid)
set_option linter.unusedVariables false

set_option maxRecDepth 100000 in
set_option maxHeartbeats 800000 in
theorem out_Ints (li : List Int) (hbd : Hid (∀ x ∈ li, -9223372036854775808 ≤ x ∧ x ≤ 9223372036854775807)) (a : Option Addr) (n c : Nat) (hn : n = li.length) (hli : li.length ≤ 10000) (g : Nat) (v : Value) (l : List UInt8) (w : World) (h : OutIs w g v l) (hl : l.length ≤ 900000) (hs : Rd w a (iv li))
    (hub : Hid (0 < li.length → ∀ b off, a = some ⟨b, off, none⟩ → b ≠ g ∧ v.ownBlock ≠ some b)) (all : List UInt8) (hall : Hid (all = l ++ enc (zz (li.length : Int)) ++ encs li)) :
    Calls Try.prog 47 #[.pointer (some ⟨g, 0, none⟩), .slice a n c] w fun e w' => ∃ v', e = .returned (.pointer (some ⟨g, 0, none⟩)) ∧ OutIs w' g v' all ∧ OutStep g v v' w w' := by
  subst hn
  have H := hid h
  have HS := hid hs
  clear h hs
  go_enter Try.func47, Try.ntmps47
  go_wp2_with fail
  refine (var_Out_Int (li.length : Int) (by omega) (by omega) g v l w H.out (by omega)).mono ?_
  rintro e w1 ⟨v1, rfl, ho1, hs1, -⟩
  have HS1 := hid hs1
  have HO1 := hid ho1
  have hl10 := enc_len10 (zz (li.length : Int)) (zz_lt _ (by omega) (by omega))
  have HM1 := hid (show (l ++ enc (zz (li.length : Int))).length ≤ l.length + 10 by rw [List.length_append]; omega)
  clear ho1 hs1 hl10
  go_wp2_with fail
  go_loopw [13] (fun v13 wr => ∃ (i : Nat) (v' : Value) (m : List UInt8), v13 = .int .i64 i ∧ i ≤ li.length ∧ Hid (OutIs wr g v' m) ∧ Hid (OutStep g v v' w wr) ∧ Hid (m ++ encs (li.drop i) = all) ∧ Hid (m.length ≤ l.length + 10 * (i + 1))) (fun v13 _ => li.length - (intOf v13).toNat)
  case atStart => exact ⟨0, v1, _, rfl, by omega, HO1, HS1, hid (by rw [hall.out]; simp), hid (by have := HM1.out; omega)⟩
  case round =>
    obtain ⟨i, v', m, rfl, hi, ho, hst, hm, hml⟩ := hrel
    by_cases hil : i < li.length
    · obtain ⟨b, off, x, e, hcc, -, hd, -, hmem⟩ := (hst.out.upd.rd HS.out (fun b off ha hS => by obtain ⟨n1, n2⟩ := hub.out (by omega) b off ha; rcases hS with h | h; exact n1 h; exact n2 h)).int i hil
      obtain ⟨hx1, hx2⟩ := hbd.out x hmem
      have HD := hid hd
      subst e
      have hxl := enc_len10 (zz x) (zz_lt x hx1 hx2)
      have HXL := hid hxl
      clear hd hmem hxl
      go_wp2_with fail
      refine (var_Out_Int x hx1 hx2 g v' m wr ho.out (by have := hml.out; omega)).mono ?_
      rintro e w2 ⟨v2, rfl, ho2, hs2, -⟩
      have HO2 := hid ho2
      have HS2 := hid (hst.out.trans hs2)
      clear ho2 hs2
      go_wp2_with fail
      go_roundw
      case rel => exact ⟨i + 1, v2, _, by go_num, by omega, HO2, HS2, hid (by rw [List.append_assoc, ← encs_drop li i x HD.out]; exact hm.out), hid (by have := hml.out; have := HXL.out; rw [List.length_append]; omega)⟩
      case measure => simp [intOf]; omega
    · have hm2 := hm.out
      rw [List.drop_of_length_le (by omega), encs, List.append_nil] at hm2
      subst hm2
      clear hm
      go_wp2_with fail
      go_ret
      exact ⟨_, rfl, ho.out, hst.out⟩

theorem encs_le : ∀ (li : List Int), (∀ x ∈ li, -9223372036854775808 ≤ x ∧ x ≤ 9223372036854775807) → (encs li).length ≤ 10 * li.length
  | [], _ => by simp [encs]
  | x :: t, h => by
    have := encs_le t (fun y hy => h y (by simp [hy]))
    have hx := h x (by simp)
    have := enc_len10 (zz x) (zz_lt x hx.1 hx.2)
    rw [encs]; simp; omega
theorem inIntsF_encs : ∀ (li acc : List Int) (t : List UInt8), (∀ x ∈ li, -9223372036854775808 ≤ x ∧ x ≤ 9223372036854775807) → inIntsF li.length acc (some (encs li ++ t)) = (acc ++ li, some t)
  | [], acc, t, _ => by simp [inIntsF, encs]
  | x :: r, acc, t, h => by
    have hx := h x (by simp)
    rw [List.length_cons, inIntsF, encs, List.append_assoc, inInt_enc x hx.1 hx.2, if_neg (by simp), inIntsF_encs r _ t (fun y hy => h y (by simp [hy]))]
    simp
theorem inWithin_enc (hi n : Int) (h0 : 0 ≤ n) (h1 : n ≤ hi) (h2 : n ≤ 9223372036854775807) (t : List UInt8) : inWithin 0 hi (some (enc (zz n) ++ t)) = (n, some t) := by
  unfold inWithin
  rw [inInt_enc n (by omega) h2, if_neg (by simp; omega)]
theorem inBytes_enc (hi : Int) (l t : List UInt8) (h1 : (l.length : Int) ≤ hi) (h2 : l.length ≤ 1000) : inBytes hi (some (enc (zz (l.length : Int)) ++ (l ++ t))) = (l, some t) := by
  unfold inBytes
  rw [inWithin_enc hi _ (by omega) h1 (by omega)]
  simp [inTake]
theorem inInts_enc (hi : Int) (li : List Int) (h : ∀ x ∈ li, -9223372036854775808 ≤ x ∧ x ≤ 9223372036854775807) (h1 : (li.length : Int) ≤ hi) (h2 : li.length ≤ 1000) : inInts hi (some (enc (zz (li.length : Int)) ++ encs li)) = (li, some []) := by
  unfold inInts
  rw [inWithin_enc hi _ (by omega) h1 (by omega)]
  have := inIntsF_encs li [] [] h
  simpa using this
end Go.Proofs.Ytohknblokejldaa
end
section
/- append of one element, as an equation on the run; a store into an own row. No program in sight. -/
namespace Go.Proofs.Ytohknblokejldaa
open Go.RowKit
open Go.Lib (hid)
set_option linter.unusedVariables false

theorem run_app1 {P : Program} {t e : TypeId} {z : Value} {size bytes : Nat} (T : SlT P t e z size bytes) (w : World) (ty : TypeId) (base : Nat) (v : Value) (n : Nat) (xs : List Value) (hown : w.ownsRow base e size v n xs)
    (us : Array Value) (hl : us.size = size) (h1 : ∀ u ∈ us.toList, u.oneCell' = true) (hbytes : (n + 1) * bytes ≤ 140737488355328) (hbase : base ≤ w.heap.size) :
    ∃ v' w', (Builtin.append_ #[t, t] ty #[v, .slice (some ⟨w.heap.size, 0, none⟩) 1 1]).run P (w.alloc (.cells us e)) = .ok v' w' ∧ w'.ownsRow base e size v' (n + 1) (xs ++ us.toList) ∧ w.grownBy w' v.ownBlock ∧ v' ≠ .slice none 0 0 ∧
      (∀ k, v'.ownBlock = some k → v.ownBlock = some k ∨ w.heap.size ≤ k) := by
  obtain ⟨i, hi, hz, hsz, hby⟩ := T.info
  have h63 : n + 1 ≤ maxLen := by
    have : (n + 1) * 1 ≤ (n + 1) * bytes := Nat.mul_le_mul_left _ T.bpos
    unfold maxLen; omega
  have hnews : ∀ j u, us.toList[j]? = some u → (w.alloc (.cells us e)).cell? ((⟨w.heap.size, 0, none⟩ : Addr).add j) = some u := by
    intro j u hu
    rw [Addr.add_lit, Nat.zero_add, World.cell?_alloc_new]
    simpa using hu
  obtain ⟨v', w', hr, h2, h3, h4⟩ := run_append_own (P := P) (w.alloc (.cells us e)) base t ty e i z size bytes T.u hi hz hsz hby T.zs T.pos v n xs (hown.alloc _) ⟨w.heap.size, 0, none⟩ 1 1 us.toList (by simpa using hl) hnews h1 h63 hbytes (by simp; omega)
  have hwh := run_append_where (P := P) (w.alloc (.cells us e)) T (hown.alloc _) (by simpa using hl) hnews h1 hbytes hr
  exact ⟨v', w', hr, h2, ⟨h3.os, h3.tape, h3.output, by have := h3.size; simp at this; omega, fun k hk hne => (h3.block k (by simp; omega) hne).trans (Below.heap_alloc w _ k hk)⟩, fun e => by simp [h4] at e,
    fun k hk => by rcases hwh k hk with x | x; exact .inl x; exact .inr (by simp at x; omega)⟩
theorem step_app1 {P : Program} {t e : TypeId} {z : Value} {size bytes : Nat} (T : SlT P t e z size bytes) {W : World} (w : World) {us : Array Value} (hW : W = w.alloc (.cells us e)) {ops : Array Oper} {o : Oper} {a : Act} {K : Act → World → Prop} {Q : Exit → Act → World → Prop} {E : Prop}
    (hgd : o.guard = none) (s x : Operand) (ho : o.op = .call { callee := .builtin .append, args := #[s, x], argTypes := #[t, t] })
    (base : Nat) (v : Value) (n : Nat) (xs : List Value) (hs : a.eval s = v) (hown : w.ownsRow base e size v n xs)
    (hx : a.eval x = .slice (some ⟨w.heap.size, 0, none⟩) 1 1) (hl : us.size = size) (h1 : ∀ u ∈ us.toList, u.oneCell' = true)
    (hbytes : (n + 1) * bytes ≤ 140737488355328) (hbase : base ≤ w.heap.size)
    (h : ∀ v' w', w'.ownsRow base e size v' (n + 1) (xs ++ us.toList) → w.grownBy w' v.ownBlock → v' ≠ .slice none 0 0 → (∀ k, v'.ownBlock = some k → v.ownBlock = some k ∨ w.heap.size ≤ k) → K (a.put o.dst v') w') :
    if Region.wanted o (yielded ops a.tmps) = true then Oper.wp P o a W K Q else E := by
  have hw : Region.wanted o (yielded ops a.tmps) = true := by simp [Region.wanted, hgd]
  rw [if_pos hw]
  subst hW
  obtain ⟨v', w', hr, h2, h3, h4, h5⟩ := run_app1 (P := P) T w o.type base v n xs hown us hl h1 hbytes hbase
  unfold Oper.wp execOp
  simp only [ho, resolve, invoke, builtin, Sem.run_bind, Sem.run_pure, Result.andThen_ok, List.map_toArray, List.map_cons, List.map_nil, hs, hx, hr]
  exact h v' w' h2 h3 h4 h5
/-- []T{..}: a row of the call's own -/
theorem step_lit {P : Program} {W : World} {us : Array Value} {t e : TypeId} {n size : Nat} {parts : Array (Nat × Operand)} {ps : Array (Nat × Value)} {ops : Array Oper} {o : Oper} {a : Act} {K : Act → World → Prop} {Q : Exit → Act → World → Prop} {E : Prop}
    (hgd : o.guard = none) (hop : o.op = .buildSlice t n parts) (hps : (parts.map fun p => (p.1, a.eval p.2)) = ps) (hrun : (Instr.buildSlice t n ps).run P W = .ok (.slice (some ⟨W.heap.size, 0, none⟩) n n) (W.alloc (.cells us e))) (hl : us.size = n * size) (hn : n ≤ 1000)
    (h : ∀ g W', W.heap.size = g → Below W.heap.size W W' → W'.heap.size = g + 1 → W'.ownsRow g e size (.slice (some ⟨g, 0, none⟩) n n) n us.toList → K (a.put o.dst (.slice (some ⟨g, 0, none⟩) n n)) W') :
    if Region.wanted o (yielded ops a.tmps) = true then Oper.wp P o a W K Q else E := by
  have hw : Region.wanted o (yielded ops a.tmps) = true := by simp [Region.wanted, hgd]
  rw [if_pos hw]
  unfold Oper.wp execOp
  simp only [hop]
  have e1 : (parts.map fun (i, x) => (i, a.eval x)) = parts.map fun p => (p.1, a.eval p.2) := rfl
  rw [e1, hps]
  simp [hrun, Result.andThen, Oper.upon]
  exact h _ _ rfl ((Below.refl _ _).alloc (Nat.le_refl _) _) (by simp) ⟨by simpa using hl, .inr ⟨W.heap.size, n, us, rfl, Nat.le_refl _, heap_alloc_new W _, Nat.le_refl _, by unfold maxLen; omega, hl, by rw [List.take_of_length_le (by simp [hl])]⟩⟩
theorem step_appN {P : Program} {t e : TypeId} {z : Value} {size bytes : Nat} (T : SlT P t e z size bytes) {w : World} {ops : Array Oper} {o : Oper} {a : Act} {K : Act → World → Prop} {Q : Exit → Act → World → Prop} {E : Prop}
    (hgd : o.guard = none) (s x : Operand) (ho : o.op = .call { callee := .builtin .append, args := #[s, x], argTypes := #[t, t] })
    (base : Nat) (v : Value) (n : Nat) (xs : List Value) (hs : a.eval s = v) (hown : w.ownsRow base e size v n xs)
    (ao : Option Addr) (m c : Nat) (news : List Value) (hx : a.eval x = .slice ao m c) (hl : news.length = m * size) (hc0 : m = 0 → ao = none → c = 0) (hrd : Rd w ao news) (h1 : ∀ u ∈ news, u.oneCell' = true)
    (hbytes : (n + m) * bytes ≤ 140737488355328) (hbase : base ≤ w.heap.size)
    (h : ∀ v' w', w'.ownsRow base e size v' (n + m) (xs ++ news) → w.grownBy w' v.ownBlock → (v' = .slice none 0 0 ↔ v = .slice none 0 0 ∧ m = 0) → (∀ k, v'.ownBlock = some k → v.ownBlock = some k ∨ w.heap.size ≤ k) → K (a.put o.dst v') w') :
    if Region.wanted o (yielded ops a.tmps) = true then Oper.wp P o a w K Q else E := by
  have hw : Region.wanted o (yielded ops a.tmps) = true := by simp [Region.wanted, hgd]
  rw [if_pos hw]
  obtain ⟨i, hi, hz, hsz, hby⟩ := T.info
  have h63 : n + m ≤ maxLen := by
    have : (n + m) * 1 ≤ (n + m) * bytes := Nat.mul_le_mul_left _ T.bpos
    unfold maxLen; omega
  cases ao with
  | some ad =>
    have hnews : ∀ j u, news[j]? = some u → w.cell? (ad.add j) = some u := by
      intro j u hu
      obtain ⟨b, off, had, hc⟩ := hrd j (by have := (List.getElem?_eq_some_iff.1 hu).1; exact this)
      obtain rfl := Option.some.inj had
      rw [Addr.add_lit, hc, hu]
    obtain ⟨v', w', hr, h2, h3, h4⟩ := run_append_own (P := P) w base t o.type e i z size bytes T.u hi hz hsz hby T.zs T.pos v n xs hown ad m c news hl hnews h1 h63 hbytes hbase
    have hwh := run_append_where (P := P) w T hown hl hnews h1 hbytes hr
    unfold Oper.wp execOp
    simp only [ho, resolve, invoke, builtin, Sem.run_bind, Sem.run_pure, Result.andThen_ok, List.map_toArray, List.map_cons, List.map_nil, hs, hx, hr]
    exact h v' w' h2 h3 h4 hwh
  | none =>
    have hn : news = [] := by
      cases news with
      | nil => rfl
      | cons y ys => obtain ⟨b, off, had, _⟩ := hrd 0 (by simp); cases had
    subst hn
    have hm0 : m = 0 := by
      have := T.pos
      simp only [List.length_nil] at hl
      rcases Nat.eq_zero_or_pos m with h | h
      · exact h
      · have := Nat.mul_pos h T.pos; omega
    subst hm0
    obtain rfl := hc0 rfl rfl
    have hrun := run_append_owned_none (P := P) w base t o.type e i size T.u hi v n xs hown
    unfold Oper.wp
    simp [execOp, ho, resolve, invoke, builtin, hs, hx, hrun, Result.andThen, Oper.upon]
    exact h v w (by simpa using hown) (World.grownBy.refl _ _) (by simp) (fun k hk => .inl hk)
theorem step_make {P : Program} {t e : TypeId} {z : Value} {bytes : Nat} (T : SlT P t e z 1 bytes) (hzc : z.cells = #[z]) {w : World} {ops : Array Oper} {o : Oper} {a : Act} {K : Act → World → Prop} {Q : Exit → Act → World → Prop} {E : Prop}
    (hg : o.guard = none) (l c : Operand) (hop : o.op = Op.makeSlice t l c) (base : Nat) (kl kc : IntKind) (L C : Int) (n m : Nat) (hl : a.eval l = .int kl L) (hc : a.eval c = .int kc C) (hL : L = (n : Int)) (hC : C = (m : Int)) (hnm : n ≤ m)
    (b2 : bytes * m ≤ 281474976710656) (b4 : base ≤ w.heap.size)
    (hK : ∀ g w', w.heap.size = g → w'.ownsRow base e 1 (.slice (some ⟨g, 0, none⟩) n m) n (List.replicate n z) → Below w.heap.size w w' → w'.heap.size = g + 1 → K (a.put o.dst (.slice (some ⟨g, 0, none⟩) n m)) w') :
    if Region.wanted o (yielded ops a.tmps) = true then Oper.wp P o a w K Q else E := by
  have hw : Region.wanted o (yielded ops a.tmps) = true := by simp [Region.wanted, hg]
  rw [if_pos hw]
  obtain ⟨i, hi, hz, hsz, hby⟩ := T.info
  have hm : m ≤ maxLen := by
    have : 1 * m ≤ bytes * m := Nat.mul_le_mul_right _ T.bpos
    unfold maxLen; omega
  have hb' : (i.bytes : Int) * (m : Int) ≤ 281474976710656 := by
    have h : ((i.bytes * m : Nat) : Int) ≤ 281474976710656 := by rw [hby]; omega
    rwa [Int.natCast_mul] at h
  have hr := run_make (P := P) w t e i z T.u hi hz kl kc n m (by omega) (by omega) hb' (by unfold maxLen at hm; omega)
  simp only [Int.toNat_natCast] at hr
  subst hL
  subst hC
  unfold Oper.wp
  simp [execOp, hop, hl, hc, hr, Result.andThen, Oper.upon]
  refine hK _ _ rfl ?_ ((Below.refl _ _).alloc (Nat.le_refl _) _) (by simp)
  rw [hsz, Nat.mul_one]
  refine ⟨by simp, .inr ⟨w.heap.size, m, _, rfl, b4, heap_alloc_new w _, hnm, hm, by simp [size_madeCells], ?_⟩⟩
  rw [hzc, toList_madeCells_one]
  simp [hnm]
theorem owns_below {w w' : World} {base : Nat} {e : TypeId} {v : Value} {n : Nat} {xs : List Value} {size : Nat} (h : w.ownsRow base e size v n xs) (hb : Below w.heap.size w w') : w'.ownsRow base e size v n xs :=
  Upd.owns (S := fun _ => False) (Upd.of_below hb) h (fun _ _ x => x)
theorem Upd.new {S : Nat → Prop} {w w' : World} (h : Upd S w w') (o : Obj) : Upd S w (w'.alloc o) := h.trans (Upd.of_below (S := fun _ => False) ((Below.refl _ _).alloc (Nat.le_refl _) o)) (fun _ _ x => x.elim)
theorem Upd.drew {S : Nat → Prop} {w w' : World} (h : Upd S w w') : Upd S w w'.drew := ⟨h.os, h.tape, h.output, h.size, h.block⟩
theorem Upd.drewN {S : Nat → Prop} {w w' : World} (h : Upd S w w') (n : Nat) : Upd S w (w'.drewN n) := ⟨h.os, h.tape, h.output, h.size, h.block⟩
end Go.Proofs.Ytohknblokejldaa
end
section
/- Contracts: slices of numbers: Index, Contains. -/
namespace Go.Proofs.Ytohknblokejldaa
open Go.RowKit
open Go.Lib (hid)
set_option linter.unusedVariables false

/-- the slice reads as the list of numbers -/
def SlI (w : World) (v : Value) (l : List Int) : Prop := ∃ a c, v = .slice a l.length c ∧ Rd w a (l.map (.int .i64)) ∧ l.length ≤ c ∧ c ≤ 9223372036854775807 ∧ (a = none → c = 0)
theorem SlI.nil (w : World) : SlI w (.slice none 0 0) [] := ⟨none, 0, rfl, Rd.nil _ _, by simp, by omega, fun _ => rfl⟩
theorem SlI.below {w w' : World} {v : Value} {l : List Int} (h : SlI w v l) (hb : Below w.heap.size w w') : SlI w' v l := by
  obtain ⟨a, c, rfl, h2, h3⟩ := h
  exact ⟨a, c, rfl, h2.below' hb, h3⟩
theorem SlI.upd {S : Nat → Prop} {w w' : World} {v : Value} {l : List Int} (h : SlI w v l) (hu : Upd S w w') (hn : ∀ k, v.ownBlock = some k → ¬ S k) : SlI w' v l := by
  obtain ⟨a, c, rfl, h2, h3⟩ := h
  exact ⟨a, c, rfl, hu.rd h2 (fun b off e => hn _ (by rw [e]; rfl)), h3⟩
theorem SlI.of_own {w : World} {base : Nat} {e : TypeId} {v : Value} {l : List Int} (h : w.ownsRow base e 1 v l.length (l.map (.int .i64))) : SlI w v l := by
  obtain ⟨a, cap, rfl, h1, h2, hr, h3⟩ := ownsRow.rd h
  exact ⟨a, cap, rfl, hr, h1, by unfold maxLen at h2; omega, h3⟩
/-- an incoming slice of numbers -/
theorem sli_of_row {w : World} {a : Option Addr} {len cap : Nat} {zs : List Int}
    (h : (a = none ∧ len = 0 ∧ cap = 0 ∧ zs = []) ∨
      ∃ x, a = some x ∧ len ≤ cap ∧ cap ≤ maxLen ∧ zs.length = cap ∧ (∀ i, i < zs.length → w.cell? (x.add i) = some (.int .i64 (zs.getD i 0))) ∧ ∀ n ∈ zs, (Lit.int .i64 n).wf = true) :
    ∃ l : List Int, len = l.length ∧ SlI w (.slice a len cap) l ∧ ∀ n ∈ l, (Lit.int .i64 n).wf = true := by
  obtain ⟨ys, rfl, h1, h2, h3, h4, h5, h6⟩ := Rd.of_row h
  exact ⟨ys, rfl, ⟨a, cap, rfl, h2, h4, h5, h6⟩, h3⟩

def idxF : List Int → Int → Nat → Int
  | [], _, _ => -1
  | y :: l, x, k => if x = y then (k : Int) else idxF l x (k + 1)
theorem idxF_mem : ∀ (l : List Int) (x : Int) (k : Nat), (0 ≤ idxF l x k) ↔ x ∈ l
  | [], x, k => by simp [idxF]
  | y :: l, x, k => by
    rw [idxF]
    by_cases h : x = y
    · rw [if_pos h]; simp [h]
    · rw [if_neg h, idxF_mem l x (k + 1)]; simp [h]
theorem sl_Index (l : List Int) (v : Value) (x : Int) (w : World) (hs : SlI w v l) (r : Int) (hr : Hid (idxF l x 0 = r)) :
    Calls Try.prog 104 #[v, .int .i64 x] w fun e w' => e = .returned (.int .i64 r) ∧ w = w' := by
  obtain ⟨a, c, rfl, hrd, h3, h4, h5⟩ := hs
  have h64 : l.length ≤ 9223372036854775807 := by omega
  clear h3 h4 h5
  go_enter Try.func104, Try.ntmps104
  go_wp2
  go_loop [8] (fun v8 => ∃ (k : Nat), v8 = .int .i64 k ∧ k ≤ l.length ∧ Hid (idxF (l.drop k) x k = r)) (fun v8 => l.length - (intOf v8).toNat)
  case atStart => exact ⟨0, rfl, by omega, hr⟩
  case round =>
    obtain ⟨k, rfl, hk, hsum⟩ := hrel
    by_cases hlt : k < l.length
    · obtain ⟨b, off, y, rfl, hc, -, hd, -, -⟩ := hrd.int k hlt
      have h1 := hsum.out
      rw [hd, idxF] at h1
      by_cases hx : x = y
      · rw [if_pos hx] at h1
        subst hx
        subst h1
        clear hd
        go_wp2
        go_ret
        exact ⟨rfl, rfl⟩
      · rw [if_neg hx] at h1
        have H1 := hid h1
        have hxb : (x == y) = false := by simpa using hx
        clear hd h1
        go_wp2
        go_round
        case rel => exact ⟨k + 1, by go_num, by omega, H1⟩
        case measure => simp [intOf]; omega
    · have h1 := hsum.out
      rw [List.drop_of_length_le (by omega), idxF] at h1
      subst h1
      go_wp2
      go_ret
      exact ⟨rfl, rfl⟩
theorem sl_Contains (l : List Int) (v : Value) (x : Int) (w : World) (hs : SlI w v l) (b : Bool) (hb : Hid (decide (x ∈ l) = b)) :
    Calls Try.prog 67 #[v, .int .i64 x] w fun e w' => e = .returned (.bool b) ∧ w = w' := by
  obtain ⟨r, hr⟩ : ∃ r, idxF l x 0 = r := ⟨_, rfl⟩
  have hm := idxF_mem l x 0
  rw [hr] at hm
  have HR := hid hr
  have hb2 : decide (0 ≤ r) = b := by rw [← hb.out]; simp only [hm]
  have HB := hid hb2
  have HS := hid hs
  clear hr hm hs hb2
  go_enter Try.func67, Try.ntmps67
  go_wp2_with (go_at_call 104; (with_reducible refine (sl_Index l v x _ HS.out r HR).mono ?_); rintro e w' ⟨rfl, rfl⟩)
  go_ret
  exact ⟨by rw [← HB.out]; simp, rfl⟩
end Go.Proofs.Ytohknblokejldaa
end
