/- Joined texts, in this order: Concat, Ints. Each one's first remark says what it proves; no condition beyond those that its theorems name. -/
import Derived.Test.YtohknblokejldaaJLawDiskCopies01
import Derived.Test.YtohknblokejldaaJLawDiskCopies03
import Derived.Test.YtohknblokejldaaProg
section
/- Contracts: slices.Grow of nothing, slices.Concat of two slices of bytes. -/
namespace Go.Proofs.Ytohknblokejldaa
open Go.RowKit
open Go.Lib (hid)
set_option linter.unusedVariables false

/-- append(nil, make([]byte, n)...) -/
theorem run_appZ (w : World) (n : Nat) (h0 : 0 < n) (hn : n ≤ 1000000) (ty : TypeId) : ∃ c w', (Builtin.append_ #[27, 3] ty #[.slice none 0 0, .int .i64 (n : Int)]).run Try.prog w = .ok (.slice (some ⟨w.heap.size, 0, none⟩) n c) w' ∧
    w'.ownsRow w.heap.size 5 1 (.slice (some ⟨w.heap.size, 0, none⟩) 0 c) 0 [] ∧ Below w.heap.size w w' ∧ n ≤ c ∧ c ≤ 9223372036854775807 := by
  obtain ⟨i, hi, hz, hsz, hby⟩ := T_bytes.info
  have hn' : n ≠ 0 := by omega
  have hw : IntKind.i64.wrap (n : Int) = (n : Int) := by rw [IntKind.wrap_i64]; omega
  have e1 : ¬ ((n : Int) < 0) := by omega
  have e2 : ¬ (281474976710656 < (n : Int) * (i.bytes : Int)) := by rw [hby]; omega
  have h63' : ¬ (9223372036854775807 < (n : Int)) := by omega
  have h48' : ¬ (281474976710656 < Builtin.nextslicecap n 0 * i.bytes) := by rw [nextslicecap_zero h0, hby]; omega
  have hge := grownCap_ge w n 0 5
  have hle := grownCap_le_maxLen w n 0 5 (by unfold maxLen; omega)
  refine ⟨grownCap w n 0 5, w.drew.alloc (.cells (Builtin.zeroCells (Value.int .u8 0).cells n ++ Builtin.zeroCells (Value.int .u8 0).cells (grownCap w n 0 5 - n)) 5), ?_, ?_, ?_, hge, by unfold maxLen at hle; exact hle⟩
  · simp [Builtin.append_, run_underlying Try.underlying27, run_underlying Try.underlying3, sizeOf, typeInfo, zeroValue, hi, hz, hw, e1, e2, asInt, asIntOf, hn', h63', h48', Question.forced, run_firstCells_none, newRow, grownCap, hsz]
  · refine ⟨by simp, .inr ⟨w.heap.size, grownCap w n 0 5, _, rfl, Nat.le_refl _, heap_alloc_new w.drew _, Nat.zero_le _, hle, ?_, by simp⟩⟩
    have : (Value.int .u8 0).cells.size = 1 := rfl
    simp only [Array.size_append, size_zeroCells, this]; omega
  · exact ((Below.refl _ _).drew).alloc (Nat.le_refl _) _
theorem wpList_appZ (w : World) {ops : Array Oper} {rest : List Oper} {o : Oper} {a : Act} {Q : Exit → Act → World → Prop} (hg : o.guard = none) (s x : Operand) (hop : o.op = .call { callee := .builtin .append, args := #[s, x], argTypes := #[27, 3] })
    (n : Nat) (h0 : 0 < n) (hn : n ≤ 1000000) (hs : a.eval s = .slice none 0 0) (hx : a.eval x = .int .i64 (n : Int))
    (hK : ∀ c w', w'.ownsRow w.heap.size 5 1 (.slice (some ⟨w.heap.size, 0, none⟩) 0 c) 0 [] → Below w.heap.size w w' → n ≤ c → c ≤ 9223372036854775807 → wpList Try.prog ops Q rest (a.put o.dst (.slice (some ⟨w.heap.size, 0, none⟩) n c)) w') : wpList Try.prog ops Q (o :: rest) a w := by
  refine wpList_plain hg fun K' hK' => ?_
  obtain ⟨c, w', hrun, h1, h2, h3, h4⟩ := run_appZ w n h0 hn o.type
  unfold Oper.wp execOp
  simp only [hop, resolve, invoke, builtin, Sem.run_bind, Sem.run_pure, Result.andThen_ok, List.map_toArray, List.map_cons, List.map_nil, hs, hx, hrun]
  exact hK' _ _ (hK c w' h1 h2 h3 h4)

theorem sl_Grow_nil (n : Nat) (h0 : 0 < n) (hn : n ≤ 1000000) (w : World) : Calls Try.prog 105 #[.slice none 0 0, .int .i64 (n : Int)] w fun e w' => ∃ v, e = .returned v ∧ w'.ownsRow w.heap.size 5 1 v 0 [] ∧ Below w.heap.size w w' := by
  have e1 : (0 : Int) < (n : Int) := by omega
  have e2 : ¬ (n : Int) < 0 := by omega
  go_enter Try.func105, Try.ntmps105
  go_wp2_with (at_builtin; refine wpList_appZ _ rfl _ _ rfl n h0 hn rfl rfl ?_; intro c w' hown hb hc1 hc2)
  go_ret
  exact ⟨_, rfl, hown, hb⟩

set_option maxRecDepth 100000 in
set_option maxHeartbeats 1000000 in
theorem sl_Concat2 (l1 l2 : List UInt8) (v1 v2 : Value) (gq : Nat) (w : World) (hq : Blk w gq #[v1, v2]) (h1 : SlB w v1 l1) (h2 : SlB w v2 l2) (h0 : 0 < l1.length + l2.length) (hn : l1.length + l2.length ≤ 1000000) :
    Calls Try.prog 68 #[.slice (some ⟨gq, 0, none⟩) 2 2] w fun e w' => ∃ v, e = .returned v ∧ w'.ownsRow w.heap.size 5 1 v (l1 ++ l2).length (bv (l1 ++ l2)) ∧ Below w.heap.size w w' := by
  have HQ := hid hq
  have H1 := hid h1
  have H2 := hid h2
  obtain ⟨a1, c1, rfl, -⟩ := h1
  obtain ⟨a2, c2, rfl, -⟩ := h2
  have q0 : w.cell? ⟨gq, 0, none⟩ = some (.slice a1 l1.length c1) := by rw [hq.cell]; rfl
  have q1 : w.cell? ⟨gq, 1, none⟩ = some (.slice a2 l2.length c2) := by rw [hq.cell]; rfl
  obtain ⟨n, hnn⟩ : ∃ n, n = l1.length + l2.length := ⟨_, rfl⟩
  have HN := hid hnn
  have f1 : (l1.length : Int) ≤ 1000000 := by omega
  have f2 : (l2.length : Int) ≤ 1000000 := by omega
  have f3 : (l1.length : Int) + (l2.length : Int) = (n : Int) := by omega
  have hn' : n ≤ 1000000 := by omega
  have h0' : 0 < n := by omega
  have F3 := hid f3
  clear hq hnn f3 hn h0
  go_enter Try.func68, Try.ntmps68
  go_wp2_with fail
  go_loop [3, 11] (fun v3 v11 => (v11 = .int .i64 0 ∧ v3 = .int .i64 0) ∨ (v11 = .int .i64 1 ∧ v3 = .int .i64 (l1.length : Int)) ∨ (v11 = .int .i64 2 ∧ v3 = .int .i64 (n : Int))) (fun _ v11 => (2 - intOf v11).toNat)
  case atStart => exact .inl ⟨rfl, rfl⟩
  case round =>
    rcases hrel with ⟨rfl, rfl⟩ | ⟨rfl, rfl⟩ | ⟨rfl, rfl⟩
    · have g1 : ¬ (l1.length : Int) < 0 := by omega
      go_wp2_with fail
      go_round
      case rel => exact .inr (.inl ⟨rfl, by simp⟩)
      case measure => simp [intOf]
    · have g1 : ¬ (l1.length : Int) + (l2.length : Int) < 0 := by omega
      go_wp2_with fail
      go_round
      case rel => exact .inr (.inr ⟨rfl, by rw [F3.out]⟩)
      case measure => simp [intOf]
    · go_wp2_with (go_at_call 105; (with_reducible refine (sl_Grow_nil n h0' hn' _).mono ?_); rintro e w1 ⟨v1, rfl, hown1, hb1⟩)
      have HOWN1 := hid hown1
      have HB1 := hid hb1
      clear hown1 hb1
      have HQ1 := hid (HQ.out.below HB1.out)
      go_loopw [6, 27] (fun v6 v27 wr => (v27 = .int .i64 0 ∧ Hid (wr.ownsRow w.heap.size 5 1 v6 0 []) ∧ Hid (Below w.heap.size w wr)) ∨ (v27 = .int .i64 1 ∧ Hid (wr.ownsRow w.heap.size 5 1 v6 l1.length (bv l1)) ∧ Hid (Below w.heap.size w wr)) ∨
        (v27 = .int .i64 2 ∧ Hid (wr.ownsRow w.heap.size 5 1 v6 (l1 ++ l2).length (bv (l1 ++ l2))) ∧ Hid (Below w.heap.size w wr))) (fun _ v27 _ => (2 - intOf v27).toNat)
      case atStart => exact .inl ⟨rfl, HOWN1, HB1⟩
      case round =>
        have hb : Hid (Below w.heap.size w wr) := by rcases hrel with q | q | q <;> exact q.2.2
        have r0 : wr.cell? ⟨gq, 0, none⟩ = some (.slice a1 l1.length c1) := by rw [(HQ.out.below hb.out).cell]; rfl
        have r1 : wr.cell? ⟨gq, 1, none⟩ = some (.slice a2 l2.length c2) := by rw [(HQ.out.below hb.out).cell]; rfl
        have hsz := hb.out.size
        have hlen : l1.length + l2.length ≤ 1000000 := by have := HN.out; omega
        rcases hrel with ⟨rfl, HO, -⟩ | ⟨rfl, HO, -⟩ | ⟨rfl, HO, -⟩
        · skip
          have HR : Hid (Rd wr a1 (bv l1) ∧ (a1 = none → c1 = 0)) := hid (by
            obtain ⟨aa, cc, ee, -, j1, -, -, j2⟩ := H1.out.below hb.out
            simp only [Value.slice.injEq] at ee
            obtain ⟨rfl, -, rfl⟩ := ee
            exact ⟨j1, j2⟩)
          go_wp2_with (at_builtin; refine wpList_appendNw T_bytes _ rfl _ _ rfl w.heap.size _ _ _ rfl HO.out a1 l1.length c1 (bv l1) rfl ?c1 (fun _ => HR.out.2) HR.out.1 (bv_oneCell l1) ?c2 ?c3 ?_)
          case c1 => simp [bv_length]
          case c2 => omega
          all_goals try exact hsz
          intro v' w2 hown2 hg2 hnil2 hwh2
          have HO2 : Hid (w2.ownsRow w.heap.size 5 1 v' l1.length (bv l1)) := hid (by simpa using hown2)
          have HB2 : Hid (Below w.heap.size w w2) := hid (hb.out.grown hg2 hsz (fun j hj => (HO.out.lt j hj).1))
          clear hown2 hg2 hnil2 hwh2
          go_wp2_with fail
          go_roundw
          case rel => exact .inr (.inl ⟨rfl, HO2, HB2⟩)
          case measure => simp [intOf]
        · skip
          have HR : Hid (Rd wr a2 (bv l2) ∧ (a2 = none → c2 = 0)) := hid (by
            obtain ⟨aa, cc, ee, -, j1, -, -, j2⟩ := H2.out.below hb.out
            simp only [Value.slice.injEq] at ee
            obtain ⟨rfl, -, rfl⟩ := ee
            exact ⟨j1, j2⟩)
          go_wp2_with (at_builtin; refine wpList_appendNw T_bytes _ rfl _ _ rfl w.heap.size _ _ _ rfl HO.out a2 l2.length c2 (bv l2) rfl ?c1 (fun _ => HR.out.2) HR.out.1 (bv_oneCell l2) ?c2 ?c3 ?_)
          case c1 => simp [bv_length]
          case c2 => omega
          all_goals try exact hsz
          intro v' w2 hown2 hg2 hnil2 hwh2
          have HO2 : Hid (w2.ownsRow w.heap.size 5 1 v' (l1 ++ l2).length (bv (l1 ++ l2))) := hid (by rw [List.length_append, bv_append]; exact hown2)
          have HB2 : Hid (Below w.heap.size w w2) := hid (hb.out.grown hg2 hsz (fun j hj => (HO.out.lt j hj).1))
          clear hown2 hg2 hnil2 hwh2
          go_wp2_with fail
          go_roundw
          case rel => exact .inr (.inr ⟨rfl, HO2, HB2⟩)
          case measure => simp [intOf]
        · skip
          go_wp2_with fail
          go_ret
          exact ⟨_, rfl, HO.out, hb.out⟩
end Go.Proofs.Ytohknblokejldaa
end
section
/- Contracts: slices of numbers: Index, Contains. -/
namespace Go.Proofs.Ytohknblokejldaa
open Go.RowKit
open Go.Lib (hid)
set_option linter.unusedVariables false

/-- the slice reads as the list of numbers -/
def SlI (w : World) (v : Value) (l : List Int) : Prop := ∃ a c, v = .slice a l.length c ∧ Rd w a (l.map (.int .i64)) ∧ l.length ≤ c ∧ c ≤ 9223372036854775807 ∧ (a = none → c = 0)
theorem SlI.nil (w : World) : SlI w (.slice none 0 0) [] := ⟨none, 0, rfl, Rd.nil _ _, by simp, by omega, fun _ => rfl⟩
theorem SlI.below {w w' : World} {v : Value} {l : List Int} (h : SlI w v l) (hb : Below w.heap.size w w') : SlI w' v l := by
  obtain ⟨a, c, rfl, h2, h3⟩ := h
  exact ⟨a, c, rfl, h2.below' hb, h3⟩
theorem SlI.upd {S : Nat → Prop} {w w' : World} {v : Value} {l : List Int} (h : SlI w v l) (hu : Upd S w w') (hn : ∀ k, v.ownBlock = some k → ¬ S k) : SlI w' v l := by
  obtain ⟨a, c, rfl, h2, h3⟩ := h
  exact ⟨a, c, rfl, hu.rd h2 (fun b off e => hn _ (by rw [e]; rfl)), h3⟩
theorem SlI.of_own {w : World} {base : Nat} {e : TypeId} {v : Value} {l : List Int} (h : w.ownsRow base e 1 v l.length (l.map (.int .i64))) : SlI w v l := by
  obtain ⟨a, cap, rfl, h1, h2, hr, h3⟩ := ownsRow.rd h
  exact ⟨a, cap, rfl, hr, h1, by unfold maxLen at h2; omega, h3⟩
/-- an incoming slice of numbers -/
theorem sli_of_row {w : World} {a : Option Addr} {len cap : Nat} {zs : List Int}
    (h : (a = none ∧ len = 0 ∧ cap = 0 ∧ zs = []) ∨
      ∃ x, a = some x ∧ len ≤ cap ∧ cap ≤ maxLen ∧ zs.length = cap ∧ (∀ i, i < zs.length → w.cell? (x.add i) = some (.int .i64 (zs.getD i 0))) ∧ ∀ n ∈ zs, (Lit.int .i64 n).wf = true) :
    ∃ l : List Int, len = l.length ∧ SlI w (.slice a len cap) l ∧ ∀ n ∈ l, (Lit.int .i64 n).wf = true := by
  obtain ⟨ys, rfl, h1, h2, h3, h4, h5, h6⟩ := Rd.of_row h
  exact ⟨ys, rfl, ⟨a, cap, rfl, h2, h4, h5, h6⟩, h3⟩

def idxF : List Int → Int → Nat → Int
  | [], _, _ => -1
  | y :: l, x, k => if x = y then (k : Int) else idxF l x (k + 1)
theorem idxF_mem : ∀ (l : List Int) (x : Int) (k : Nat), (0 ≤ idxF l x k) ↔ x ∈ l
  | [], x, k => by simp [idxF]
  | y :: l, x, k => by
    rw [idxF]
    by_cases h : x = y
    · rw [if_pos h]; simp [h]
    · rw [if_neg h, idxF_mem l x (k + 1)]; simp [h]
theorem sl_Index (l : List Int) (v : Value) (x : Int) (w : World) (hs : SlI w v l) (r : Int) (hr : Hid (idxF l x 0 = r)) :
    Calls Try.prog 104 #[v, .int .i64 x] w fun e w' => e = .returned (.int .i64 r) ∧ w = w' := by
  obtain ⟨a, c, rfl, hrd, h3, h4, h5⟩ := hs
  have h64 : l.length ≤ 9223372036854775807 := by omega
  clear h3 h4 h5
  go_enter Try.func104, Try.ntmps104
  go_wp2
  go_loop [8] (fun v8 => ∃ (k : Nat), v8 = .int .i64 k ∧ k ≤ l.length ∧ Hid (idxF (l.drop k) x k = r)) (fun v8 => l.length - (intOf v8).toNat)
  case atStart => exact ⟨0, rfl, by omega, hr⟩
  case round =>
    obtain ⟨k, rfl, hk, hsum⟩ := hrel
    by_cases hlt : k < l.length
    · obtain ⟨b, off, y, rfl, hc, -, hd, -, -⟩ := hrd.int k hlt
      have h1 := hsum.out
      rw [hd, idxF] at h1
      by_cases hx : x = y
      · rw [if_pos hx] at h1
        subst hx
        subst h1
        clear hd
        go_wp2
        go_ret
        exact ⟨rfl, rfl⟩
      · rw [if_neg hx] at h1
        have H1 := hid h1
        have hxb : (x == y) = false := by simpa using hx
        clear hd h1
        go_wp2
        go_round
        case rel => exact ⟨k + 1, by go_num, by omega, H1⟩
        case measure => simp [intOf]; omega
    · have h1 := hsum.out
      rw [List.drop_of_length_le (by omega), idxF] at h1
      subst h1
      go_wp2
      go_ret
      exact ⟨rfl, rfl⟩
theorem sl_Contains (l : List Int) (v : Value) (x : Int) (w : World) (hs : SlI w v l) (b : Bool) (hb : Hid (decide (x ∈ l) = b)) :
    Calls Try.prog 67 #[v, .int .i64 x] w fun e w' => e = .returned (.bool b) ∧ w = w' := by
  obtain ⟨r, hr⟩ : ∃ r, idxF l x 0 = r := ⟨_, rfl⟩
  have hm := idxF_mem l x 0
  rw [hr] at hm
  have HR := hid hr
  have hb2 : decide (0 ≤ r) = b := by rw [← hb.out]; simp only [hm]
  have HB := hid hb2
  have HS := hid hs
  clear hr hm hs hb2
  go_enter Try.func67, Try.ntmps67
  go_wp2_with (go_at_call 104; (with_reducible refine (sl_Index l v x _ HS.out r HR).mono ?_); rintro e w' ⟨rfl, rfl⟩)
  go_ret
  exact ⟨by rw [← HB.out]; simp, rfl⟩
end Go.Proofs.Ytohknblokejldaa
end
