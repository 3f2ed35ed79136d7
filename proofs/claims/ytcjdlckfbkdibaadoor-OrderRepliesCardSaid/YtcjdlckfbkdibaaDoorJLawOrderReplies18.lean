/- Joined texts, in this order: VarTell. Each one's first remark says what it proves; no condition beyond those that its theorems name. -/
import Derived.Test.YtcjdlckfbkdibaaDoorJLawOrderReplies10
import Derived.Test.YtcjdlckfbkdibaaDoorJLawOrderReplies09
import Derived.Test.YtcjdlckfbkdibaaDoorJLawOrderReplies02
import Derived.Lib.ConvBytes
section
/- Contracts: Out.Text, Out.Bool, the reference's Bytes. -/
namespace Go.Proofs.YtcjdlckfbkdibaaDoor
open Go.RowKit
open Go.Lib (hid)
set_option linter.unusedVariables false

/-- []byte(s) -/
theorem run_strB (w : World) (l : List UInt8) (hl : l.length ≤ 1000000) : ∃ c w', (convert 9 28 (.string ⟨l.toArray⟩)).run Tryd.prog w = .ok (.slice (some ⟨w.heap.size, 0, none⟩) l.length c) w' ∧
    SlB w' (.slice (some ⟨w.heap.size, 0, none⟩) l.length c) l ∧ Below w.heap.size w w' ∧ w'.heap.size = w.heap.size + 1 := by
  have hr := Lib.run_convert_string_bytes (P := Tryd.prog) w 9 28 5 ⟨l.toArray⟩ Tryd.underlying9 Tryd.underlying28 Tryd.underlying5
  have hsz : (⟨l.toArray⟩ : ByteArray).size = l.length := by simp [ByteArray.size]
  rw [hsz] at hr
  have hb : Below w.heap.size w (Lib.bytesWorld w 5 ⟨l.toArray⟩) := ⟨rfl, rfl, rfl, by rw [Lib.bytesWorld_size]; omega, fun k hk => Lib.bytesWorld_at_old w 5 ⟨l.toArray⟩ k hk⟩
  refine ⟨_, _, hr, ⟨_, _, rfl, by omega, ?_, grownCap_ge w l.length 0 5, ?_, nofun⟩, hb, Lib.bytesWorld_size _ _ _⟩
  · intro i hi
    rw [bv_length] at hi
    refine ⟨w.heap.size, 0, rfl, ?_⟩
    rw [Nat.zero_add, Lib.bytesWorld_cell w 5 ⟨l.toArray⟩ i (by rw [hsz]; exact hi)]
    simp [bv, hi, List.getD]
  · have := grownCap_le_maxLen w l.length 0 5 (by unfold maxLen; omega)
    unfold maxLen at this; exact this
theorem wpList_strB (w : World) {ops : Array Oper} {rest : List Oper} {o : Oper} {a : Act} {Q : Exit → Act → World → Prop} (hg : o.guard = none) (x : Operand) (hop : o.op = Op.convert 9 28 x) (l : List UInt8) (hl : l.length ≤ 1000000) (hx : a.eval x = .string ⟨l.toArray⟩)
    (hK : ∀ c w', SlB w' (.slice (some ⟨w.heap.size, 0, none⟩) l.length c) l → Below w.heap.size w w' → w'.heap.size = w.heap.size + 1 → wpList Tryd.prog ops Q rest (a.put o.dst (.slice (some ⟨w.heap.size, 0, none⟩) l.length c)) w') : wpList Tryd.prog ops Q (o :: rest) a w := by
  refine wpList_plain hg fun K' hK' => ?_
  obtain ⟨c, w', hrun, h1, h2, h3⟩ := run_strB w l hl
  unfold Oper.wp
  simp [execOp, hop, hx, hrun, Result.andThen]
  exact hK' _ _ (hK c w' h1 h2 h3)

set_option maxRecDepth 100000 in
theorem out_Text (lb : List UInt8) (hlb : lb.length ≤ 40000) (g : Nat) (v : Value) (l : List UInt8) (w : World) (h : OutIs w g v l) (hl : l.length ≤ 900000) (all : List UInt8) (hall : Hid (all = l ++ enc (zz (lb.length : Int)) ++ lb)) :
    Calls Tryd.prog 61 #[.pointer (some ⟨g, 0, none⟩), .string ⟨lb.toArray⟩] w fun e w' => ∃ v', e = .returned (.pointer (some ⟨g, 0, none⟩)) ∧ OutIs w' g v' all ∧ OutStep g v v' w w' := by
  have H := hid h
  clear h
  go_enter Tryd.func61, Tryd.ntmps61
  go_wp2_with (with_reducible refine wpList_strB _ rfl (.tmp 6) rfl lb (by omega) rfl ?_)
  intro c w1 hs hb hz
  have HS := hid hs
  have HB := hid hb
  clear hs hb
  go_wp2_with fail
  refine (out_Bytes lb _ _ c rfl hlb g v l _ (H.out.below HB.out) hl HS.out (hid (fun _ b off e => by
    simp at e
    obtain ⟨rfl, -⟩ := e
    exact ⟨by have := H.out.blk.lt; omega, fun hk => by have := ownBlock_lt H.out.own hk; omega⟩)) all hall).mono ?_
  rintro e w2 ⟨v', rfl, ho, hst⟩
  have HO := hid ho
  have HST := hid hst
  clear ho hst
  go_wp2_with fail
  go_ret
  exact ⟨v', rfl, HO.out, ⟨(Upd.of_below HB.out).trans HST.out.upd (fun _ _ x => x), fun k hk => by rcases HST.out.wh k hk with q | q; exact .inl q; exact .inr (by omega)⟩⟩

theorem ref_Bytes (l : List UInt8) (u : Value) (w : World) (hl : SlB w u l) (hlen : l.length ≤ 40000) (all : List UInt8) (hall : Hid (all = enc (zz (l.length : Int)) ++ l)) :
    Calls Tryd.prog 72 #[u] w fun e w' => ∃ v, e = .returned v ∧ w'.ownsRow w.heap.size 5 1 v all.length (bv all) ∧ Below w.heap.size w w' := by
  have HL := hid hl
  obtain ⟨a, c, rfl, -⟩ := hl
  have hn1 : (l.length : Int) ≤ 9223372036854775807 := by omega
  have he := enc_len10 (zz (l.length : Int)) (zz_lt _ (by omega) hn1)
  go_enter Tryd.func72, Tryd.ntmps72
  go_wp2_with fail
  refine (ref_Int (l.length : Int) (by omega) hn1 w).mono ?_
  rintro e w1 ⟨v1, rfl, hown1, hb1⟩
  have HOWN1 := hid hown1
  have HB1 := hid hb1
  clear hown1 hb1
  go_wp2_with fail
  go_loopw [3, 4] (fun v3 v4 wr => ∃ (k : Nat), v4 = .int .i64 k ∧ k ≤ l.length ∧ Hid (wr.ownsRow w.heap.size 5 1 v3 (enc (zz (l.length : Int)) ++ l.take k).length (bv (enc (zz (l.length : Int)) ++ l.take k))) ∧ Hid (Below w.heap.size w wr)) (fun _ v4 _ => l.length - (intOf v4).toNat)
  case atStart => exact ⟨0, rfl, by omega, hid (by simpa using HOWN1.out), HB1⟩
  case round =>
    obtain ⟨k, rfl, hk, hown, hb⟩ := hrel
    by_cases hlt : k < l.length
    · obtain ⟨a', c', e', -, hr', -⟩ := HL.out.below hb.out
      simp only [Value.slice.injEq] at e'
      obtain ⟨rfl, -, rfl⟩ := e'
      obtain ⟨b, off, x, rfl, hcx, -, -, ht⟩ := hr'.byte k hlt
      have hn : (enc (zz (l.length : Int)) ++ l.take k).length ≤ 40010 := by rw [List.length_append, List.length_take]; omega
      have HT := hid ht
      have hsz := hb.out.size
      clear hr' ht
      go_wp2_with (at_builtin; refine wpList_append1w T_bytes _ rfl _ _ #[.int .u8 (x.toNat : Int)] rfl w.heap.size _ _ _ rfl hown.out rfl rfl ?c1 ?c2 ?c3 ?_)
      case c1 => rfl
      case c2 => omega
      case c3 => omega
      intro v' w2 hown' hgrow hne hwh
      have HO : Hid (w2.ownsRow w.heap.size 5 1 v' (enc (zz (l.length : Int)) ++ l.take (k + 1)).length (bv (enc (zz (l.length : Int)) ++ l.take (k + 1)))) := hid (by
        rw [HT.out, ← List.append_assoc, bv_append, List.length_append, show (enc (zz (l.length : Int)) ++ l.take k).length + [x].length = (enc (zz (l.length : Int))).length + k + 1 by simp; omega]; exact hown')
      have HB : Hid (Below w.heap.size w w2) := hid (hb.out.grown hgrow hsz (fun j hj => (hown.out.lt j hj).1))
      clear hown' hgrow hne hwh
      go_wp2_with fail
      go_roundw
      case rel => exact ⟨k + 1, by go_num, by omega, HO, HB⟩
      case measure => simp [intOf]; omega
    · have e1 : l.take k = l := List.take_of_length_le (by omega)
      rw [e1, ← hall.out] at hown
      go_wp2_with fail
      go_ret
      exact ⟨_, rfl, hown.out, hb.out⟩
end Go.Proofs.YtcjdlckfbkdibaaDoor
end
