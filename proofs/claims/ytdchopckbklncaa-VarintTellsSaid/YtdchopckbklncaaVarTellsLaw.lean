/- The law VarintTells, walked. -/
import Derived.Test.YtdchopckbklncaaVarTold
import Derived.Deep.DeepCutAuto
namespace Go.Proofs.Ytdchopckbklncaa
open Go.RowKit Go.ChangeShapes Go.WideShapes
open Go.Lib (hid)
set_option linter.unusedVariables false

def okB (x : Thing) : Bool := decide (x.text.length ≤ 300) && decide (x.list.length ≤ 40)
def smallB (L : List Thing) : Bool := L.all okB && decide (L.length ≤ 40)
set_option maxRecDepth 100000 in
set_option maxHeartbeats 1000000 in
theorem law04_small (L : List Thing) (v : Value) (w : World) (hs : SlTh w v L) (b : Bool) (hb : Hid (smallB L = b)) :
    Calls Try.prog 40 #[v] w fun e w' => e = .returned (.bool b) ∧ Below w.heap.size w w' := by
  have HS := hid hs
  obtain ⟨a, c, rfl, h1, h2, -⟩ := hs
  have hl64 : L.length ≤ 9223372036854775807 := by omega
  clear h1 h2
  go_enter Try.func40, Try.ntmps40
  go_wp2
  go_loopw [7] (fun v7 wr => ∃ (k : Nat), v7 = .int .i64 k ∧ k ≤ L.length ∧ Hid (((L.drop k).all okB && decide (L.length ≤ 40)) = b) ∧ Hid (Below w.heap.size w wr)) (fun v7 _ => L.length - (intOf v7).toNat)
  case atStart => exact ⟨0, rfl, by omega, hid (by rw [← hb.out, List.drop_zero]; rfl), hid (Below.refl _ _)⟩
  case round =>
    obtain ⟨k, rfl, hk, hall, hbw⟩ := hrel
    by_cases hlt : k < L.length
    · obtain ⟨a', c', e', -, -, -, hrows⟩ := HS.out.below hbw.out
      simp only [Value.slice.injEq] at e'
      obtain ⟨rfl, -, rfl⟩ := e'
      obtain ⟨x, hx⟩ : ∃ x, L[k]? = some x := ⟨_, List.getElem?_eq_getElem hlt⟩
      obtain ⟨bb, off, la, lc, rfl, -, ht⟩ := hrows k x hx
      have hd : L.drop k = x :: L.drop (k + 1) := by rw [List.drop_eq_getElem_cons hlt]; congr 1; exact Option.some.inj ((List.getElem?_eq_getElem hlt).symm.trans hx)
      have c0 := ht.c0
      have c1 := ht.c1
      have c2 := ht.c2
      have c3 := ht.c3
      have c4 := ht.c4
      have htl := ht.tl
      have hll := ht.ll
      rw [Nat.add_zero] at c0
      have hal := hall.out
      rw [hd, List.all_cons] at hal
      have hsz : (⟨x.text.toArray⟩ : ByteArray).size = x.text.length := by simp [ByteArray.size]
      clear hrows hx hd ht
      by_cases q1 : x.text.length ≤ 300
      · by_cases q2 : x.list.length ≤ 40
        · have hok : okB x = true := by simp [okB, q1, q2]
          rw [hok, Bool.true_and] at hal
          have HN := hid hal
          have HB2 : Hid (Below w.heap.size w (wr.alloc (.cells (thV x la lc) 56))) := hid (Below.next hbw.out (below_new _ _))
          unfold thV at HB2
          clear hal hok
          go_wp2_with fail
          go_roundw
          case rel => exact ⟨k + 1, by go_num, by omega, HN, HB2⟩
          case measure => simp [intOf]; omega
        · have hok : okB x = false := by simp [okB, q2]
          rw [hok, Bool.false_and, Bool.false_and] at hal
          subst hal
          have HB2 : Hid (Below w.heap.size w (wr.alloc (.cells (thV x la lc) 56))) := hid (Below.next hbw.out (below_new _ _))
          unfold thV at HB2
          clear hok
          go_wp2_with fail
          go_ret
          exact ⟨rfl, HB2.out⟩
      · have hok : okB x = false := by simp [okB, q1]
        rw [hok, Bool.false_and, Bool.false_and] at hal
        subst hal
        have HB2 : Hid (Below w.heap.size w (wr.alloc (.cells (thV x la lc) 56))) := hid (Below.next hbw.out (below_new _ _))
        unfold thV at HB2
        clear hok
        go_wp2_with fail
        go_ret
        exact ⟨rfl, HB2.out⟩
    · have hal := hall.out
      rw [List.drop_of_length_le (by omega), List.all_nil, Bool.true_and] at hal
      by_cases q : L.length ≤ 40
      · have hq : decide (L.length ≤ 40) = true := by simpa using q
        rw [hq] at hal
        subst hal
        have q' : (L.length : Int) ≤ 40 := by omega
        clear hq
        go_wp2_with fail
        go_ret
        exact ⟨rfl, hbw.out⟩
      · have hq : decide (L.length ≤ 40) = false := by simpa using q
        rw [hq] at hal
        subst hal
        have q' : ¬ (L.length : Int) ≤ 40 := by omega
        clear hq
        go_wp2_with fail
        go_ret
        exact ⟨rfl, hbw.out⟩
end Go.Proofs.Ytdchopckbklncaa
