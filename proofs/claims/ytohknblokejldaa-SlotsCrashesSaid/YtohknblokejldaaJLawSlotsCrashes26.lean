/- Joined texts, in this order: SlotsBytesLaw. Each one's first remark says what it proves; no condition beyond those that its theorems name. -/
import Derived.Test.YtohknblokejldaaJLawSlotsCrashes23
import Derived.Test.YtohknblokejldaaJLawSlotsCrashes24
import Derived.Test.YtohknblokejldaaJLawSlotsCrashes25
section
/- The law SlotsBytes, walked. -/
namespace Go.Proofs.Ytohknblokejldaa
open Go.RowKit Go.ChangeShapes Go.WideShapes Go.Deep Go.Joins
open Go.Lib (hid)
set_option linter.unusedVariables false

set_option maxRecDepth 100000 in
theorem open_sliE {H : Type} {enc : TypeId × Value → H} {w : World} {n : Nat} {v : Value} {y : DataW H × List MemPlace} (t4 : DataW.trod enc Try.prog w 0 (fun _ => true) true n 22 [v] = some y) : ∃ l : List Int, SlI w v l ∧ ∀ x ∈ l, (Lit.int .i64 x).wf = true := by
  have hrow : ∃ (a : Option Addr) (len cap : Nat) (zs : List Int), v = .slice a len cap ∧ ((a = none ∧ len = 0 ∧ cap = 0 ∧ zs = []) ∨
      ∃ x, a = some x ∧ len ≤ cap ∧ cap ≤ maxLen ∧ zs.length = cap ∧ (∀ i, i < zs.length → w.cell? (x.add i) = some (.int .i64 (zs.getD i 0))) ∧ ∀ n ∈ zs, (Lit.int .i64 n).wf = true) := by
    rcases open_ints Try.underlying22 Try.underlying3 (by kernel_rfl) t4 with ⟨hcs, _⟩ | ⟨x, l, c, zs, hcs, _, hl, hm, hz, _, hcell, hwz⟩
    · simp at hcs
      exact ⟨none, 0, 0, [], hcs, .inl ⟨rfl, rfl, rfl, rfl⟩⟩
    · simp at hcs
      exact ⟨some x, l, c, zs, hcs, .inr ⟨_, rfl, hl, hm, by simpa using hz, hcell, hwz⟩⟩
  obtain ⟨la, len, lc, zs, rfl, hr⟩ := hrow
  obtain ⟨l, -, h, hw⟩ := sli_of_row hr
  exact ⟨l, h, hw⟩
set_option maxRecDepth 100000 in
theorem open_root {H : Type} {enc : TypeId × Value → H} {w : World} {b0 : Nat} {d0 : DataW H} {p0 : List MemPlace} {v0 : Value} (ok0 : Value.okWide Try.prog w .any b0 24 v0) (k0 : DataW.Trod enc Try.prog w 0 (fun _ => true) true 24 v0 d0 p0) :
    ∃ e v l, v0 = .agg #[.int .i64 e, v] ∧ SlI w v l ∧ (Lit.int .i64 e).wf = true ∧ ∀ x ∈ l, (Lit.int .i64 x).wf = true := by
  obtain ⟨x0, v, y0, y1, n, rfl, -, -, t0, t1⟩ := open_agg2 Try.underlying24 (by kernel_rfl) (by kernel_rfl) ok0 k0
  obtain ⟨e, e0, -, he⟩ := DataW.trod_int Try.underlying3 t0
  simp only [List.cons.injEq, and_true] at e0
  subst e0
  obtain ⟨l, hl, hw⟩ := open_sliE t1
  exact ⟨e, v, l, rfl, hl, he, hw⟩
set_option maxRecDepth 100000 in
set_option maxHeartbeats 8000000 in
theorem law06_Bytes (e : Int) (l : List Int) (v : Value) (size : Int) (w : World) (hs : SlI w v l) (hz1 : -9223372036854775808 ≤ size) (hz2 : size ≤ 9223372036854775807) (hl : l.length ≤ 100) (hsz : size ≤ 5000 ∨ 131072 < size) :
    Calls Try.prog 3 #[.agg #[.int .i64 e, v], .int .i64 size] w fun en w' => en = .returned (.bool true) ∧ Below w.heap.size w w' := by
  have HS0 := hid hs
  obtain ⟨a, c, rfl, -⟩ := hs
  obtain ⟨wb, hwb⟩ : ∃ wb, wb = w.alloc (.cells #[.int .i64 e, .slice a l.length c] 24) := ⟨_, rfl⟩
  have HWB := hid hwb
  have HKB : Hid (Below w.heap.size w wb) := hid (by rw [hwb]; exact Below.new _ _)
  have HBX : Hid (Blk wb w.heap.size #[.int .i64 e, .slice a l.length c]) := hid (by rw [hwb]; exact Blk.new _ _ _)
  have HS := hid (HS0.out.below HKB.out)
  have hli : (l.length : Int) ≤ 100 := by omega
  obtain ⟨b, hb⟩ : ∃ b, rightR e l = b := ⟨_, rfl⟩
  obtain ⟨r, er, hr⟩ : ∃ r er, outB e l size = (r, er) := ⟨_, _, rfl⟩
  have HB := hid hb
  have HR := hid hr
  obtain ⟨hx0, hx1, -⟩ := HBX.out.c2
  have hee : (e == e) = true := by simp
  have hsz2 : size ≤ 5000 ∨ (5000 < size ∧ ¬ size ≤ 131072) := by omega
  have hrl : r.length ≤ 70000 := by
    unfold outB at hr
    split at hr
    · cases hbr : bytesR e l size with
      | none => rw [hbr] at hr; simp only [Prod.mk.injEq] at hr; rw [← hr.1]; simp
      | some bb =>
        rw [hbr] at hr; simp only [Prod.mk.injEq] at hr
        have := bytesR_form hbr
        rw [← hr.1]; omega
    · simp only [Prod.mk.injEq] at hr; rw [← hr.1]; simp
  clear hwb hb hr hl hsz
  have main : ∀ (P : Prop), P → P := fun _ h => h
  rcases hsz2 with hg | ⟨hg, hg2⟩
  all_goals
    go_enter Try.func3, Try.ntmps3
    go_wp2_with fail
    rw [← HWB.out]
    refine (ref06_Right e l _ wb HS.out b HB).mono ?_
    rintro en w' ⟨rfl, rfl⟩
    go_wp2_with fail
    refine (slots_Bytes e l _ size wb HS.out hz1 hz2 r er HR).mono ?_
    rintro en w1 ⟨v1, rfl, hown1, hb1⟩
    have HV1 := hid (ownsRow.slb hown1 (by omega))
    obtain ⟨q1, d1, rfl, -⟩ := ownsRow.rd hown1
    have HB1 := hid hb1
    clear hx0 hx1 hown1
    obtain ⟨hx0, hx1, -⟩ := (HBX.out.below hb1).c2
    clear hb1
    go_wp2_with fail
    refine (slots_Right e l _ w1 (HS.out.below HB1.out) b HB).mono ?_
    rintro en w2 ⟨rfl, hb2⟩
    have HB2 := hid (Below.next HB1.out hb2)
    have HK2 := hid hb2
    clear hx0 hx1
    obtain ⟨hx0, hx1, -⟩ := (HBX.out.below HB2.out).c2
    clear hb2
    go_wp2_with fail
    refine (slots_Equal e e l l _ _ w2 (HS.out.below HB2.out) (HS.out.below HB2.out) true true hee (hid (by simp))).mono ?_
    rintro en w3 ⟨rfl, hb3⟩
    have HB3 := hid (Below.next HB2.out hb3)
    have HK3 := hid (Below.next HK2.out hb3)
    clear hx0 hx1
    obtain ⟨hx0, hx1, -⟩ := (HBX.out.below HB3.out).c2
    clear hb3
    cases b with
    | false =>
      have h := HR.out
      unfold outB at h
      rw [if_neg (by rw [HB.out]; simp)] at h
      simp only [Prod.mk.injEq] at h
      obtain ⟨rfl, rfl⟩ := h
      go_wp2_with fail
      refine (law06_awake w3).mono ?_
      rintro en w4 ⟨rfl, hb4⟩
      have HB4 := hid (Below.next HKB.out (Below.next HB3.out hb4))
      clear hb4
      go_wp2_with fail
      go_ret
      exact ⟨rfl, HB4.out⟩
    | true =>
      have h := HR.out
      unfold outB at h
      rw [if_pos HB.out] at h
      obtain ⟨g1, g2, -, -⟩ := right_bd HB.out
      obtain ⟨n, hn⟩ : ∃ n : Nat, e = (n : Int) := ⟨e.toNat, by omega⟩
      subst hn
      obtain ⟨bo, hbo⟩ : ∃ bo, bytesR (n : Int) l size = bo := ⟨_, rfl⟩
      rw [hbo] at h
      have HBO := hid hbo
      have H := hid h
      clear hbo h
      go_wp2_with fail
      refine (ref06_Bytes n l _ size w3 (HS.out.below HB3.out) hz1 hz2 HB.out bo HBO).mono ?_
      rintro en w4 ⟨v4, rfl, hown4, hb4⟩
      have HB4 := hid (Below.next HB3.out hb4)
      have HK4 := hid (Below.next HK3.out hb4)
      cases bo with
      | none =>
        have h := H.out
        simp only [Prod.mk.injEq] at h
        obtain ⟨rfl, rfl⟩ := h
        clear hown4 hb4 hx0 hx1
        go_wp2_with fail
        refine (law06_awake w4).mono ?_
        rintro en w5 ⟨rfl, hb5⟩
        have HB5 := hid (Below.next HKB.out (Below.next HB4.out hb5))
        clear hb5
        go_wp2_with fail
        go_ret
        exact ⟨rfl, HB5.out⟩
      | some bb =>
        have h := H.out
        simp only [Prod.mk.injEq] at h
        obtain ⟨rfl, rfl⟩ := h
        simp only [Option.getD_some] at hown4
        have HV4 := hid (ownsRow.slb hown4 (by omega))
        obtain ⟨q4, d4, rfl, -⟩ := ownsRow.rd hown4
        have HPB := hid (parse_bytes HB.out HBO.out).1
        clear hown4 hb4 hx0 hx1
        go_wp2_with fail
        refine (slots_Parse bb _ w4 (HV1.out.below HK4.out) (by omega) _ HPB).mono ?_
        rintro en w5 ⟨v5, rfl, hs5, hb5, -⟩
        simp only [Option.getD_some] at hs5
        obtain ⟨q5, d5, rfl, -⟩ := id hs5
        simp only [Option.getD_some, Option.isSome_some]
        have HS5 := hid hs5
        have HB5 := hid (Below.next HB4.out hb5)
        have HK5 := hid (Below.next HK4.out hb5)
        have HV5 := hid (HV4.out.below hb5)
        clear hs5 hb5
        go_upto_region 13 with fail
        obtain ⟨w6, hw6⟩ : ∃ w6, w6 = w5.alloc (.cells #[.int .i64 (n : Int), .slice q5 l.length d5] 24) := ⟨_, rfl⟩
        rw [← hw6]
        have hb6 : Below w5.heap.size w5 w6 := by rw [hw6]; exact Below.new _ _
        have hx6 : Blk w6 w5.heap.size #[.int .i64 (n : Int), .slice q5 l.length d5] := by rw [hw6]; exact Blk.new _ _ _
        have HB6 := hid (Below.next HB5.out hb6)
        have HS6 := hid (HS5.out.below hb6)
        obtain ⟨hy0, hy1, -⟩ := hx6.c2
        obtain ⟨hx0, hx1, -⟩ := (HBX.out.below HB6.out).c2
        have hst1 := ((HV1.out.below HK5.out).below hb6).str w6 (Below.refl _ _)
        have hst2 := (HV5.out.below hb6).str w6 (Below.refl _ _)
        clear hw6 hb6 hx6
        go_wp2_with fail
        refine (slots_Equal (n : Int) (n : Int) l l _ _ w6 HS6.out (HS.out.below HB6.out) true true hee (hid (by simp))).mono ?_
        rintro en w7 ⟨rfl, hb7⟩
        have HB7 := hid (Below.next HB6.out hb7)
        clear hb7 hx0 hx1 hy0 hy1 hst1 hst2
        go_wp2_with fail
        refine (law06_awake w7).mono ?_
        rintro en w8 ⟨rfl, hb8⟩
        have HB8 := hid (Below.next HKB.out (Below.next HB7.out hb8))
        clear hb8
        go_wp2_with fail
        go_ret
        exact ⟨rfl, HB8.out⟩
set_option maxRecDepth 100000 in
set_option maxHeartbeats 2000000 in
theorem SlotsBytes_walk {H : Type} {enc : TypeId × Value → H} {b0 : Nat} {d0 : DataW H} {p0 : List MemPlace} (v0 : Value) (size : Int) (w : World) (ok0 : Value.okWide Try.prog w .any b0 24 v0) (k0 : DataW.Trod enc Try.prog w 0 (fun _ => true) true 24 v0 d0 p0)
    (wz : (Lit.int .i64 size).wf = true) :
    Calls Try.prog 3 #[v0, .int .i64 size] w fun e w' => e = .returned (.bool true) ∧ Below w.heap.size w w' := by
  obtain ⟨e, v, l, rfl, hl, -, -⟩ := open_root ok0 k0
  obtain ⟨z1, z2⟩ := wf64 wz
  clear ok0 k0 wz
  by_cases h : l.length ≤ 100 ∧ (size ≤ 5000 ∨ 131072 < size)
  · exact law06_Bytes e l v size w hl z1 z2 h.1 h.2
  · obtain ⟨a, c, rfl, -, g1, g2, -⟩ := hl
    have h63 : l.length ≤ 9223372036854775807 := by omega
    have HK : Hid (∀ x, Below w.heap.size w (w.alloc x)) := hid fun x => Below.new w x
    clear g1 g2
    by_cases h1 : 100 < l.length
    · have h2 : (100 : Int) < (l.length : Int) := by omega
      clear h h1
      go_enter Try.func3, Try.ntmps3
      go_wp2_with fail
      refine (law06_awake _).mono ?_
      rintro en w4 ⟨rfl, hb4⟩
      have HB4 := hid (Below.next (HK.out _) hb4)
      clear hb4
      go_wp2_with fail
      go_ret
      exact ⟨rfl, HB4.out⟩
    · have h2 : (l.length : Int) ≤ 100 := by omega
      have h3 : 5000 < size := by omega
      have h4 : size ≤ 131072 := by omega
      clear h h1
      go_enter Try.func3, Try.ntmps3
      go_wp2_with fail
      refine (law06_awake _).mono ?_
      rintro en w4 ⟨rfl, hb4⟩
      have HB4 := hid (Below.next (HK.out _) hb4)
      clear hb4
      go_wp2_with fail
      go_ret
      exact ⟨rfl, HB4.out⟩
end Go.Proofs.Ytohknblokejldaa
end
