/- The law SealOwn, walked. -/
import Derived.Test.YtopdcjekdmaopaaSealFitsLaw
namespace Go.Proofs.Ytopdcjekdmaopaa
open Go.RowKit
open Go.Lib (hid)
set_option linter.unusedVariables false

theorem bv_zs (l : List UInt8) : bv l = (l.map fun c => (c.toNat : Int)).map (Value.int .u8) := by unfold bv; rw [List.map_map]; rfl
theorem partL_nil : partL [] = none := by unfold partL; rw [if_neg (by simp)]

attribute [local irreducible] crc lowB
theorem seal_Fit_any (l : List UInt8) (u : Value) (w : World) (hl : SlB w u l) (N : Nat) (h0 : 6 ≤ N) (hN : N ≤ 65536) (ok : Bool) (fr : List UInt8) (h : Hid ((ok = true ∧ l.length + 6 ≤ N ∧ fr = fitted l N) ∨ (ok = false ∧ N < l.length + 6 ∧ fr = []))) :
    Calls Try.prog 33 #[u, .int .i64 (N : Int)] w fun e w' => ∃ v, e = .returned (.tuple #[v, .bool ok]) ∧ w'.ownsRow w.heap.size 5 1 v fr.length (bv fr) ∧ Below w.heap.size w w' := by
  rcases h.out with ⟨rfl, h1, rfl⟩ | ⟨rfl, h1, rfl⟩
  · exact seal_Fit_yes l u w hl N _ rfl h1 hN (fitL l N) (hid rfl)
  · refine (seal_Fit_no l u w hl (N : Int) (by omega) (by omega) (.inr (.inr (by omega)))).mono ?_
    rintro e w' ⟨rfl, rfl⟩
    exact ⟨_, rfl, World.ownsRow_nil _ _ _ _, Below.refl _ _⟩

set_option maxRecDepth 100000 in
set_option maxHeartbeats 2000000 in
theorem SealOwn_walk (a0 : Option Addr) (len0 cap0 : Nat) (z0 : List Int) (size : Int) (w : World) (w0 : (a0 = none ∧ len0 = 0 ∧ cap0 = 0 ∧ z0 = []) ∨
      ∃ x, a0 = some x ∧ len0 ≤ cap0 ∧ cap0 ≤ maxLen ∧ z0.length = cap0 ∧ (∀ i, i < z0.length → w.cell? (x.add i) = some (.int .u8 (z0.getD i 0))) ∧ ∀ n ∈ z0, (Lit.int .u8 n).wf = true) (ws : (Lit.int .i64 size).wf = true) :
    Calls Try.prog 13 #[.slice a0 len0 cap0, .int .i64 size] w fun e w' => e = .returned (.bool true) ∧ Below w.heap.size w w' := by
  obtain ⟨s1, s2⟩ : -9223372036854775808 ≤ size ∧ size ≤ 9223372036854775807 := by have := ws; simp [Lit.wf, IntKind.min, IntKind.max, IntKind.signed, IntKind.bits] at this; omega
  obtain ⟨l, rfl, hl⟩ := slb_of_row w0
  clear w0 ws
  by_cases hbig : 200 < l.length
  · go_enter Try.func13, Try.ntmps13
    go_wp2_with (go_at_call 27; (with_reducible refine (seal_awake _).mono ?_); rintro e w1 ⟨rfl, hb1⟩)
    go_ret
    exact ⟨rfl, hb1⟩
  by_cases hb2 : size < 6
  · go_enter Try.func13, Try.ntmps13
    go_wp2_with (go_at_call 27; (with_reducible refine (seal_awake _).mono ?_); rintro e w1 ⟨rfl, hb1⟩)
    go_ret
    exact ⟨rfl, hb1⟩
  by_cases hb3 : 600 < size
  · go_enter Try.func13, Try.ntmps13
    go_wp2_with (go_at_call 27; (with_reducible refine (seal_awake _).mono ?_); rintro e w1 ⟨rfl, hb1⟩)
    go_ret
    exact ⟨rfl, hb1⟩
  obtain ⟨N, rfl⟩ := Int.eq_ofNat_of_zero_le (show 0 ≤ size by omega)
  obtain ⟨ok, hok⟩ : ∃ ok : Bool, ok = decide (l.length + 6 ≤ N) := ⟨_, rfl⟩
  obtain ⟨fr, hfr⟩ : ∃ fr, fr = if ok then fitted l N else [] := ⟨_, rfl⟩
  obtain ⟨gr, hgr⟩ : ∃ gr : Option (List UInt8), gr = if ok then some l else none := ⟨_, rfl⟩
  have HFIT : Hid ((ok = true ∧ l.length + 6 ≤ N ∧ fr = fitted l N) ∨ (ok = false ∧ N < l.length + 6 ∧ fr = [])) := hid (by
    by_cases h : l.length + 6 ≤ N
    · left; rw [hfr, hok]; simp [h]
    · right; rw [hfr, hok]; simp [h]; omega)
  have HPART : Hid (partL fr = gr) := hid (by
    rw [hfr, hgr]
    by_cases h : l.length + 6 ≤ N
    · rw [hok]; simp only [h, decide_true, if_true]; exact partL_fitted l N h (by omega)
    · rw [hok]; simp only [h, decide_false]; exact partL_nil)
  have hgl : (gr.getD []).length ≤ 200 := by rw [hgr]; split <;> simp; omega
  have hfl : fr.length ≤ 600 := by
    rw [hfr]
    split
    · rename_i h
      rw [h] at hok
      have h6 := of_decide_eq_true hok.symm
      unfold fitted; rw [List.length_append, lowB_length, fitL_length l N h6]; omega
    · simp
  obtain ⟨gl, hgl2⟩ : ∃ gl, gl = gr.getD [] := ⟨_, rfl⟩
  rw [← hgl2] at hgl
  have HGL := hid hgl2
  have HGR := hid hgr
  have HL := hid hl
  have st0 := hl.str w (Below.refl _ _)
  clear hl hok hfr hgr hgl2
  go_enter Try.func13, Try.ntmps13
  go_wp2_with fail
  refine (seal_Close l _ w HL.out (by omega)).mono ?_
  rintro e w1 ⟨v1, rfl, hown1, hb1⟩
  obtain ⟨cl, hcl⟩ : ∃ cl, cl = l ++ lowB (crc l) 4 := ⟨_, rfl⟩
  have hcll : cl.length = l.length + 4 := by rw [hcl, List.length_append, lowB_length]
  rw [← hcl, ← hcll] at hown1
  have HCL := hid hcl
  have HS1 := hid (ownsRow.slb hown1 (by omega))
  have HB1 := hid hb1
  obtain ⟨a1, c1, rfl⟩ := ownsRow_slice hown1
  clear hown1 hb1 hcl hcll st0
  go_wp2_with fail
  refine (seal_Open_yes l _ w1 (by rw [← HCL.out]; exact HS1.out) (by omega)).mono ?_
  rintro e w2 ⟨v2, rfl, hown2, hb2⟩
  have HO2 := hid hown2
  have HB12 := hid hb2
  obtain ⟨a2, c2, rfl⟩ := ownsRow_slice hown2
  clear hown2 hb2
  go_wp2_with fail
  go_loopw [42] (fun v42 wr => ∃ (k : Nat) (zs : List Int), v42 = .int .i64 k ∧ k ≤ l.length ∧ Hid (zs.length = l.length) ∧ Hid (wr.ownsRow w1.heap.size 5 1 (.slice a2 l.length c2) l.length (zs.map (Value.int .u8))) ∧ Hid (Below w1.heap.size w1 wr)) (fun v42 _ => l.length - (intOf v42).toNat)
  case atStart => exact ⟨0, l.map fun c => (c.toNat : Int), rfl, by omega, hid (by simp), hid (by rw [← bv_zs]; exact HO2.out), HB12⟩
  case round =>
    obtain ⟨k, zs, rfl, hk, hzl, hown, hb⟩ := hrel
    by_cases hlt : k < l.length
    · obtain ⟨g7, c7', e7⟩ := Joins.ownsRow_form hown.out (by omega)
      simp only [Value.slice.injEq, true_and] at e7
      obtain ⟨rfl, rfl⟩ := e7
      have HG7 := hid (hown.out.lt g7 rfl).1
      have hc0 : wr.cell? ⟨g7, k, none⟩ = some (.int .u8 (zs.getD k 0)) := by
        rw [hown.out.cellAt k (by omega), List.getElem?_map, List.getD_eq_getElem?_getD, List.getElem?_eq_getElem (by have := hzl.out; omega)]; rfl
      have hf0 : wr.frozen? ⟨g7, k, none⟩ = false := hown.out.frozenAt k
      obtain ⟨z, hz⟩ : ∃ z, z = zs.getD k 0 := ⟨_, rfl⟩
      rw [← hz] at hc0
      clear hz
      go_wp2_with fail
      go_roundw
      case rel => exact ⟨k + 1, zs.set k (bits .xor .u8 z 1), by go_num, by omega, hid (by simpa using hzl.out), hid (by have := (hown.out.stored k (.int .u8 (bits .xor .u8 z 1))).1; rw [← List.map_set] at this; exact this), hid (hb.out.setCell HG7.out _)⟩
      case measure => simp [intOf]; omega
    · have HB13 := hb
      have HB3 := hid (Below.next HB1.out hb.out)
      clear hown hzl hb HO2 HB12
      obtain ⟨w3, hw3⟩ : ∃ w3, w3 = wr := ⟨_, rfl⟩
      subst hw3
      go_wp2_with fail
      refine (seal_Open_yes l _ w3 (by rw [← HCL.out]; exact HS1.out.below HB13.out) (by omega)).mono ?_
      rintro e w4 ⟨v4, rfl, hown4, hb4⟩
      have HS4 := hid (ownsRow.slb hown4 (by omega))
      have HB4 := hid (Below.next HB3.out hb4)
      obtain ⟨a4, c4, rfl⟩ := ownsRow_slice hown4
      clear hown4 hb4
      go_wp2_with fail
      refine (seal_Fit_any l _ w4 (HL.out.below HB4.out) N (by omega) (by omega) ok fr HFIT).mono ?_
      rintro e w5 ⟨v5, rfl, hown5, hb5⟩
      have HS5 := hid (ownsRow.slb hown5 (by omega))
      have HB45 := hid hb5
      have HB5 := hid (Below.next HB4.out hb5)
      obtain ⟨a5, c5, rfl⟩ := ownsRow_slice hown5
      clear hown5 hb5
      go_wp2_with fail
      refine (seal_Part fr _ w5 HS5.out gr HPART).mono ?_
      rintro e w6 ⟨v6, rfl, hown6, hb6⟩
      rw [← HGL.out] at hown6
      have HO6 := hid hown6
      have HB56 := hid hb6
      obtain ⟨a6, c6, rfl⟩ := ownsRow_slice hown6
      clear hown6 hb6
      go_wp2_with fail
      go_loopw [70] (fun v70 wr => ∃ (k : Nat) (zs : List Int), v70 = .int .i64 k ∧ k ≤ gl.length ∧ Hid (zs.length = gl.length) ∧ Hid (wr.ownsRow w5.heap.size 5 1 (.slice a6 gl.length c6) gl.length (zs.map (Value.int .u8))) ∧ Hid (Below w5.heap.size w5 wr)) (fun v70 _ => gl.length - (intOf v70).toNat)
      case atStart => exact ⟨0, gl.map fun c => (c.toNat : Int), rfl, by omega, hid (by simp), hid (by rw [← bv_zs]; exact HO6.out), HB56⟩
      case round =>
        obtain ⟨k, zs, rfl, hk, hzl, hown, hb⟩ := hrel
        by_cases hlt : k < gl.length
        · obtain ⟨g7, c7', e7⟩ := Joins.ownsRow_form hown.out (by omega)
          simp only [Value.slice.injEq, true_and] at e7
          obtain ⟨rfl, rfl⟩ := e7
          have HG7 := hid (hown.out.lt g7 rfl).1
          have hc0 : wr.cell? ⟨g7, k, none⟩ = some (.int .u8 (zs.getD k 0)) := by
            rw [hown.out.cellAt k (by omega), List.getElem?_map, List.getD_eq_getElem?_getD, List.getElem?_eq_getElem (by have := hzl.out; omega)]; rfl
          have hf0 : wr.frozen? ⟨g7, k, none⟩ = false := hown.out.frozenAt k
          obtain ⟨z, hz⟩ : ∃ z, z = zs.getD k 0 := ⟨_, rfl⟩
          rw [← hz] at hc0
          clear hz
          go_wp2_with fail
          go_roundw
          case rel => exact ⟨k + 1, zs.set k (bits .xor .u8 z 1), by go_num, by omega, hid (by simpa using hzl.out), hid (by have := (hown.out.stored k (.int .u8 (bits .xor .u8 z 1))).1; rw [← List.map_set] at this; exact this), hid (hb.out.setCell HG7.out _)⟩
          case measure => simp [intOf]; omega
        · have HB57 := hb
          have HB7 := hid (Below.next HB5.out hb.out)
          clear hown hzl hb HO6 HB56
          obtain ⟨w7, hw7⟩ : ∃ w7, w7 = wr := ⟨_, rfl⟩
          subst hw7
          go_wp2_with fail
          refine (seal_Part fr _ w7 (HS5.out.below HB57.out) gr HPART).mono ?_
          rintro e w8 ⟨v8, rfl, hown8, hb8⟩
          rw [← HGL.out] at hown8
          have HS8 := hid (ownsRow.slb hown8 (by omega))
          have HB8 := hid (Below.next HB7.out hb8)
          have HB58 := hid (Below.next HB57.out hb8)
          obtain ⟨a8, c8, rfl⟩ := ownsRow_slice hown8
          have stb := (HL.out.below HB8.out).str w8 (Below.refl _ _)
          have sty := (HS4.out.below (Below.next HB45.out HB58.out)).str w8 (Below.refl _ _)
          have sth := HS8.out.str w8 (Below.refl _ _)
          clear hown8 hb8
          cases ok with
          | true =>
            have hg1 := HGR.out
            simp only [if_true] at hg1
            subst hg1
            have hg2 := HGL.out
            simp only [Option.getD_some] at hg2
            subst hg2
            clear HGL HGR
            go_wp2_with (go_at_call 27; (with_reducible refine (seal_awake _).mono ?_); rintro e w9 ⟨rfl, hb9⟩)
            go_ret
            exact ⟨rfl, Below.next HB8.out hb9⟩
          | false =>
            have hg1 := HGR.out
            simp only [Bool.false_eq_true, if_false] at hg1
            subst hg1
            clear HGL HGR
            go_wp2_with (go_at_call 27; (with_reducible refine (seal_awake _).mono ?_); rintro e w9 ⟨rfl, hb9⟩)
            go_ret
            exact ⟨rfl, Below.next HB8.out hb9⟩
end Go.Proofs.Ytopdcjekdmaopaa
