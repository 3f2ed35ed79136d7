/- The law VarintOwn, walked. -/
import Derived.Test.YtdchopckbklncaaVarOuts
import Derived.Deep.DeepCutAuto
import Derived.Deep.RegionHeld3
namespace Go.Proofs.Ytdchopckbklncaa
open Go.RowKit
open Go.Lib (hid)
set_option linter.unusedVariables false

theorem zs_set (zs : List Int) (k : Nat) (y : Int) : (zs.map (Value.int .u8)).set k (.int .u8 y) = (zs.set k y).map (Value.int .u8) := by rw [List.map_set]
theorem bv_zs (l : List UInt8) : bv l = (l.map fun c => (c.toNat : Int)).map (Value.int .u8) := by unfold bv; rw [List.map_map]; rfl

set_option maxRecDepth 100000 in
set_option maxHeartbeats 2000000 in
theorem VarintOwn_walk (a0 : Option Addr) (len0 cap0 : Nat) (z0 : List Int) (a1 : Option Addr) (len1 cap1 : Nat) (z1 : List Int) (w : World) (w0 : (a0 = none ∧ len0 = 0 ∧ cap0 = 0 ∧ z0 = []) ∨
      ∃ x, a0 = some x ∧ len0 ≤ cap0 ∧ cap0 ≤ maxLen ∧ z0.length = cap0 ∧ (∀ i, i < z0.length → w.cell? (x.add i) = some (.int .u8 (z0.getD i 0))) ∧ ∀ n ∈ z0, (Lit.int .u8 n).wf = true) (w1 : (a1 = none ∧ len1 = 0 ∧ cap1 = 0 ∧ z1 = []) ∨
      ∃ x, a1 = some x ∧ len1 ≤ cap1 ∧ cap1 ≤ maxLen ∧ z1.length = cap1 ∧ (∀ i, i < z1.length → w.cell? (x.add i) = some (.int .i64 (z1.getD i 0))) ∧ ∀ n ∈ z1, (Lit.int .i64 n).wf = true) :
    Calls Try.prog 5 #[.slice a0 len0 cap0, .slice a1 len1 cap1] w fun e w' => e = .returned (.bool true) ∧ Below w.heap.size w w' := by
  obtain ⟨l, rfl, hl⟩ := slb_of_row w0
  obtain ⟨li, rfl, hli63, hrd1, hwf1, -⟩ := Rd.of_row w1
  clear w0 w1
  by_cases hbig : 200 < l.length
  · go_enter Try.func5, Try.ntmps5
    go_wp2_with (go_at_call 22; (with_reducible refine (var_awake _).mono ?_); rintro e w1 ⟨rfl, hb1⟩)
    go_ret
    exact ⟨rfl, hb1⟩
  by_cases hbig2 : 40 < li.length
  · clear hwf1 hrd1
    go_enter Try.func5, Try.ntmps5
    go_wp2_with (go_at_call 22; (with_reducible refine (var_awake _).mono ?_); rintro e w1 ⟨rfl, hb1⟩)
    go_ret
    exact ⟨rfl, hb1⟩
  have hbd : ∀ x ∈ li, -9223372036854775808 ≤ x ∧ x ≤ 9223372036854775807 := by
    intro x hx
    have := hwf1 x hx
    simp [Lit.wf, IntKind.min, IntKind.max, IntKind.signed, IntKind.bits] at this
    omega
  have HBD := hid hbd
  obtain ⟨rest, hrest⟩ : ∃ rest, rest = enc (zz (li.length : Int)) ++ encs li := ⟨_, rfl⟩
  obtain ⟨m1, hm1⟩ : ∃ m1, m1 = [] ++ enc (zz (l.length : Int)) ++ l := ⟨_, rfl⟩
  obtain ⟨all, hall⟩ : ∃ all, all = m1 ++ enc (zz (li.length : Int)) ++ encs li := ⟨_, rfl⟩
  have hall2 : all = enc (zz (l.length : Int)) ++ (l ++ rest) := by rw [hall, hm1, hrest]; simp
  have HBYT := hid (inBytes_enc 1000 l rest (by omega) (by omega))
  have HINS := hid (inInts_enc 1000 li hbd (by omega) (by omega))
  rw [← hall2] at HBYT
  rw [← hrest] at HINS
  have e10a := enc_len10 (zz (l.length : Int)) (zz_lt _ (by omega) (by omega))
  have e10b := enc_len10 (zz (li.length : Int)) (zz_lt _ (by omega) (by omega))
  have epb := enc_pos (zz (li.length : Int))
  have hle := encs_le li hbd
  have hm1l : m1.length ≤ 210 := by rw [hm1]; simp; omega
  have hall0 : 0 < all.length := by rw [hall]; simp; omega
  have halll : all.length ≤ 1000 := by rw [hall]; simp; omega
  have hrestl : rest.length ≤ 1000 := by rw [hrest]; simp; omega
  have HREST0 : Hid (rest ≠ []) := hid (fun h => by rw [h] at hrest; have := congrArg List.length hrest; simp at this; omega)
  have HM1 := hid hm1
  have HALL := hid hall
  have HL := hid hl
  have HRD := hid hrd1
  have HA0 : Hid (0 < l.length → ∀ b off, a0 = some ⟨b, off, none⟩ → b < w.heap.size) := hid (fun h0 b off ha => by
    obtain ⟨a', c', e, -, h2, -⟩ := hl
    simp only [Value.slice.injEq] at e
    obtain ⟨rfl, -, rfl⟩ := e
    obtain ⟨b', off', x, e', hcc, -⟩ := h2.byte 0 h0
    rw [ha] at e'
    simp at e'
    obtain ⟨rfl, rfl⟩ := e'
    exact World.block_lt_of_cell? w _ hcc)
  have HA1 : Hid (0 < li.length → ∀ b off, a1 = some ⟨b, off, none⟩ → b < w.heap.size) := hid (fun h0 b off ha => by
    obtain ⟨b', off', x, e', hcc, -⟩ := Rd.int hrd1 0 h0
    rw [ha] at e'
    simp at e'
    obtain ⟨rfl, rfl⟩ := e'
    exact World.block_lt_of_cell? w _ hcc)
  clear hl hrd1 hwf1 hbd hrest hm1 hall hall2 e10a e10b epb hle
  go_enter Try.func5, Try.ntmps5
  have hu0 := Below.new w (.cells #[.slice none 0 0] 24)
  have HU0 := hid hu0
  clear hu0
  go_wp2_with fail
  refine (out_Bytes l a0 _ cap0 rfl (by omega) w.heap.size _ [] _ (OutIs.new w) (by simp) (HL.out.below HU0.out) (hid (fun h0 b off ha => ⟨by have := HA0.out h0 b off ha; omega, by simp [Value.ownBlock]⟩)) m1 HM1).mono ?_
  rintro e w1 ⟨v1, rfl, ho1, hs1⟩
  have HO1 := hid ho1
  have HS1 := hid hs1
  have HB1 := hid (HU0.out.trans (hs1.upd.below (B := w.heap.size) (by simp) (fun k _ h => by rcases h with h | h; omega; simp [Value.ownBlock] at h)))
  clear ho1 hs1
  go_wp2_with fail
  refine (out_Ints li HBD a1 _ cap1 rfl (by omega) w.heap.size v1 m1 w1 HO1.out (by omega) (HRD.out.below' HB1.out) (hid (fun h0 b off ha => ⟨by have := HA1.out h0 b off ha; omega, fun h => by
    have := HA1.out h0 b off ha
    rcases HS1.out.wh b h with h | h
    · simp [Value.ownBlock] at h
    · simp at h; omega⟩)) all HALL).mono ?_
  rintro e w2 ⟨v2, rfl, ho2, hs2⟩
  have HO2 := hid ho2
  have HS2 := hid (HS1.out.trans hs2)
  have HB2 := hid (HU0.out.trans (HS2.out.upd.below (B := w.heap.size) (by simp) (fun k _ h => by rcases h with h | h; omega; simp [Value.ownBlock] at h)))
  clear ho2 hs2 HO1 HS1 HB1
  go_wp2_with fail
  refine (out_All w.heap.size v2 all w2 HO2.out (by omega)).mono ?_
  rintro e w3 ⟨v3, rfl, hown3, hb3⟩
  obtain ⟨g3, c3, rfl⟩ := Joins.ownsRow_form hown3 hall0
  have HG3 := hid (show w2.heap.size ≤ g3 ∧ g3 < w3.heap.size from hown3.lt g3 rfl)
  have HB3' := hid hb3
  have HB3 := hid (Below.next HB2.out hb3)
  have HC3 := hid (ownsRow.slb hown3 (by omega))
  clear hown3 hb3
  have hown0 : (w3.alloc (.cells #[] 5)).ownsRow w3.heap.size 5 1 (.slice (some ⟨w3.heap.size, 0, none⟩) 0 0) 0 [] := World.ownsRow_made w3 #[] 0 (Nat.le_refl _) (by omega) (by simp)
  have HOWN0 := hid hown0
  have HC3' := HC3.out.below (Below.new w3 (.cells #[] 5))
  obtain ⟨a', c', e, -, hr0, -⟩ := HC3'
  simp only [Value.slice.injEq] at e
  obtain ⟨rfl, -, rfl⟩ := e
  have HR0 := hid hr0
  clear hown0 hr0
  go_wp2_with (at_builtin; refine wpList_appendN T_bytes _ rfl _ _ rfl w3.heap.size _ _ _ rfl HOWN0.out _ _ _ (bv all) rfl ?c1 (fun h _ => by omega) HR0.out (bv_oneCell all) ?c2 ?c3 ?_)
  case c1 => simp [bv_length]
  case c2 => omega
  case c3 => simp
  intro v4 w4 hown4 hg4 hnil4
  replace hown4 : w4.ownsRow w3.heap.size 5 1 v4 all.length (bv all) := by simpa using hown4
  obtain ⟨g4, c4, rfl⟩ := Joins.ownsRow_form hown4 hall0
  have HG4 := hid (show w3.heap.size ≤ g4 ∧ g4 < w4.heap.size from hown4.lt g4 rfl)
  have hb34 : Below w3.heap.size w3 w4 := (Below.new w3 _).grown hg4 (by simp) (fun k hk => by simp [Value.ownBlock] at hk; omega)
  have HB34 := hid hb34
  have HB4 := hid (Below.next HB3.out hb34)
  have HOWN4 := hid hown4
  clear hown4 hg4 hnil4 hb34 HR0 HOWN0
  go_wp2_with fail
  refine (var_NewIn all _ w4 (ownsRow.slb HOWN4.out (by omega)) (by omega)).mono ?_
  rintro e w5 ⟨g, D, rfl, hi5, hg, hD, hb5⟩
  have HI5 := hid hi5
  have HG := hid hg
  have HD := hid (hD (hi5.some (by simpa using List.ne_nil_of_length_pos hall0)))
  have HDL := hid (hi5.some (by simpa using List.ne_nil_of_length_pos hall0))
  have HB45 := hid hb5
  have HB5 := hid (Below.next HB4.out hb5)
  have HOWN5 := hid (ownsRow_below HOWN4.out hb5)
  clear hi5 hg hD hb5 HOWN4
  go_wp2_with fail
  go_loopw [34] (fun v34 wr => ∃ (k : Nat) (zs : List Int), v34 = .int .i64 k ∧ k ≤ all.length ∧ Hid (zs.length = all.length) ∧ Hid (wr.ownsRow w3.heap.size 5 1 (.slice (some ⟨g4, 0, none⟩) all.length c4) all.length (zs.map (Value.int .u8))) ∧ Hid (Upd (fun b => b = g4) w5 wr)) (fun v34 _ => all.length - (intOf v34).toNat)
  case atStart => exact ⟨0, all.map fun c => (c.toNat : Int), rfl, by omega, hid (by simp), hid (by rw [← bv_zs]; exact HOWN5.out), hid (Upd.refl _ _)⟩
  case round =>
    obtain ⟨k, zs, rfl, hk, hzl, hown, hu⟩ := hrel
    by_cases hlt : k < all.length
    · have hc0 : wr.cell? ⟨g4, k, none⟩ = some (.int .u8 (zs.getD k 0)) := by
        rw [hown.out.cellAt k (by omega), List.getElem?_map, List.getD_eq_getElem?_getD, List.getElem?_eq_getElem (by have := hzl.out; omega)]; rfl
      have hf0 : wr.frozen? ⟨g4, k, none⟩ = false := hown.out.frozenAt k
      obtain ⟨z, hz⟩ : ∃ z, z = zs.getD k 0 := ⟨_, rfl⟩
      rw [← hz] at hc0
      clear hz
      go_wp2_with fail
      go_roundw
      case rel => exact ⟨k + 1, zs.set k (bits .xor .u8 z 255), by go_num, by omega, hid (by simpa using hzl.out), hid (by have := (hown.out.stored k (.int .u8 (bits .xor .u8 z 255))).1; rw [← List.map_set] at this; exact this), hid (hu.out.trans (Upd.setCell wr g4 k _) (fun _ _ h => h))⟩
      case measure => simp [intOf]; omega
    · have HI6 := hid (HI5.out.upd hu.out (fun h => by have := HG.out; have := HG4.out.2; omega) (fun _ h => by have := HD.out; have := HG4.out.2; omega))
      have HB6 := hid (HB5.out.trans (hu.out.below (B := w.heap.size) HB5.out.size (fun k _ e => by have := HG4.out.1; have := HB3.out.size; omega)))
      have HB36 := hid ((Below.next HB34.out HB45.out).trans (hu.out.below (B := w3.heap.size) (Below.next HB34.out HB45.out).size (fun k _ e => by have := HG4.out.1; omega)))
      have HD6 := hid (Nat.lt_of_lt_of_le HDL.out hu.out.size)
      clear hown hzl hu HOWN5
      obtain ⟨w6, hw6⟩ : ∃ w6, w6 = wr := ⟨_, rfl⟩
      subst hw6
      go_wp2_with fail
      refine (in_Bytes 1000 (some all) g D _ HI6.out (by simp; omega) l (some rest) HBYT).mono ?_
      rintro e w7 ⟨v7, rfl, hown7, hi7, hu7⟩
      have HI7 := hid hi7
      have HU7 := hid hu7
      have HB7 := hid (below_upd HB6.out hu7 (by have := HG.out; have := HB4.out.size; omega))
      have HB37 := hid (below_upd HB36.out hu7 (by have := HG.out; have := HG4.out; omega))
      have HL7 := hid (HL.out.below HB7.out)
      have HX7 := hid (ownsRow.slb hown7 (by omega))
      have HOWN7 := hid hown7
      obtain ⟨a7, c7, rfl⟩ := ownsRow_len0 hown7
      have st1 := HL7.out.str w7 (Below.refl _ _)
      have st2 := HX7.out.str w7 (Below.refl _ _)
      clear hi7 hu7 hown7
      go_wp2_with fail
      clear st1 st2
      go_loopw [53] (fun v53 wr => ∃ (k : Nat) (zs : List Int), v53 = .int .i64 k ∧ k ≤ l.length ∧ Hid (zs.length = l.length) ∧ Hid (wr.ownsRow w6.heap.size 5 1 (.slice a7 l.length c7) l.length (zs.map (Value.int .u8))) ∧ Hid (Upd (fun b => w6.heap.size ≤ b) w7 wr)) (fun v53 _ => l.length - (intOf v53).toNat)
      case atStart => exact ⟨0, l.map fun c => (c.toNat : Int), rfl, by omega, hid (by simp), hid (by rw [← bv_zs]; exact HOWN7.out), hid (Upd.refl _ _)⟩
      case round =>
        obtain ⟨k, zs, rfl, hk, hzl, hown, hu⟩ := hrel
        by_cases hlt : k < l.length
        · obtain ⟨g7, c7', e7⟩ := Joins.ownsRow_form hown.out (by omega)
          simp only [Value.slice.injEq, true_and] at e7
          obtain ⟨rfl, rfl⟩ := e7
          have HG7 := hid (hown.out.lt g7 rfl).1
          have hc0 : wr.cell? ⟨g7, k, none⟩ = some (.int .u8 (zs.getD k 0)) := by
            rw [hown.out.cellAt k (by omega), List.getElem?_map, List.getD_eq_getElem?_getD, List.getElem?_eq_getElem (by have := hzl.out; omega)]; rfl
          have hf0 : wr.frozen? ⟨g7, k, none⟩ = false := hown.out.frozenAt k
          obtain ⟨z, hz⟩ : ∃ z, z = zs.getD k 0 := ⟨_, rfl⟩
          rw [← hz] at hc0
          clear hz
          go_wp2_with fail
          go_roundw
          case rel => exact ⟨k + 1, zs.set k (bits .xor .u8 z 1), by go_num, by omega, hid (by simpa using hzl.out), hid (by have := (hown.out.stored k (.int .u8 (bits .xor .u8 z 1))).1; rw [← List.map_set] at this; exact this), hid (hu.out.trans (Upd.setCell wr g7 k _) (fun _ _ h => by have := HG7.out; omega))⟩
          case measure => simp [intOf]; omega
        · have HI8 := hid (HI7.out.upd hu.out (fun h => by have := HI6.out.lt; omega) (fun _ h => by have := HD6.out; omega))
          have HB8 := hid (HB7.out.trans (hu.out.below (B := w.heap.size) HB7.out.size (fun k _ e => by have := HB6.out.size; omega)))
          have HB38 := hid (HB37.out.trans (hu.out.below (B := w3.heap.size) HB37.out.size (fun k _ e => by have := HB36.out.size; omega)))
          clear hown hzl hu HX7 HOWN7
          obtain ⟨w8, hw8⟩ : ∃ w8, w8 = wr := ⟨_, rfl⟩
          subst hw8
          go_wp2_with fail
          refine (in_Ints 1000 (some rest) g D _ HI8.out (by simp; omega) li (some []) HINS).mono ?_
          rintro e w9 ⟨v9, rfl, hown9, hi9, hu9⟩
          have HI9 := hid hi9
          have HB9 := hid (below_upd HB8.out hu9 (by have := HG.out; have := HB4.out.size; omega))
          have HB39 := hid (below_upd HB38.out hu9 (by have := HG.out; have := HG4.out; omega))
          obtain ⟨a9, c9, rfl⟩ := ownsRow_len0 hown9
          have HO9 := hid (HO2.out.below (Below.next HB3'.out HB39.out))
          have HC9 := hid (HC3.out.below HB39.out)
          have stc := HC9.out.str
          have hd := (Below.refl w9.heap.size w9).drew
          clear hi9 hu9 hown9
          go_wp2_with fail
          refine wp_region_held_drew (S := (fun w' => Below w9.heap.size w9 w')) (by kernel_rfl) (by first | assumption | exact Below.next (by assumption) hb10 | exact Below.next (by assumption) hb11) (fun hH => ?_)
          refine wpAnyH_take (i := 0) (v := _) (by simp only [List.getElem?_toArray, List.getElem?_cons_succ, List.getElem?_cons_zero]; rfl) (by kernel_rfl) (by kernel_rfl) (by kernel_rfl) (by exact fun _ _ _ h => h) (by first | exact Or.inl ⟨by rfl, by intro w hSw; go_simp; try with_reducible rfl⟩ | exact Or.inr ⟨by rfl, rfl⟩) hH ?_
          try simp only [Act.put, List.setIfInBounds_toArray, List.set_cons_zero, List.set_cons_succ]
          refine wpAnyH_take (i := 1) (v := _) (by simp only [List.getElem?_toArray, List.getElem?_cons_succ, List.getElem?_cons_zero]; rfl) (by kernel_rfl) (by kernel_rfl) (by kernel_rfl) (by exact fun _ _ _ h => h) (by first | exact Or.inl ⟨by rfl, by intro w hSw; go_simp; try with_reducible rfl⟩ | exact Or.inr ⟨by rfl, rfl⟩) hH ?_
          try simp only [Act.put, List.setIfInBounds_toArray, List.set_cons_zero, List.set_cons_succ]
          refine wpAnyH_take (i := 2) (v := _) (by simp only [List.getElem?_toArray, List.getElem?_cons_succ, List.getElem?_cons_zero]; rfl) (by kernel_rfl) (by kernel_rfl) (by kernel_rfl) (by exact fun _ _ _ h => h) (by first | exact Or.inl ⟨by rfl, by intro w hSw; go_simp; try with_reducible rfl⟩ | exact Or.inr ⟨by rfl, rfl⟩) hH ?_
          try simp only [Act.put, List.setIfInBounds_toArray, List.set_cons_zero, List.set_cons_succ]
          refine wpAnyH_take (i := 3) (v := _) (by simp only [List.getElem?_toArray, List.getElem?_cons_succ, List.getElem?_cons_zero]; rfl) (by kernel_rfl) (by kernel_rfl) (by kernel_rfl) (by exact fun _ _ _ h => h) (by first | exact Or.inl ⟨by rfl, by intro w hSw; go_simp; try with_reducible rfl⟩ | exact Or.inr ⟨by rfl, rfl⟩) hH ?_
          try simp only [Act.put, List.setIfInBounds_toArray, List.set_cons_zero, List.set_cons_succ]
          refine wpAnyH_take (i := 4) (v := _) (by simp only [List.getElem?_toArray, List.getElem?_cons_succ, List.getElem?_cons_zero]; rfl) (by kernel_rfl) (by kernel_rfl) (by kernel_rfl) (by exact fun _ _ _ h => h) (by first | exact Or.inl ⟨by rfl, by intro w hSw; go_simp; try with_reducible rfl⟩ | exact Or.inr ⟨by rfl, rfl⟩) hH ?_
          try simp only [Act.put, List.setIfInBounds_toArray, List.set_cons_zero, List.set_cons_succ]
          refine wpAnyH_take (i := 5) (v := _) (by simp only [List.getElem?_toArray, List.getElem?_cons_succ, List.getElem?_cons_zero]; rfl) (by kernel_rfl) (by kernel_rfl) (by kernel_rfl) (by exact fun _ _ _ h => h) (by first | exact Or.inl ⟨by rfl, by intro w hSw; go_simp; try with_reducible rfl⟩ | exact Or.inr ⟨by rfl, rfl⟩) hH ?_
          try simp only [Act.put, List.setIfInBounds_toArray, List.set_cons_zero, List.set_cons_succ]
          refine wpAnyH_take (i := 6) (v := _) (by simp only [List.getElem?_toArray, List.getElem?_cons_succ, List.getElem?_cons_zero]; rfl) (by kernel_rfl) (by kernel_rfl) (by kernel_rfl) (by exact fun _ _ _ h => h) (by first | exact Or.inl ⟨by rfl, by intro w hSw; go_simp; try with_reducible rfl⟩ | exact Or.inr ⟨by rfl, rfl⟩) hH ?_
          try simp only [Act.put, List.setIfInBounds_toArray, List.set_cons_zero, List.set_cons_succ]
          refine wpAnyH_ready (rs := [7]) (by kernel_rfl) (by simp) ?_
          refine AllReadyH.cons rfl (fun K hK => ?_) AllReadyH.nil
          go_simp
          (refine (in_Done (some []) g D _ (HI9.out.below (by assumption))).mono ?_); rintro e w' ⟨rfl, rfl⟩; simp only [inDone, beq_self_eq_true]; go_simp
          refine hK.out _ _ (by first | assumption | exact Below.next (by assumption) hb10 | exact Below.next (by assumption) hb11) (fun hH => ?_)
          clear hK K
          try simp only [Act.put, List.setIfInBounds_toArray, List.set_cons_zero, List.set_cons_succ]
          refine wpAnyH_take (i := 8) (v := _) (by simp only [List.getElem?_toArray, List.getElem?_cons_succ, List.getElem?_cons_zero]; rfl) (by kernel_rfl) (by kernel_rfl) (by kernel_rfl) (by exact fun _ _ _ h => h) (by first | exact Or.inl ⟨by rfl, by intro w hSw; go_simp; try with_reducible rfl⟩ | exact Or.inr ⟨by rfl, rfl⟩) hH ?_
          try simp only [Act.put, List.setIfInBounds_toArray, List.set_cons_zero, List.set_cons_succ]
          refine wpAnyH_take (i := 9) (v := _) (by simp only [List.getElem?_toArray, List.getElem?_cons_succ, List.getElem?_cons_zero]; rfl) (by kernel_rfl) (by kernel_rfl) (by kernel_rfl) (by exact fun _ _ _ h => h) (by first | exact Or.inl ⟨by rfl, by intro w hSw; go_simp; try with_reducible rfl⟩ | exact Or.inr ⟨by rfl, rfl⟩) hH ?_
          try simp only [Act.put, List.setIfInBounds_toArray, List.set_cons_zero, List.set_cons_succ]
          refine wpAnyH_take (i := 12) (v := _) (by simp only [List.getElem?_toArray, List.getElem?_cons_succ, List.getElem?_cons_zero]; rfl) (by kernel_rfl) (by kernel_rfl) (by kernel_rfl) (by exact fun _ _ _ h => h) (by first | exact Or.inl ⟨by rfl, by intro w hSw; go_simp; try with_reducible rfl⟩ | exact Or.inr ⟨by rfl, rfl⟩) hH ?_
          try simp only [Act.put, List.setIfInBounds_toArray, List.set_cons_zero, List.set_cons_succ]
          refine wpAnyH_take (i := 13) (v := _) (by simp only [List.getElem?_toArray, List.getElem?_cons_succ, List.getElem?_cons_zero]; rfl) (by kernel_rfl) (by kernel_rfl) (by kernel_rfl) (by exact fun _ _ _ h => h) (by first | exact Or.inl ⟨by rfl, by intro w hSw; go_simp; try with_reducible rfl⟩ | exact Or.inr ⟨by rfl, rfl⟩) hH ?_
          try simp only [Act.put, List.setIfInBounds_toArray, List.set_cons_zero, List.set_cons_succ]
          refine wpAnyH_ready (rs := [10]) (by kernel_rfl) (by simp) ?_
          refine AllReadyH.cons rfl (fun K hK => ?_) AllReadyH.nil
          go_simp
          (refine (out_All w.heap.size v2 all _ (HO9.out.below (by assumption)) (by omega)).mono ?_); rintro e w10 ⟨v10, rfl, hown10, hb10⟩; (have s10 := ownsRow.slb hown10 (by omega)); (have HS10 := hid s10); (obtain ⟨a10, c10, rfl, -⟩ := s10); (have st10 := HS10.out.str w10 (Below.refl _ _)); clear hown10; go_simp
          refine hK.out _ _ (by first | assumption | exact Below.next (by assumption) hb10 | exact Below.next (by assumption) hb11) (fun hH => ?_)
          clear hK K
          try simp only [Act.put, List.setIfInBounds_toArray, List.set_cons_zero, List.set_cons_succ]
          refine wpAnyH_ready (rs := [11]) (by kernel_rfl) (by simp) ?_
          refine AllReadyH.cons rfl (fun K hK => ?_) AllReadyH.nil
          go_simp
          refine hK.out _ _ (by first | assumption | exact Below.next (by assumption) hb10 | exact Below.next (by assumption) hb11) (fun hH => ?_)
          clear hK K
          try simp only [Act.put, List.setIfInBounds_toArray, List.set_cons_zero, List.set_cons_succ]
          refine wpAnyH_take (i := 14) (v := _) (by simp only [List.getElem?_toArray, List.getElem?_cons_succ, List.getElem?_cons_zero]; rfl) (by kernel_rfl) (by kernel_rfl) (by kernel_rfl) (by exact fun _ _ _ h => h) (by first | exact Or.inl ⟨by rfl, by intro w hSw; go_simp; try with_reducible rfl⟩ | exact Or.inr ⟨by rfl, rfl⟩) hH ?_
          try simp only [Act.put, List.setIfInBounds_toArray, List.set_cons_zero, List.set_cons_succ]
          refine wpAnyH_take (i := 15) (v := _) (by simp only [List.getElem?_toArray, List.getElem?_cons_succ, List.getElem?_cons_zero]; rfl) (by kernel_rfl) (by kernel_rfl) (by kernel_rfl) (by exact fun _ _ _ h => h) (by first | exact Or.inl ⟨by rfl, by intro w hSw; go_simp; try with_reducible rfl⟩ | exact Or.inr ⟨by rfl, rfl⟩) hH ?_
          try simp only [Act.put, List.setIfInBounds_toArray, List.set_cons_zero, List.set_cons_succ]
          refine wpAnyH_take (i := 16) (v := _) (by simp only [List.getElem?_toArray, List.getElem?_cons_succ, List.getElem?_cons_zero]; rfl) (by kernel_rfl) (by kernel_rfl) (by kernel_rfl) (by exact fun _ _ _ h => h) (by first | exact Or.inl ⟨by rfl, by intro w hSw; go_simp; try with_reducible rfl⟩ | exact Or.inr ⟨by rfl, rfl⟩) hH ?_
          try simp only [Act.put, List.setIfInBounds_toArray, List.set_cons_zero, List.set_cons_succ]
          refine wpAnyH_ready (rs := [17]) (by kernel_rfl) (by simp) ?_
          refine AllReadyH.cons rfl (fun K hK => ?_) AllReadyH.nil
          go_simp
          (refine (var_awake _).mono ?_); rintro e w11 ⟨rfl, hb11⟩; go_simp
          refine hK.out _ _ (by first | assumption | exact Below.next (by assumption) hb10 | exact Below.next (by assumption) hb11) (fun hH => ?_)
          clear hK K
          try simp only [Act.put, List.setIfInBounds_toArray, List.set_cons_zero, List.set_cons_succ]
          refine wpAnyH_take (i := 18) (v := _) (by simp only [List.getElem?_toArray, List.getElem?_cons_succ, List.getElem?_cons_zero]; rfl) (by kernel_rfl) (by kernel_rfl) (by kernel_rfl) (by exact fun _ _ _ h => h) (by first | exact Or.inl ⟨by rfl, by intro w hSw; go_simp; try with_reducible rfl⟩ | exact Or.inr ⟨by rfl, rfl⟩) hH ?_
          try simp only [Act.put, List.setIfInBounds_toArray, List.set_cons_zero, List.set_cons_succ]
          refine wpAnyH_take (i := 19) (v := _) (by simp only [List.getElem?_toArray, List.getElem?_cons_succ, List.getElem?_cons_zero]; rfl) (by kernel_rfl) (by kernel_rfl) (by kernel_rfl) (by exact fun _ _ _ h => h) (by first | exact Or.inl ⟨by rfl, by intro w hSw; go_simp; try with_reducible rfl⟩ | exact Or.inr ⟨by rfl, rfl⟩) hH ?_
          try simp only [Act.put, List.setIfInBounds_toArray, List.set_cons_zero, List.set_cons_succ]
          refine wpAnyH_done (by kernel_rfl) ?_ _
          have HB11 := hid (Below.next HB9.out hH)
          clear hH hd stc hb10 hb11 st10
          go_wp2
          go_ret
          exact ⟨rfl, HB11.out⟩
end Go.Proofs.Ytdchopckbklncaa
