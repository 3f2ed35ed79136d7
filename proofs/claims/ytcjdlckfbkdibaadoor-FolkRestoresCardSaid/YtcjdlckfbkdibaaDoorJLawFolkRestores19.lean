/- Joined texts, in this order: Ref17. Each one's first remark says what it proves; no condition beyond those that its theorems name. -/
import Derived.Test.YtcjdlckfbkdibaaDoorJLawFolkRestores13
import Derived.Test.YtcjdlckfbkdibaaDoorJLawFolkRestores18
section
/- Contracts of the document's accounts: Find, Add. -/
namespace Go.Proofs.YtcjdlckfbkdibaaDoor
open Go.RowKit
open Go.Lib (hid)
set_option linter.unusedVariables false

theorem T_strs17 : SlT Tryd.prog 31 9 (.string ByteArray.empty) 1 16 := SlT.mk' Tryd.underlying31 (by kernel_rfl) rfl (by decide) (by decide)
theorem T_ints17 : SlT Tryd.prog 33 3 (.int .i64 0) 1 8 := SlT.mk' Tryd.underlying33 (by kernel_rfl) rfl (by decide) (by decide)
def svN (L : List (List UInt8 × Int)) : List Value := L.map fun p => .string ⟨p.1.toArray⟩
def ivN (L : List (List UInt8 × Int)) : List Value := L.map fun p => .int .i64 p.2
/-- the document's accounts stand at block d -/
structure RefIs (w : World) (d : Nat) (vn vg : Value) (L : List (List UInt8 × Int)) (held : Int) : Prop where
  blk : Blk w d #[vn, vg, .int .i64 held]
  on : w.ownsRow 0 9 1 vn L.length (svN L)
  og : w.ownsRow 0 3 1 vg L.length (ivN L)
  n1 : vn.ownBlock ≠ some d
  n2 : vg.ownBlock ≠ some d
  n3 : ∀ k, vn.ownBlock = some k → vg.ownBlock ≠ some k
theorem RefIs.upd {S : Nat → Prop} {w w' : World} {d : Nat} {vn vg : Value} {L : List (List UInt8 × Int)} {held : Int} (h : RefIs w d vn vg L held) (hu : Upd S w w') (h1 : ¬ S d) (h2 : ∀ k, vn.ownBlock = some k → ¬ S k) (h3 : ∀ k, vg.ownBlock = some k → ¬ S k) : RefIs w' d vn vg L held :=
  ⟨h.blk.upd hu h1, hu.owns h.on h2, hu.owns h.og h3, h.n1, h.n2, h.n3⟩
theorem RefIs.below {w w' : World} {d : Nat} {vn vg : Value} {L : List (List UInt8 × Int)} {held : Int} (h : RefIs w d vn vg L held) (hb : Below w.heap.size w w') : RefIs w' d vn vg L held :=
  h.upd (S := fun _ => False) (Upd.of_below hb) (fun x => x) (fun _ _ x => x) (fun _ _ x => x)
structure RefStep (d : Nat) (vn vg vn' vg' : Value) (w w' : World) : Prop where
  upd : Upd (fun k => k = d ∨ vn.ownBlock = some k ∨ vg.ownBlock = some k) w w'
  w1 : ∀ k, vn'.ownBlock = some k → vn.ownBlock = some k ∨ w.heap.size ≤ k
  w2 : ∀ k, vg'.ownBlock = some k → vg.ownBlock = some k ∨ w.heap.size ≤ k
theorem Blk.cellsR {w : World} {g : Nat} {c0 c1 c2 : Value} (h : Blk w g #[c0, c1, c2]) : w.cell? ⟨g, 0, none⟩ = some c0 ∧ w.cell? ⟨g, 1, none⟩ = some c1 ∧ w.cell? ⟨g, 2, none⟩ = some c2 :=
  ⟨by rw [h.cell]; rfl, by rw [h.cell]; rfl, by rw [h.cell]; rfl⟩
def FnL (L : List (List UInt8 × Int)) (x : List UInt8) (r : Nat) (v5 : Value) : Prop :=
  ∃ j : Nat, v5 = .int .i64 (j : Int) ∧ j ≤ L.length ∧ Hid (r = if fkFind (L.drop j) x = 0 then 0 else j + fkFind (L.drop j) x)
set_option maxRecDepth 100000 in
set_option maxHeartbeats 2000000 in
theorem ref17_Find (d : Nat) (vn vg : Value) (L : List (List UInt8 × Int)) (held : Int) (w : World) (h : RefIs w d vn vg L held) (hl : L.length ≤ 100000) (x : List UInt8) (r : Nat) (hr : Hid (fkFind L x = r)) :
    Calls Tryd.prog 19 #[.pointer (some ⟨d, 0, none⟩), .string ⟨x.toArray⟩] w fun e w' => e = .returned (.int .i64 (r : Int)) ∧ w = w' := by
  obtain ⟨a, c, rfl, hc1, hc2, hrd, -⟩ := ownsRow.rd h.on
  obtain ⟨c0, -, -⟩ := h.blk.cellsR
  have HRD := hid hrd
  clear h hrd hc1 hc2
  go_enter Tryd.func19, Tryd.ntmps19
  go_wp2_with fail
  go_loop [5] (fun v5 => FnL L x r v5) (fun v5 => L.length - (intOf v5).toNat)
  case atStart => exact ⟨0, rfl, by omega, hid (by rw [List.drop_zero, hr.out]; split <;> omega)⟩
  case round =>
    obtain ⟨j, rfl, hj, HJ⟩ := hrel
    by_cases hlt : j < L.length
    · have j1 : (j : Int) < (L.length : Int) := by omega
      have j0 : (0 : Int) ≤ (j : Int) := by omega
      obtain ⟨⟨l, g⟩, hp⟩ : ∃ p, L[j]? = some p := ⟨L[j], List.getElem?_eq_getElem hlt⟩
      have hd : L.drop j = (l, g) :: L.drop (j + 1) := by
        rw [List.drop_eq_getElem_cons hlt, (List.getElem?_eq_some_iff.1 hp).2]
      obtain ⟨b1, o1, rfl, hcell⟩ := HRD.out j (by unfold svN; rw [List.length_map]; exact hlt)
      have hv : (svN L)[j]? = some (.string ⟨l.toArray⟩) := by unfold svN; rw [List.getElem?_map, hp]; rfl
      rw [hv] at hcell
      have hj2 := HJ.out
      rw [hd, fkFind] at hj2
      clear hd hv hp
      by_cases he : l = x
      · have hr2 : r = j + 1 := by rw [hj2, if_pos he]; simp
        subst hr2
        have heb : (l == x) = true := by simp [he]
        clear hj2 he HJ
        go_wp2_with fail
        go_ret
        exact ⟨by congr 2, rfl⟩
      · have hr2 : r = if fkFind (L.drop (j + 1)) x = 0 then 0 else j + 1 + fkFind (L.drop (j + 1)) x := by
          rw [hj2, if_neg he]
          by_cases h0 : fkFind (L.drop (j + 1)) x = 0
          · simp [h0]
          · simp only [h0, if_false]
            rw [if_neg (by omega)]; omega
        have HR2 := hid hr2
        have heb : (l == x) = false := by simp [he]
        clear hj2 he hr2 HJ
        go_wp2_with fail
        go_round
        case rel => exact ⟨j + 1, by go_num, by omega, HR2⟩
        case measure => simp [intOf]; omega
    · have j1 : ¬ (j : Int) < (L.length : Int) := by omega
      have hr2 : r = 0 := by
        rw [HJ.out, List.drop_of_length_le (by omega)]; rfl
      subst hr2
      go_wp2_with fail
      go_ret
      exact ⟨rfl, rfl⟩
set_option maxRecDepth 100000 in
set_option maxHeartbeats 2000000 in
theorem ref17_Add (d : Nat) (vn vg : Value) (L : List (List UInt8 × Int)) (held : Int) (w : World) (h : RefIs w d vn vg L held) (hlen : L.length ≤ 256) (x : List UInt8) (hx : x.length ≤ 1000) :
    Calls Tryd.prog 25 #[.pointer (some ⟨d, 0, none⟩), .string ⟨x.toArray⟩] w fun e w' => ∃ vn' vg', e = .returned (.tuple #[.int .i64 (addFI L x), .int .i64 (addFE L x)]) ∧ RefIs w' d vn' vg' (addFL L x) held ∧ RefStep d vn vg vn' vg' w w' := by
  obtain ⟨r, hr⟩ : ∃ r, fkFind L x = r := ⟨_, rfl⟩
  have HR := hid hr
  have hxs : (⟨x.toArray⟩ : ByteArray).size ≤ 9223372036854775807 := by show x.toArray.size ≤ _; rw [List.size_toArray]; omega
  have HX := hid hxs
  have H := hid h
  have hI : addFI L x = if addFE L x = 0 then ((L.length + 1 : Nat) : Int) else 0 := rfl
  have hL : addFL L x = if addFE L x = 0 then L ++ [(x, 0)] else L := rfl
  have hE : addFE L x = if nameB x then (if r = 0 then (if L.length < 256 then 0 else 12) else 13) else 16 := by unfold addFE; rw [hr]
  obtain ⟨E, hEE⟩ : ∃ E, addFE L x = E := ⟨_, rfl⟩
  obtain ⟨I, hII⟩ : ∃ I, addFI L x = I := ⟨_, rfl⟩
  obtain ⟨M, hMM⟩ : ∃ M, addFL L x = M := ⟨_, rfl⟩
  rw [hEE] at hI hL hE
  rw [hII] at hI
  rw [hMM] at hL
  rw [hEE, hII, hMM]
  have HI := hid hI
  have HL := hid hL
  have HE := hid hE
  clear hr hxs h hI hL hE hEE hII hMM
  have hst0 : RefStep d vn vg vn vg w w := ⟨Upd.refl _ _, fun _ h => .inl h, fun _ h => .inl h⟩
  have HST0 := hid hst0
  clear hst0
  obtain ⟨nb, hnb⟩ : ∃ nb, nameB x = nb := ⟨_, rfl⟩
  have HNB := hid hnb
  have hn : nameB (⟨x.toArray⟩ : ByteArray).data.toList = nb := hnb
  have HN := hid hn
  obtain ⟨a0, c0, hvn, -⟩ := ownsRow.rd H.out.on
  subst hvn
  obtain ⟨a1, c1, hvg, -⟩ := ownsRow.rd H.out.og
  subst hvg
  clear hnb hn
  cases nb with
  | false =>
    have hE2 : E = 16 := by rw [HE.out, HNB.out]; rfl
    subst hE2
    have hI2 : I = 0 := by rw [HI.out]; rfl
    have hL2 : M = L := by rw [HL.out]; rfl
    subst hI2
    subst hL2
    go_enter Tryd.func25, Tryd.ntmps25
    go_wp2_with fail
    refine (ref17_Name ⟨x.toArray⟩ w HX.out).mono ?_
    rintro e w2 ⟨rfl, rfl⟩
    rw [HN.out]
    go_wp2_with fail
    go_ret2
    exact ⟨_, _, rfl, H.out, HST0.out⟩
  | true =>
    by_cases h0 : r = 0
    · subst h0
      by_cases h1 : L.length < 256
      · have hE2 : E = 0 := by rw [HE.out, HNB.out, if_pos rfl, if_pos rfl, if_pos h1]
        subst hE2
        have hI2 : I = ((L.length + 1 : Nat) : Int) := by rw [HI.out]; rfl
        have hL2 : M = L ++ [(x, 0)] := by rw [HL.out]; rfl
        subst hI2
        subst hL2
        have h1b : ¬ (256 : Int) ≤ (L.length : Int) := by omega
        go_enter Tryd.func25, Tryd.ntmps25
        go_wp2_with fail
        refine (ref17_Name ⟨x.toArray⟩ w HX.out).mono ?_
        rintro e w2 ⟨rfl, rfl⟩
        rw [HN.out]
        go_wp2_with fail
        refine (ref17_Find d _ _ L held w H.out (by omega) x 0 HR).mono ?_
        rintro e w2 ⟨rfl, rfl⟩
        obtain ⟨k0, k1, -⟩ := H.out.blk.cellsR
        go_wp2_with (at_builtin; refine wpList_append1w T_strs17 _ rfl _ _ #[.string ⟨x.toArray⟩] rfl 0 _ _ _ rfl H.out.on rfl rfl ?c1 ?c2 (Nat.zero_le _) ?_)
        case c1 => simp [Value.oneCell']
        case c2 => omega
        intro v5 w5 hown5 hgrow5 hne5 hwh5
        have hu5 := Upd.of_grown hgrow5
        obtain ⟨a5, q5, rfl, -⟩ := ownsRow.rd hown5
        have hb5 : Blk w5 d #[.slice a0 L.length c0, .slice a1 L.length c1, .int .i64 held] := H.out.blk.upd hu5 H.out.n1
        have HU5 := hid hu5
        have HW5 := hid hwh5
        have hf5 : w5.frozen? ⟨d, 0, none⟩ = false := hb5.unfrozen 0
        have hc5 : w5.cell? ⟨d, 0, none⟩ = some (.slice a0 L.length c0) := by rw [hb5.cell]; rfl
        have HO5 := hid hown5
        have HG5 := hid (hu5.owns H.out.og (fun k hk e => H.out.n3 k e hk))
        have HK5 := hid hb5
        clear hown5 hgrow5 hne5 hwh5 hu5 hb5 k0 k1
        go_upto_region 8 with fail
        have hdl := H.out.blk.lt
        have hn5 : (Value.slice a5 (L.length + 1) q5).ownBlock ≠ some d := fun e => by
          rcases HW5.out d e with e | e
          · exact H.out.n1 e
          · omega
        have hu6 := Upd.setCell w5 d 0 (.slice a5 (L.length + 1) q5)
        have HK6 : Hid (Blk (w5.setCell ⟨d, 0, none⟩ (.slice a5 (L.length + 1) q5)) d #[.slice a5 (L.length + 1) q5, .slice a1 L.length c1, .int .i64 held]) := hid (by simpa using HK5.out.set 0 (.slice a5 (L.length + 1) q5))
        have HO6 := hid (hu6.owns HO5.out (fun k hk e => by subst e; exact hn5 hk))
        have HG6 := hid (hu6.owns HG5.out (fun k hk e => by subst e; exact H.out.n2 hk))
        have HN5 := hid hn5
        have HU6 := hid hu6
        generalize World.setCell w5 _ _ = w6 at HK6 HO6 HG6 HU6
        clear hf5 hc5 hn5 hu6 HK5 HO5 HG5
        obtain ⟨k0, k1, -⟩ := HK6.out.cellsR
        go_wp2_with (at_builtin; refine wpList_append1w T_ints17 _ rfl _ _ #[.int .i64 0] rfl 0 _ _ _ rfl HG6.out rfl rfl ?c3 ?c4 (Nat.zero_le _) ?_)
        case c3 => simp [Value.oneCell']
        case c4 => omega
        intro v7 w7 hown7 hgrow7 hne7 hwh7
        have hu7 := Upd.of_grown hgrow7
        obtain ⟨a7, q7, rfl, -⟩ := ownsRow.rd hown7
        have hb7 : Blk w7 d #[.slice a5 (L.length + 1) q5, .slice a1 L.length c1, .int .i64 held] := HK6.out.upd hu7 H.out.n2
        have HU7 := hid hu7
        have HW7 := hid hwh7
        have hf7 : w7.frozen? ⟨d, 1, none⟩ = false := hb7.unfrozen 1
        have hc7 : w7.cell? ⟨d, 1, none⟩ = some (.slice a1 L.length c1) := by rw [hb7.cell]; rfl
        have h57 : ∀ k, (Value.slice a5 (L.length + 1) q5).ownBlock = some k → (Value.slice a1 L.length c1).ownBlock ≠ some k := fun k hk e => by
          rcases HW5.out k hk with q | q
          · exact H.out.n3 k q e
          · have := (H.out.og.lt k e).2; omega
        have HO7 := hid (hu7.owns HO6.out (fun k hk e => h57 k hk e))
        have HG7 := hid hown7
        have HK7 := hid hb7
        have H57 := hid h57
        clear hown7 hgrow7 hne7 hwh7 hu7 hb7 k0 k1 h57
        go_upto_region 9 with fail
        have hn7 : (Value.slice a7 (L.length + 1) q7).ownBlock ≠ some d := fun e => by
          rcases HW7.out d e with e | e
          · exact H.out.n2 e
          · have := HK6.out.lt; omega
        have hu8 := Upd.setCell w7 d 1 (.slice a7 (L.length + 1) q7)
        have HK8 : Hid (Blk (w7.setCell ⟨d, 1, none⟩ (.slice a7 (L.length + 1) q7)) d #[.slice a5 (L.length + 1) q5, .slice a7 (L.length + 1) q7, .int .i64 held]) := hid (by simpa using HK7.out.set 1 (.slice a7 (L.length + 1) q7))
        have HO8 := hid (hu8.owns HO7.out (fun k hk e => by subst e; exact HN5.out hk))
        have HG8 := hid (hu8.owns HG7.out (fun k hk e => by subst e; exact hn7 hk))
        have HU8 := hid hu8
        have HN7 := hid hn7
        generalize World.setCell w7 _ _ = w8 at HK8 HO8 HG8 HU8
        clear hf7 hc7 hn7 hu8 HK7 HO7 HG7
        have hlen2 : (L ++ [(x, (0 : Int))]).length = L.length + 1 := by simp
        have HR8 : Hid (RefIs w8 d (.slice a5 (L.length + 1) q5) (.slice a7 (L.length + 1) q7) (L ++ [(x, 0)]) held) := hid (by
          refine ⟨HK8.out, ?_, ?_, HN5.out, HN7.out, ?_⟩
          · rw [hlen2]; unfold svN; rw [List.map_append]; exact HO8.out
          · rw [hlen2]; unfold ivN; rw [List.map_append]; exact HG8.out
          · intro k hk e
            rcases HW7.out k e with q | q
            · exact H57.out k hk q
            · have := (HO6.out.lt k hk).2; omega)
        have HST : Hid (RefStep d (.slice a0 L.length c0) (.slice a1 L.length c1) (.slice a5 (L.length + 1) q5) (.slice a7 (L.length + 1) q7) w w8) := hid (by
          have u1 : Upd (fun k => k = d ∨ (Value.slice a0 L.length c0).ownBlock = some k ∨ (Value.slice a1 L.length c1).ownBlock = some k) w w5 := HU5.out.mono (fun _ _ q => .inr (.inl q))
          have u2 := u1.trans HU6.out (fun _ _ q => .inl q)
          have u3 := u2.trans HU7.out (fun _ _ q => .inr (.inr q))
          have u4 := u3.trans HU8.out (fun _ _ q => .inl q)
          exact ⟨u4, HW5.out, fun k hk => by
            rcases HW7.out k hk with q | q
            · exact .inl q
            · exact .inr (by have := u2.size; omega)⟩)
        clear hlen2
        obtain ⟨k0, -, -⟩ := HK8.out.cellsR
        go_wp2_with fail
        go_ret2
        exact ⟨_, _, rfl, HR8.out, HST.out⟩
      · have hE2 : E = 12 := by rw [HE.out, HNB.out, if_pos rfl, if_pos rfl, if_neg h1]
        subst hE2
        have hI2 : I = 0 := by rw [HI.out]; rfl
        have hL2 : M = L := by rw [HL.out]; rfl
        subst hI2
        subst hL2
        have h1b : (256 : Int) ≤ (M.length : Int) := by omega
        go_enter Tryd.func25, Tryd.ntmps25
        go_wp2_with fail
        refine (ref17_Name ⟨x.toArray⟩ w HX.out).mono ?_
        rintro e w2 ⟨rfl, rfl⟩
        rw [HN.out]
        go_wp2_with fail
        refine (ref17_Find d _ _ _ held w H.out (by omega) x 0 HR).mono ?_
        rintro e w2 ⟨rfl, rfl⟩
        obtain ⟨k0, k1, -⟩ := H.out.blk.cellsR
        go_wp2_with fail
        go_ret2
        exact ⟨_, _, rfl, H.out, HST0.out⟩
    · have hE2 : E = 13 := by rw [HE.out, HNB.out, if_pos rfl, if_neg h0]
      subst hE2
      have hI2 : I = 0 := by rw [HI.out]; rfl
      have hL2 : M = L := by rw [HL.out]; rfl
      subst hI2
      subst hL2
      have hr0 : (0 : Int) < (r : Int) := by omega
      go_enter Tryd.func25, Tryd.ntmps25
      go_wp2_with fail
      refine (ref17_Name ⟨x.toArray⟩ w HX.out).mono ?_
      rintro e w2 ⟨rfl, rfl⟩
      rw [HN.out]
      go_wp2_with fail
      refine (ref17_Find d _ _ _ held w H.out (by omega) x r HR).mono ?_
      rintro e w2 ⟨rfl, rfl⟩
      go_wp2_with fail
      go_ret2
      exact ⟨_, _, rfl, H.out, HST0.out⟩
end Go.Proofs.YtcjdlckfbkdibaaDoor
end
