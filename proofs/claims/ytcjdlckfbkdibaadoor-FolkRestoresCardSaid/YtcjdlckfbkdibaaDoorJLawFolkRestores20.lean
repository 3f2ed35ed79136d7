/- Joined texts, in this order: Ref17Op. Each one's first remark says what it proves; no condition beyond those that its theorems name. -/
import Derived.Test.YtcjdlckfbkdibaaDoorJLawFolkRestores17
import Derived.Test.YtcjdlckfbkdibaaDoorJLawFolkRestores19
section
/- Contracts of the document's accounts: check, Total, Mint, Less, Move, Hold, Give. -/
namespace Go.Proofs.YtcjdlckfbkdibaaDoor
open Go.RowKit
open Go.Lib (hid)
set_option linter.unusedVariables false

def RefPost (d : Nat) (vn vg : Value) (w : World) (q : Int × List (List UInt8 × Int) × Int) (e : Ending) (w' : World) : Prop :=
  ∃ vn' vg', e = .returned (.int .i64 q.1) ∧ RefIs w' d vn' vg' q.2.1 q.2.2 ∧ RefStep d vn vg vn' vg' w w'
theorem RefStep.refl (d : Nat) (vn vg : Value) (w : World) : RefStep d vn vg vn vg w w := ⟨Upd.refl _ _, fun _ h => .inl h, fun _ h => .inl h⟩
theorem RefIs.gold {w : World} {d : Nat} {vn vg : Value} {L : List (List UInt8 × Int)} {held : Int} (h : RefIs w d vn vg L held) {i : Nat} {x : List UInt8} {y : Int} (hx : L[i]? = some (x, y)) :
    ∃ rg c, vg = .slice (some ⟨rg, 0, none⟩) L.length c ∧ w.cell? ⟨rg, i, none⟩ = some (.int .i64 y) ∧ w.frozen? ⟨rg, i, none⟩ = false := by
  have hi := (List.getElem?_eq_some_iff.1 hx).1
  obtain ⟨r, c, hv⟩ := Go.Joins.ownsRow_form h.og (by omega)
  subst hv
  obtain ⟨a, cap, e, -, -, hrd, -⟩ := ownsRow.rd h.og
  simp only [Value.slice.injEq] at e
  obtain ⟨rfl, -, rfl⟩ := e
  obtain ⟨b1, o1, ea, hc⟩ := hrd i (by unfold ivN; rw [List.length_map]; omega)
  simp only [Option.some.injEq, Addr.mk.injEq, and_true] at ea
  obtain ⟨rfl, rfl⟩ := ea
  rw [Nat.zero_add] at hc
  refine ⟨r, c, rfl, by rw [hc]; unfold ivN; rw [List.getElem?_map, hx]; rfl, ?_⟩
  rcases h.og.2 with ⟨q, -⟩ | ⟨g', cap', cur, q, -, hg, -⟩
  · simp at q
  · simp only [Value.slice.injEq, Option.some.injEq, Addr.mk.injEq, and_true, true_and] at q
    obtain ⟨rfl, -⟩ := q
    exact (show Blk w r cur from ⟨_, hg⟩).unfrozen _
theorem RefIs.put {w : World} {d rg c : Nat} {vn : Value} {L : List (List UInt8 × Int)} {held : Int} (h : RefIs w d vn (.slice (some ⟨rg, 0, none⟩) L.length c) L held) {i : Nat} {x : List UInt8} {y0 : Int} (hx : L[i]? = some (x, y0)) (y : Int) :
    RefIs (w.setCell ⟨rg, i, none⟩ (.int .i64 y)) d vn (.slice (some ⟨rg, 0, none⟩) L.length c) (L.set i (x, y)) held := by
  have hu := Upd.setCell w rg i (.int .i64 y)
  have e1 : rg ≠ d := fun e => h.n2 (by rw [e]; rfl)
  have hn : svN (L.set i (x, y)) = svN L := by
    unfold svN
    rw [List.map_set]
    apply List.ext_getElem?
    intro j
    rw [List.getElem?_set]
    split
    · subst_vars
      rw [List.getElem?_map, hx]
      have := (List.getElem?_eq_some_iff.1 hx).1
      simp [this]
    · rfl
  have hg : ivN (L.set i (x, y)) = (ivN L).set i (.int .i64 y) := by unfold ivN; rw [List.map_set]
  refine ⟨h.blk.upd hu (fun e => e1 e.symm), ?_, ?_, h.n1, h.n2, h.n3⟩
  · rw [List.length_set, hn]
    exact hu.owns h.on (fun k hk e => h.n3 k hk (by rw [e]; rfl))
  · rw [List.length_set, hg]
    exact (h.og.stored i (.int .i64 y)).1
theorem RefIs.setHeld {w : World} {d : Nat} {vn vg : Value} {L : List (List UInt8 × Int)} {held : Int} (h : RefIs w d vn vg L held) (y : Int) : RefIs (w.setCell ⟨d, 2, none⟩ (.int .i64 y)) d vn vg L y := by
  have hu := Upd.setCell w d 2 (.int .i64 y)
  exact ⟨by simpa using h.blk.set 2 (.int .i64 y), hu.owns h.on (fun k hk e => by subst e; exact h.n1 hk), hu.owns h.og (fun k hk e => by subst e; exact h.n2 hk), h.n1, h.n2, h.n3⟩
theorem RefStep.of_upd {d rg n c : Nat} {vn : Value} {w w' : World} (h : Upd (fun k => k = d ∨ k = rg) w w') : RefStep d vn (.slice (some ⟨rg, 0, none⟩) n c) vn (.slice (some ⟨rg, 0, none⟩) n c) w w' :=
  ⟨h.mono (fun k _ q => by
    rcases q with q | q
    · exact .inl q
    · exact .inr (.inr (by rw [q]; rfl))), fun k hk => .inl hk, fun k hk => .inl hk⟩
theorem ref17_check (d : Nat) (vn vg : Value) (L : List (List UInt8 × Int)) (held : Int) (w : World) (h : RefIs w d vn vg L held) (id n E : Int) (hE : Hid (checkE L id n = E)) :
    Calls Tryd.prog 58 #[.pointer (some ⟨d, 0, none⟩), .int .i64 id, .int .i64 n] w fun e w' => e = .returned (.int .i64 E) ∧ w = w' := by
  obtain ⟨a, c, rfl, -⟩ := ownsRow.rd h.og
  obtain ⟨-, c1, -⟩ := h.blk.cellsR
  clear h
  by_cases h1 : id < 1
  · have hE2 : E = 14 := by rw [← hE.out]; unfold checkE; rw [if_neg (by omega)]
    subst hE2
    go_enter Tryd.func58, Tryd.ntmps58
    go_wp2_with fail
    go_ret
    exact ⟨rfl, rfl⟩
  by_cases h2 : (L.length : Int) < id
  · have hE2 : E = 14 := by rw [← hE.out]; unfold checkE; rw [if_neg (by omega)]
    subst hE2
    go_enter Tryd.func58, Tryd.ntmps58
    go_wp2_with fail
    go_ret
    exact ⟨rfl, rfl⟩
  by_cases h3 : n < 0
  · have hE2 : E = 11 := by rw [← hE.out]; unfold checkE; rw [if_pos (by omega), if_neg (by omega)]
    subst hE2
    go_enter Tryd.func58, Tryd.ntmps58
    go_wp2_with fail
    go_ret
    exact ⟨rfl, rfl⟩
  by_cases h4 : 1099511627776 < n
  · have hE2 : E = 11 := by rw [← hE.out]; unfold checkE; rw [if_pos (by omega), if_neg (by omega)]
    subst hE2
    go_enter Tryd.func58, Tryd.ntmps58
    go_wp2_with fail
    go_ret
    exact ⟨rfl, rfl⟩
  have hE2 : E = 0 := by rw [← hE.out]; unfold checkE; rw [if_pos (by omega), if_pos (by omega)]
  subst hE2
  go_enter Tryd.func58, Tryd.ntmps58
  go_wp2_with fail
  go_ret
  exact ⟨rfl, rfl⟩
def TotR (L : List (List UInt8 × Int)) (held T : Int) (v3 v4 : Value) : Prop :=
  ∃ (j : Nat) (s : Int), v3 = .int .i64 s ∧ v4 = .int .i64 (j : Int) ∧ j ≤ L.length ∧ 0 ≤ s ∧ Hid (s + sumG (L.drop j) = T)
set_option maxRecDepth 100000 in
set_option maxHeartbeats 2000000 in
theorem ref17_Total (d : Nat) (vn vg : Value) (L : List (List UInt8 × Int)) (held : Int) (w : World) (h : RefIs w d vn vg L held) (hok : FkOk L held) (T : Int) (hT : Hid (held + sumG L = T)) :
    Calls Tryd.prog 56 #[.pointer (some ⟨d, 0, none⟩)] w fun e w' => e = .returned (.int .i64 T) ∧ w = w' := by
  obtain ⟨a, c, rfl, hc1, hc2, hrd, -⟩ := ownsRow.rd h.og
  obtain ⟨-, k1, k2⟩ := h.blk.cellsR
  have HRD := hid hrd
  have HOK := hid hok
  have hl := hok.len
  have HT2 : Hid (T ≤ 1099511627776) := hid (by rw [← hT.out]; exact hok.tot)
  clear h hrd hc1 hc2 hok
  go_enter Tryd.func56, Tryd.ntmps56
  go_wp2_with fail
  go_loop [3, 4] (fun v3 v4 => TotR L held T v3 v4) (fun _ v4 => L.length - (intOf v4).toNat)
  case atStart => exact ⟨0, held, rfl, rfl, by omega, HOK.out.h0, hT⟩
  case round =>
    obtain ⟨j, s, rfl, rfl, hj, hs0, HS⟩ := hrel
    by_cases hlt : j < L.length
    · have j1 : (j : Int) < (L.length : Int) := by omega
      have j0 : (0 : Int) ≤ (j : Int) := by omega
      obtain ⟨⟨l, g⟩, hp⟩ : ∃ p, L[j]? = some p := ⟨L[j], List.getElem?_eq_getElem hlt⟩
      have hd : L.drop j = (l, g) :: L.drop (j + 1) := by
        rw [List.drop_eq_getElem_cons hlt, (List.getElem?_eq_some_iff.1 hp).2]
      obtain ⟨b1, o1, rfl, hcell⟩ := HRD.out j (by unfold ivN; rw [List.length_map]; exact hlt)
      have hv : (ivN L)[j]? = some (.int .i64 g) := by unfold ivN; rw [List.getElem?_map, hp]; rfl
      rw [hv] at hcell
      have hs := HS.out
      rw [hd] at hs
      have e1 : sumG ((l, g) :: L.drop (j + 1)) = g + sumG (L.drop (j + 1)) := by simp [sumG]
      rw [e1] at hs
      have hg0 : 0 ≤ g := HOK.out.pos _ (List.mem_of_getElem? hp)
      have hsn : 0 ≤ sumG (L.drop (j + 1)) := sumG_nonneg (fun p hp => HOK.out.pos p (List.mem_of_mem_drop hp))
      have hb : s + g ≤ 1099511627776 := by have := HT2.out; omega
      have HS2 : Hid (s + g + sumG (L.drop (j + 1)) = T) := hid (by omega)
      clear hd hv hp e1 hs hsn HS
      go_wp2_with fail
      go_round
      case rel => exact ⟨j + 1, s + g, rfl, by go_num, by omega, by omega, HS2⟩
      case measure => simp [intOf]; omega
    · have j1 : ¬ (j : Int) < (L.length : Int) := by omega
      have hs : s = T := by
        have := HS.out
        rw [List.drop_of_length_le (by omega)] at this
        simpa [sumG] using this
      clear HS
      go_wp2_with fail
      go_ret
      exact ⟨rfl, rfl⟩
theorem ref17_Mint (d : Nat) (vn vg : Value) (L : List (List UInt8 × Int)) (held : Int) (w : World) (h : RefIs w d vn vg L held) (hok : FkOk L held) (a n b' : Int) :
    Calls Tryd.prog 26 #[.pointer (some ⟨d, 0, none⟩), .int .i64 a, .int .i64 n] w (RefPost d vn vg w (gop 2 a b' n L held)) := by
  have H := hid h
  have HOK := hid hok
  rcases check_cases L a n with hc | ⟨hc, n0, n1, i, x, y, hx, hi, e1, e2⟩
  · rw [gop_bad hc]
    have e3 : (checkE L a n == 0) = false := by simp [hc]
    have HP : Hid (RefPost d vn vg w (checkE L a n, L, held) (.returned (.int .i64 (checkE L a n))) w) := hid ⟨_, _, rfl, h, RefStep.refl _ _ _ _⟩
    obtain ⟨E, hE⟩ : ∃ E, checkE L a n = E := ⟨_, rfl⟩
    rw [hE] at e3 HP ⊢
    have HE := hid hE
    clear h hok hc hE
    go_enter Tryd.func26, Tryd.ntmps26
    go_wp2_with fail
    refine (ref17_check d vn vg L held w H.out a n E HE).mono ?_
    rintro e w1 ⟨rfl, rfl⟩
    go_wp2_with fail
    go_ret
    exact HP.out
  have hy := hok.gold hx
  have ht := hok.total
  obtain ⟨rg, c, rfl, k1, k2⟩ := h.gold hx
  obtain ⟨-, c1, -⟩ := h.blk.cellsR
  have HE := hid hc
  have HP := hid (h.put hx (y + n))
  have hil : (i : Int) < (L.length : Int) := by have := (List.getElem?_eq_some_iff.1 hx).1; omega
  have hil2 : ¬ (L.length : Int) ≤ (i : Int) := by omega
  have hll := hok.len
  rw [gop_2 hc, e1, e2]
  obtain ⟨T, hT⟩ : ∃ T, held + sumG L = T := ⟨_, rfl⟩
  have HT := hid hT
  rw [hT] at ht ⊢
  subst hi
  obtain ⟨t0, t1⟩ := ht
  obtain ⟨y0, y1⟩ := hy
  clear h hok hc e1 e2 hx hT
  by_cases hlt : 1099511627776 < T + n
  · rw [if_pos hlt]
    go_enter Tryd.func26, Tryd.ntmps26
    go_wp2_with fail
    refine (ref17_check d vn _ L held w H.out _ n 0 HE).mono ?_
    rintro e w1 ⟨rfl, rfl⟩
    go_wp2_with fail
    refine (ref17_Total d vn _ L held w H.out HOK.out T HT).mono ?_
    rintro e w1 ⟨rfl, rfl⟩
    go_wp2_with fail
    go_ret
    exact ⟨_, _, rfl, H.out, RefStep.refl _ _ _ _⟩
  · rw [if_neg hlt]
    go_enter Tryd.func26, Tryd.ntmps26
    go_wp2_with fail
    refine (ref17_check d vn _ L held w H.out _ n 0 HE).mono ?_
    rintro e w1 ⟨rfl, rfl⟩
    go_wp2_with fail
    refine (ref17_Total d vn _ L held w H.out HOK.out T HT).mono ?_
    rintro e w1 ⟨rfl, rfl⟩
    go_wp2_with fail
    go_ret
    exact ⟨vn, _, rfl, HP.out, RefStep.of_upd ((Upd.setCell w rg i _).mono (fun _ _ q => .inr q))⟩
theorem ref17_Less (d : Nat) (vn vg : Value) (L : List (List UInt8 × Int)) (held : Int) (w : World) (h : RefIs w d vn vg L held) (hok : FkOk L held) (a n b' : Int) :
    Calls Tryd.prog 46 #[.pointer (some ⟨d, 0, none⟩), .int .i64 a, .int .i64 n] w (RefPost d vn vg w (gop 3 a b' n L held)) := by
  have H := hid h
  have HOK := hid hok
  rcases check_cases L a n with hc | ⟨hc, n0, n1, i, x, y, hx, hi, e1, e2⟩
  · rw [gop_bad hc]
    have e3 : (checkE L a n == 0) = false := by simp [hc]
    have HP : Hid (RefPost d vn vg w (checkE L a n, L, held) (.returned (.int .i64 (checkE L a n))) w) := hid ⟨_, _, rfl, h, RefStep.refl _ _ _ _⟩
    obtain ⟨E, hE⟩ : ∃ E, checkE L a n = E := ⟨_, rfl⟩
    rw [hE] at e3 HP ⊢
    have HE := hid hE
    clear h hok hc hE
    go_enter Tryd.func46, Tryd.ntmps46
    go_wp2_with fail
    refine (ref17_check d vn vg L held w H.out a n E HE).mono ?_
    rintro e w1 ⟨rfl, rfl⟩
    go_wp2_with fail
    go_ret
    exact HP.out
  have hy := hok.gold hx
  have ht := hok.held
  obtain ⟨rg, c, rfl, k1, k2⟩ := h.gold hx
  obtain ⟨-, c1, c2⟩ := h.blk.cellsR
  have HE := hid hc
  have hil : (i : Int) < (L.length : Int) := by have := (List.getElem?_eq_some_iff.1 hx).1; omega
  have hil2 : ¬ (L.length : Int) ≤ (i : Int) := by omega
  have hll := hok.len
  obtain ⟨t0, t1⟩ := ht
  obtain ⟨y0, y1⟩ := hy
  subst hi
  rw [gop_3 hc, e1, e2]
  have HP := hid (h.put hx (y - n))
  clear h hok hc e1 e2 hx
  by_cases hlt : y < n
  · rw [if_pos hlt]
    go_enter Tryd.func46, Tryd.ntmps46
    go_wp2_with fail
    refine (ref17_check d vn _ L held w H.out _ n 0 HE).mono ?_
    rintro e w1 ⟨rfl, rfl⟩
    go_wp2_with fail
    go_ret
    exact ⟨_, _, rfl, H.out, RefStep.refl _ _ _ _⟩
  · rw [if_neg hlt]
    go_enter Tryd.func46, Tryd.ntmps46
    go_wp2_with fail
    refine (ref17_check d vn _ L held w H.out _ n 0 HE).mono ?_
    rintro e w1 ⟨rfl, rfl⟩
    go_wp2_with fail
    go_ret
    exact ⟨vn, _, rfl, HP.out, RefStep.of_upd ((Upd.setCell w rg i _).mono (fun _ _ q => .inr q))⟩
theorem ref17_Give (d : Nat) (vn vg : Value) (L : List (List UInt8 × Int)) (held : Int) (w : World) (h : RefIs w d vn vg L held) (hok : FkOk L held) (a n b' : Int) :
    Calls Tryd.prog 51 #[.pointer (some ⟨d, 0, none⟩), .int .i64 a, .int .i64 n] w (RefPost d vn vg w (gop 6 a b' n L held)) := by
  have H := hid h
  have HOK := hid hok
  rcases check_cases L a n with hc | ⟨hc, n0, n1, i, x, y, hx, hi, e1, e2⟩
  · rw [gop_bad hc]
    have e3 : (checkE L a n == 0) = false := by simp [hc]
    have HP : Hid (RefPost d vn vg w (checkE L a n, L, held) (.returned (.int .i64 (checkE L a n))) w) := hid ⟨_, _, rfl, h, RefStep.refl _ _ _ _⟩
    obtain ⟨E, hE⟩ : ∃ E, checkE L a n = E := ⟨_, rfl⟩
    rw [hE] at e3 HP ⊢
    have HE := hid hE
    clear h hok hc hE
    go_enter Tryd.func51, Tryd.ntmps51
    go_wp2_with fail
    refine (ref17_check d vn vg L held w H.out a n E HE).mono ?_
    rintro e w1 ⟨rfl, rfl⟩
    go_wp2_with fail
    go_ret
    exact HP.out
  have hy := hok.gold hx
  have ht := hok.held
  obtain ⟨rg, c, rfl, k1, k2⟩ := h.gold hx
  obtain ⟨-, c1, c2⟩ := h.blk.cellsR
  have HE := hid hc
  have hil : (i : Int) < (L.length : Int) := by have := (List.getElem?_eq_some_iff.1 hx).1; omega
  have hil2 : ¬ (L.length : Int) ≤ (i : Int) := by omega
  have hll := hok.len
  obtain ⟨t0, t1⟩ := ht
  obtain ⟨y0, y1⟩ := hy
  subst hi
  rw [gop_6 hc, e1, e2]
  have hrd : rg ≠ d := fun e => h.n2 (by rw [e]; rfl)
  obtain ⟨D, hD⟩ : ∃ D, held - n = D := ⟨_, rfl⟩
  rw [hD]
  have HP := hid ((h.setHeld D).put hx (y + n))
  have k3 : (w.setCell ⟨d, 2, none⟩ (.int .i64 D)).cell? ⟨rg, i, none⟩ = some (.int .i64 y) := by rw [World.cell?_setCell_other _ _ _ _ (by simp [Ne.symm hrd])]; exact k1
  have k4 : (w.setCell ⟨d, 2, none⟩ (.int .i64 D)).frozen? ⟨rg, i, none⟩ = false := by rw [World.frozen?_setCell]; exact k2
  obtain ⟨-, k5, -⟩ := (h.setHeld D).blk.cellsR
  have f2 : w.frozen? ⟨d, 2, none⟩ = false := h.blk.unfrozen 2
  clear h hok hc e1 e2 hx hrd
  by_cases hlt : held < n
  · rw [if_pos hlt]
    go_enter Tryd.func51, Tryd.ntmps51
    go_wp2_with fail
    refine (ref17_check d vn _ L held w H.out _ n 0 HE).mono ?_
    rintro e w1 ⟨rfl, rfl⟩
    go_wp2_with fail
    go_ret
    exact ⟨_, _, rfl, H.out, RefStep.refl _ _ _ _⟩
  · rw [if_neg hlt]
    go_enter Tryd.func51, Tryd.ntmps51
    go_wp2_with fail
    refine (ref17_check d vn _ L held w H.out _ n 0 HE).mono ?_
    rintro e w1 ⟨rfl, rfl⟩
    go_wp2_with fail
    go_ret
    exact ⟨vn, _, rfl, HP.out, RefStep.of_upd ((Upd.setCell w d 2 _).mono (fun _ _ q => .inl q) |>.trans (Upd.setCell _ rg i _) (fun _ _ q => .inr q))⟩
theorem ref17_Hold (d : Nat) (vn vg : Value) (L : List (List UInt8 × Int)) (held : Int) (w : World) (h : RefIs w d vn vg L held) (hok : FkOk L held) (a n b' : Int) :
    Calls Tryd.prog 49 #[.pointer (some ⟨d, 0, none⟩), .int .i64 a, .int .i64 n] w (RefPost d vn vg w (gop 5 a b' n L held)) := by
  have H := hid h
  have HOK := hid hok
  have hz : (gop 3 a b' n L held).1 ≠ 0 ∧ gop 5 a b' n L held = gop 3 a b' n L held ∧ (gop 3 a b' n L held).2 = (L, held) ∨ ((gop 3 a b' n L held).1 = 0 ∧ 0 ≤ n ∧ n ≤ 1099511627776 ∧ (gop 3 a b' n L held).2.2 = held ∧ gop 5 a b' n L held = (0, (gop 3 a b' n L held).2.1, held + n)) := by
    rcases check_cases L a n with hc | ⟨hc, n0, n1, -⟩
    · rw [gop_bad hc, gop_bad hc]; exact .inl ⟨hc, rfl, rfl⟩
    · rw [gop_3 hc, gop_5 hc]
      split
      · exact .inl ⟨by simp, rfl, rfl⟩
      · exact .inr ⟨rfl, n0, n1, rfl, rfl⟩
  have HL := hid (ref17_Less d vn vg L held w h hok a n b')
  have ht := hok.held
  obtain ⟨t0, t1⟩ := ht
  rcases hz with ⟨hz, he, h3⟩ | ⟨hz, n0, n1, h3, he⟩
  · rw [he]
    have HPO : Hid (∀ e w', RefPost d vn vg w (gop 3 a b' n L held) e w' → e = .returned (.int .i64 (gop 3 a b' n L held).1) ∧ RefPost d vn vg w (gop 3 a b' n L held) (.returned (.int .i64 (gop 3 a b' n L held).1)) w') := hid (fun e w' hp => by
      obtain ⟨v1, v2, rfl, p⟩ := hp
      exact ⟨rfl, v1, v2, rfl, p⟩)
    generalize gop 3 a b' n L held = q at hz HPO HL ⊢
    obtain ⟨E, q2⟩ := q
    have e3 : (E == 0) = false := by simpa using hz
    clear h hok he h3 hz
    go_enter Tryd.func49, Tryd.ntmps49
    go_wp2_with fail
    refine HL.out.mono ?_
    intro e w1 hp
    obtain ⟨rfl, hp⟩ := HPO.out e w1 hp
    have HP := hid hp
    clear hp
    go_wp2_with fail
    go_ret
    exact HP.out
  · rw [he]
    have HPO : Hid (∀ e w', RefPost d vn vg w (gop 3 a b' n L held) e w' → e = .returned (.int .i64 0) ∧ ∃ v1 v2, RefIs w' d v1 v2 (gop 3 a b' n L held).2.1 held ∧ RefStep d vn vg v1 v2 w w') := hid (fun e w' hp => by
      obtain ⟨v1, v2, rfl, p, q⟩ := hp
      rw [hz]
      rw [h3] at p
      exact ⟨rfl, v1, v2, p, q⟩)
    generalize gop 3 a b' n L held = q at hz HPO HL ⊢
    obtain ⟨E, M, hh⟩ := q
    clear h hok he h3 hz
    go_enter Tryd.func49, Tryd.ntmps49
    go_wp2_with fail
    refine HL.out.mono ?_
    intro e w1 hp
    obtain ⟨rfl, v1, v2, hp, hs⟩ := HPO.out e w1 hp
    have HP := hid hp
    have HS := hid hs
    obtain ⟨-, -, c2⟩ := hp.blk.cellsR
    have f2 : w1.frozen? ⟨d, 2, none⟩ = false := hp.blk.unfrozen 2
    clear hp hs
    go_wp2_with fail
    go_ret
    exact ⟨v1, v2, rfl, HP.out.setHeld _, HS.out.upd.trans (Upd.setCell _ d 2 _) (fun _ _ q => .inl q), HS.out.w1, HS.out.w2⟩
theorem ref17_Move (d : Nat) (vn vg : Value) (L : List (List UInt8 × Int)) (held : Int) (w : World) (h : RefIs w d vn vg L held) (hok : FkOk L held) (a b' n : Int) :
    Calls Tryd.prog 48 #[.pointer (some ⟨d, 0, none⟩), .int .i64 a, .int .i64 b', .int .i64 n] w (RefPost d vn vg w (gop 4 a b' n L held)) := by
  have H := hid h
  have HOK := hid hok
  rcases check_cases L a n with hc | ⟨hc, n0, n1, i, x, y, hx, hi, e1, e2⟩
  · rw [gop_bad hc]
    have e3 : (checkE L a n == 0) = false := by simp [hc]
    have HP : Hid (RefPost d vn vg w (checkE L a n, L, held) (.returned (.int .i64 (checkE L a n))) w) := hid ⟨_, _, rfl, h, RefStep.refl _ _ _ _⟩
    obtain ⟨E, hE⟩ : ∃ E, checkE L a n = E := ⟨_, rfl⟩
    rw [hE] at e3 HP ⊢
    have HE := hid hE
    clear h hok hc hE
    go_enter Tryd.func48, Tryd.ntmps48
    go_wp2_with fail
    refine (ref17_check d vn vg L held w H.out a n E HE).mono ?_
    rintro e w1 ⟨rfl, rfl⟩
    go_wp2_with fail
    go_ret
    exact HP.out
  have hy := hok.gold hx
  have ht := hok.held
  obtain ⟨rg, c, rfl, k1, k2⟩ := h.gold hx
  obtain ⟨-, c1, c2⟩ := h.blk.cellsR
  have HE := hid hc
  have hil : (i : Int) < (L.length : Int) := by have := (List.getElem?_eq_some_iff.1 hx).1; omega
  have hil2 : ¬ (L.length : Int) ≤ (i : Int) := by omega
  have hll := hok.len
  obtain ⟨t0, t1⟩ := ht
  obtain ⟨y0, y1⟩ := hy
  subst hi
  have HLS := hid (ref17_Less d vn _ L held w h hok ((i : Int) + 1) n b')
  rw [gop_3 hc, e1, e2] at HLS
  rw [gop_4 hc, e1, e2]
  by_cases hb1 : b' < 1
  · rw [if_neg (by omega)]
    clear h hok hc e1 e2 hx
    go_enter Tryd.func48, Tryd.ntmps48
    go_wp2_with fail
    refine (ref17_check d vn _ L held w H.out _ n 0 HE).mono ?_
    rintro e w1 ⟨rfl, rfl⟩
    go_wp2_with fail
    go_ret
    exact ⟨_, _, rfl, H.out, RefStep.refl _ _ _ _⟩
  by_cases hb2 : (L.length : Int) < b'
  · rw [if_neg (by omega)]
    clear h hok hc e1 e2 hx
    go_enter Tryd.func48, Tryd.ntmps48
    go_wp2_with fail
    refine (ref17_check d vn _ L held w H.out _ n 0 HE).mono ?_
    rintro e w1 ⟨rfl, rfl⟩
    go_wp2_with fail
    go_ret
    exact ⟨_, _, rfl, H.out, RefStep.refl _ _ _ _⟩
  have hb : 1 ≤ b' ∧ b' ≤ (L.length : Int) := by omega
  rw [if_pos hb]
  by_cases hlt : y < n
  · rw [if_pos hlt]
    rw [if_pos hlt] at HLS
    clear h hok hc e1 e2 hx hb
    go_enter Tryd.func48, Tryd.ntmps48
    go_wp2_with fail
    refine (ref17_check d vn _ L held w H.out _ n 0 HE).mono ?_
    rintro e w1 ⟨rfl, rfl⟩
    go_wp2_with fail
    refine HLS.out.mono ?_
    rintro e w1 ⟨v1, v2, rfl, hp⟩
    have HP := hid hp
    clear hp
    go_wp2_with fail
    go_ret
    exact ⟨v1, v2, rfl, HP.out⟩
  · rw [if_neg hlt]
    rw [if_neg hlt] at HLS
    obtain ⟨j, x2, y2, hx2, hj, f1, f2⟩ := move_at (d := y - n) hx hb
    have hM : FkOk (L.set i (x, y - n)) (held + n) := by
      have := hok.total
      exact hok.set hx (by omega) (by omega) (by omega)
    have hy2 := hM.gold hx2
    obtain ⟨z0, z1⟩ := hy2
    rw [f1, f2]
    have HX2 := hid hx2
    have hjl : (j : Int) < (L.length : Int) := by omega
    have hjl2 : ¬ (L.length : Int) ≤ (j : Int) := by omega
    have hln : (L.set i (x, y - n)).length = L.length := List.length_set
    have HLN := hid hln
    subst hj
    clear h hok hc e1 e2 hx hb f1 f2 hx2 hM hln k1 k2
    go_enter Tryd.func48, Tryd.ntmps48
    go_wp2_with fail
    refine (ref17_check d vn _ L held w H.out _ n 0 HE).mono ?_
    rintro e w1 ⟨rfl, rfl⟩
    go_wp2_with fail
    refine HLS.out.mono ?_
    rintro e w1 ⟨v1, v2, rfl, hp, hs⟩
    simp only at hp
    obtain ⟨r2, c', rfl, q1, q2⟩ := hp.gold HX2.out
    obtain ⟨-, q3, -⟩ := hp.blk.cellsR
    have HP := hid (hp.put HX2.out (y2 + n))
    rw [HLN.out] at q3 HP hs
    have HS := hid hs
    clear hp hs
    go_wp2_with fail
    go_ret
    exact ⟨v1, _, rfl, HP.out, HS.out.upd.trans (Upd.setCell _ r2 j _) (fun k hk q => by
      subst q
      rcases HS.out.w2 k rfl with e | e
      · exact .inr (.inr e)
      · omega), HS.out.w1, HS.out.w2⟩
end Go.Proofs.YtcjdlckfbkdibaaDoor
end
