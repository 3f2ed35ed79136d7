/- Joined texts, in this order: FolkGold. Each one's first remark says what it proves; no condition beyond those that its theorems name. -/
import Derived.Test.YtcjdlckfbkdibaaDoorJLawFolkRestores13
import Derived.Test.YtcjdlckfbkdibaaDoorJLawFolkRestores06
section
/- Contracts of the package folk: Has, check, purse, Gold, shift, Mint, Burn, Hold. -/
namespace Go.Proofs.YtcjdlckfbkdibaaDoor
open Go.RowKit
open Go.Lib (hid)
set_option linter.unusedVariables false

theorem FkIs.put {w : World} {g b r c : Nat} {L : List (List UInt8 × Int)} {held total : Int} (h : FkIs w g b (.slice (some ⟨r, 0, none⟩) L.length c) L held total) (i : Nat) (x : List UInt8) (g0 y : Int) (hx : L[i]? = some (x, g0)) :
    FkIs (w.setCell ⟨r, i * 2 + 1, none⟩ (.int .i64 y)) g b (.slice (some ⟨r, 0, none⟩) (L.set i (x, y)).length c) (L.set i (x, y)) held total := by
  have hu := Upd.setCell w r (i * 2 + 1) (.int .i64 y)
  have e1 : r ≠ g := fun e => h.n1 (by rw [e]; rfl)
  have e2 : r ≠ b := fun e => h.n2 (by rw [e]; rfl)
  refine ⟨?_, ?_, ?_, ?_, ?_, h.n3⟩
  · have := h.blk.upd hu (fun e => e1 e.symm)
    rw [List.length_set]; exact this
  · have := (h.own.stored (i * 2 + 1) (.int .i64 y)).1
    rw [List.length_set, rvF_set L i x g0 y hx]; exact this
  · rw [names_gold L 0 i x g0 y hx]; exact h.map.upd hu (fun e => e2 e.symm)
  · rw [List.length_set]; exact h.n1
  · rw [List.length_set]; exact h.n2
theorem FkIs.setHeld {w : World} {g b : Nat} {v : Value} {L : List (List UInt8 × Int)} {held total : Int} (h : FkIs w g b v L held total) (y : Int) : FkIs (w.setCell ⟨g, 2, none⟩ (.int .i64 y)) g b v L y total := by
  have hu := Upd.setCell w g 2 (.int .i64 y)
  exact ⟨by simpa using h.blk.set 2 (.int .i64 y), hu.owns h.own (fun k hk e => by subst e; exact h.n1 hk), h.map.upd hu (fun e => h.n3 e.symm), h.n1, h.n2, h.n3⟩
theorem FkIs.setTotal {w : World} {g b : Nat} {v : Value} {L : List (List UInt8 × Int)} {held total : Int} (h : FkIs w g b v L held total) (y : Int) : FkIs (w.setCell ⟨g, 3, none⟩ (.int .i64 y)) g b v L held y := by
  have hu := Upd.setCell w g 3 (.int .i64 y)
  exact ⟨by simpa using h.blk.set 3 (.int .i64 y), hu.owns h.own (fun k hk e => by subst e; exact h.n1 hk), h.map.upd hu (fun e => h.n3 e.symm), h.n1, h.n2, h.n3⟩
theorem FkIs.gold {w : World} {g b r c : Nat} {L : List (List UInt8 × Int)} {held total : Int} (h : FkIs w g b (.slice (some ⟨r, 0, none⟩) L.length c) L held total) (i : Nat) (x : List UInt8) (g0 : Int) (hx : L[i]? = some (x, g0)) :
    w.cell? ⟨r, i * 2 + 1, none⟩ = some (.int .i64 g0) ∧ w.cell? ⟨r, i * 2, none⟩ = some (.string ⟨x.toArray⟩) ∧ w.frozen? ⟨r, i * 2 + 1, none⟩ = false := by
  have hi := (List.getElem?_eq_some_iff.1 hx).1
  obtain ⟨a, cap, e, -, -, hrd, -⟩ := ownsRow.rd h.own
  simp only [Value.slice.injEq] at e
  obtain ⟨rfl, -, rfl⟩ := e
  obtain ⟨p1, p2⟩ := rvF_at L i _ hx
  obtain ⟨b1, o1, ea, hc⟩ := hrd (i * 2 + 1) (by rw [rvF_length]; omega)
  obtain ⟨b2, o2, eb, hd⟩ := hrd (i * 2) (by rw [rvF_length]; omega)
  simp only [Option.some.injEq, Addr.mk.injEq, and_true] at ea eb
  obtain ⟨rfl, rfl⟩ := ea
  obtain ⟨rfl, rfl⟩ := eb
  rw [Nat.zero_add] at hc hd
  refine ⟨by rw [hc, p2], by rw [hd, p1], ?_⟩
  rcases h.own.2 with ⟨q, -⟩ | ⟨g', cap', cur, q, -, hg, -⟩
  · simp at q
  · simp only [Value.slice.injEq, Option.some.injEq, Addr.mk.injEq, and_true, true_and] at q
    obtain ⟨rfl, -⟩ := q
    exact (show Blk w r cur from ⟨_, hg⟩).unfrozen _
theorem folk_Has (g b : Nat) (v : Value) (L : List (List UInt8 × Int)) (held total : Int) (w : World) (h : FkIs w g b v L held total) (id : Int) :
    Calls Tryd.prog 57 #[.pointer (some ⟨g, 0, none⟩), .int .i64 id] w fun e w' => e = .returned (.bool (decide (1 ≤ id ∧ id ≤ (L.length : Int)))) ∧ w = w' := by
  obtain ⟨a, c, rfl⟩ := h.form
  obtain ⟨c0, -, -, -⟩ := h.blk.cells4
  clear h
  by_cases h1 : 1 ≤ id
  · go_enter Tryd.func57, Tryd.ntmps57
    go_wp2
    go_ret
    exact ⟨by simp [h1], rfl⟩
  · go_enter Tryd.func57, Tryd.ntmps57
    go_wp2
    go_ret
    exact ⟨by simp; omega, rfl⟩
theorem folk_check (g b : Nat) (v : Value) (L : List (List UInt8 × Int)) (held total : Int) (w : World) (h : FkIs w g b v L held total) (id n E : Int) (hE : Hid (checkE L id n = E)) :
    Calls Tryd.prog 77 #[.pointer (some ⟨g, 0, none⟩), .int .i64 id, .int .i64 n] w fun e w' => e = .returned (.int .i64 E) ∧ w = w' := by
  have H := hid h
  clear h
  by_cases h1 : 1 ≤ id ∧ id ≤ (L.length : Int)
  · have d1 : decide (1 ≤ id ∧ id ≤ (L.length : Int)) = true := by simpa using h1
    by_cases h2 : 0 ≤ n ∧ n ≤ 1099511627776
    · have hE2 : E = 0 := by rw [← hE.out]; unfold checkE; rw [if_pos h1, if_pos h2]
      have d2 : goldR n = true := by unfold goldR; simpa using h2
      subst hE2
      clear h1 h2
      go_enter Tryd.func77, Tryd.ntmps77
      go_wp2_with fail
      refine (folk_Has g b v L held total w H.out id).mono ?_
      rintro e w1 ⟨rfl, rfl⟩
      rw [d1]
      go_wp2_with fail
      refine (gold_Right n w).mono ?_
      rintro e w2 ⟨rfl, rfl⟩
      rw [d2]
      go_wp2_with fail
      go_ret
      exact ⟨rfl, rfl⟩
    · have hE2 : E = 11 := by rw [← hE.out]; unfold checkE; rw [if_pos h1, if_neg h2]
      have d2 : goldR n = false := by unfold goldR; simpa using h2
      subst hE2
      clear h1 h2
      go_enter Tryd.func77, Tryd.ntmps77
      go_wp2_with fail
      refine (folk_Has g b v L held total w H.out id).mono ?_
      rintro e w1 ⟨rfl, rfl⟩
      rw [d1]
      go_wp2_with fail
      refine (gold_Right n w).mono ?_
      rintro e w2 ⟨rfl, rfl⟩
      rw [d2]
      go_wp2_with fail
      go_ret
      exact ⟨rfl, rfl⟩
  · have d1 : decide (1 ≤ id ∧ id ≤ (L.length : Int)) = false := by simpa using h1
    have hE2 : E = 14 := by rw [← hE.out]; unfold checkE; rw [if_neg h1]
    subst hE2
    clear h1
    go_enter Tryd.func77, Tryd.ntmps77
    go_wp2_with fail
    refine (folk_Has g b v L held total w H.out id).mono ?_
    rintro e w1 ⟨rfl, rfl⟩
    rw [d1]
    go_wp2_with fail
    go_ret
    exact ⟨rfl, rfl⟩
theorem folk_purse (g b r c : Nat) (L : List (List UInt8 × Int)) (held total : Int) (w : World) (h : FkIs w g b (.slice (some ⟨r, 0, none⟩) L.length c) L held total) (i : Nat) (hi : i < L.length) (hl : L.length ≤ 256) (id : Int) (hid : id = (i : Int) + 1) :
    Calls Tryd.prog 79 #[.pointer (some ⟨g, 0, none⟩), .int .i64 id] w fun e w' => e = .returned (.pointer (some ⟨r, i * 2 + 1, none⟩)) ∧ w = w' := by
  subst hid
  obtain ⟨c0, -, -, -⟩ := h.blk.cells4
  clear h
  have i1 : (i : Int) < (L.length : Int) := by omega
  have i2 : ¬ (L.length : Int) ≤ (i : Int) := by omega
  go_enter Tryd.func79, Tryd.ntmps79
  go_wp2
  go_ret
  exact ⟨rfl, rfl⟩
end Go.Proofs.YtcjdlckfbkdibaaDoor
end
