/- Joined texts, in this order: FolkOp. Each one's first remark says what it proves; no condition beyond those that its theorems name. -/
import Derived.Test.YtcjdlckfbkdibaaDoorJLawFolkRestores16
section
/- Plain: what the calls of accounts tell and what there is then; contracts of folk.Mint, Burn, Move, Hold, Give in one piece. -/
namespace Go.Proofs.YtcjdlckfbkdibaaDoor
open Go.RowKit
open Go.Lib (hid)
set_option linter.unusedVariables false

def gAt (L : List (List UInt8 × Int)) (id : Int) : Int := match L[(id - 1).toNat]? with | some p => p.2 | none => 0
def gSet (L : List (List UInt8 × Int)) (id y : Int) : List (List UInt8 × Int) := match L[(id - 1).toNat]? with | some p => L.set (id - 1).toNat (p.1, y) | none => L
def sumG (L : List (List UInt8 × Int)) : Int := (L.map (·.2)).sum
/-- accounts as they are -/
structure FkOk (L : List (List UInt8 × Int)) (held : Int) : Prop where
  names : ∀ p ∈ L, nameB p.1 = true
  nodup : (L.map (·.1)).Nodup
  pos : ∀ p ∈ L, 0 ≤ p.2
  h0 : 0 ≤ held
  tot : held + sumG L ≤ 1099511627776
  len : L.length ≤ 256
theorem sumG_set : ∀ (L : List (List UInt8 × Int)) (i : Nat) (x : List UInt8) (g y : Int), L[i]? = some (x, g) → sumG (L.set i (x, y)) = sumG L - g + y
  | [], i, x, g, y, h => by simp at h
  | p :: L, 0, x, g, y, h => by
    simp at h; subst h
    simp only [List.set_cons_zero, sumG, List.map_cons, List.sum_cons]; omega
  | p :: L, i + 1, x, g, y, h => by
    simp at h
    have := sumG_set L i x g y h
    simp only [sumG] at this
    simp only [List.set_cons_succ, sumG, List.map_cons, List.sum_cons, this]; omega
theorem sumG_nonneg {L : List (List UInt8 × Int)} (h : ∀ p ∈ L, 0 ≤ p.2) : 0 ≤ sumG L := by
  unfold sumG
  induction L with
  | nil => simp
  | cons p L ih =>
    have h1 := h p (by simp)
    have h2 := ih (fun q hq => h q (by simp [hq]))
    simp only [List.map_cons, List.sum_cons]; omega
theorem sumG_ge {L : List (List UInt8 × Int)} (h : ∀ p ∈ L, 0 ≤ p.2) {p : List UInt8 × Int} (hp : p ∈ L) : p.2 ≤ sumG L := by
  induction L with
  | nil => simp at hp
  | cons q L ih =>
    have h1 := h q (by simp)
    have h2 := sumG_nonneg (fun r hr => h r (by simp [hr]) : ∀ r ∈ L, 0 ≤ r.2)
    have e : sumG (q :: L) = q.2 + sumG L := by simp [sumG]
    rw [e]
    rcases List.mem_cons.1 hp with rfl | hp
    · omega
    · have := ih (fun r hr => h r (by simp [hr])) hp; omega
theorem sumG_append (L : List (List UInt8 × Int)) (x : List UInt8) (g : Int) : sumG (L ++ [(x, g)]) = sumG L + g := by simp [sumG]
/-- an account that there is -/
theorem gAt_at {L : List (List UInt8 × Int)} {i : Nat} {x : List UInt8} {y : Int} (h : L[i]? = some (x, y)) {id : Int} (hi : id = (i : Int) + 1) : gAt L id = y ∧ ∀ z, gSet L id z = L.set i (x, z) := by
  have e : (id - 1).toNat = i := by omega
  constructor
  · unfold gAt; rw [e, h]
  · intro z; unfold gSet; rw [e, h]
theorem acc_at {L : List (List UInt8 × Int)} {id : Int} (h : 1 ≤ id ∧ id ≤ (L.length : Int)) : ∃ (i : Nat) (x : List UInt8) (y : Int), L[i]? = some (x, y) ∧ id = (i : Int) + 1 := by
  have hi : (id - 1).toNat < L.length := by omega
  exact ⟨(id - 1).toNat, L[(id - 1).toNat].1, L[(id - 1).toNat].2, List.getElem?_eq_getElem hi, by omega⟩
theorem gSet_len (L : List (List UInt8 × Int)) (id z : Int) : (gSet L id z).length = L.length := by
  unfold gSet; split <;> simp
theorem FkOk.gold {L : List (List UInt8 × Int)} {held : Int} (h : FkOk L held) {i : Nat} {x : List UInt8} {y : Int} (hx : L[i]? = some (x, y)) : 0 ≤ y ∧ y ≤ 1099511627776 := by
  have hm := List.mem_of_getElem? hx
  have h1 := h.pos _ hm
  have h2 := sumG_ge h.pos hm
  have h3 := h.h0
  have h4 := h.tot
  simp only at h1 h2
  omega
theorem FkOk.total {L : List (List UInt8 × Int)} {held : Int} (h : FkOk L held) : 0 ≤ held + sumG L ∧ held + sumG L ≤ 1099511627776 := by
  have := sumG_nonneg h.pos
  have h3 := h.h0
  have h4 := h.tot
  omega
theorem FkOk.held {L : List (List UInt8 × Int)} {held : Int} (h : FkOk L held) : 0 ≤ held ∧ held ≤ 1099511627776 := by
  have := sumG_nonneg h.pos
  have h3 := h.h0
  have h4 := h.tot
  omega
theorem FkOk.set {L : List (List UInt8 × Int)} {held : Int} (h : FkOk L held) {i : Nat} {x : List UInt8} {y : Int} (hx : L[i]? = some (x, y)) {z held' : Int} (hz : 0 ≤ z) (hh : 0 ≤ held') (ht : held' + (sumG L - y + z) ≤ 1099511627776) : FkOk (L.set i (x, z)) held' := by
  have hn : (L.set i (x, z)).map (·.1) = L.map (·.1) := by
    rw [List.map_set]
    apply List.ext_getElem?
    intro j
    rw [List.getElem?_set]
    split
    · subst_vars
      rw [List.getElem?_map, hx]
      have := (List.getElem?_eq_some_iff.1 hx).1
      simp [this]
    · rfl
  refine ⟨?_, by rw [hn]; exact h.nodup, ?_, hh, by rw [sumG_set L i x y z hx]; exact ht, by rw [List.length_set]; exact h.len⟩
  · intro p hp
    have h1 : p.1 ∈ L.map (·.1) := by rw [← hn]; exact List.mem_map_of_mem hp
    obtain ⟨q, hq, e⟩ := List.mem_map.1 h1
    rw [← e]; exact h.names q hq
  · intro p hp
    rcases List.mem_or_eq_of_mem_set hp with hp | rfl
    · exact h.pos p hp
    · exact hz
/-- what the five calls tell, and what there is then: kinds 2 to 6 of the law -/
def gop (k a b n : Int) (L : List (List UInt8 × Int)) (held : Int) : Int × List (List UInt8 × Int) × Int :=
  if checkE L a n = 0 then
    (if k = 2 then (if 1099511627776 < held + sumG L + n then (15, L, held) else (0, gSet L a (gAt L a + n), held))
    else if k = 3 then (if gAt L a < n then (35, L, held) else (0, gSet L a (gAt L a - n), held))
    else if k = 4 then (if 1 ≤ b ∧ b ≤ (L.length : Int) then (if gAt L a < n then (35, L, held) else (0, gSet (gSet L a (gAt L a - n)) b (gAt (gSet L a (gAt L a - n)) b + n), held)) else (14, L, held))
    else if k = 5 then (if gAt L a < n then (35, L, held) else (0, gSet L a (gAt L a - n), held + n))
    else (if held < n then (35, L, held) else (0, gSet L a (gAt L a + n), held - n)))
  else (checkE L a n, L, held)
theorem check_cases (L : List (List UInt8 × Int)) (a n : Int) : checkE L a n ≠ 0 ∨ (checkE L a n = 0 ∧ 0 ≤ n ∧ n ≤ 1099511627776 ∧ ∃ (i : Nat) (x : List UInt8) (y : Int), L[i]? = some (x, y) ∧ a = (i : Int) + 1 ∧ gAt L a = y ∧ ∀ z, gSet L a z = L.set i (x, z)) := by
  by_cases h1 : 1 ≤ a ∧ a ≤ (L.length : Int)
  · by_cases h2 : 0 ≤ n ∧ n ≤ 1099511627776
    · obtain ⟨i, x, y, hx, hi⟩ := acc_at h1
      obtain ⟨e1, e2⟩ := gAt_at hx hi
      exact .inr ⟨by unfold checkE; rw [if_pos h1, if_pos h2], h2.1, h2.2, i, x, y, hx, hi, e1, e2⟩
    · exact .inl (by unfold checkE; rw [if_pos h1, if_neg h2]; omega)
  · exact .inl (by unfold checkE; rw [if_neg h1]; omega)
theorem gop_bad {k a b n : Int} {L : List (List UInt8 × Int)} {held : Int} (h : checkE L a n ≠ 0) : gop k a b n L held = (checkE L a n, L, held) := by unfold gop; rw [if_neg h]
theorem gop_2 {a b n : Int} {L : List (List UInt8 × Int)} {held : Int} (h : checkE L a n = 0) : gop 2 a b n L held = if 1099511627776 < held + sumG L + n then (15, L, held) else (0, gSet L a (gAt L a + n), held) := by unfold gop; rw [if_pos h, if_pos rfl]
theorem gop_3 {a b n : Int} {L : List (List UInt8 × Int)} {held : Int} (h : checkE L a n = 0) : gop 3 a b n L held = if gAt L a < n then (35, L, held) else (0, gSet L a (gAt L a - n), held) := by unfold gop; rw [if_pos h, if_neg (by omega), if_pos rfl]
theorem gop_4 {a b n : Int} {L : List (List UInt8 × Int)} {held : Int} (h : checkE L a n = 0) : gop 4 a b n L held = if 1 ≤ b ∧ b ≤ (L.length : Int) then (if gAt L a < n then (35, L, held) else (0, gSet (gSet L a (gAt L a - n)) b (gAt (gSet L a (gAt L a - n)) b + n), held)) else (14, L, held) := by unfold gop; rw [if_pos h, if_neg (by omega), if_neg (by omega), if_pos rfl]
theorem gop_5 {a b n : Int} {L : List (List UInt8 × Int)} {held : Int} (h : checkE L a n = 0) : gop 5 a b n L held = if gAt L a < n then (35, L, held) else (0, gSet L a (gAt L a - n), held + n) := by unfold gop; rw [if_pos h, if_neg (by omega), if_neg (by omega), if_neg (by omega), if_pos rfl]
theorem gop_6 {a b n : Int} {L : List (List UInt8 × Int)} {held : Int} (h : checkE L a n = 0) : gop 6 a b n L held = if held < n then (35, L, held) else (0, gSet L a (gAt L a + n), held - n) := by unfold gop; rw [if_pos h, if_neg (by omega), if_neg (by omega), if_neg (by omega), if_neg (by omega)]
theorem move_at {L : List (List UInt8 × Int)} {i : Nat} {x : List UInt8} {y d : Int} (hx : L[i]? = some (x, y)) {b : Int} (hb : 1 ≤ b ∧ b ≤ (L.length : Int)) :
    ∃ (j : Nat) (x2 : List UInt8) (y2 : Int), (L.set i (x, d))[j]? = some (x2, y2) ∧ b = (j : Int) + 1 ∧ gAt (L.set i (x, d)) b = y2 ∧ ∀ z, gSet (L.set i (x, d)) b z = (L.set i (x, d)).set j (x2, z) := by
  obtain ⟨j, x2, y2, h1, h2⟩ := acc_at (L := L.set i (x, d)) (id := b) (by rw [List.length_set]; exact hb)
  obtain ⟨e1, e2⟩ := gAt_at h1 h2
  exact ⟨j, x2, y2, h1, h2, e1, e2⟩
theorem gop_ok (k a b n : Int) (L : List (List UInt8 × Int)) (held : Int) (hk : 2 ≤ k ∧ k ≤ 6) (h : FkOk L held) : FkOk (gop k a b n L held).2.1 (gop k a b n L held).2.2 := by
  rcases check_cases L a n with hc | ⟨hc, n0, n1, i, x, y, hx, hi, e1, e2⟩
  · rw [gop_bad hc]; exact h
  have hy := h.gold hx
  have ht := h.total
  have hh := h.h0
  obtain rfl | rfl | rfl | rfl | rfl : k = 2 ∨ k = 3 ∨ k = 4 ∨ k = 5 ∨ k = 6 := by omega
  · rw [gop_2 hc]
    split
    · exact h
    · simp only [e1, e2]; exact h.set hx (by omega) hh (by omega)
  · rw [gop_3 hc]
    split
    · exact h
    · rename_i hlt
      rw [e1] at hlt
      simp only [e1, e2]; exact h.set hx (by omega) hh (by omega)
  · rw [gop_4 hc]
    split
    · rename_i hb
      split
      · exact h
      · rename_i hlt
        rw [e1] at hlt
        rw [e1, e2]
        obtain ⟨j, x2, y2, hx2, hj, f1, f2⟩ := move_at (d := y - n) hx hb
        have h1 : FkOk (L.set i (x, y - n)) (held + n) := h.set hx (by omega) (by omega) (by omega)
        have hy2 := h1.gold hx2
        have hs := sumG_set L i x y (y - n) hx
        simp only [f1, f2]
        exact h1.set hx2 (by omega) hh (by omega)
    · exact h
  · rw [gop_5 hc]
    split
    · exact h
    · rename_i hlt
      rw [e1] at hlt
      simp only [e1, e2]; exact h.set hx (by omega) (by omega) (by omega)
  · rw [gop_6 hc]
    split
    · exact h
    · simp only [e1, e2]; exact h.set hx (by omega) (by omega) (by omega)
/-- what a call of accounts does -/
def FkPost (g b : Nat) (v : Value) (w : World) (q : Int × List (List UInt8 × Int) × Int) (e : Ending) (w' : World) : Prop :=
  ∃ v', e = .returned (.int .i64 q.1) ∧ FkIs w' g b v' q.2.1 q.2.2 (q.2.2 + sumG q.2.1) ∧ FkStep g b v v' w w'
theorem FkStep.of_upd {g b r n c n' : Nat} {w w' : World} (h : Upd (fun k => k = g ∨ k = r) w w') : FkStep g b (.slice (some ⟨r, 0, none⟩) n c) (.slice (some ⟨r, 0, none⟩) n' c) w w' :=
  ⟨h.mono (fun k _ q => by
    rcases q with q | q
    · exact .inl q
    · exact .inr (.inr (by rw [q]; rfl))), fun k hk => .inl hk⟩
theorem FkIs.ptr {w : World} {g b : Nat} {v : Value} {L : List (List UInt8 × Int)} {held total : Int} (h : FkIs w g b v L held total) {i : Nat} {p : List UInt8 × Int} (hx : L[i]? = some p) : ∃ r c, v = .slice (some ⟨r, 0, none⟩) L.length c := by
  have := (List.getElem?_eq_some_iff.1 hx).1
  obtain ⟨r, c, hv⟩ := Go.Joins.ownsRow_form h.own (by omega)
  exact ⟨r, c, hv⟩
theorem folk_MintAll (g b : Nat) (v : Value) (L : List (List UInt8 × Int)) (held : Int) (w : World) (h : FkIs w g b v L held (held + sumG L)) (hok : FkOk L held) (a n b' : Int) :
    Calls Tryd.prog 41 #[.pointer (some ⟨g, 0, none⟩), .int .i64 a, .int .i64 n] w (FkPost g b v w (gop 2 a b' n L held)) := by
  rcases check_cases L a n with hc | ⟨hc, n0, n1, i, x, y, hx, hi, e1, e2⟩
  · rw [gop_bad hc]
    refine (folk_MintNoC g b v L held _ w h a n _ (hid rfl) hc).mono ?_
    rintro e w' ⟨rfl, rfl⟩
    exact ⟨v, rfl, h, FkStep.of_below (Below.refl _ _)⟩
  have hy := hok.gold hx
  obtain ⟨r, c, rfl⟩ := h.ptr hx
  rw [gop_2 hc]
  by_cases hlt : 1099511627776 < held + sumG L + n
  · rw [if_pos hlt]
    refine (folk_Mint15 g b r c L held _ w h i x y n hx hok.len a hi hy ⟨n0, n1⟩ hok.total hlt).mono ?_
    rintro e w' ⟨rfl, rfl⟩
    exact ⟨_, rfl, h, FkStep.of_below (Below.refl _ _)⟩
  · rw [if_neg hlt]
    refine (folk_MintYes g b r c L held _ w h i x y n hx hok.len a hi hy ⟨n0, n1⟩ hok.total (by omega)).mono ?_
    rintro e w' ⟨rfl, hf, hu⟩
    simp only [List.length_set] at hf
    refine ⟨.slice (some ⟨r, 0, none⟩) L.length c, rfl, ?_, FkStep.of_upd hu⟩
    simp only [e1, e2, sumG_set L i x y (y + n) hx]
    rw [show held + (sumG L - y + (y + n)) = held + sumG L + n by omega]
    exact hf
theorem folk_BurnAll (g b : Nat) (v : Value) (L : List (List UInt8 × Int)) (held : Int) (w : World) (h : FkIs w g b v L held (held + sumG L)) (hok : FkOk L held) (a n b' : Int) :
    Calls Tryd.prog 43 #[.pointer (some ⟨g, 0, none⟩), .int .i64 a, .int .i64 n] w (FkPost g b v w (gop 3 a b' n L held)) := by
  rcases check_cases L a n with hc | ⟨hc, n0, n1, i, x, y, hx, hi, e1, e2⟩
  · rw [gop_bad hc]
    refine (folk_BurnNoC g b v L held _ w h a n _ (hid rfl) hc).mono ?_
    rintro e w' ⟨rfl, rfl⟩
    exact ⟨v, rfl, h, FkStep.of_below (Below.refl _ _)⟩
  have hy := hok.gold hx
  have hsg := sumG_ge hok.pos (List.mem_of_getElem? hx)
  have hh := hok.h0
  obtain ⟨r, c, rfl⟩ := h.ptr hx
  rw [gop_3 hc]
  by_cases hlt : gAt L a < n
  · rw [if_pos hlt]
    rw [e1] at hlt
    refine (folk_BurnNo g b r c L held _ w h i x y n hx hok.len a hi hy ⟨n0, n1⟩ hok.total hlt).mono ?_
    rintro e w' ⟨rfl, hf, hu⟩
    exact ⟨_, rfl, hf, FkStep.of_upd (hu.mono (fun _ _ q => .inl q))⟩
  · rw [if_neg hlt]
    rw [e1] at hlt
    simp only at hsg
    refine (folk_BurnYes g b r c L held _ w h i x y n hx hok.len a hi hy ⟨n0, n1⟩ hok.total (by omega) hlt (y - n) _ (hid rfl) rfl).mono ?_
    rintro e w' ⟨rfl, hf, hu⟩
    simp only [List.length_set] at hf
    refine ⟨.slice (some ⟨r, 0, none⟩) L.length c, rfl, ?_, FkStep.of_upd hu⟩
    simp only [e1, e2, sumG_set L i x y (y - n) hx]
    rw [show held + (sumG L - y + (y - n)) = held + sumG L - n by omega]
    exact hf
theorem folk_HoldAll (g b : Nat) (v : Value) (L : List (List UInt8 × Int)) (held : Int) (w : World) (h : FkIs w g b v L held (held + sumG L)) (hok : FkOk L held) (a n b' : Int) :
    Calls Tryd.prog 42 #[.pointer (some ⟨g, 0, none⟩), .int .i64 a, .int .i64 n] w (FkPost g b v w (gop 5 a b' n L held)) := by
  rcases check_cases L a n with hc | ⟨hc, n0, n1, i, x, y, hx, hi, e1, e2⟩
  · rw [gop_bad hc]
    refine (folk_HoldNoC g b v L held _ w h a n _ (hid rfl) hc).mono ?_
    rintro e w' ⟨rfl, rfl⟩
    exact ⟨v, rfl, h, FkStep.of_below (Below.refl _ _)⟩
  have hy := hok.gold hx
  obtain ⟨r, c, rfl⟩ := h.ptr hx
  rw [gop_5 hc]
  by_cases hlt : gAt L a < n
  · rw [if_pos hlt]
    rw [e1] at hlt
    refine (folk_Hold35 g b r c L held _ w h i x y n hx hok.len a hi hy ⟨n0, n1⟩ hlt).mono ?_
    rintro e w' ⟨rfl, hb⟩
    exact ⟨_, rfl, h.below hb, FkStep.of_below hb⟩
  · rw [if_neg hlt]
    rw [e1] at hlt
    refine (folk_HoldYes g b r c L held _ w h i x y n (y - n) hx hok.len a hi hy ⟨n0, n1⟩ hok.held hlt (hid rfl)).mono ?_
    rintro e w' ⟨rfl, hf, hu⟩
    simp only [List.length_set] at hf
    refine ⟨.slice (some ⟨r, 0, none⟩) L.length c, rfl, ?_, FkStep.of_upd hu⟩
    simp only [e1, e2, sumG_set L i x y (y - n) hx]
    rw [show held + n + (sumG L - y + (y - n)) = held + sumG L by omega]
    exact hf
theorem folk_GiveAll (g b : Nat) (v : Value) (L : List (List UInt8 × Int)) (held : Int) (w : World) (h : FkIs w g b v L held (held + sumG L)) (hok : FkOk L held) (a n b' : Int) :
    Calls Tryd.prog 50 #[.pointer (some ⟨g, 0, none⟩), .int .i64 a, .int .i64 n] w (FkPost g b v w (gop 6 a b' n L held)) := by
  rcases check_cases L a n with hc | ⟨hc, n0, n1, i, x, y, hx, hi, e1, e2⟩
  · rw [gop_bad hc]
    refine (folk_GiveNoC g b v L held _ w h a n _ (hid rfl) hc).mono ?_
    rintro e w' ⟨rfl, rfl⟩
    exact ⟨v, rfl, h, FkStep.of_below (Below.refl _ _)⟩
  have hy := hok.gold hx
  obtain ⟨r, c, rfl⟩ := h.ptr hx
  rw [gop_6 hc]
  by_cases hlt : held < n
  · rw [if_pos hlt]
    refine (folk_Give35 g b r c L held _ w h i x y n hx hok.len a hi hy ⟨n0, n1⟩ hok.held hlt).mono ?_
    rintro e w' ⟨rfl, hb⟩
    exact ⟨_, rfl, h.below hb, FkStep.of_below hb⟩
  · rw [if_neg hlt]
    refine (folk_GiveYes g b r c L held _ w h i x y n hx hok.len a hi hy ⟨n0, n1⟩ hok.held hlt (held - n) (hid rfl)).mono ?_
    rintro e w' ⟨rfl, hf, hu⟩
    simp only [List.length_set] at hf
    refine ⟨.slice (some ⟨r, 0, none⟩) L.length c, rfl, ?_, FkStep.of_upd hu⟩
    simp only [e1, e2, sumG_set L i x y (y + n) hx]
    rw [show held - n + (sumG L - y + (y + n)) = held + sumG L by omega]
    exact hf
theorem folk_MoveAll (g b : Nat) (v : Value) (L : List (List UInt8 × Int)) (held : Int) (w : World) (h : FkIs w g b v L held (held + sumG L)) (hok : FkOk L held) (a b' n : Int) :
    Calls Tryd.prog 47 #[.pointer (some ⟨g, 0, none⟩), .int .i64 a, .int .i64 b', .int .i64 n] w (FkPost g b v w (gop 4 a b' n L held)) := by
  rcases check_cases L a n with hc | ⟨hc, n0, n1, i, x, y, hx, hi, e1, e2⟩
  · rw [gop_bad hc]
    refine (folk_MoveNoC g b v L held _ w h a b' n _ (hid rfl) hc).mono ?_
    rintro e w' ⟨rfl, rfl⟩
    exact ⟨v, rfl, h, FkStep.of_below (Below.refl _ _)⟩
  have hy := hok.gold hx
  have hh := hok.h0
  have ht := hok.total
  obtain ⟨r, c, rfl⟩ := h.ptr hx
  rw [gop_4 hc]
  by_cases hb : 1 ≤ b' ∧ b' ≤ (L.length : Int)
  · rw [if_pos hb]
    by_cases hlt : gAt L a < n
    · rw [if_pos hlt]
      rw [e1] at hlt
      refine (folk_Move35 g b r c L held _ w h i x y n b' hx hok.len a hi hy ⟨n0, n1⟩ (b' - 1).toNat (by omega) (by omega) hlt).mono ?_
      rintro e w' ⟨rfl, rfl⟩
      exact ⟨_, rfl, h, FkStep.of_below (Below.refl _ _)⟩
    · rw [if_neg hlt]
      rw [e1] at hlt
      obtain ⟨j, x2, y2, hx2, hj, f1, f2⟩ := move_at (d := y - n) hx hb
      have h1 : FkOk (L.set i (x, y - n)) (held + n) := hok.set hx (by omega) (by omega) (by omega)
      refine (folk_MoveYes g b r c L held _ w h i x y n b' hx hok.len a hi hy ⟨n0, n1⟩ j hj hlt (y - n) (hid rfl) x2 y2 hx2 (h1.gold hx2)).mono ?_
      rintro e w' ⟨rfl, hf, hu⟩
      simp only [List.length_set] at hf
      refine ⟨.slice (some ⟨r, 0, none⟩) L.length c, rfl, ?_, FkStep.of_upd (hu.mono (fun _ _ q => .inr q))⟩
      simp only [e1, e2, f1, f2, sumG_set _ j x2 y2 (y2 + n) hx2, sumG_set L i x y (y - n) hx]
      rw [show held + (sumG L - y + (y - n) - y2 + (y2 + n)) = held + sumG L by omega]
      exact hf
  · rw [if_neg hb]
    refine (folk_MoveNo14 g b _ L held _ w h a b' n (hid hc) hb).mono ?_
    rintro e w' ⟨rfl, rfl⟩
    exact ⟨_, rfl, h, FkStep.of_below (Below.refl _ _)⟩
end Go.Proofs.YtcjdlckfbkdibaaDoor
end
