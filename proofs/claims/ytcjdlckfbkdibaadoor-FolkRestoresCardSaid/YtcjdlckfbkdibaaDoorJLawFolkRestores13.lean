/- Joined texts, in this order: Folk. Each one's first remark says what it proves; no condition beyond those that its theorems name. -/
import Derived.Test.YtcjdlckfbkdibaaDoorJLawFolkRestores07
import Derived.Test.YtcjdlckfbkdibaaDoorJLawFolkRestores09
import Derived.Test.YtcjdlckfbkdibaaDoorJLawFolkRestores10
import Derived.Test.YtcjdlckfbkdibaaDoorJLawFolkRestores11
import Derived.Test.YtcjdlckfbkdibaaDoorJLawFolkRestores12
import Derived.Carry
import Derived.Deep.DeepCutAuto
section
/- Contracts of the package folk: New, Find, Len, Add, Has, check, purse, Gold, Held, Total. -/
namespace Go.Proofs.YtcjdlckfbkdibaaDoor
open Go.RowKit
open Go.Lib (hid)
set_option linter.unusedVariables false

theorem T_frow : SlT Tryd.prog 45 52 (.agg #[.string ByteArray.empty, .int .i64 0]) 2 24 := SlT.mk' Tryd.underlying45 (by kernel_rfl) rfl (by decide) (by decide)
theorem zero_int17 (w : World) : (zeroValue 3).run Tryd.prog w = .ok (.int .i64 0) w := by kernel_rfl
/-- accounts stand at block g: the rows in v, the names in block b -/
structure FkIs (w : World) (g b : Nat) (v : Value) (L : List (List UInt8 × Int)) (held total : Int) : Prop where
  blk : Blk w g #[v, .map (some b), .int .i64 held, .int .i64 total]
  own : w.ownsRow 0 52 2 v L.length (rvF L)
  map : MS.MapS w b (namesV 0 L)
  n1 : v.ownBlock ≠ some g
  n2 : v.ownBlock ≠ some b
  n3 : g ≠ b
theorem FkIs.upd {S : Nat → Prop} {w w' : World} {g b : Nat} {v : Value} {L : List (List UInt8 × Int)} {held total : Int} (h : FkIs w g b v L held total) (hu : Upd S w w') (h1 : ¬ S g) (h2 : ¬ S b) (h3 : ∀ k, v.ownBlock = some k → ¬ S k) : FkIs w' g b v L held total :=
  ⟨h.blk.upd hu h1, hu.owns h.own h3, h.map.upd hu h2, h.n1, h.n2, h.n3⟩
theorem FkIs.below {w w' : World} {g b : Nat} {v : Value} {L : List (List UInt8 × Int)} {held total : Int} (h : FkIs w g b v L held total) (hb : Below w.heap.size w w') : FkIs w' g b v L held total :=
  h.upd (S := fun _ => False) (Upd.of_below hb) (fun x => x) (fun x => x) (fun _ _ x => x)
/-- what a call does to the memory -/
structure FkStep (g b : Nat) (v v' : Value) (w w' : World) : Prop where
  upd : Upd (fun k => k = g ∨ k = b ∨ v.ownBlock = some k) w w'
  wh : ∀ k, v'.ownBlock = some k → v.ownBlock = some k ∨ w.heap.size ≤ k
theorem FkStep.of_below {g b : Nat} {v : Value} {w w' : World} (h : Below w.heap.size w w') : FkStep g b v v w w' := ⟨Upd.of_below h, fun _ h => .inl h⟩
theorem FkStep.trans {g b : Nat} {u v x : Value} {p q r : World} (h : FkStep g b u v p q) (k : FkStep g b v x q r) : FkStep g b u x p r :=
  ⟨h.upd.trans k.upd (fun i hi hs => by
      rcases hs with e | e | e
      · exact .inl e
      · exact .inr (.inl e)
      · rcases h.wh i e with e | e
        · exact .inr (.inr e)
        · omega),
   fun i hi => by
      rcases k.wh i hi with e | e
      · exact h.wh i e
      · exact .inr (by have := h.upd.size; omega)⟩
theorem FkIs.form {w : World} {g b : Nat} {v : Value} {L : List (List UInt8 × Int)} {held total : Int} (h : FkIs w g b v L held total) : ∃ a c, v = .slice a L.length c := by
  obtain ⟨a, c, rfl, -⟩ := ownsRow.rd h.own
  exact ⟨a, c, rfl⟩
theorem Blk.cells4 {w : World} {g : Nat} {c0 c1 c2 c3 : Value} (h : Blk w g #[c0, c1, c2, c3]) : w.cell? ⟨g, 0, none⟩ = some c0 ∧ w.cell? ⟨g, 1, none⟩ = some c1 ∧ w.cell? ⟨g, 2, none⟩ = some c2 ∧ w.cell? ⟨g, 3, none⟩ = some c3 :=
  ⟨by rw [h.cell]; rfl, by rw [h.cell]; rfl, by rw [h.cell]; rfl, by rw [h.cell]; rfl⟩
theorem folk_New (w : World) : Calls Tryd.prog 12 #[] w fun e w' => ∃ g b, e = .returned (.pointer (some ⟨g, 0, none⟩)) ∧ FkIs w' g b (.slice none 0 0) [] 0 0 ∧ w.heap.size ≤ g ∧ w.heap.size ≤ b ∧ Below w.heap.size w w' := by
  have hmm := @run_makeMap Tryd.prog
  go_enter Tryd.func12, Tryd.ntmps12
  go_wp2
  go_ret
  refine ⟨w.heap.size + 1, w.heap.size, rfl, ⟨?_, World.ownsRow_nil _ _ _ _, (MS.MapS.new w).below (Below.new _ _), by simp [Value.ownBlock], by simp [Value.ownBlock], by omega⟩, by omega, by omega, ((Below.refl _ _).alloc (Nat.le_refl _) _).alloc (by simp) _⟩
  have := Blk.new (w.alloc (.map #[] 0)) #[.slice none 0 0, .map (some w.heap.size), .int .i64 0, .int .i64 0] 89
  simpa using this
theorem folk_Len (g b : Nat) (v : Value) (L : List (List UInt8 × Int)) (held total : Int) (w : World) (h : FkIs w g b v L held total) :
    Calls Tryd.prog 14 #[.pointer (some ⟨g, 0, none⟩)] w fun e w' => e = .returned (.int .i64 (L.length : Int)) ∧ w = w' := by
  obtain ⟨a, c, rfl⟩ := h.form
  obtain ⟨c0, -, -, -⟩ := h.blk.cells4
  clear h
  go_enter Tryd.func14, Tryd.ntmps14
  go_wp2
  go_ret
  exact ⟨rfl, rfl⟩
theorem folk_LenB (g : Nat) (a : Option Addr) (n c : Nat) (x1 x2 x3 : Value) (w : World) (h : Blk w g #[.slice a n c, x1, x2, x3]) :
    Calls Tryd.prog 14 #[.pointer (some ⟨g, 0, none⟩)] w fun e w' => e = .returned (.int .i64 (n : Int)) ∧ w = w' := by
  obtain ⟨c0, -, -, -⟩ := h.cells4
  clear h
  go_enter Tryd.func14, Tryd.ntmps14
  go_wp2
  go_ret
  exact ⟨rfl, rfl⟩
theorem folk_Held (g b : Nat) (v : Value) (L : List (List UInt8 × Int)) (held total : Int) (w : World) (h : FkIs w g b v L held total) :
    Calls Tryd.prog 23 #[.pointer (some ⟨g, 0, none⟩)] w fun e w' => e = .returned (.int .i64 held) ∧ w = w' := by
  obtain ⟨-, -, c2, -⟩ := h.blk.cells4
  clear h
  go_enter Tryd.func23, Tryd.ntmps23
  go_wp2
  go_ret
  exact ⟨rfl, rfl⟩
theorem folk_Total (g b : Nat) (v : Value) (L : List (List UInt8 × Int)) (held total : Int) (w : World) (h : FkIs w g b v L held total) :
    Calls Tryd.prog 45 #[.pointer (some ⟨g, 0, none⟩)] w fun e w' => e = .returned (.int .i64 total) ∧ w = w' := by
  obtain ⟨-, -, -, c3⟩ := h.blk.cells4
  clear h
  go_enter Tryd.func45, Tryd.ntmps45
  go_wp2
  go_ret
  exact ⟨rfl, rfl⟩
theorem folk_Find (g b : Nat) (v : Value) (L : List (List UInt8 × Int)) (held total : Int) (w : World) (h : FkIs w g b v L held total) (x : List UInt8) (r : Nat) (hr : Hid (fkFind L x = r)) (ok : Bool) (hok : Hid (decide (0 < r) = ok)) :
    Calls Tryd.prog 16 #[.pointer (some ⟨g, 0, none⟩), .string ⟨x.toArray⟩] w fun e w' => e = .returned (.tuple #[.int .i64 (r : Int), .bool ok]) ∧ w = w' := by
  obtain ⟨-, c1, -, -⟩ := h.blk.cells4
  have HM := hid h.map
  have H1 : Hid (((namesV 0 L).lookup x).getD (.int .i64 0) = .int .i64 (r : Int)) := hid (by
    rw [names_look, hr.out]
    by_cases h0 : r = 0
    · subst h0; rfl
    · rw [if_neg h0, Nat.zero_add]; rfl)
  have H2 : Hid (((namesV 0 L).lookup x).isSome = ok) := hid (by
    rw [names_look, hr.out, ← hok.out]
    by_cases h0 : r = 0
    · subst h0; rfl
    · rw [if_neg h0]; simp; omega)
  clear h
  go_enter Tryd.func16, Tryd.ntmps16
  go_wp2_with (at_lookup; refine MS.wpList_look2 _ rfl _ _ rfl Tryd.underlying87 Tryd.underlying9 (.int .i64 0) zero_int17 rfl HM.out x rfl _ H1 _ H2 ?_)
  go_ret2
  exact ⟨rfl, rfl⟩
theorem lit_frow (q : ByteArray) (W : World) : (Instr.buildSlice 45 1 #[(0, .agg #[.string q, .int .i64 0])]).run Tryd.prog W = .ok (.slice (some ⟨W.heap.size, 0, none⟩) 1 1) (W.alloc (.cells #[.string q, .int .i64 0] 52)) := by kernel_rfl
set_option maxRecDepth 100000 in
set_option maxHeartbeats 2000000 in
theorem folk_Add (g b : Nat) (v : Value) (L : List (List UInt8 × Int)) (held total : Int) (w : World) (h : FkIs w g b v L held total) (hlen : L.length ≤ 256) (x : List UInt8) (hx : x.length ≤ 1000) :
    Calls Tryd.prog 13 #[.pointer (some ⟨g, 0, none⟩), .string ⟨x.toArray⟩] w fun e w' => ∃ v', e = .returned (.tuple #[.int .i64 (addFI L x), .int .i64 (addFE L x)]) ∧ FkIs w' g b v' (addFL L x) held total ∧ FkStep g b v v' w w' := by
  obtain ⟨r, hr⟩ : ∃ r, fkFind L x = r := ⟨_, rfl⟩
  have HR := hid hr
  have hxs : (⟨x.toArray⟩ : ByteArray).size ≤ 9223372036854775807 := by show x.toArray.size ≤ _; rw [List.size_toArray]; omega
  have HX := hid hxs
  have H := hid h
  have hI : addFI L x = if addFE L x = 0 then ((L.length + 1 : Nat) : Int) else 0 := rfl
  have hL : addFL L x = if addFE L x = 0 then L ++ [(x, 0)] else L := rfl
  have hE : addFE L x = if nameB x then (if r = 0 then (if L.length < 256 then 0 else 12) else 13) else 16 := by unfold addFE; rw [hr]
  obtain ⟨E, hEE⟩ : ∃ E, addFE L x = E := ⟨_, rfl⟩
  obtain ⟨I, hII⟩ : ∃ I, addFI L x = I := ⟨_, rfl⟩
  obtain ⟨M, hMM⟩ : ∃ M, addFL L x = M := ⟨_, rfl⟩
  rw [hEE] at hI hL hE
  rw [hII] at hI
  rw [hMM] at hL
  rw [hEE, hII, hMM]
  have HI := hid hI
  have HL := hid hL
  have HE := hid hE
  clear hr hxs h hI hL hE hEE hII hMM
  obtain ⟨nb, hnb⟩ : ∃ nb, nameB x = nb := ⟨_, rfl⟩
  have HNB := hid hnb
  clear hnb
  cases nb with
  | false =>
    have hE2 : E = 16 := by rw [HE.out, HNB.out]; rfl
    subst hE2
    have hI2 : I = 0 := by rw [HI.out]; rfl
    have hL2 : M = L := by rw [HL.out]; rfl
    subst hI2
    subst hL2
    go_enter Tryd.func13, Tryd.ntmps13
    go_wp2_with fail
    refine (folk_Find g b v _ held total w H.out x r HR _ (hid rfl)).mono ?_
    rintro e w1 ⟨rfl, rfl⟩
    go_wp2_with fail
    refine (folk_Name ⟨x.toArray⟩ w HX.out).mono ?_
    rintro e w2 ⟨rfl, hb2⟩
    have hn : nameB (⟨x.toArray⟩ : ByteArray).data.toList = false := HNB.out
    rw [hn]
    have HB2 := hid hb2
    clear hb2 hn
    go_wp2_with fail
    go_ret2
    exact ⟨v, rfl, H.out.below HB2.out, FkStep.of_below HB2.out⟩
  | true =>
    by_cases h0 : r = 0
    · by_cases h1 : L.length < 256
      · have hE2 : E = 0 := by rw [HE.out, HNB.out, if_pos rfl, if_pos h0, if_pos h1]
        subst hE2
        have hI2 : I = ((L.length + 1 : Nat) : Int) := by rw [HI.out]; rfl
        have hL2 : M = L ++ [(x, 0)] := by rw [HL.out]; rfl
        subst hI2
        subst hL2
        subst h0
        have h1b : ((L.length : Int) == 256) = false := by simp; omega
        obtain ⟨N, hN⟩ : ∃ N, N = L.length := ⟨_, rfl⟩
        have HN := hid hN
        go_enter Tryd.func13, Tryd.ntmps13
        go_wp2_with fail
        refine (folk_Find g b v _ held total w H.out x 0 HR _ (hid rfl)).mono ?_
        rintro e w1 ⟨rfl, rfl⟩
        go_wp2_with fail
        refine (folk_Name ⟨x.toArray⟩ w HX.out).mono ?_
        rintro e w2 ⟨rfl, hb2⟩
        have hn : nameB (⟨x.toArray⟩ : ByteArray).data.toList = true := HNB.out
        rw [hn]
        have HB2 := hid hb2
        have H2 := hid (H.out.below hb2)
        clear hb2 hn
        go_wp2_with fail
        refine (folk_Len g b v L held total w2 H2.out).mono ?_
        rintro e w3 ⟨rfl, rfl⟩
        obtain ⟨c0, -, -, -⟩ := H2.out.blk.cells4
        go_wp2_with (at_builtin; refine wpList_append1w T_frow _ rfl _ _ #[.string ⟨x.toArray⟩, .int .i64 0] rfl 0 _ _ _ rfl H2.out.own rfl rfl ?c1 ?c2 (Nat.zero_le _) ?_)
        case c1 => simp [Value.oneCell']
        case c2 => omega
        intro v5 w5 hown5 hgrow5 hne5 hwh5
        have hu5 := Upd.of_grown hgrow5
        obtain ⟨a5, q5, rfl, -⟩ := ownsRow.rd hown5
        have hb5 : Blk w5 g #[v, .map (some b), .int .i64 held, .int .i64 total] := H2.out.blk.upd hu5 H2.out.n1
        have HK5 := hid hb5
        have hf5 : w5.frozen? ⟨g, 0, none⟩ = false := hb5.unfrozen 0
        have hc5 : w5.cell? ⟨g, 0, none⟩ = some v := by rw [hb5.cell]; rfl
        have HU5 := hid hu5
        have HO5 : Hid (w5.ownsRow 0 52 2 (.slice a5 (L.length + 1) q5) (L ++ [(x, 0)]).length (rvF (L ++ [(x, 0)]))) := hid (by rw [rvF_append, List.length_append]; exact hown5)
        have HM5 := hid (H2.out.map.upd hu5 H2.out.n2)
        have HW5 := hid hwh5
        clear hown5 hgrow5 hne5 hwh5 hu5 hb5 c0
        go_upto_region 9 with fail
        have hk6 : Blk (w5.setCell ⟨g, 0, none⟩ (.slice a5 (L.length + 1) q5)) g #[.slice a5 (L.length + 1) q5, .map (some b), .int .i64 held, .int .i64 total] := by simpa using HK5.out.set 0 (.slice a5 (L.length + 1) q5)
        have hu6 := Upd.setCell w5 g 0 (.slice a5 (L.length + 1) q5)
        have hg6 : (Value.slice a5 (L.length + 1) q5).ownBlock ≠ some g := fun e => by
          rcases HW5.out g e with e | e
          · exact H2.out.n1 e
          · have := H2.out.blk.lt; omega
        have hq6 : (Value.slice a5 (L.length + 1) q5).ownBlock ≠ some b := fun e => by
          rcases HW5.out b e with e | e
          · exact H2.out.n2 e
          · have := H2.out.map.lt; omega
        have HG6 := hid (And.intro hg6 hq6)
        have HO6 := hid (hu6.owns HO5.out (fun k hk e => by subst e; exact hg6 hk))
        have HM6 := hid (HM5.out.upd hu6 (fun e => H2.out.n3 e.symm))
        have HU6 := hid hu6
        generalize World.setCell w5 _ _ = w6 at hk6 HO6 HM6 HU6
        have HK6 := hid hk6
        clear hk6 hu6 hg6 hq6 hf5 hc5 HK5 HO5 HM5
        have d1 : ∀ y, Below w6.heap.size w6 y → y.cell? ⟨g, 1, none⟩ = some (.map (some b)) := fun y hy => (HK6.out.below hy).cells4.2.1
        have hy6 := (Below.refl w6.heap.size w6).drew
        refine wp_region_kept [7] (fun y => Below w6.heap.size w6 y) (by kernel_rfl) (by assumption) (fun hH => ?_)
        refine wpK.take (i := 0) (v := _) (by simp only [List.getElem?_toArray, List.getElem?_cons_succ, List.getElem?_cons_zero]; rfl) (by kernel_rfl) (by kernel_rfl) (by kernel_rfl) (by kernel_rfl) (by kernel_rfl) (by exact fun _ _ _ h => h) (by first | exact Or.inl ⟨by rfl, by intro w hSw; go_simp; try with_reducible rfl⟩ | exact Or.inr ⟨by rfl, rfl⟩) hH ?_
        try simp only [Act.put, List.setIfInBounds_toArray, List.set_cons_zero, List.set_cons_succ]
        refine wpK.take (i := 1) (v := _) (by simp only [List.getElem?_toArray, List.getElem?_cons_succ, List.getElem?_cons_zero]; rfl) (by kernel_rfl) (by kernel_rfl) (by kernel_rfl) (by kernel_rfl) (by kernel_rfl) (by exact fun _ _ _ h => h) (by first | exact Or.inl ⟨by rfl, by intro w hSw; go_simp; try with_reducible rfl⟩ | exact Or.inr ⟨by rfl, rfl⟩) hH ?_
        try simp only [Act.put, List.setIfInBounds_toArray, List.set_cons_zero, List.set_cons_succ]
        refine wpK.take (i := 2) (v := _) (by simp only [List.getElem?_toArray, List.getElem?_cons_succ, List.getElem?_cons_zero]; rfl) (by kernel_rfl) (by kernel_rfl) (by kernel_rfl) (by kernel_rfl) (by kernel_rfl) (by exact fun _ _ _ h => h) (by first | exact Or.inl ⟨by rfl, by intro w hSw; go_simp; try with_reducible rfl⟩ | exact Or.inr ⟨by rfl, rfl⟩) hH ?_
        try simp only [Act.put, List.setIfInBounds_toArray, List.set_cons_zero, List.set_cons_succ]
        refine wpK.take (i := 3) (v := _) (by simp only [List.getElem?_toArray, List.getElem?_cons_succ, List.getElem?_cons_zero]; rfl) (by kernel_rfl) (by kernel_rfl) (by kernel_rfl) (by kernel_rfl) (by kernel_rfl) (by exact fun _ _ _ h => h) (by first | exact Or.inl ⟨by rfl, by intro w hSw; go_simp; try with_reducible rfl⟩ | exact Or.inr ⟨by rfl, rfl⟩) hH ?_
        try simp only [Act.put, List.setIfInBounds_toArray, List.set_cons_zero, List.set_cons_succ]
        refine wpK.take (i := 4) (v := _) (by simp only [List.getElem?_toArray, List.getElem?_cons_succ, List.getElem?_cons_zero]; rfl) (by kernel_rfl) (by kernel_rfl) (by kernel_rfl) (by kernel_rfl) (by kernel_rfl) (by exact fun _ _ _ h => h) (by first | exact Or.inl ⟨by rfl, by intro w hSw; go_simp; try with_reducible rfl⟩ | exact Or.inr ⟨by rfl, rfl⟩) hH ?_
        try simp only [Act.put, List.setIfInBounds_toArray, List.set_cons_zero, List.set_cons_succ]
        refine wpK.take (i := 5) (v := _) (by simp only [List.getElem?_toArray, List.getElem?_cons_succ, List.getElem?_cons_zero]; rfl) (by kernel_rfl) (by kernel_rfl) (by kernel_rfl) (by kernel_rfl) (by kernel_rfl) (by exact fun _ _ _ h => h) (by first | exact Or.inl ⟨by rfl, by intro w hSw; go_simp; try with_reducible rfl⟩ | exact Or.inr ⟨by rfl, rfl⟩) hH ?_
        try simp only [Act.put, List.setIfInBounds_toArray, List.set_cons_zero, List.set_cons_succ]
        refine wpK.step (i := 6) (by kernel_rfl) (by simp only [List.getElem?_toArray, List.getElem?_cons_succ, List.getElem?_cons_zero]; rfl) (fun K hK => ?_)
        go_simp
        (refine (folk_LenB g a5 (L.length + 1) q5 _ _ _ _ (HK6.out.below (by assumption))).mono ?_); rintro e wk ⟨rfl, rfl⟩; go_simp
        refine hK.out _ _ (by assumption) (fun hH => ?_)
        clear hK K
        try simp only [Act.put, List.setIfInBounds_toArray, List.set_cons_zero, List.set_cons_succ]
        refine wpK.late (i := 7) (by kernel_rfl) (by simp only [List.getElem?_toArray, List.getElem?_cons_succ, List.getElem?_cons_zero]; rfl) (by kernel_rfl) (fun K hK => ?_)
        refine MS.step_putE _ rfl _ _ _ rfl Tryd.underlying87 Tryd.underlying9 rfl (HM6.out.below (by assumption)) x rfl (.int .i64 ((L.length : Int) + 1)) rfl ?_; intro w7 hm7 hu7 hs7
        refine hK.out _ _ ?_
        clear hK K
        try simp only [Act.put, List.setIfInBounds_toArray, List.set_cons_zero, List.set_cons_succ]
        refine wpK.done (by kernel_rfl) ?_ _
        have hcast : ((L.length + 1 : Nat) : Int) = (L.length : Int) + 1 := by omega
        rw [← hcast, names_put L x HR.out] at hm7
        have hub : Upd (fun k => k = b) w6 w7 := (Upd.of_below (S := fun k => k = b) hy6).trans hu7 (fun _ _ q => q)
        have HF7 : Hid (FkIs w7 g b (.slice a5 (L ++ [(x, 0)]).length q5) (L ++ [(x, 0)]) held total) := hid (by
          have e : (L ++ [(x, (0 : Int))]).length = L.length + 1 := by simp
          rw [e]
          refine ⟨HK6.out.upd hub H2.out.n3, ?_, hm7, HG6.out.1, HG6.out.2, H2.out.n3⟩
          have := hub.owns HO6.out (fun k hk q => by subst q; exact HG6.out.2 hk)
          exact this)
        have HST : Hid (FkStep g b v (.slice a5 (L ++ [(x, 0)]).length q5) w w7) := hid (by
          have e : (L ++ [(x, (0 : Int))]).length = L.length + 1 := by simp
          rw [e]
          have u1 : Upd (fun k => k = g ∨ k = b ∨ v.ownBlock = some k) w w5 := (Upd.of_below HB2.out).trans HU5.out (fun _ _ q => .inr (.inr q))
          have u2 : Upd (fun k => k = g ∨ k = b ∨ v.ownBlock = some k) w w6 := u1.trans HU6.out (fun _ _ q => .inl q)
          exact ⟨u2.trans hub (fun _ _ q => .inr (.inl q)), fun k hk => by
            rcases HW5.out k hk with q | q
            · exact .inl q
            · exact .inr (by have := HB2.out.size; omega)⟩)
        have HK7 := HF7.out.blk
        have HKL : Hid (Blk w7 g #[.slice a5 (L.length + 1) q5, .map (some b), .int .i64 held, .int .i64 total]) := hid (by
          have e : (L ++ [(x, (0 : Int))]).length = L.length + 1 := by simp
          rw [e] at HK7; exact HK7)
        clear hm7 hu7 hs7 hub d1 hy6 HK7 hH hcast
        go_wp2_with fail
        refine (folk_LenB g a5 (L.length + 1) q5 _ _ _ w7 HKL.out).mono ?_
        rintro e w8 ⟨rfl, rfl⟩
        go_wp2_with fail
        go_ret2
        exact ⟨_, rfl, HF7.out, HST.out⟩
      · have hE2 : E = 12 := by rw [HE.out, HNB.out, if_pos rfl, if_pos h0, if_neg h1]
        subst hE2
        have hI2 : I = 0 := by rw [HI.out]; rfl
        have hL2 : M = L := by rw [HL.out]; rfl
        subst hI2
        subst hL2
        subst h0
        have h1b : ((M.length : Int) == 256) = true := by simp; omega
        go_enter Tryd.func13, Tryd.ntmps13
        go_wp2_with fail
        refine (folk_Find g b v _ held total w H.out x 0 HR _ (hid rfl)).mono ?_
        rintro e w1 ⟨rfl, rfl⟩
        go_wp2_with fail
        refine (folk_Name ⟨x.toArray⟩ w HX.out).mono ?_
        rintro e w2 ⟨rfl, hb2⟩
        have hn : nameB (⟨x.toArray⟩ : ByteArray).data.toList = true := HNB.out
        rw [hn]
        have HB2 := hid hb2
        have H2 := hid (H.out.below hb2)
        clear hb2 hn
        go_wp2_with fail
        refine (folk_Len g b v _ held total w2 H2.out).mono ?_
        rintro e w3 ⟨rfl, rfl⟩
        go_wp2_with fail
        go_ret2
        exact ⟨v, rfl, H2.out, FkStep.of_below HB2.out⟩
    · have hE2 : E = 13 := by rw [HE.out, HNB.out, if_pos rfl, if_neg h0]
      subst hE2
      have hI2 : I = 0 := by rw [HI.out]; rfl
      have hL2 : M = L := by rw [HL.out]; rfl
      subst hI2
      subst hL2
      have hr0 : decide (0 < r) = true := by simp; omega
      go_enter Tryd.func13, Tryd.ntmps13
      go_wp2_with fail
      refine (folk_Find g b v _ held total w H.out x r HR true (hid hr0)).mono ?_
      rintro e w1 ⟨rfl, rfl⟩
      go_wp2_with fail
      refine (folk_Name ⟨x.toArray⟩ w HX.out).mono ?_
      rintro e w2 ⟨rfl, hb2⟩
      have hn : nameB (⟨x.toArray⟩ : ByteArray).data.toList = true := HNB.out
      rw [hn]
      have HB2 := hid hb2
      clear hb2 hn
      go_wp2_with fail
      go_ret2
      exact ⟨v, rfl, H.out.below HB2.out, FkStep.of_below HB2.out⟩
end Go.Proofs.YtcjdlckfbkdibaaDoor
end
