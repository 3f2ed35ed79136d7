/- Contract: access: Set, whatever the house, the list and the person. -/
import Derived.Test.YtdchopckbklncaaAccSet
import Derived.Test.YtdchopckbklncaaLists
import Derived.Deep.DeepCutAuto
import Derived.Deep.AppendLies
namespace Go.Proofs.Ytdchopckbklncaa
open Go.RowKit
open Go.Lib (hid)
set_option linter.unusedVariables false

/-- an own slice of numbers -/
def OwnI (w : World) (B : Nat) (v : Value) (l : List Int) : Prop := w.ownsRow B 3 1 v l.length (iv l)
theorem OwnI.sli {w : World} {B : Nat} {v : Value} {l : List Int} (h : OwnI w B v l) : SlI w v l := SlI.of_own h
theorem OwnI.below {w w' : World} {B : Nat} {v : Value} {l : List Int} (h : OwnI w B v l) (hb : Below w.heap.size w w') : OwnI w' B v l := owns_below h hb
theorem OwnI.base {w : World} {B B' : Nat} {v : Value} {l : List Int} (h : OwnI w B v l) (hb : B' ≤ B) : OwnI w B' v l := ownsRow_base h hb
theorem OwnI.upd {S : Nat → Prop} {w w' : World} {B : Nat} {v : Value} {l : List Int} (h : OwnI w B v l) (hu : Upd S w w') (hn : ∀ k, v.ownBlock = some k → ¬ S k) : OwnI w' B v l := hu.owns h hn
/-- two values lie in different blocks -/
def Apart (u v : Value) : Prop := ∀ k, u.ownBlock = some k → v.ownBlock = some k → False

theorem idx3_2 (g : Nat) (w : World) : (Instr.index 87 (.agg #[.pointer (some ⟨g, 1, none⟩), .pointer (some ⟨g, 2, none⟩), .pointer (some ⟨g, 3, none⟩)]) (.int .i64 (IntKind.i64.wrap 1))).run Try.prog w = .ok (.pointer (some ⟨g, 2, none⟩)) w := by
  kernel_rfl
theorem acc_list2 (g : Nat) (w : World) : Calls Try.prog 95 #[.pointer (some ⟨g, 0, none⟩), .int .i64 2] w fun e w' => e = .returned (.pointer (some ⟨g, 2, none⟩)) ∧ Below w.heap.size w w' := by
  have hidx := idx3_2 g
  go_enter Try.func95, Try.ntmps95
  go_wp2
  have hk0 := (Below.refl w.heap.size w).drew
  refine wp_region_kept [13] (fun x => Below w.heap.size w x) (by kernel_rfl) (by assumption) (fun hH => ?_)
  refine wpK.take (i := 0) (v := _) (by simp only [List.getElem?_toArray, List.getElem?_cons_succ, List.getElem?_cons_zero]; rfl) (by kernel_rfl) (by kernel_rfl) (by kernel_rfl) (by kernel_rfl) (by kernel_rfl) (by exact fun _ _ _ h => h) (by first | exact Or.inl ⟨by rfl, by intro w hSw; go_simp; try with_reducible rfl⟩ | exact Or.inr ⟨by rfl, rfl⟩) hH ?_
  try simp only [Act.put, List.setIfInBounds_toArray, List.set_cons_zero, List.set_cons_succ]
  refine wpK.take (i := 1) (v := _) (by simp only [List.getElem?_toArray, List.getElem?_cons_succ, List.getElem?_cons_zero]; rfl) (by kernel_rfl) (by kernel_rfl) (by kernel_rfl) (by kernel_rfl) (by kernel_rfl) (by exact fun _ _ _ h => h) (by first | exact Or.inl ⟨by rfl, by intro w hSw; go_simp; try with_reducible rfl⟩ | exact Or.inr ⟨by rfl, rfl⟩) hH ?_
  try simp only [Act.put, List.setIfInBounds_toArray, List.set_cons_zero, List.set_cons_succ]
  refine wpK.take (i := 2) (v := _) (by simp only [List.getElem?_toArray, List.getElem?_cons_succ, List.getElem?_cons_zero]; rfl) (by kernel_rfl) (by kernel_rfl) (by kernel_rfl) (by kernel_rfl) (by kernel_rfl) (by exact fun _ _ _ h => h) (by first | exact Or.inl ⟨by rfl, by intro w hSw; go_simp; try with_reducible rfl⟩ | exact Or.inr ⟨by rfl, rfl⟩) hH ?_
  try simp only [Act.put, List.setIfInBounds_toArray, List.set_cons_zero, List.set_cons_succ]
  refine wpK.take (i := 3) (v := _) (by simp only [List.getElem?_toArray, List.getElem?_cons_succ, List.getElem?_cons_zero]; rfl) (by kernel_rfl) (by kernel_rfl) (by kernel_rfl) (by kernel_rfl) (by kernel_rfl) (by exact fun _ _ _ h => h) (by first | exact Or.inl ⟨by rfl, by intro w hSw; go_simp; try with_reducible rfl⟩ | exact Or.inr ⟨by rfl, rfl⟩) hH ?_
  try simp only [Act.put, List.setIfInBounds_toArray, List.set_cons_zero, List.set_cons_succ]
  refine wpK.take (i := 4) (v := _) (by simp only [List.getElem?_toArray, List.getElem?_cons_succ, List.getElem?_cons_zero]; rfl) (by kernel_rfl) (by kernel_rfl) (by kernel_rfl) (by kernel_rfl) (by kernel_rfl) (by exact fun _ _ _ h => h) (by first | exact Or.inl ⟨by rfl, by intro w hSw; go_simp; try with_reducible rfl⟩ | exact Or.inr ⟨by rfl, rfl⟩) hH ?_
  try simp only [Act.put, List.setIfInBounds_toArray, List.set_cons_zero, List.set_cons_succ]
  refine wpK.take (i := 5) (v := _) (by simp only [List.getElem?_toArray, List.getElem?_cons_succ, List.getElem?_cons_zero]; rfl) (by kernel_rfl) (by kernel_rfl) (by kernel_rfl) (by kernel_rfl) (by kernel_rfl) (by exact fun _ _ _ h => h) (by first | exact Or.inl ⟨by rfl, by intro w hSw; go_simp; try with_reducible rfl⟩ | exact Or.inr ⟨by rfl, rfl⟩) hH ?_
  try simp only [Act.put, List.setIfInBounds_toArray, List.set_cons_zero, List.set_cons_succ]
  refine wpK.take (i := 6) (v := _) (by simp only [List.getElem?_toArray, List.getElem?_cons_succ, List.getElem?_cons_zero]; rfl) (by kernel_rfl) (by kernel_rfl) (by kernel_rfl) (by kernel_rfl) (by kernel_rfl) (by exact fun _ _ _ h => h) (by first | exact Or.inl ⟨by rfl, by intro w hSw; go_simp; try with_reducible rfl⟩ | exact Or.inr ⟨by rfl, rfl⟩) hH ?_
  try simp only [Act.put, List.setIfInBounds_toArray, List.set_cons_zero, List.set_cons_succ]
  refine wpK.take (i := 7) (v := _) (by simp only [List.getElem?_toArray, List.getElem?_cons_succ, List.getElem?_cons_zero]; rfl) (by kernel_rfl) (by kernel_rfl) (by kernel_rfl) (by kernel_rfl) (by kernel_rfl) (by exact fun _ _ _ h => h) (by first | exact Or.inl ⟨by rfl, by intro w hSw; go_simp; try with_reducible rfl⟩ | exact Or.inr ⟨by rfl, rfl⟩) hH ?_
  try simp only [Act.put, List.setIfInBounds_toArray, List.set_cons_zero, List.set_cons_succ]
  refine wpK.take (i := 8) (v := _) (by simp only [List.getElem?_toArray, List.getElem?_cons_succ, List.getElem?_cons_zero]; rfl) (by kernel_rfl) (by kernel_rfl) (by kernel_rfl) (by kernel_rfl) (by kernel_rfl) (by exact fun _ _ _ h => h) (by first | exact Or.inl ⟨by rfl, by intro w hSw; go_simp; try with_reducible rfl⟩ | exact Or.inr ⟨by rfl, rfl⟩) hH ?_
  try simp only [Act.put, List.setIfInBounds_toArray, List.set_cons_zero, List.set_cons_succ]
  refine wpK.take (i := 9) (v := _) (by simp only [List.getElem?_toArray, List.getElem?_cons_succ, List.getElem?_cons_zero]; rfl) (by kernel_rfl) (by kernel_rfl) (by kernel_rfl) (by kernel_rfl) (by kernel_rfl) (by exact fun _ _ _ h => h) (by first | exact Or.inl ⟨by rfl, by intro w hSw; go_simp; try with_reducible rfl⟩ | exact Or.inr ⟨by rfl, rfl⟩) hH ?_
  try simp only [Act.put, List.setIfInBounds_toArray, List.set_cons_zero, List.set_cons_succ]
  refine wpK.take (i := 10) (v := _) (by simp only [List.getElem?_toArray, List.getElem?_cons_succ, List.getElem?_cons_zero]; rfl) (by kernel_rfl) (by kernel_rfl) (by kernel_rfl) (by kernel_rfl) (by kernel_rfl) (by exact fun _ _ _ h => h) (by first | exact Or.inl ⟨by rfl, by intro w hSw; go_simp; try with_reducible rfl⟩ | exact Or.inr ⟨by rfl, rfl⟩) hH ?_
  try simp only [Act.put, List.setIfInBounds_toArray, List.set_cons_zero, List.set_cons_succ]
  refine wpK.take (i := 11) (v := _) (by simp only [List.getElem?_toArray, List.getElem?_cons_succ, List.getElem?_cons_zero]; rfl) (by kernel_rfl) (by kernel_rfl) (by kernel_rfl) (by kernel_rfl) (by kernel_rfl) (by exact fun _ _ _ h => h) (by first | exact Or.inl ⟨by rfl, by intro w hSw; go_simp; try with_reducible rfl⟩ | exact Or.inr ⟨by rfl, rfl⟩) hH ?_
  try simp only [Act.put, List.setIfInBounds_toArray, List.set_cons_zero, List.set_cons_succ]
  refine wpK.take (i := 12) (v := _) (by simp only [List.getElem?_toArray, List.getElem?_cons_succ, List.getElem?_cons_zero]; rfl) (by kernel_rfl) (by kernel_rfl) (by kernel_rfl) (by kernel_rfl) (by kernel_rfl) (by exact fun _ _ _ h => h) (by first | exact Or.inl ⟨by rfl, by intro w hSw; go_simp; try with_reducible rfl⟩ | exact Or.inr ⟨by rfl, rfl⟩) hH ?_
  try simp only [Act.put, List.setIfInBounds_toArray, List.set_cons_zero, List.set_cons_succ]
  refine wpK.late (i := 13) (by kernel_rfl) (by simp only [List.getElem?_toArray, List.getElem?_cons_succ, List.getElem?_cons_zero]; rfl) (by kernel_rfl) (fun K hK => ?_)
  go_simp
  refine hK.out _ _ ?_
  clear hK K
  try simp only [Act.put, List.setIfInBounds_toArray, List.set_cons_zero, List.set_cons_succ]
  refine wpK.done (by kernel_rfl) ?_ _
  go_wp2
  go_ret
  exact ⟨rfl, hk0⟩
theorem acc_listN (g n : Nat) (w : World) (h1 : 1 ≤ n) (h2 : n ≤ 3) : Calls Try.prog 95 #[.pointer (some ⟨g, 0, none⟩), .int .i64 (n : Int)] w fun e w' => e = .returned (.pointer (some ⟨g, n, none⟩)) ∧ Below w.heap.size w w' := by
  obtain rfl | rfl | rfl : n = 1 ∨ n = 2 ∨ n = 3 := by omega
  · exact acc_list1 g w
  · exact acc_list2 g w
  · exact acc_list3 g w
def pickL {α : Type} (n : Nat) (a b c : α) : α := if n = 1 then a else if n = 2 then b else c
def errS (o : Int) (l : List Int) (p : Int) (on : Bool) : Int := if p = o then 38 else if on = true then (if p ∈ l then 13 else if 16 ≤ l.length then 12 else 0) else if p ∈ l then 0 else 14
def newL (l : List Int) (p : Int) (on : Bool) : List Int := if on = true then l.take (l.countP (· < p)) ++ p :: l.drop (l.countP (· < p)) else l.eraseIdx (l.countP (· < p))

/-- the house that is being made -/
structure OutIs (wq wx : World) (g : Nat) (o : Int) (u1 u2 u3 : Value) (lc lf lb : List Int) : Prop where
  blk : Blk wx g #[.int .i64 o, u1, u2, u3]
  ge : wq.heap.size ≤ g
  o1 : OwnI wx wq.heap.size u1 lc
  o2 : OwnI wx wq.heap.size u2 lf
  o3 : OwnI wx wq.heap.size u3 lb
  n1 : ∀ k, u1.ownBlock = some k → k ≠ g
  n2 : ∀ k, u2.ownBlock = some k → k ≠ g
  n3 : ∀ k, u3.ownBlock = some k → k ≠ g
  a12 : Apart u1 u2
  a13 : Apart u1 u3
  a23 : Apart u2 u3
  below : Below wq.heap.size wq wx
theorem OutIs.next {wq wx w' : World} {g : Nat} {o : Int} {u1 u2 u3 : Value} {lc lf lb : List Int} (h : OutIs wq wx g o u1 u2 u3 lc lf lb) (hb : Below wx.heap.size wx w') : OutIs wq w' g o u1 u2 u3 lc lf lb :=
  ⟨h.blk.below hb, h.ge, h.o1.below hb, h.o2.below hb, h.o3.below hb, h.n1, h.n2, h.n3, h.a12, h.a13, h.a23, Below.next h.below hb⟩
theorem OutIs.pick {wq wx : World} {g : Nat} {o : Int} {u1 u2 u3 : Value} {lc lf lb : List Int} (h : OutIs wq wx g o u1 u2 u3 lc lf lb) {n : Nat} (h1 : 1 ≤ n) (h3 : n ≤ 3) :
    wx.cell? ⟨g, n, none⟩ = some (pickL n u1 u2 u3) ∧ wx.frozen? ⟨g, n, none⟩ = false ∧ OwnI wx wq.heap.size (pickL n u1 u2 u3) (pickL n lc lf lb) ∧ (∀ k, (pickL n u1 u2 u3).ownBlock = some k → k ≠ g) := by
  obtain ⟨hy0, hy1, hy2, hy3, hz0, hz1, hz2, hz3⟩ := h.blk.c4
  obtain rfl | rfl | rfl : n = 1 ∨ n = 2 ∨ n = 3 := by omega
  · exact ⟨hy1, hz1, h.o1, h.n1⟩
  · exact ⟨hy2, hz2, h.o2, h.n2⟩
  · exact ⟨hy3, hz3, h.o3, h.n3⟩
/-- one list of it is put anew -/
theorem OutIs.put {wq w7 w8 : World} {g : Nat} {o : Int} {u1 u2 u3 : Value} {lc lf lb : List Int} (h : OutIs wq w7 g o u1 u2 u3 lc lf lb) {n : Nat} (h1 : 1 ≤ n) (h3 : n ≤ 3) {v8 : Value} {ln' : List Int}
    (hown8 : OwnI w8 wq.heap.size v8 ln') (hg8 : w7.grownBy w8 (pickL n u1 u2 u3).ownBlock) (hwh : ∀ k, v8.ownBlock = some k → (pickL n u1 u2 u3).ownBlock = some k ∨ w7.heap.size ≤ k) :
    ∃ x1 x2 x3, Blk (w8.setCell ⟨g, n, none⟩ v8) g #[.int .i64 o, x1, x2, x3] ∧ OwnI (w8.setCell ⟨g, n, none⟩ v8) wq.heap.size x1 (if n = 1 then ln' else lc) ∧ OwnI (w8.setCell ⟨g, n, none⟩ v8) wq.heap.size x2 (if n = 2 then ln' else lf) ∧
      OwnI (w8.setCell ⟨g, n, none⟩ v8) wq.heap.size x3 (if n = 3 then ln' else lb) ∧ Below wq.heap.size wq (w8.setCell ⟨g, n, none⟩ v8) := by
  have hng := (h.pick h1 h3).2.2.2
  have hun := (h.pick h1 h3).2.2.1
  have hU8 := Upd.of_grown hg8
  have hblk8 : Blk w8 g #[.int .i64 o, u1, u2, u3] := h.blk.upd hU8 (fun e => hng g e rfl)
  have hS := Upd.setCell w8 g n v8
  have hb8 : Below wq.heap.size wq w8 := Below.trans h.below (hU8.below h.below.size (fun k _ e => (hun.lt k e).1))
  have hb9 : Below wq.heap.size wq (w8.setCell ⟨g, n, none⟩ v8) := Below.trans hb8 (hS.below hb8.size (fun k _ e => e ▸ h.ge))
  have h9 := hblk8.set n v8
  have hv9 : OwnI (w8.setCell ⟨g, n, none⟩ v8) wq.heap.size v8 ln' := hown8.upd hS (fun k hk e => by
    rcases hwh k hk with q | q
    · exact hng k q e
    · have := h.blk.lt; omega)
  obtain rfl | rfl | rfl : n = 1 ∨ n = 2 ∨ n = 3 := by omega
  · exact ⟨v8, u2, u3, by simpa using h9, by simpa using hv9, by simpa using (h.o2.upd hU8 (fun k hk e => h.a12 k e hk)).upd hS (fun k hk e => h.n2 k hk e), by simpa using (h.o3.upd hU8 (fun k hk e => h.a13 k e hk)).upd hS (fun k hk e => h.n3 k hk e), hb9⟩
  · exact ⟨u1, v8, u3, by simpa using h9, by simpa using (h.o1.upd hU8 (fun k hk e => h.a12 k hk e)).upd hS (fun k hk e => h.n1 k hk e), by simpa using hv9, by simpa using (h.o3.upd hU8 (fun k hk e => h.a23 k e hk)).upd hS (fun k hk e => h.n3 k hk e), hb9⟩
  · exact ⟨u1, u2, v8, by simpa using h9, by simpa using (h.o1.upd hU8 (fun k hk e => h.a13 k hk e)).upd hS (fun k hk e => h.n1 k hk e), by simpa using (h.o2.upd hU8 (fun k hk e => h.a23 k hk e)).upd hS (fun k hk e => h.n2 k hk e), by simpa using hv9, hb9⟩
def SetPost (o : Int) (lc lf lb : List Int) (n : Nat) (p : Int) (on : Bool) (w : World) (e : Ending) (w' : World) : Prop :=
  ∃ v err, e = .returned (.tuple #[v, .int .i64 err]) ∧ err = errS o (pickL n lc lf lb) p on ∧ Below w.heap.size w w' ∧
    ((err ≠ 0 ∧ v = .agg #[.int .i64 0, .slice none 0 0, .slice none 0 0, .slice none 0 0]) ∨
     (err = 0 ∧ ∃ uc uf ub, v = .agg #[.int .i64 o, uc, uf, ub] ∧ OwnI w' w.heap.size uc (if n = 1 then newL lc p on else lc) ∧ OwnI w' w.heap.size uf (if n = 2 then newL lf p on else lf) ∧ OwnI w' w.heap.size ub (if n = 3 then newL lb p on else lb)))
theorem newL_pick {n : Nat} (h1 : 1 ≤ n) (h3 : n ≤ 3) (lc lf lb : List Int) (p : Int) (on : Bool) : (if n = 1 then newL (pickL n lc lf lb) p on else lc) = (if n = 1 then newL lc p on else lc) ∧ (if n = 2 then newL (pickL n lc lf lb) p on else lf) = (if n = 2 then newL lf p on else lf) ∧
    (if n = 3 then newL (pickL n lc lf lb) p on else lb) = (if n = 3 then newL lb p on else lb) := by
  obtain rfl | rfl | rfl : n = 1 ∨ n = 2 ∨ n = 3 := by omega
  all_goals simp [pickL]
set_option maxRecDepth 100000 in
set_option maxHeartbeats 4000000 in
/-- Set of a list and a person within their bounds -/
theorem acc_SetG (o p : Int) (n : Nat) (on : Bool) (lc lf lb : List Int) (vc vf vb : Value) (w : World) (hc : SlI w vc lc) (hf : SlI w vf lf) (hb : SlI w vb lb) (hl1 : lc.length ≤ 1000) (hl2 : lf.length ≤ 1000) (hl3 : lb.length ≤ 1000) (hn1 : 1 ≤ n) (hn3 : n ≤ 3) (h1 : 1 ≤ p) (h2 : p ≤ 256) (hsort : (pickL n lc lf lb).Pairwise (· ≤ ·)) :
    Calls Try.prog 58 #[.agg #[.int .i64 o, vc, vf, vb], .int .i64 (n : Int), .int .i64 p, .bool on] w (SetPost o lc lf lb n p on w) := by
  have HSORT := hid hsort
  clear hsort
  have HC0 := hid hc
  have HF0 := hid hf
  have HB0 := hid hb
  obtain ⟨a1, c1, rfl, -⟩ := hc
  obtain ⟨a2, c2, rfl, -⟩ := hf
  obtain ⟨a3, c3, rfl, -⟩ := hb
  obtain ⟨wb, hwb⟩ : ∃ wb, wb = w.alloc (.cells #[.int .i64 o, .slice a1 lc.length c1, .slice a2 lf.length c2, .slice a3 lb.length c3] 69) := ⟨_, rfl⟩
  obtain ⟨wq, hwq⟩ : ∃ wq, wq = wb.alloc (.cells #[.int .i64 0, .slice none 0 0, .slice none 0 0, .slice none 0 0] 69) := ⟨_, rfl⟩
  have hbb : Below w.heap.size w wb := by rw [hwb]; exact Below.new _ _
  have hbq : Below wb.heap.size wb wq := by rw [hwq]; exact Below.new _ _
  have hblk0 : Blk wq w.heap.size #[.int .i64 o, .slice a1 lc.length c1, .slice a2 lf.length c2, .slice a3 lb.length c3] := Blk.below hbq (by rw [hwb]; exact Blk.new _ _ _)
  have hsb : wb.heap.size = w.heap.size + 1 := by rw [hwb]; simp
  have hres : Blk wq (w.heap.size + 1) #[.int .i64 0, .slice none 0 0, .slice none 0 0, .slice none 0 0] := by rw [hwq, ← hsb]; exact Blk.new _ _ _
  have hsq : wq.heap.size = w.heap.size + 2 := by rw [hwq]; simp; omega
  have HBQ := hid (Below.next hbb hbq)
  have HC := hid (HC0.out.below HBQ.out)
  have HF := hid (HF0.out.below HBQ.out)
  have HB := hid (HB0.out.below HBQ.out)
  have HBLK0 := hid hblk0
  have HRES := hid hres
  have HSQ := hid hsq
  rw [hwb] at hwq
  have HWQ := hid hwq
  clear hwb hwq hbb hbq hsb hsq HC0 HF0 HB0
  have i1 : (1 : Int) ≤ (n : Int) := by omega
  have i2 : (n : Int) ≤ 3 := by omega
  go_enter Try.func58, Try.ntmps58
  go_wp2_with fail
  rw [← HWQ.out]
  refine (acc_three n _ i1 i2).mono ?_
  rintro e w' ⟨rfl, rfl⟩
  go_wp2_with fail
  refine (acc_person p _ h1 h2).mono ?_
  rintro e w' ⟨rfl, rfl⟩
  have hq0 : ∀ x, Below wq.heap.size wq x → x.cell? ⟨w.heap.size, 0, none⟩ = some (.int .i64 o) := fun x hb => (HBLK0.out.below hb).c4.1
  have hq1 : ∀ x, Below wq.heap.size wq x → x.cell? ⟨w.heap.size, 1, none⟩ = some (.slice a1 lc.length c1) := fun x hb => (HBLK0.out.below hb).c4.2.1
  have hq2 : ∀ x, Below wq.heap.size wq x → x.cell? ⟨w.heap.size, 2, none⟩ = some (.slice a2 lf.length c2) := fun x hb => (HBLK0.out.below hb).c4.2.2.1
  have hq3 : ∀ x, Below wq.heap.size wq x → x.cell? ⟨w.heap.size, 3, none⟩ = some (.slice a3 lb.length c3) := fun x hb => (HBLK0.out.below hb).c4.2.2.2.1
  clear hblk0 hres
  go_upto_region 3 with fail
  go_cut [10] (fun p10 wx => ∃ g u1 u2 u3, p10 = .pointer (some ⟨g, 0, none⟩) ∧ OutIs wq wx g o u1 u2 u3 lc lf lb)
  case first =>
    have hk0 := (Below.refl wq.heap.size wq).drew
    refine wp_region_kept [13] (fun x => Below wq.heap.size wq x) (by kernel_rfl) (by assumption) (fun hH => ?_)
    refine wpK.take (i := 0) (v := _) (by simp only [List.getElem?_toArray, List.getElem?_cons_succ, List.getElem?_cons_zero]; rfl) (by kernel_rfl) (by kernel_rfl) (by kernel_rfl) (by kernel_rfl) (by kernel_rfl) (by exact fun _ _ _ h => h) (by first | exact Or.inl ⟨by rfl, by intro w hSw; go_simp; try with_reducible rfl⟩ | exact Or.inr ⟨by rfl, rfl⟩) hH ?_
    try simp only [Act.put, List.setIfInBounds_toArray, List.set_cons_zero, List.set_cons_succ]
    refine wpK.take (i := 1) (v := _) (by simp only [List.getElem?_toArray, List.getElem?_cons_succ, List.getElem?_cons_zero]; rfl) (by kernel_rfl) (by kernel_rfl) (by kernel_rfl) (by kernel_rfl) (by kernel_rfl) (by exact fun _ _ _ h => h) (by first | exact Or.inl ⟨by rfl, by intro w hSw; go_simp; try with_reducible rfl⟩ | exact Or.inr ⟨by rfl, rfl⟩) hH ?_
    try simp only [Act.put, List.setIfInBounds_toArray, List.set_cons_zero, List.set_cons_succ]
    refine wpK.take (i := 2) (v := _) (by simp only [List.getElem?_toArray, List.getElem?_cons_succ, List.getElem?_cons_zero]; rfl) (by kernel_rfl) (by kernel_rfl) (by kernel_rfl) (by kernel_rfl) (by kernel_rfl) (by exact fun _ _ _ h => h) (by first | exact Or.inl ⟨by rfl, by intro w hSw; go_simp; try with_reducible rfl⟩ | exact Or.inr ⟨by rfl, rfl⟩) hH ?_
    try simp only [Act.put, List.setIfInBounds_toArray, List.set_cons_zero, List.set_cons_succ]
    refine wpK.take (i := 3) (v := _) (by simp only [List.getElem?_toArray, List.getElem?_cons_succ, List.getElem?_cons_zero]; rfl) (by kernel_rfl) (by kernel_rfl) (by kernel_rfl) (by kernel_rfl) (by kernel_rfl) (by exact fun _ _ _ h => h) (by first | exact Or.inl ⟨by rfl, by intro w hSw; go_simp; try with_reducible rfl⟩ | exact Or.inr ⟨by rfl, rfl⟩) hH ?_
    try simp only [Act.put, List.setIfInBounds_toArray, List.set_cons_zero, List.set_cons_succ]
    refine wpK.take (i := 5) (v := _) (by simp only [List.getElem?_toArray, List.getElem?_cons_succ, List.getElem?_cons_zero]; rfl) (by kernel_rfl) (by kernel_rfl) (by kernel_rfl) (by kernel_rfl) (by kernel_rfl) (by exact fun _ _ _ h => h) (by first | exact Or.inl ⟨by rfl, by intro w hSw; go_simp; try with_reducible rfl⟩ | exact Or.inr ⟨by rfl, rfl⟩) hH ?_
    try simp only [Act.put, List.setIfInBounds_toArray, List.set_cons_zero, List.set_cons_succ]
    refine wpK.take (i := 6) (v := _) (by simp only [List.getElem?_toArray, List.getElem?_cons_succ, List.getElem?_cons_zero]; rfl) (by kernel_rfl) (by kernel_rfl) (by kernel_rfl) (by kernel_rfl) (by kernel_rfl) (by exact fun _ _ _ h => h) (by first | exact Or.inl ⟨by rfl, by intro w hSw; go_simp; try with_reducible rfl⟩ | exact Or.inr ⟨by rfl, rfl⟩) hH ?_
    try simp only [Act.put, List.setIfInBounds_toArray, List.set_cons_zero, List.set_cons_succ]
    refine wpK.take (i := 8) (v := _) (by simp only [List.getElem?_toArray, List.getElem?_cons_succ, List.getElem?_cons_zero]; rfl) (by kernel_rfl) (by kernel_rfl) (by kernel_rfl) (by kernel_rfl) (by kernel_rfl) (by exact fun _ _ _ h => h) (by first | exact Or.inl ⟨by rfl, by intro w hSw; go_simp; try with_reducible rfl⟩ | exact Or.inr ⟨by rfl, rfl⟩) hH ?_
    try simp only [Act.put, List.setIfInBounds_toArray, List.set_cons_zero, List.set_cons_succ]
    refine wpK.take (i := 9) (v := _) (by simp only [List.getElem?_toArray, List.getElem?_cons_succ, List.getElem?_cons_zero]; rfl) (by kernel_rfl) (by kernel_rfl) (by kernel_rfl) (by kernel_rfl) (by kernel_rfl) (by exact fun _ _ _ h => h) (by first | exact Or.inl ⟨by rfl, by intro w hSw; go_simp; try with_reducible rfl⟩ | exact Or.inr ⟨by rfl, rfl⟩) hH ?_
    try simp only [Act.put, List.setIfInBounds_toArray, List.set_cons_zero, List.set_cons_succ]
    refine wpK.two (i := 4) (j := 12) (by kernel_rfl) (by simp only [List.getElem?_toArray, List.getElem?_cons_succ, List.getElem?_cons_zero]; rfl) (by simp only [List.getElem?_toArray, List.getElem?_cons_succ, List.getElem?_cons_zero]; rfl) (fun K hK => ?_) (fun K hK => ?_)
    · go_simp
      (refine (sl_CloneI lc _ _ (HC.out.below hH) (by omega)).mono ?_); rintro e w4 ⟨u1, rfl, hown1, hb4⟩; (obtain ⟨q1, d1, rfl, -, -, -, -⟩ := ownsRow.rd hown1); (have HLT1 := hid (fun k hk => hown1.lt k hk)); (have HOWN1 := hid hown1); (have HS4 := hid hb4.size); (have HS04 := hid hH.size); (have hk4 := Below.next hH hb4); (try (have hblk10 := hblk10.below hb4)); (try (obtain ⟨hy0, hy1, hy2, hy3, hz0, hz1, hz2, hz3⟩ := hblk10.c4)); clear hown1; go_simp
      refine hK.out _ _ (by assumption) (fun hH => ?_)
      clear hK K
      try simp only [Act.put, List.setIfInBounds_toArray, List.set_cons_zero, List.set_cons_succ]
      refine wpK.two (i := 7) (j := 12) (by kernel_rfl) (by simp only [List.getElem?_toArray, List.getElem?_cons_succ, List.getElem?_cons_zero]; rfl) (by simp only [List.getElem?_toArray, List.getElem?_cons_succ, List.getElem?_cons_zero]; rfl) (fun K hK => ?_) (fun K hK => ?_)
      · go_simp
        (refine (sl_CloneI lf _ _ (HF.out.below hH) (by omega)).mono ?_); rintro e w7 ⟨u2, rfl, hown2, hb7⟩; (obtain ⟨q2, d2, rfl, -, -, -, -⟩ := ownsRow.rd hown2); (have HLT2 := hid (fun k hk => hown2.lt k hk)); (have HOWN2 := hid hown2); (have HOWN1 := hid (owns_below HOWN1.out hb7)); (have HS7 := hid hb7.size); (have hk7 := Below.next hH hb7); (try (have hblk10 := hblk10.below hb7)); (try (obtain ⟨hy0, hy1, hy2, hy3, hz0, hz1, hz2, hz3⟩ := hblk10.c4)); clear hown2; go_simp
        refine hK.out _ _ (by assumption) (fun hH => ?_)
        clear hK K
        try simp only [Act.put, List.setIfInBounds_toArray, List.set_cons_zero, List.set_cons_succ]
        refine wpK.two (i := 10) (j := 12) (by kernel_rfl) (by simp only [List.getElem?_toArray, List.getElem?_cons_succ, List.getElem?_cons_zero]; rfl) (by simp only [List.getElem?_toArray, List.getElem?_cons_succ, List.getElem?_cons_zero]; rfl) (fun K hK => ?_) (fun K hK => ?_)
        · go_simp
          (refine (sl_CloneI lb _ _ (HB.out.below hH) (by omega)).mono ?_); rintro e w10 ⟨u3, rfl, hown3, hb10⟩; (obtain ⟨q3, d3, rfl, -, -, -, -⟩ := ownsRow.rd hown3); (have HLT3 := hid (fun k hk => hown3.lt k hk)); (have HOWN3 := hid hown3); (have HOWN1 := hid (owns_below HOWN1.out hb10)); (have HOWN2 := hid (owns_below HOWN2.out hb10)); (have HS10 := hid hb10.size); (have hk10 := Below.next hH hb10); (try (have hblk10 := hblk10.below hb10)); (try (obtain ⟨hy0, hy1, hy2, hy3, hz0, hz1, hz2, hz3⟩ := hblk10.c4)); clear hown3; go_simp
          refine hK.out _ _ (by assumption) (fun hH => ?_)
          clear hK K
          try simp only [Act.put, List.setIfInBounds_toArray, List.set_cons_zero, List.set_cons_succ]
          refine wpK.take (i := 11) (v := _) (by simp only [List.getElem?_toArray, List.getElem?_cons_succ, List.getElem?_cons_zero]; rfl) (by kernel_rfl) (by kernel_rfl) (by kernel_rfl) (by kernel_rfl) (by kernel_rfl) (by exact fun _ _ _ h => h) (by first | exact Or.inl ⟨by rfl, by intro w hSw; go_simp; try with_reducible rfl⟩ | exact Or.inr ⟨by rfl, rfl⟩) hH ?_
          try simp only [Act.put, List.setIfInBounds_toArray, List.set_cons_zero, List.set_cons_succ]
          refine wpK.step (i := 12) (by kernel_rfl) (by simp only [List.getElem?_toArray, List.getElem?_cons_succ, List.getElem?_cons_zero]; rfl) (fun K hK => ?_)
          go_simp
          (first | refine K_alloc (K := K) ?_ | refine K_allocD (K := K) ?_); intro g10 wn hg10 hs12 hb12 hblk10; rw [← hg10]; (have hk12 : Below wq.heap.size wq wn := Below.next (by first | exact hH | exact Below.refl _ _) hb12); (have HG10 := hid hg10); (have HS12 := hid hs12); clear hg10 hs12; (try (have HOWN1 := hid (owns_below HOWN1.out hb12))); (try (have HOWN2 := hid (owns_below HOWN2.out hb12))); (try (have HOWN3 := hid (owns_below HOWN3.out hb12))); (obtain ⟨hy0, hy1, hy2, hy3, hz0, hz1, hz2, hz3⟩ := hblk10.c4)
          refine hK.out _ _ (by assumption) (fun hH => ?_)
          clear hK K
          try simp only [Act.put, List.setIfInBounds_toArray, List.set_cons_zero, List.set_cons_succ]
          refine wpK.late (i := 13) (by kernel_rfl) (by simp only [List.getElem?_toArray, List.getElem?_cons_succ, List.getElem?_cons_zero]; rfl) (by kernel_rfl) (fun K hK => ?_)
          go_simp
          refine hK.out _ _ ?_
          clear hK K
          try simp only [Act.put, List.setIfInBounds_toArray, List.set_cons_zero, List.set_cons_succ]
          refine wpK.done (by kernel_rfl) ?_ _
          obtain ⟨wz, hwz, hblkZ, huZ⟩ := set4_of hblk10 (.int .i64 o) (.slice q1 lc.length d1) (.slice q2 lf.length d2) (.slice q3 lb.length d3)
          rw [← hwz]
          have hdr : wq.drew.heap.size = wq.heap.size := rfl
          have g0 := HG10.out
          have g1 := HS12.out
          have g2 := HS4.out
          have g3 := HS04.out
          have g4 := HS7.out
          have g5 := HS10.out
          have n1 : ∀ k, (Value.slice q1 lc.length d1).ownBlock = some k → k ≠ g10 := fun k hk => by have := HLT1.out k hk; omega
          have n2 : ∀ k, (Value.slice q2 lf.length d2).ownBlock = some k → k ≠ g10 := fun k hk => by have := HLT2.out k hk; omega
          have n3 : ∀ k, (Value.slice q3 lb.length d3).ownBlock = some k → k ≠ g10 := fun k hk => by have := HLT3.out k hk; omega
          have a12 : Apart (.slice q1 lc.length d1) (.slice q2 lf.length d2) := fun k h h' => by have := HLT1.out k h; have := HLT2.out k h'; omega
          have a13 : Apart (.slice q1 lc.length d1) (.slice q3 lb.length d3) := fun k h h' => by have := HLT1.out k h; have := HLT3.out k h'; omega
          have a23 : Apart (.slice q2 lf.length d2) (.slice q3 lb.length d3) := fun k h h' => by have := HLT2.out k h; have := HLT3.out k h'; omega
          have hge : wq.heap.size ≤ g10 := by omega
          have o1 : OwnI wz wq.heap.size (.slice q1 lc.length d1) lc := OwnI.upd (OwnI.base HOWN1.out (by omega)) huZ n1
          have o2 : OwnI wz wq.heap.size (.slice q2 lf.length d2) lf := OwnI.upd (OwnI.base HOWN2.out (by omega)) huZ n2
          have o3 : OwnI wz wq.heap.size (.slice q3 lb.length d3) lb := OwnI.upd (OwnI.base HOWN3.out (by omega)) huZ n3
          have hBZ : Below wq.heap.size wq wz := Below.trans hH (huZ.below hH.size (fun k _ q => q ▸ hge))
          have HOUT := hid (OutIs.mk hblkZ hge o1 o2 o3 n1 n2 n3 a12 a13 a23 hBZ)
          clear hblkZ hge o1 o2 o3 n1 n2 n3 a12 a13 a23 hBZ huZ hwz hblk10 hy0 hy1 hy2 hy3 hz0 hz1 hz2 hz3 hb4 hb7 hb10 hb12 hk4 hk7 hk10 hk12 hH hq0 hq1 hq2 hq3 hk0 g0 g1 g2 g3 g4 g5 hdr
          go_wp2_with fail
          go_meet
          exact ⟨_, _, _, _, rfl, HOUT.out⟩
        · go_simp
          (first | refine K_alloc (K := K) ?_ | refine K_allocD (K := K) ?_); intro g10 wn hg10 hs12 hb12 hblk10; rw [← hg10]; (have hk12 : Below wq.heap.size wq wn := Below.next (by first | exact hH | exact Below.refl _ _) hb12); (have HG10 := hid hg10); (have HS12 := hid hs12); clear hg10 hs12; (try (have HOWN1 := hid (owns_below HOWN1.out hb12))); (try (have HOWN2 := hid (owns_below HOWN2.out hb12))); (try (have HOWN3 := hid (owns_below HOWN3.out hb12))); (obtain ⟨hy0, hy1, hy2, hy3, hz0, hz1, hz2, hz3⟩ := hblk10.c4)
          refine hK.out _ _ (by assumption) (fun hH => ?_)
          clear hK K
          try simp only [Act.put, List.setIfInBounds_toArray, List.set_cons_zero, List.set_cons_succ]
          refine wpK.step (i := 10) (by kernel_rfl) (by simp only [List.getElem?_toArray, List.getElem?_cons_succ, List.getElem?_cons_zero]; rfl) (fun K hK => ?_)
          go_simp
          (refine (sl_CloneI lb _ _ (HB.out.below hH) (by omega)).mono ?_); rintro e w10 ⟨u3, rfl, hown3, hb10⟩; (obtain ⟨q3, d3, rfl, -, -, -, -⟩ := ownsRow.rd hown3); (have HLT3 := hid (fun k hk => hown3.lt k hk)); (have HOWN3 := hid hown3); (have HOWN1 := hid (owns_below HOWN1.out hb10)); (have HOWN2 := hid (owns_below HOWN2.out hb10)); (have HS10 := hid hb10.size); (have hk10 := Below.next hH hb10); (try (have hblk10 := hblk10.below hb10)); (try (obtain ⟨hy0, hy1, hy2, hy3, hz0, hz1, hz2, hz3⟩ := hblk10.c4)); clear hown3; go_simp
          refine hK.out _ _ (by assumption) (fun hH => ?_)
          clear hK K
          try simp only [Act.put, List.setIfInBounds_toArray, List.set_cons_zero, List.set_cons_succ]
          refine wpK.take (i := 11) (v := _) (by simp only [List.getElem?_toArray, List.getElem?_cons_succ, List.getElem?_cons_zero]; rfl) (by kernel_rfl) (by kernel_rfl) (by kernel_rfl) (by kernel_rfl) (by kernel_rfl) (by exact fun _ _ _ h => h) (by first | exact Or.inl ⟨by rfl, by intro w hSw; go_simp; try with_reducible rfl⟩ | exact Or.inr ⟨by rfl, rfl⟩) hH ?_
          try simp only [Act.put, List.setIfInBounds_toArray, List.set_cons_zero, List.set_cons_succ]
          refine wpK.late (i := 13) (by kernel_rfl) (by simp only [List.getElem?_toArray, List.getElem?_cons_succ, List.getElem?_cons_zero]; rfl) (by kernel_rfl) (fun K hK => ?_)
          go_simp
          refine hK.out _ _ ?_
          clear hK K
          try simp only [Act.put, List.setIfInBounds_toArray, List.set_cons_zero, List.set_cons_succ]
          refine wpK.done (by kernel_rfl) ?_ _
          obtain ⟨wz, hwz, hblkZ, huZ⟩ := set4_of hblk10 (.int .i64 o) (.slice q1 lc.length d1) (.slice q2 lf.length d2) (.slice q3 lb.length d3)
          rw [← hwz]
          have hdr : wq.drew.heap.size = wq.heap.size := rfl
          have g0 := HG10.out
          have g1 := HS12.out
          have g2 := HS4.out
          have g3 := HS04.out
          have g4 := HS7.out
          have g5 := HS10.out
          have n1 : ∀ k, (Value.slice q1 lc.length d1).ownBlock = some k → k ≠ g10 := fun k hk => by have := HLT1.out k hk; omega
          have n2 : ∀ k, (Value.slice q2 lf.length d2).ownBlock = some k → k ≠ g10 := fun k hk => by have := HLT2.out k hk; omega
          have n3 : ∀ k, (Value.slice q3 lb.length d3).ownBlock = some k → k ≠ g10 := fun k hk => by have := HLT3.out k hk; omega
          have a12 : Apart (.slice q1 lc.length d1) (.slice q2 lf.length d2) := fun k h h' => by have := HLT1.out k h; have := HLT2.out k h'; omega
          have a13 : Apart (.slice q1 lc.length d1) (.slice q3 lb.length d3) := fun k h h' => by have := HLT1.out k h; have := HLT3.out k h'; omega
          have a23 : Apart (.slice q2 lf.length d2) (.slice q3 lb.length d3) := fun k h h' => by have := HLT2.out k h; have := HLT3.out k h'; omega
          have hge : wq.heap.size ≤ g10 := by omega
          have o1 : OwnI wz wq.heap.size (.slice q1 lc.length d1) lc := OwnI.upd (OwnI.base HOWN1.out (by omega)) huZ n1
          have o2 : OwnI wz wq.heap.size (.slice q2 lf.length d2) lf := OwnI.upd (OwnI.base HOWN2.out (by omega)) huZ n2
          have o3 : OwnI wz wq.heap.size (.slice q3 lb.length d3) lb := OwnI.upd (OwnI.base HOWN3.out (by omega)) huZ n3
          have hBZ : Below wq.heap.size wq wz := Below.trans hH (huZ.below hH.size (fun k _ q => q ▸ hge))
          have HOUT := hid (OutIs.mk hblkZ hge o1 o2 o3 n1 n2 n3 a12 a13 a23 hBZ)
          clear hblkZ hge o1 o2 o3 n1 n2 n3 a12 a13 a23 hBZ huZ hwz hblk10 hy0 hy1 hy2 hy3 hz0 hz1 hz2 hz3 hb4 hb7 hb10 hb12 hk4 hk7 hk10 hk12 hH hq0 hq1 hq2 hq3 hk0 g0 g1 g2 g3 g4 g5 hdr
          go_wp2_with fail
          go_meet
          exact ⟨_, _, _, _, rfl, HOUT.out⟩
      · go_simp
        (first | refine K_alloc (K := K) ?_ | refine K_allocD (K := K) ?_); intro g10 wn hg10 hs12 hb12 hblk10; rw [← hg10]; (have hk12 : Below wq.heap.size wq wn := Below.next (by first | exact hH | exact Below.refl _ _) hb12); (have HG10 := hid hg10); (have HS12 := hid hs12); clear hg10 hs12; (try (have HOWN1 := hid (owns_below HOWN1.out hb12))); (try (have HOWN2 := hid (owns_below HOWN2.out hb12))); (try (have HOWN3 := hid (owns_below HOWN3.out hb12))); (obtain ⟨hy0, hy1, hy2, hy3, hz0, hz1, hz2, hz3⟩ := hblk10.c4)
        refine hK.out _ _ (by assumption) (fun hH => ?_)
        clear hK K
        try simp only [Act.put, List.setIfInBounds_toArray, List.set_cons_zero, List.set_cons_succ]
        refine wpK.step (i := 7) (by kernel_rfl) (by simp only [List.getElem?_toArray, List.getElem?_cons_succ, List.getElem?_cons_zero]; rfl) (fun K hK => ?_)
        go_simp
        (refine (sl_CloneI lf _ _ (HF.out.below hH) (by omega)).mono ?_); rintro e w7 ⟨u2, rfl, hown2, hb7⟩; (obtain ⟨q2, d2, rfl, -, -, -, -⟩ := ownsRow.rd hown2); (have HLT2 := hid (fun k hk => hown2.lt k hk)); (have HOWN2 := hid hown2); (have HOWN1 := hid (owns_below HOWN1.out hb7)); (have HS7 := hid hb7.size); (have hk7 := Below.next hH hb7); (try (have hblk10 := hblk10.below hb7)); (try (obtain ⟨hy0, hy1, hy2, hy3, hz0, hz1, hz2, hz3⟩ := hblk10.c4)); clear hown2; go_simp
        refine hK.out _ _ (by assumption) (fun hH => ?_)
        clear hK K
        try simp only [Act.put, List.setIfInBounds_toArray, List.set_cons_zero, List.set_cons_succ]
        refine wpK.step (i := 10) (by kernel_rfl) (by simp only [List.getElem?_toArray, List.getElem?_cons_succ, List.getElem?_cons_zero]; rfl) (fun K hK => ?_)
        go_simp
        (refine (sl_CloneI lb _ _ (HB.out.below hH) (by omega)).mono ?_); rintro e w10 ⟨u3, rfl, hown3, hb10⟩; (obtain ⟨q3, d3, rfl, -, -, -, -⟩ := ownsRow.rd hown3); (have HLT3 := hid (fun k hk => hown3.lt k hk)); (have HOWN3 := hid hown3); (have HOWN1 := hid (owns_below HOWN1.out hb10)); (have HOWN2 := hid (owns_below HOWN2.out hb10)); (have HS10 := hid hb10.size); (have hk10 := Below.next hH hb10); (try (have hblk10 := hblk10.below hb10)); (try (obtain ⟨hy0, hy1, hy2, hy3, hz0, hz1, hz2, hz3⟩ := hblk10.c4)); clear hown3; go_simp
        refine hK.out _ _ (by assumption) (fun hH => ?_)
        clear hK K
        try simp only [Act.put, List.setIfInBounds_toArray, List.set_cons_zero, List.set_cons_succ]
        refine wpK.take (i := 11) (v := _) (by simp only [List.getElem?_toArray, List.getElem?_cons_succ, List.getElem?_cons_zero]; rfl) (by kernel_rfl) (by kernel_rfl) (by kernel_rfl) (by kernel_rfl) (by kernel_rfl) (by exact fun _ _ _ h => h) (by first | exact Or.inl ⟨by rfl, by intro w hSw; go_simp; try with_reducible rfl⟩ | exact Or.inr ⟨by rfl, rfl⟩) hH ?_
        try simp only [Act.put, List.setIfInBounds_toArray, List.set_cons_zero, List.set_cons_succ]
        refine wpK.late (i := 13) (by kernel_rfl) (by simp only [List.getElem?_toArray, List.getElem?_cons_succ, List.getElem?_cons_zero]; rfl) (by kernel_rfl) (fun K hK => ?_)
        go_simp
        refine hK.out _ _ ?_
        clear hK K
        try simp only [Act.put, List.setIfInBounds_toArray, List.set_cons_zero, List.set_cons_succ]
        refine wpK.done (by kernel_rfl) ?_ _
        obtain ⟨wz, hwz, hblkZ, huZ⟩ := set4_of hblk10 (.int .i64 o) (.slice q1 lc.length d1) (.slice q2 lf.length d2) (.slice q3 lb.length d3)
        rw [← hwz]
        have hdr : wq.drew.heap.size = wq.heap.size := rfl
        have g0 := HG10.out
        have g1 := HS12.out
        have g2 := HS4.out
        have g3 := HS04.out
        have g4 := HS7.out
        have g5 := HS10.out
        have n1 : ∀ k, (Value.slice q1 lc.length d1).ownBlock = some k → k ≠ g10 := fun k hk => by have := HLT1.out k hk; omega
        have n2 : ∀ k, (Value.slice q2 lf.length d2).ownBlock = some k → k ≠ g10 := fun k hk => by have := HLT2.out k hk; omega
        have n3 : ∀ k, (Value.slice q3 lb.length d3).ownBlock = some k → k ≠ g10 := fun k hk => by have := HLT3.out k hk; omega
        have a12 : Apart (.slice q1 lc.length d1) (.slice q2 lf.length d2) := fun k h h' => by have := HLT1.out k h; have := HLT2.out k h'; omega
        have a13 : Apart (.slice q1 lc.length d1) (.slice q3 lb.length d3) := fun k h h' => by have := HLT1.out k h; have := HLT3.out k h'; omega
        have a23 : Apart (.slice q2 lf.length d2) (.slice q3 lb.length d3) := fun k h h' => by have := HLT2.out k h; have := HLT3.out k h'; omega
        have hge : wq.heap.size ≤ g10 := by omega
        have o1 : OwnI wz wq.heap.size (.slice q1 lc.length d1) lc := OwnI.upd (OwnI.base HOWN1.out (by omega)) huZ n1
        have o2 : OwnI wz wq.heap.size (.slice q2 lf.length d2) lf := OwnI.upd (OwnI.base HOWN2.out (by omega)) huZ n2
        have o3 : OwnI wz wq.heap.size (.slice q3 lb.length d3) lb := OwnI.upd (OwnI.base HOWN3.out (by omega)) huZ n3
        have hBZ : Below wq.heap.size wq wz := Below.trans hH (huZ.below hH.size (fun k _ q => q ▸ hge))
        have HOUT := hid (OutIs.mk hblkZ hge o1 o2 o3 n1 n2 n3 a12 a13 a23 hBZ)
        clear hblkZ hge o1 o2 o3 n1 n2 n3 a12 a13 a23 hBZ huZ hwz hblk10 hy0 hy1 hy2 hy3 hz0 hz1 hz2 hz3 hb4 hb7 hb10 hb12 hk4 hk7 hk10 hk12 hH hq0 hq1 hq2 hq3 hk0 g0 g1 g2 g3 g4 g5 hdr
        go_wp2_with fail
        go_meet
        exact ⟨_, _, _, _, rfl, HOUT.out⟩
    · go_simp
      (first | refine K_alloc (K := K) ?_ | refine K_allocD (K := K) ?_); intro g10 wn hg10 hs12 hb12 hblk10; rw [← hg10]; (have hk12 : Below wq.heap.size wq wn := Below.next (by first | exact hH | exact Below.refl _ _) hb12); (have HG10 := hid hg10); (have HS12 := hid hs12); clear hg10 hs12; (try (have HOWN1 := hid (owns_below HOWN1.out hb12))); (try (have HOWN2 := hid (owns_below HOWN2.out hb12))); (try (have HOWN3 := hid (owns_below HOWN3.out hb12))); (obtain ⟨hy0, hy1, hy2, hy3, hz0, hz1, hz2, hz3⟩ := hblk10.c4)
      refine hK.out _ _ (by assumption) (fun hH => ?_)
      clear hK K
      try simp only [Act.put, List.setIfInBounds_toArray, List.set_cons_zero, List.set_cons_succ]
      refine wpK.step (i := 4) (by kernel_rfl) (by simp only [List.getElem?_toArray, List.getElem?_cons_succ, List.getElem?_cons_zero]; rfl) (fun K hK => ?_)
      go_simp
      (refine (sl_CloneI lc _ _ (HC.out.below hH) (by omega)).mono ?_); rintro e w4 ⟨u1, rfl, hown1, hb4⟩; (obtain ⟨q1, d1, rfl, -, -, -, -⟩ := ownsRow.rd hown1); (have HLT1 := hid (fun k hk => hown1.lt k hk)); (have HOWN1 := hid hown1); (have HS4 := hid hb4.size); (have HS04 := hid hH.size); (have hk4 := Below.next hH hb4); (try (have hblk10 := hblk10.below hb4)); (try (obtain ⟨hy0, hy1, hy2, hy3, hz0, hz1, hz2, hz3⟩ := hblk10.c4)); clear hown1; go_simp
      refine hK.out _ _ (by assumption) (fun hH => ?_)
      clear hK K
      try simp only [Act.put, List.setIfInBounds_toArray, List.set_cons_zero, List.set_cons_succ]
      refine wpK.step (i := 7) (by kernel_rfl) (by simp only [List.getElem?_toArray, List.getElem?_cons_succ, List.getElem?_cons_zero]; rfl) (fun K hK => ?_)
      go_simp
      (refine (sl_CloneI lf _ _ (HF.out.below hH) (by omega)).mono ?_); rintro e w7 ⟨u2, rfl, hown2, hb7⟩; (obtain ⟨q2, d2, rfl, -, -, -, -⟩ := ownsRow.rd hown2); (have HLT2 := hid (fun k hk => hown2.lt k hk)); (have HOWN2 := hid hown2); (have HOWN1 := hid (owns_below HOWN1.out hb7)); (have HS7 := hid hb7.size); (have hk7 := Below.next hH hb7); (try (have hblk10 := hblk10.below hb7)); (try (obtain ⟨hy0, hy1, hy2, hy3, hz0, hz1, hz2, hz3⟩ := hblk10.c4)); clear hown2; go_simp
      refine hK.out _ _ (by assumption) (fun hH => ?_)
      clear hK K
      try simp only [Act.put, List.setIfInBounds_toArray, List.set_cons_zero, List.set_cons_succ]
      refine wpK.step (i := 10) (by kernel_rfl) (by simp only [List.getElem?_toArray, List.getElem?_cons_succ, List.getElem?_cons_zero]; rfl) (fun K hK => ?_)
      go_simp
      (refine (sl_CloneI lb _ _ (HB.out.below hH) (by omega)).mono ?_); rintro e w10 ⟨u3, rfl, hown3, hb10⟩; (obtain ⟨q3, d3, rfl, -, -, -, -⟩ := ownsRow.rd hown3); (have HLT3 := hid (fun k hk => hown3.lt k hk)); (have HOWN3 := hid hown3); (have HOWN1 := hid (owns_below HOWN1.out hb10)); (have HOWN2 := hid (owns_below HOWN2.out hb10)); (have HS10 := hid hb10.size); (have hk10 := Below.next hH hb10); (try (have hblk10 := hblk10.below hb10)); (try (obtain ⟨hy0, hy1, hy2, hy3, hz0, hz1, hz2, hz3⟩ := hblk10.c4)); clear hown3; go_simp
      refine hK.out _ _ (by assumption) (fun hH => ?_)
      clear hK K
      try simp only [Act.put, List.setIfInBounds_toArray, List.set_cons_zero, List.set_cons_succ]
      refine wpK.take (i := 11) (v := _) (by simp only [List.getElem?_toArray, List.getElem?_cons_succ, List.getElem?_cons_zero]; rfl) (by kernel_rfl) (by kernel_rfl) (by kernel_rfl) (by kernel_rfl) (by kernel_rfl) (by exact fun _ _ _ h => h) (by first | exact Or.inl ⟨by rfl, by intro w hSw; go_simp; try with_reducible rfl⟩ | exact Or.inr ⟨by rfl, rfl⟩) hH ?_
      try simp only [Act.put, List.setIfInBounds_toArray, List.set_cons_zero, List.set_cons_succ]
      refine wpK.late (i := 13) (by kernel_rfl) (by simp only [List.getElem?_toArray, List.getElem?_cons_succ, List.getElem?_cons_zero]; rfl) (by kernel_rfl) (fun K hK => ?_)
      go_simp
      refine hK.out _ _ ?_
      clear hK K
      try simp only [Act.put, List.setIfInBounds_toArray, List.set_cons_zero, List.set_cons_succ]
      refine wpK.done (by kernel_rfl) ?_ _
      obtain ⟨wz, hwz, hblkZ, huZ⟩ := set4_of hblk10 (.int .i64 o) (.slice q1 lc.length d1) (.slice q2 lf.length d2) (.slice q3 lb.length d3)
      rw [← hwz]
      have hdr : wq.drew.heap.size = wq.heap.size := rfl
      have g0 := HG10.out
      have g1 := HS12.out
      have g2 := HS4.out
      have g3 := HS04.out
      have g4 := HS7.out
      have g5 := HS10.out
      have n1 : ∀ k, (Value.slice q1 lc.length d1).ownBlock = some k → k ≠ g10 := fun k hk => by have := HLT1.out k hk; omega
      have n2 : ∀ k, (Value.slice q2 lf.length d2).ownBlock = some k → k ≠ g10 := fun k hk => by have := HLT2.out k hk; omega
      have n3 : ∀ k, (Value.slice q3 lb.length d3).ownBlock = some k → k ≠ g10 := fun k hk => by have := HLT3.out k hk; omega
      have a12 : Apart (.slice q1 lc.length d1) (.slice q2 lf.length d2) := fun k h h' => by have := HLT1.out k h; have := HLT2.out k h'; omega
      have a13 : Apart (.slice q1 lc.length d1) (.slice q3 lb.length d3) := fun k h h' => by have := HLT1.out k h; have := HLT3.out k h'; omega
      have a23 : Apart (.slice q2 lf.length d2) (.slice q3 lb.length d3) := fun k h h' => by have := HLT2.out k h; have := HLT3.out k h'; omega
      have hge : wq.heap.size ≤ g10 := by omega
      have o1 : OwnI wz wq.heap.size (.slice q1 lc.length d1) lc := OwnI.upd (OwnI.base HOWN1.out (by omega)) huZ n1
      have o2 : OwnI wz wq.heap.size (.slice q2 lf.length d2) lf := OwnI.upd (OwnI.base HOWN2.out (by omega)) huZ n2
      have o3 : OwnI wz wq.heap.size (.slice q3 lb.length d3) lb := OwnI.upd (OwnI.base HOWN3.out (by omega)) huZ n3
      have hBZ : Below wq.heap.size wq wz := Below.trans hH (huZ.below hH.size (fun k _ q => q ▸ hge))
      have HOUT := hid (OutIs.mk hblkZ hge o1 o2 o3 n1 n2 n3 a12 a13 a23 hBZ)
      clear hblkZ hge o1 o2 o3 n1 n2 n3 a12 a13 a23 hBZ huZ hwz hblk10 hy0 hy1 hy2 hy3 hz0 hz1 hz2 hz3 hb4 hb7 hb10 hb12 hk4 hk7 hk10 hk12 hH hq0 hq1 hq2 hq3 hk0 g0 g1 g2 g3 g4 g5 hdr
      go_wp2_with fail
      go_meet
      exact ⟨_, _, _, _, rfl, HOUT.out⟩
  case rest =>
  obtain ⟨g, u1, u2, u3, rfl, hout⟩ := hcut
  have HOUT := hid hout
  clear hout
  go_wp2_with fail
  refine (acc_listN g n _ hn1 hn3).mono ?_
  rintro e w6 ⟨rfl, hb6⟩
  have HO6 := hid (HOUT.out.next hb6)
  obtain ⟨hp1, -, hp3, -⟩ := HO6.out.pick hn1 hn3
  have HLN : Hid ((pickL n lc lf lb).length ≤ 1000) := hid (by unfold pickL; split; exact hl1; split; exact hl2; exact hl3)
  obtain ⟨ln, hln⟩ : ∃ ln, ln = pickL n lc lf lb := ⟨_, rfl⟩
  obtain ⟨un, hun⟩ : ∃ un, un = pickL n u1 u2 u3 := ⟨_, rfl⟩
  have HSORT2 : Hid (ln.Pairwise (· ≤ ·)) := hid (by rw [hln]; exact HSORT.out)
  have hll : ln.length ≤ 1000 := by rw [hln]; exact HLN.out
  rw [← hun] at hp1 hp3
  rw [← hln] at hp3
  obtain ⟨qa, qc, hqf, hqb, hqm, -, -⟩ := ownsRow.rd hp3
  rw [hqf] at hp1
  have HS6 := hid hp3.sli
  have HQF := hid hqf
  have HLL := hid hln
  have HUU := hid hun
  clear hb6 hp3 hqf hqb hqm hln hun hq1 hq2 hq3
  go_wp2_with fail
  refine (sl_SearchI ln _ p _ (by rw [← HQF.out]; exact HS6.out) (by omega) HSORT2.out).mono ?_
  rintro e w7 ⟨rfl, hb7⟩
  have HO7 := hid (HO6.out.next hb7)
  obtain ⟨hp1', hf7, hown7, hng7⟩ := HO7.out.pick hn1 hn3
  rw [← HUU.out] at hp1' hown7 hng7
  rw [← HLL.out] at hown7
  rw [HQF.out] at hp1'
  have HOWN7 := hid hown7
  have HNG7 := hid hng7
  obtain ⟨k, hk⟩ : ∃ k, k = ln.countP (· < p) := ⟨_, rfl⟩
  obtain ⟨there, hth⟩ : ∃ there, decide (p ∈ ln) = there := ⟨_, rfl⟩
  rw [← hk, hth]
  have HK := hid hk
  have HTH := hid hth
  have hkl : k ≤ ln.length := by rw [hk]; exact List.countP_le_length
  have hq0' := hq0 w7 HO7.out.below
  have HRES7 := hid (HRES.out.below HO7.out.below)
  obtain ⟨hr0, hr1, hr2, hr3, hs0, hs1, hs2, hs3⟩ := HRES7.out.c4
  clear hb7 hown7 hng7 hk hth hq0
  have HERR : Hid (∀ (err : Int), err = errS o ln p on → err ≠ 0 → ∀ wf, (wf = ((((w7.setCell ⟨w.heap.size + 1, 0, none⟩ (.int .i64 0)).setCell ⟨w.heap.size + 1, 1, none⟩ (.slice none 0 0)).setCell ⟨w.heap.size + 1, 2, none⟩ (.slice none 0 0)).setCell ⟨w.heap.size + 1, 3, none⟩ (.slice none 0 0))) →
      Blk wf (w.heap.size + 1) #[.int .i64 0, .slice none 0 0, .slice none 0 0, .slice none 0 0] ∧ SetPost o lc lf lb n p on w (.returned (.tuple #[.agg #[.int .i64 0, .slice none 0 0, .slice none 0 0, .slice none 0 0], .int .i64 err])) wf) := hid (fun err he h0 wf hwf => by
    obtain ⟨wf', hwf', hblkF, huF⟩ := set4_of (x := w7) HRES7.out (.int .i64 0) (.slice none 0 0) (.slice none 0 0) (.slice none 0 0)
    obtain rfl : wf = wf' := by rw [hwf, hwf']
    have hW7 : Below w.heap.size w w7 := Below.trans HBQ.out (HO7.out.below.mono HBQ.out.size)
    exact ⟨hblkF, _, _, rfl, by rw [he, HLL.out], Below.trans hW7 (huF.below hW7.size (fun j _ q => by omega)), .inl ⟨h0, rfl⟩⟩)
  by_cases hpo : p = o
  · have b1 : (p == o) = true := by simpa using hpo
    have HE := hid (HERR.out 38 (by rw [errS, if_pos hpo]) (by omega))
    clear hpo
    go_wp2_with fail
    obtain ⟨wf, hwf⟩ : ∃ wf, wf = ((((w7.setCell ⟨w.heap.size + 1, 0, none⟩ (.int .i64 0)).setCell ⟨w.heap.size + 1, 1, none⟩ (.slice none 0 0)).setCell ⟨w.heap.size + 1, 2, none⟩ (.slice none 0 0)).setCell ⟨w.heap.size + 1, 3, none⟩ (.slice none 0 0)) := ⟨_, rfl⟩
    rw [← hwf]
    obtain ⟨hblkF, hpost⟩ := HE.out wf hwf
    obtain ⟨hF0, hF1, hF2, hF3, -⟩ := hblkF.c4
    clear hwf
    (try simp only [Exit.inBlock, Exit.then])
    refine bodyPost_ret (results_cell_tmp rfl _ _ _ rfl (by go_simp; rfl)) rfl ?_
    exact hpost
  have b1 : (p == o) = false := by simpa using hpo
  cases on with
  | true =>
    cases there with
    | true =>
      have hmem : p ∈ ln := of_decide_eq_true HTH.out
      have HE := hid (HERR.out 13 (by rw [errS, if_neg hpo, if_pos rfl, if_pos hmem]) (by omega))
      clear hpo hmem
      go_wp2_with fail
      obtain ⟨wf, hwf⟩ : ∃ wf, wf = ((((w7.setCell ⟨w.heap.size + 1, 0, none⟩ (.int .i64 0)).setCell ⟨w.heap.size + 1, 1, none⟩ (.slice none 0 0)).setCell ⟨w.heap.size + 1, 2, none⟩ (.slice none 0 0)).setCell ⟨w.heap.size + 1, 3, none⟩ (.slice none 0 0)) := ⟨_, rfl⟩
      rw [← hwf]
      obtain ⟨hblkF, hpost⟩ := HE.out wf hwf
      obtain ⟨hF0, hF1, hF2, hF3, -⟩ := hblkF.c4
      clear hwf
      (try simp only [Exit.inBlock, Exit.then])
      refine bodyPost_ret (results_cell_tmp rfl _ _ _ rfl (by go_simp; rfl)) rfl ?_
      exact hpost
    | false =>
      have hmem : p ∉ ln := of_decide_eq_false HTH.out
      by_cases hbig : 16 ≤ ln.length
      · skip
        have HE := hid (HERR.out 12 (by rw [errS, if_neg hpo, if_pos rfl, if_neg hmem, if_pos hbig]) (by omega))
        clear hpo hmem
        go_wp2_with fail
        obtain ⟨wf, hwf⟩ : ∃ wf, wf = ((((w7.setCell ⟨w.heap.size + 1, 0, none⟩ (.int .i64 0)).setCell ⟨w.heap.size + 1, 1, none⟩ (.slice none 0 0)).setCell ⟨w.heap.size + 1, 2, none⟩ (.slice none 0 0)).setCell ⟨w.heap.size + 1, 3, none⟩ (.slice none 0 0)) := ⟨_, rfl⟩
        rw [← hwf]
        obtain ⟨hblkF, hpost⟩ := HE.out wf hwf
        obtain ⟨hF0, hF1, hF2, hF3, -⟩ := hblkF.c4
        clear hwf
        (try simp only [Exit.inBlock, Exit.then])
        refine bodyPost_ret (results_cell_tmp rfl _ _ _ rfl (by go_simp; rfl)) rfl ?_
        exact hpost
      · have HE0 : Hid (errS o ln p true = 0) := hid (by rw [errS, if_neg hpo, if_pos rfl, if_neg hmem, if_neg hbig])
        clear hpo hmem
        go_wp2_with fail
        have HNEW : Hid (newL ln p true = ln.take k ++ p :: ln.drop k) := hid (by rw [newL, if_pos rfl, ← HK.out])
        refine (sl_InsertI ln p k _ wq.heap.size w7.heap.size _ (by rw [← HQF.out]; exact HOWN7.out.alloc _) (by have := HO7.out.below.size; simp; omega) hll hkl (heap_alloc_new w7 _) (fun j hj q => by
          have := (HOWN7.out.lt j (by rw [HQF.out]; exact hj)).2; omega)).mono ?_
        rintro e w8 ⟨v8, rfl, hown8, hg8, hwh8⟩
        have HG8 : Hid (w7.grownBy w8 (Value.slice qa ln.length qc).ownBlock) := hid ⟨hg8.os, hg8.tape, hg8.output, by have := hg8.size; simp at this; omega, fun j hj hne => (hg8.block j (by simp; omega) hne).trans (Below.heap_alloc w7 _ j hj)⟩
        obtain ⟨b8, c8, rfl⟩ := Joins.ownsRow_form hown8 (by omega)
        have hln' : (ln.take k ++ p :: ln.drop k).length = ln.length + 1 := by simp; omega
        have HOWN8 : Hid (OwnI w8 wq.heap.size (.slice (some ⟨b8, 0, none⟩) (ln.length + 1) c8) (ln.take k ++ p :: ln.drop k)) := hid (by unfold OwnI; rw [hln']; exact hown8)
        have HWH : Hid (∀ j, (Value.slice (some ⟨b8, 0, none⟩) (ln.length + 1) c8).ownBlock = some j → (Value.slice qa ln.length qc).ownBlock = some j ∨ w7.heap.size ≤ j) := hid (fun j hj => by
          rcases hwh8 j hj with q | q
          · exact .inl q
          · exact .inr (by simp at q; omega))
        have hcc8 : w8.cell? ⟨g, n, none⟩ = some (.slice qa ln.length qc) := HG8.out.cell hp1' (fun q => HNG7.out g (by rw [HQF.out]; exact q.symm) rfl)
        have hff8 : w8.frozen? ⟨g, n, none⟩ = false := (HG8.out.frozen_far _ (World.block_lt_of_cell? w7 _ hp1') (fun q => HNG7.out g (by rw [HQF.out]; exact q.symm) rfl)).trans hf7
        clear hown8 hg8 hwh8 hln' hr0 hr1 hr2 hr3 hs0 hs1 hs2 hs3 hq0'
        obtain ⟨x1, x2, x3, hblk9, q1, q2, q3, hb9⟩ := HO7.out.put (w8 := w8) hn1 hn3 HOWN8.out (by rw [← HUU.out, HQF.out]; exact HG8.out) (by rw [← HUU.out, HQF.out]; exact HWH.out)
        go_upto_region 17 with fail
        obtain ⟨w9, hw9⟩ : ∃ w9, w9 = w8.setCell ⟨g, n, none⟩ (.slice (some ⟨b8, 0, none⟩) (ln.length + 1) c8) := ⟨_, rfl⟩
        rw [← hw9] at hblk9 q1 q2 q3 hb9 ⊢
        have hres9 := HRES.out.below hb9
        obtain ⟨hr0, hr1, hr2, hr3, hs0, hs1, hs2, hs3⟩ := hres9.c4
        obtain ⟨hy0, hy1, hy2, hy3, -⟩ := hblk9.c4
        obtain ⟨m1, hm1⟩ : ∃ m1, (if n = 1 then (ln.take k ++ p :: ln.drop k) else lc) = m1 := ⟨_, rfl⟩
        obtain ⟨m2, hm2⟩ : ∃ m2, (if n = 2 then (ln.take k ++ p :: ln.drop k) else lf) = m2 := ⟨_, rfl⟩
        obtain ⟨m3, hm3⟩ : ∃ m3, (if n = 3 then (ln.take k ++ p :: ln.drop k) else lb) = m3 := ⟨_, rfl⟩
        rw [hm1] at q1
        rw [hm2] at q2
        rw [hm3] at q3
        have HM1 := hid hm1
        have HM2 := hid hm2
        have HM3 := hid hm3
        clear hm1 hm2 hm3
        obtain ⟨y1, z1, rfl, -⟩ := ownsRow.rd q1
        obtain ⟨y2, z2, rfl, -⟩ := ownsRow.rd q2
        obtain ⟨y3, z3, rfl, -⟩ := ownsRow.rd q3
        have HB9 := hid hb9
        have HQ1 := hid q1
        have HQ2 := hid q2
        have HQ3 := hid q3
        have HRES9 := hid hres9
        clear hblk9 q1 q2 q3 hb9 hres9 hw9
        go_wp2_with fail
        obtain ⟨wf, hwf, hblkF, huF⟩ := set4_of (x := w9) HRES9.out (.int .i64 o) (.slice y1 m1.length z1) (.slice y2 m2.length z2) (.slice y3 m3.length z3)
        have hW9 : Below w.heap.size w w9 := Below.trans HBQ.out (HB9.out.mono HBQ.out.size)
        have hle : w.heap.size ≤ wq.heap.size := HBQ.out.size
        have hfar : ∀ (v : Value) (l : List Int), OwnI w9 wq.heap.size v l → OwnI wf w.heap.size v l := fun v l h => OwnI.base (h.upd huF (fun j hj q => by have := (World.ownsRow.lt h j hj).1; have := HSQ.out; omega)) hle
        have HPOST : Hid (SetPost o lc lf lb n p true w (.returned (.tuple #[.agg #[.int .i64 o, .slice y1 m1.length z1, .slice y2 m2.length z2, .slice y3 m3.length z3], .int .i64 0])) wf) := hid ⟨_, _, rfl, by rw [← HLL.out, HE0.out], Below.trans hW9 (huF.below hW9.size (fun j _ q => by omega)), .inr ⟨rfl, _, _, _, rfl, by
          have e := newL_pick hn1 hn3 lc lf lb p true
          rw [← HLL.out, HNEW.out] at e
          rw [← e.1, ← e.2.1, ← e.2.2, HM1.out, HM2.out, HM3.out]
          exact ⟨hfar _ _ HQ1.out, hfar _ _ HQ2.out, hfar _ _ HQ3.out⟩⟩⟩
        obtain ⟨hF0, hF1, hF2, hF3, -⟩ := hblkF.c4
        rw [← hwf]
        clear hfar hwf huF hblkF hle hW9
        (try simp only [Exit.inBlock, Exit.then])
        refine bodyPost_ret (results_cell_tmp rfl _ _ _ rfl (by go_simp; rfl)) rfl ?_
        exact HPOST.out
  | false =>
    cases there with
    | true =>
      have hmem : p ∈ ln := of_decide_eq_true HTH.out
      have HE0 : Hid (errS o ln p false = 0) := hid (by rw [errS, if_neg hpo, if_neg (by simp), if_pos hmem])
      have hkl2 : k < ln.length := by
        rw [HK.out]
        refine Nat.lt_of_le_of_ne List.countP_le_length (fun q => ?_)
        have := List.countP_eq_length.1 q p hmem
        simp at this
      clear hpo hmem
      go_wp2_with fail
      have HNEW : Hid (newL ln p false = ln.eraseIdx k) := hid (by rw [newL, if_neg (by simp), ← HK.out])
      refine (sl_DeleteI ln k _ wq.heap.size _ (by rw [← HQF.out]; exact HOWN7.out) hkl2).mono ?_
      rintro e w8 ⟨v8, rfl, hown8, hg8, hwh8⟩
      have HG8 := hid hg8
      obtain ⟨b8, c8, rfl, -⟩ := ownsRow.rd hown8
      have hln' : (ln.eraseIdx k).length = ln.length - 1 := by rw [List.length_eraseIdx, if_pos hkl2]
      have HOWN8 : Hid (OwnI w8 wq.heap.size (.slice b8 (ln.length - 1) c8) (ln.eraseIdx k)) := hid (by unfold OwnI; rw [hln']; exact hown8)
      have HWH : Hid (∀ j, (Value.slice b8 (ln.length - 1) c8).ownBlock = some j → (Value.slice qa ln.length qc).ownBlock = some j ∨ w7.heap.size ≤ j) := hid (fun j hj => .inl (by rw [← hwh8]; exact hj))
      have hcc8 : w8.cell? ⟨g, n, none⟩ = some (.slice qa ln.length qc) := HG8.out.cell hp1' (fun q => HNG7.out g (by rw [HQF.out]; exact q.symm) rfl)
      have hff8 : w8.frozen? ⟨g, n, none⟩ = false := (HG8.out.frozen_far _ (World.block_lt_of_cell? w7 _ hp1') (fun q => HNG7.out g (by rw [HQF.out]; exact q.symm) rfl)).trans hf7
      clear hown8 hg8 hwh8 hln' hr0 hr1 hr2 hr3 hs0 hs1 hs2 hs3 hq0'
      obtain ⟨x1, x2, x3, hblk9, q1, q2, q3, hb9⟩ := HO7.out.put (w8 := w8) hn1 hn3 HOWN8.out (by rw [← HUU.out, HQF.out]; exact HG8.out) (by rw [← HUU.out, HQF.out]; exact HWH.out)
      go_upto_region 17 with fail
      obtain ⟨w9, hw9⟩ : ∃ w9, w9 = w8.setCell ⟨g, n, none⟩ (.slice b8 (ln.length - 1) c8) := ⟨_, rfl⟩
      rw [← hw9] at hblk9 q1 q2 q3 hb9 ⊢
      have hres9 := HRES.out.below hb9
      obtain ⟨hr0, hr1, hr2, hr3, hs0, hs1, hs2, hs3⟩ := hres9.c4
      obtain ⟨hy0, hy1, hy2, hy3, -⟩ := hblk9.c4
      obtain ⟨m1, hm1⟩ : ∃ m1, (if n = 1 then (ln.eraseIdx k) else lc) = m1 := ⟨_, rfl⟩
      obtain ⟨m2, hm2⟩ : ∃ m2, (if n = 2 then (ln.eraseIdx k) else lf) = m2 := ⟨_, rfl⟩
      obtain ⟨m3, hm3⟩ : ∃ m3, (if n = 3 then (ln.eraseIdx k) else lb) = m3 := ⟨_, rfl⟩
      rw [hm1] at q1
      rw [hm2] at q2
      rw [hm3] at q3
      have HM1 := hid hm1
      have HM2 := hid hm2
      have HM3 := hid hm3
      clear hm1 hm2 hm3
      obtain ⟨y1, z1, rfl, -⟩ := ownsRow.rd q1
      obtain ⟨y2, z2, rfl, -⟩ := ownsRow.rd q2
      obtain ⟨y3, z3, rfl, -⟩ := ownsRow.rd q3
      have HB9 := hid hb9
      have HQ1 := hid q1
      have HQ2 := hid q2
      have HQ3 := hid q3
      have HRES9 := hid hres9
      clear hblk9 q1 q2 q3 hb9 hres9 hw9
      go_wp2_with fail
      obtain ⟨wf, hwf, hblkF, huF⟩ := set4_of (x := w9) HRES9.out (.int .i64 o) (.slice y1 m1.length z1) (.slice y2 m2.length z2) (.slice y3 m3.length z3)
      have hW9 : Below w.heap.size w w9 := Below.trans HBQ.out (HB9.out.mono HBQ.out.size)
      have hle : w.heap.size ≤ wq.heap.size := HBQ.out.size
      have hfar : ∀ (v : Value) (l : List Int), OwnI w9 wq.heap.size v l → OwnI wf w.heap.size v l := fun v l h => OwnI.base (h.upd huF (fun j hj q => by have := (World.ownsRow.lt h j hj).1; have := HSQ.out; omega)) hle
      have HPOST : Hid (SetPost o lc lf lb n p false w (.returned (.tuple #[.agg #[.int .i64 o, .slice y1 m1.length z1, .slice y2 m2.length z2, .slice y3 m3.length z3], .int .i64 0])) wf) := hid ⟨_, _, rfl, by rw [← HLL.out, HE0.out], Below.trans hW9 (huF.below hW9.size (fun j _ q => by omega)), .inr ⟨rfl, _, _, _, rfl, by
        have e := newL_pick hn1 hn3 lc lf lb p false
        rw [← HLL.out, HNEW.out] at e
        rw [← e.1, ← e.2.1, ← e.2.2, HM1.out, HM2.out, HM3.out]
        exact ⟨hfar _ _ HQ1.out, hfar _ _ HQ2.out, hfar _ _ HQ3.out⟩⟩⟩
      obtain ⟨hF0, hF1, hF2, hF3, -⟩ := hblkF.c4
      rw [← hwf]
      clear hfar hwf huF hblkF hle hW9
      (try simp only [Exit.inBlock, Exit.then])
      refine bodyPost_ret (results_cell_tmp rfl _ _ _ rfl (by go_simp; rfl)) rfl ?_
      exact HPOST.out
    | false =>
      have hmem : p ∉ ln := of_decide_eq_false HTH.out
      have HE := hid (HERR.out 14 (by rw [errS, if_neg hpo, if_neg (by simp), if_neg hmem]) (by omega))
      clear hpo hmem
      go_wp2_with fail
      obtain ⟨wf, hwf⟩ : ∃ wf, wf = ((((w7.setCell ⟨w.heap.size + 1, 0, none⟩ (.int .i64 0)).setCell ⟨w.heap.size + 1, 1, none⟩ (.slice none 0 0)).setCell ⟨w.heap.size + 1, 2, none⟩ (.slice none 0 0)).setCell ⟨w.heap.size + 1, 3, none⟩ (.slice none 0 0)) := ⟨_, rfl⟩
      rw [← hwf]
      obtain ⟨hblkF, hpost⟩ := HE.out wf hwf
      obtain ⟨hF0, hF1, hF2, hF3, -⟩ := hblkF.c4
      clear hwf
      (try simp only [Exit.inBlock, Exit.then])
      refine bodyPost_ret (results_cell_tmp rfl _ _ _ rfl (by go_simp; rfl)) rfl ?_
      exact hpost
end Go.Proofs.Ytdchopckbklncaa
