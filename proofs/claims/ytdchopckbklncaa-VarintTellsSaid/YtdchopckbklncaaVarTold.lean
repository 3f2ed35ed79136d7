/- Contracts of the statements' own functions of layer 4: told. -/
import Derived.Test.YtdchopckbklncaaVarPut
import Derived.Test.YtdchopckbklncaaRegion
import Derived.Deep.QuietTactic
import Derived.BigQuiet
namespace Go.Proofs.Ytdchopckbklncaa
open Go.RowKit
open Go.Lib (hid)
set_option linter.unusedVariables false

theorem bytes_beq_list (l m : List UInt8) : ((⟨l.toArray⟩ : ByteArray) == ⟨m.toArray⟩) = decide (l = m) := by
  rw [Bool.eq_iff_iff, Go.MapKept.bytes_beq]
  simp

def ToldPost (b : Bool) (s' : Option (List UInt8)) (g D : Nat) (w : World) (e : Ending) (w' : World) : Prop := e = .returned (.bool b) ∧ InIs w' g D s' ∧ Upd (fun k => k = g) w w'
theorem toldPost {b b' : Bool} {s' : Option (List UInt8)} {g D : Nat} {w w0 w' : World} (hb : b' = b) (h0 : Below w.heap.size w w0) (hi : InIs w' g D s') (hu : Upd (fun k => k = g) w0 w') : ToldPost b s' g D w (.returned (.bool b')) w' :=
  ⟨by rw [hb], hi, (Upd.of_below h0).trans hu (fun _ _ x => x)⟩

set_option maxRecDepth 100000 in
set_option maxHeartbeats 2000000 in
theorem law04_told (x : Thing) (hx : x.Ok) (la : Option Addr) (lc : Nat) (g D : Nat) (s : Option (List UInt8)) (w : World) (h : InIs w g D s) (hlen : (s.getD []).length ≤ 1000000) (hr : Rd w la (iv x.list))
    (hub : Hid (0 < x.list.length → ∀ b off, la = some ⟨b, off, none⟩ → b ≠ g)) (b : Bool) (s' : Option (List UInt8)) (hs : Hid (x.told s = (b, s'))) :
    Calls Try.prog 43 #[.pointer (some ⟨g, 0, none⟩), .agg (thV x la lc)] w (ToldPost b s' g D w) := by
  obtain ⟨kind, n, text, flag, list⟩ := x
  have htx := hx.text
  have hli := hx.list
  have hs2 := hs.out
  unfold Thing.told at hs2
  simp only at htx hli hub hs2
  unfold thV
  simp only
  have H := hid h
  have HR := hid hr
  have hgl := h.lt
  have HBX := hid (Blk.new w #[.int .i64 kind, .int .i64 n, .string ⟨text.toArray⟩, .bool flag, .slice la list.length lc] 56)
  have HB0 := hid (below_new w (.cells #[.int .i64 kind, .int .i64 n, .string ⟨text.toArray⟩, .bool flag, .slice la list.length lc] 56))
  have HI0 := hid (h.below HB0.out)
  have hcell : ∀ j w', Upd (fun k => k = g) (w.alloc (.cells #[.int .i64 kind, .int .i64 n, .string ⟨text.toArray⟩, .bool flag, .slice la list.length lc] 56)) w' →
      w'.cell? ⟨w.heap.size, j, none⟩ = (#[.int .i64 kind, .int .i64 n, .string ⟨text.toArray⟩, .bool flag, .slice la list.length lc] : Array Value)[j]? := fun j w' hu => (HBX.out.upd hu (fun e => by omega)).cell j
  have HC := hid hcell
  have hu0 := (Upd.refl (fun k => k = g) (w.alloc (.cells #[.int .i64 kind, .int .i64 n, .string ⟨text.toArray⟩, .bool flag, .slice la list.length lc] 56))).drew
  have HID : Hid (InIs (w.alloc (.cells #[.int .i64 kind, .int .i64 n, .string ⟨text.toArray⟩, .bool flag, .slice la list.length lc] 56)).drew g D s) := hid (HI0.out.upd (S := fun _ => False) ((Upd.refl _ _).drew) (fun x => x) (fun _ x => x))
  clear hx h hr hcell hs
  by_cases k0 : kind = 0
  · subst k0
    rw [if_pos rfl] at hs2
    obtain ⟨n1, s1, hi⟩ : ∃ n1 s1, inInt s = (n1, s1) := ⟨_, _, rfl⟩
    rw [hi] at hs2
    simp only [Prod.mk.injEq] at hs2
    obtain ⟨hb, rfl⟩ := hs2
    have HBB : Hid ((n1 == n) = b) := hid (by rw [← hb, Bool.eq_iff_iff]; simp)
    have HI := hid hi
    have hc1 : ∀ w', Upd (fun k => k = g) (w.alloc (.cells #[.int .i64 0, .int .i64 n, .string ⟨text.toArray⟩, .bool flag, .slice la list.length lc] 56)) w' → w'.cell? ⟨w.heap.size, 1, none⟩ = some (.int .i64 n) := fun w' hu => HC.out 1 w' hu
    clear hi hb
    go_enter Try.func43, Try.ntmps43
    go_wp2_with fail
    refine wp_region_kept [] (fun w' => Upd (fun k => k = g) (w.alloc (.cells #[.int .i64 0, .int .i64 n, .string ⟨text.toArray⟩, .bool flag, .slice la list.length lc] 56)) w') (by kernel_rfl) (by assumption) (fun hH => ?_)
    refine wpK.take (i := 0) (v := _) (by simp only [List.getElem?_toArray, List.getElem?_cons_succ, List.getElem?_cons_zero]; rfl) (by kernel_rfl) (by kernel_rfl) (by kernel_rfl) (by kernel_rfl) (by kernel_rfl) (by exact fun _ _ _ h => h) (by first | exact Or.inl ⟨by rfl, by intro w hSw; go_simp; try with_reducible rfl⟩ | exact Or.inr ⟨by rfl, rfl⟩) hH ?_
    try simp only [Act.put, List.setIfInBounds_toArray, List.set_cons_zero, List.set_cons_succ]
    refine wpK.take (i := 2) (v := _) (by simp only [List.getElem?_toArray, List.getElem?_cons_succ, List.getElem?_cons_zero]; rfl) (by kernel_rfl) (by kernel_rfl) (by kernel_rfl) (by kernel_rfl) (by kernel_rfl) (by exact fun _ _ _ h => h) (by first | exact Or.inl ⟨by rfl, by intro w hSw; go_simp; try with_reducible rfl⟩ | exact Or.inr ⟨by rfl, rfl⟩) hH ?_
    try simp only [Act.put, List.setIfInBounds_toArray, List.set_cons_zero, List.set_cons_succ]
    refine wpK.take (i := 3) (v := _) (by simp only [List.getElem?_toArray, List.getElem?_cons_succ, List.getElem?_cons_zero]; rfl) (by kernel_rfl) (by kernel_rfl) (by kernel_rfl) (by kernel_rfl) (by kernel_rfl) (by exact fun _ _ _ h => h) (by first | exact Or.inl ⟨by rfl, by intro w hSw; go_simp; try with_reducible rfl⟩ | exact Or.inr ⟨by rfl, rfl⟩) hH ?_
    try simp only [Act.put, List.setIfInBounds_toArray, List.set_cons_zero, List.set_cons_succ]
    refine wpK.step (i := 1) (by kernel_rfl) (by simp only [List.getElem?_toArray, List.getElem?_cons_succ, List.getElem?_cons_zero]; rfl) (fun K hK => ?_)
    go_simp
    (refine (in_Int s g D _ HID.out n1 s1 HI).mono ?_); rintro e wA ⟨rfl, hiA, huA⟩; (have hkA := hH.trans huA (fun _ _ x => x)); go_simp
    refine hK.out _ _ (by assumption) (fun hH => ?_)
    clear hK K
    try simp only [Act.put, List.setIfInBounds_toArray, List.set_cons_zero, List.set_cons_succ]
    refine wpK.take (i := 4) (v := _) (by simp only [List.getElem?_toArray, List.getElem?_cons_succ, List.getElem?_cons_zero]; rfl) (by kernel_rfl) (by kernel_rfl) (by kernel_rfl) (by kernel_rfl) (by kernel_rfl) (by exact fun _ _ _ h => h) (by first | exact Or.inl ⟨by rfl, by intro w hSw; go_simp; try with_reducible rfl⟩ | exact Or.inr ⟨by rfl, rfl⟩) hH ?_
    try simp only [Act.put, List.setIfInBounds_toArray, List.set_cons_zero, List.set_cons_succ]
    refine wpK.take (i := 5) (v := _) (by simp only [List.getElem?_toArray, List.getElem?_cons_succ, List.getElem?_cons_zero]; rfl) (by kernel_rfl) (by kernel_rfl) (by kernel_rfl) (by kernel_rfl) (by kernel_rfl) (by exact fun _ _ _ h => h) (by first | exact Or.inl ⟨by rfl, by intro w hSw; go_simp; try with_reducible rfl⟩ | exact Or.inr ⟨by rfl, rfl⟩) hH ?_
    try simp only [Act.put, List.setIfInBounds_toArray, List.set_cons_zero, List.set_cons_succ]
    refine wpK.done (by kernel_rfl) ?_ _
    have HPOST : Hid (ToldPost b s1 g D w (.returned (.bool (n1 == n))) wA) := hid (toldPost HBB.out HB0.out hiA hkA)
    clear hiA huA hkA hH hc1 hu0
    go_wp2_with fail
    go_ret
    exact HPOST.out
  rw [if_neg k0] at hs2
  have b0 : (kind == 0) = false := by simpa using k0
  by_cases k1 : kind = 1
  · subst k1
    rw [if_pos rfl] at hs2
    obtain ⟨n1, s1, hi⟩ : ∃ n1 s1, inBytes 1000 s = (n1, s1) := ⟨_, _, rfl⟩
    rw [hi] at hs2
    simp only [Prod.mk.injEq] at hs2
    obtain ⟨hb, rfl⟩ := hs2
    have HBB : Hid ((n1 == text) = b) := hid (by rw [← hb, Bool.eq_iff_iff]; simp)
    have HI := hid hi
    have HLL : Hid (n1.length ≤ 1048576) := hid (by
      have := congrArg Prod.fst hi
      simp only [inBytes] at this
      rw [← this]
      have h1 := inTake_len (inWithin 0 1000 s).1.toNat (inWithin 0 1000 s).2
      have h2 : (inWithin 0 1000 s).1 ≤ 1000 := by
        unfold inWithin
        split
        · omega
        · omega
      omega)
    have hc2 : ∀ w', Upd (fun k => k = g) (w.alloc (.cells #[.int .i64 1, .int .i64 n, .string ⟨text.toArray⟩, .bool flag, .slice la list.length lc] 56)) w' → w'.cell? ⟨w.heap.size, 2, none⟩ = some (.string ⟨text.toArray⟩) := fun w' hu => HC.out 2 w' hu
    clear hi hb
    go_enter Try.func43, Try.ntmps43
    go_wp2_with fail
    refine wp_region_kept [] (fun w' => Upd (fun k => k = g) (w.alloc (.cells #[.int .i64 1, .int .i64 n, .string ⟨text.toArray⟩, .bool flag, .slice la list.length lc] 56)) w') (by kernel_rfl) (by assumption) (fun hH => ?_)
    refine wpK.take (i := 0) (v := _) (by simp only [List.getElem?_toArray, List.getElem?_cons_succ, List.getElem?_cons_zero]; rfl) (by kernel_rfl) (by kernel_rfl) (by kernel_rfl) (by kernel_rfl) (by kernel_rfl) (by exact fun _ _ _ h => h) (by first | exact Or.inl ⟨by rfl, by intro w hSw; go_simp; try with_reducible rfl⟩ | exact Or.inr ⟨by rfl, rfl⟩) hH ?_
    try simp only [Act.put, List.setIfInBounds_toArray, List.set_cons_zero, List.set_cons_succ]
    refine wpK.take (i := 2) (v := _) (by simp only [List.getElem?_toArray, List.getElem?_cons_succ, List.getElem?_cons_zero]; rfl) (by kernel_rfl) (by kernel_rfl) (by kernel_rfl) (by kernel_rfl) (by kernel_rfl) (by exact fun _ _ _ h => h) (by first | exact Or.inl ⟨by rfl, by intro w hSw; go_simp; try with_reducible rfl⟩ | exact Or.inr ⟨by rfl, rfl⟩) hH ?_
    try simp only [Act.put, List.setIfInBounds_toArray, List.set_cons_zero, List.set_cons_succ]
    refine wpK.take (i := 3) (v := _) (by simp only [List.getElem?_toArray, List.getElem?_cons_succ, List.getElem?_cons_zero]; rfl) (by kernel_rfl) (by kernel_rfl) (by kernel_rfl) (by kernel_rfl) (by kernel_rfl) (by exact fun _ _ _ h => h) (by first | exact Or.inl ⟨by rfl, by intro w hSw; go_simp; try with_reducible rfl⟩ | exact Or.inr ⟨by rfl, rfl⟩) hH ?_
    try simp only [Act.put, List.setIfInBounds_toArray, List.set_cons_zero, List.set_cons_succ]
    refine wpK.step (i := 1) (by kernel_rfl) (by simp only [List.getElem?_toArray, List.getElem?_cons_succ, List.getElem?_cons_zero]; rfl) (fun K hK => ?_)
    go_simp
    (refine (in_Text 1000 s g D _ HID.out (by omega) n1 s1 HI HLL.out).mono ?_); rintro e wA ⟨rfl, hiA, huA⟩; (have hkA := hH.trans huA (fun _ _ x => x)); go_simp
    refine hK.out _ _ (by assumption) (fun hH => ?_)
    clear hK K
    try simp only [Act.put, List.setIfInBounds_toArray, List.set_cons_zero, List.set_cons_succ]
    refine wpK.take (i := 4) (v := _) (by simp only [List.getElem?_toArray, List.getElem?_cons_succ, List.getElem?_cons_zero]; rfl) (by kernel_rfl) (by kernel_rfl) (by kernel_rfl) (by kernel_rfl) (by kernel_rfl) (by exact fun _ _ _ h => h) (by first | exact Or.inl ⟨by rfl, by intro w hSw; go_simp; try with_reducible rfl⟩ | exact Or.inr ⟨by rfl, rfl⟩) hH ?_
    try simp only [Act.put, List.setIfInBounds_toArray, List.set_cons_zero, List.set_cons_succ]
    refine wpK.take (i := 5) (v := _) (by simp only [List.getElem?_toArray, List.getElem?_cons_succ, List.getElem?_cons_zero]; rfl) (by kernel_rfl) (by kernel_rfl) (by kernel_rfl) (by kernel_rfl) (by kernel_rfl) (by exact fun _ _ _ h => h) (by first | exact Or.inl ⟨by rfl, by intro w hSw; go_simp; try with_reducible rfl⟩ | exact Or.inr ⟨by rfl, rfl⟩) hH ?_
    try simp only [Act.put, List.setIfInBounds_toArray, List.set_cons_zero, List.set_cons_succ]
    refine wpK.done (by kernel_rfl) ?_ _
    have HPOST : Hid (ToldPost b s1 g D w (.returned (.bool (n1 == text))) wA) := hid (toldPost HBB.out HB0.out hiA hkA)
    clear hiA huA hkA hH hc2 hu0
    go_wp2_with fail
    go_ret
    exact HPOST.out
  rw [if_neg k1] at hs2
  have b1 : (kind == 1) = false := by simpa using k1
  by_cases k2 : kind = 2
  · subst k2
    rw [if_pos rfl] at hs2
    obtain ⟨n1, s1, hi⟩ : ∃ n1 s1, inBool s = (n1, s1) := ⟨_, _, rfl⟩
    rw [hi] at hs2
    simp only [Prod.mk.injEq] at hs2
    obtain ⟨hb, rfl⟩ := hs2
    have HBB : Hid ((n1 == flag) = b) := hid (by rw [← hb, Bool.eq_iff_iff]; simp)
    have HI := hid hi
    have hc3 : ∀ w', Upd (fun k => k = g) (w.alloc (.cells #[.int .i64 2, .int .i64 n, .string ⟨text.toArray⟩, .bool flag, .slice la list.length lc] 56)) w' → w'.cell? ⟨w.heap.size, 3, none⟩ = some (.bool flag) := fun w' hu => HC.out 3 w' hu
    clear hi hb
    go_enter Try.func43, Try.ntmps43
    go_wp2_with fail
    refine wp_region_kept [] (fun w' => Upd (fun k => k = g) (w.alloc (.cells #[.int .i64 2, .int .i64 n, .string ⟨text.toArray⟩, .bool flag, .slice la list.length lc] 56)) w') (by kernel_rfl) (by assumption) (fun hH => ?_)
    refine wpK.take (i := 0) (v := _) (by simp only [List.getElem?_toArray, List.getElem?_cons_succ, List.getElem?_cons_zero]; rfl) (by kernel_rfl) (by kernel_rfl) (by kernel_rfl) (by kernel_rfl) (by kernel_rfl) (by exact fun _ _ _ h => h) (by first | exact Or.inl ⟨by rfl, by intro w hSw; go_simp; try with_reducible rfl⟩ | exact Or.inr ⟨by rfl, rfl⟩) hH ?_
    try simp only [Act.put, List.setIfInBounds_toArray, List.set_cons_zero, List.set_cons_succ]
    refine wpK.take (i := 2) (v := _) (by simp only [List.getElem?_toArray, List.getElem?_cons_succ, List.getElem?_cons_zero]; rfl) (by kernel_rfl) (by kernel_rfl) (by kernel_rfl) (by kernel_rfl) (by kernel_rfl) (by exact fun _ _ _ h => h) (by first | exact Or.inl ⟨by rfl, by intro w hSw; go_simp; try with_reducible rfl⟩ | exact Or.inr ⟨by rfl, rfl⟩) hH ?_
    try simp only [Act.put, List.setIfInBounds_toArray, List.set_cons_zero, List.set_cons_succ]
    refine wpK.take (i := 3) (v := _) (by simp only [List.getElem?_toArray, List.getElem?_cons_succ, List.getElem?_cons_zero]; rfl) (by kernel_rfl) (by kernel_rfl) (by kernel_rfl) (by kernel_rfl) (by kernel_rfl) (by exact fun _ _ _ h => h) (by first | exact Or.inl ⟨by rfl, by intro w hSw; go_simp; try with_reducible rfl⟩ | exact Or.inr ⟨by rfl, rfl⟩) hH ?_
    try simp only [Act.put, List.setIfInBounds_toArray, List.set_cons_zero, List.set_cons_succ]
    refine wpK.step (i := 1) (by kernel_rfl) (by simp only [List.getElem?_toArray, List.getElem?_cons_succ, List.getElem?_cons_zero]; rfl) (fun K hK => ?_)
    go_simp
    (refine (in_Bool s g D _ HID.out n1 s1 HI).mono ?_); rintro e wA ⟨rfl, hiA, huA⟩; (have hkA := hH.trans huA (fun _ _ x => x)); go_simp
    refine hK.out _ _ (by assumption) (fun hH => ?_)
    clear hK K
    try simp only [Act.put, List.setIfInBounds_toArray, List.set_cons_zero, List.set_cons_succ]
    refine wpK.take (i := 4) (v := _) (by simp only [List.getElem?_toArray, List.getElem?_cons_succ, List.getElem?_cons_zero]; rfl) (by kernel_rfl) (by kernel_rfl) (by kernel_rfl) (by kernel_rfl) (by kernel_rfl) (by exact fun _ _ _ h => h) (by first | exact Or.inl ⟨by rfl, by intro w hSw; go_simp; try with_reducible rfl⟩ | exact Or.inr ⟨by rfl, rfl⟩) hH ?_
    try simp only [Act.put, List.setIfInBounds_toArray, List.set_cons_zero, List.set_cons_succ]
    refine wpK.take (i := 5) (v := _) (by simp only [List.getElem?_toArray, List.getElem?_cons_succ, List.getElem?_cons_zero]; rfl) (by kernel_rfl) (by kernel_rfl) (by kernel_rfl) (by kernel_rfl) (by kernel_rfl) (by exact fun _ _ _ h => h) (by first | exact Or.inl ⟨by rfl, by intro w hSw; go_simp; try with_reducible rfl⟩ | exact Or.inr ⟨by rfl, rfl⟩) hH ?_
    try simp only [Act.put, List.setIfInBounds_toArray, List.set_cons_zero, List.set_cons_succ]
    refine wpK.done (by kernel_rfl) ?_ _
    have HPOST : Hid (ToldPost b s1 g D w (.returned (.bool (n1 == flag))) wA) := hid (toldPost HBB.out HB0.out hiA hkA)
    clear hiA huA hkA hH hc3 hu0
    go_wp2_with fail
    go_ret
    exact HPOST.out
  rw [if_neg k2] at hs2
  have b2 : (kind == 2) = false := by simpa using k2
  by_cases k3 : kind = 3
  · subst k3
    rw [if_pos rfl] at hs2
    obtain ⟨n1, s1, hi⟩ : ∃ n1 s1, inInts 1000 s = (n1, s1) := ⟨_, _, rfl⟩
    rw [hi] at hs2
    simp only [Prod.mk.injEq] at hs2
    obtain ⟨hb, rfl⟩ := hs2
    have HI := hid hi
    have HEQ := hid hb
    clear hi hb hu0
    go_enter Try.func43, Try.ntmps43
    go_wp2_with fail
    refine (in_Ints 1000 s g D _ HI0.out (by omega) n1 s1 HI).mono ?_
    rintro e w1 ⟨v1, rfl, hown, hi1, hu1⟩
    have hc4 : w1.cell? ⟨w.heap.size, 4, none⟩ = some (.slice la list.length lc) := HC.out 4 w1 hu1
    have hrl : Rd w1 la (iv list) := by
      cases list with
      | nil => exact Rd.nil _ _
      | cons y ys => exact hu1.rd (HR.out.below' HB0.out) (fun b off e s => hub.out (by simp) b off e s)
    have HRL := hid hrl
    have HOWN := hid hown
    have HI1 := hid hi1
    have HU1 := hid hu1
    clear hown hi1 hu1 hrl
    obtain ⟨a1, c1, rfl⟩ : ∃ a1 c1, v1 = .slice a1 n1.length c1 := by
      rcases HOWN.out.2 with ⟨hv, hx⟩ | ⟨g', cap, cur, hv, -⟩
      · have : n1 = [] := List.eq_nil_of_length_eq_zero hx
        subst this
        exact ⟨_, _, hv⟩
      · exact ⟨_, _, hv⟩
    have hn64 : n1.length ≤ 9223372036854775807 := by
      obtain ⟨aa, cc, ee, h1, h2, -⟩ := ownsRow.rd HOWN.out
      unfold maxLen at h2; omega
    by_cases hq : n1.length = list.length
    case neg =>
      have hqb : ((n1.length : Int) != (list.length : Int)) = true := by simp; omega
      have hbf : b = false := by
        rw [← HEQ.out]; simp only [decide_eq_false_iff_not]; intro e; exact hq (by rw [e])
      have HPOST : Hid (ToldPost b s1 g D w (.returned (.bool false)) w1) := hid (toldPost hbf.symm HB0.out HI1.out HU1.out)
      clear hbf hq
      go_wp2_with fail
      go_ret
      exact HPOST.out
    have hqb : ((n1.length : Int) != (list.length : Int)) = false := by simp; omega
    have HQ := hid hq
    have hc4w : ∀ w', Below w1.heap.size w1 w' → w'.cell? ⟨w.heap.size, 4, none⟩ = some (.slice la list.length lc) := fun w' hb => by
      rw [← hc4]; exact World.cell?_of_block (hb.block _ (World.block_lt_of_cell? w1 _ hc4))
    have HC4 := hid hc4w
    clear hq hc4w
    go_wp2_with fail
    go_loopw [6, 42] (fun v6 v42 wr => ∃ (k : Nat), v42 = .int .i64 k ∧ k ≤ n1.length ∧ Hid (n1.take k = list.take k) ∧ Hid (Below w1.heap.size w1 wr)) (fun _ v42 _ => n1.length - (intOf v42).toNat)
    case atStart => exact ⟨0, rfl, by omega, hid (by simp), hid (Below.refl _ _)⟩
    case round =>
      obtain ⟨k, rfl, hk, hpre, hb⟩ := hrel
      have hc4r := HC4.out _ hb.out
      by_cases hlt : k < n1.length
      · have hr1 := (ownsRow.rd (ownsRow_below HOWN.out hb.out))
        obtain ⟨aa, cc, ee, -, -, hrd1, -⟩ := hr1
        simp only [Value.slice.injEq] at ee
        obtain ⟨rfl, -, rfl⟩ := ee
        obtain ⟨b1, o1, y1, rfl, hy1, -, -, ht1, -⟩ := Rd.int hrd1 k hlt
        obtain ⟨b2', o2, y2, rfl, hy2, -, -, ht2, -⟩ := Rd.int (HRL.out.below' hb.out) k (by have := HQ.out; omega)
        have hk0 : (0 : Int) ≤ (k : Int) := by omega
        have hk1 : (k : Int) < (n1.length : Int) := by omega
        have hk2 : (k : Int) < (list.length : Int) := by have := HQ.out; omega
        have hcap1 : True := trivial
        clear hrd1 hcap1
        by_cases hy : y1 = y2
        · have hyb : (y1 != y2) = false := by simpa using hy
          have HN : Hid (n1.take (k + 1) = list.take (k + 1)) := hid (by rw [ht1, ht2, hpre.out, hy])
          clear ht1 ht2 hy
          go_wp2_with fail
          go_quiet (fail)
          have HB2 : Hid (Below w1.heap.size w1 (wr.drewN nq)) := hid (Below.next hb.out (Below.drawn wr nq))
          go_wp2_with fail
          go_roundw
          case rel => exact ⟨k + 1, by go_num, by omega, HN, HB2⟩
          case measure => simp [intOf]; omega
        · have hyb : (y1 != y2) = true := by simpa using hy
          have hbf : b = false := by
            rw [← HEQ.out]; simp only [decide_eq_false_iff_not]; intro e
            subst e
            rw [ht1] at ht2
            simp at ht2
            exact hy ht2
          have HPOST : Hid (∀ w', Below wr.heap.size wr w' → ToldPost b s1 g D w (.returned (.bool false)) w') := hid (fun w' hb' => toldPost hbf.symm HB0.out (HI1.out.below (Below.next hb.out hb')) (HU1.out.trans (Upd.of_below (S := fun _ => False) (Below.next hb.out hb')) (fun _ _ x => x.elim)))
          clear ht1 ht2 hbf hy
          go_wp2_with fail
          go_quiet (fail)
          go_wp2_with fail
          go_ret
          exact HPOST.out _ (Below.drawn wr nq)
      · have hbt : b = true := by
          rw [← HEQ.out, decide_eq_true_iff]
          have := hpre.out
          rwa [List.take_of_length_le (by omega), List.take_of_length_le (by have := HQ.out; omega)] at this
        have HPOST : Hid (ToldPost b s1 g D w (.returned (.bool true)) wr) := hid (toldPost hbt.symm HB0.out (HI1.out.below hb.out) (HU1.out.trans (Upd.of_below (S := fun _ => False) hb.out) (fun _ _ x => x.elim)))
        clear hbt
        go_wp2_with fail
        go_ret
        exact HPOST.out
  rw [if_neg k3] at hs2
  simp only [Prod.mk.injEq] at hs2
  obtain ⟨rfl, rfl⟩ := hs2
  have b3 : (kind == 3) = false := by simpa using k3
  have HPOST : Hid (ToldPost true s g D w (.returned (.bool true)) (w.alloc (.cells #[.int .i64 kind, .int .i64 n, .string ⟨text.toArray⟩, .bool flag, .slice la list.length lc] 56))) := hid (toldPost rfl HB0.out HI0.out (Upd.refl _ _))
  clear k0 k1 k2 k3 hu0
  go_enter Try.func43, Try.ntmps43
  go_wp2_with fail
  go_ret
  exact HPOST.out
end Go.Proofs.Ytdchopckbklncaa
