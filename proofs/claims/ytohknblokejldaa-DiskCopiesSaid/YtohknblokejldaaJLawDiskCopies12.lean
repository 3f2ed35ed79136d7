/- Joined texts, in this order: IntsOps, Slots1, IntsEq, SealMath, SealHalves. Each one's first remark says what it proves; no condition beyond those that its theorems name. -/
import Derived.Test.YtohknblokejldaaJLawDiskCopies06
import Derived.Test.YtohknblokejldaaJLawDiskCopies01
import Derived.Test.YtohknblokejldaaJLawDiskCopies10
import Derived.Test.YtohknblokejldaaJLawDiskCopies11
import Derived.Test.YtohknblokejldaaJLawDiskCopies03
import Derived.Test.YtohknblokejldaaProg
section
/- Contracts: slices of numbers: Clone, BinarySearch of none, Insert at the end. -/
namespace Go.Proofs.Ytohknblokejldaa
open Go.RowKit
open Go.Lib (hid)
set_option linter.unusedVariables false

theorem iv_oneCell (l : List Int) : ∀ u ∈ iv l, u.oneCell' = true := by
  intro u hu
  obtain ⟨_, _, rfl⟩ := List.mem_map.1 hu
  rfl
theorem T_ints18 : SlT Try.prog 22 3 (.int .i64 0) 1 8 := SlT.mk' Try.underlying22 (by kernel_rfl) rfl (by decide) (by decide)
set_option maxRecDepth 100000 in
theorem sl_CloneI (l : List Int) (u : Value) (w : World) (hl : SlI w u l) (hb : l.length ≤ 1000000) : Calls Try.prog 82 #[u] w fun e w' =>
    ∃ v, e = .returned v ∧ w'.ownsRow w.heap.size 3 1 v l.length (iv l) ∧ Below w.heap.size w w' := by
  obtain ⟨a, c, rfl, h1, h2, -⟩ := hl
  have hn := fun (w : World) (a : Option Addr) (n c : Nat) => Lib.run_eql_slice_nil (P := Try.prog) w 22 3 a n c 0 0 Try.underlying22
  cases a with
  | none =>
    have := Rd.nil_of_none h1
    obtain rfl : l = [] := by cases l <;> simp_all
    clear this
    go_enter Try.func82, Try.ntmps82
    go_wp2
    go_ret
    exact ⟨_, rfl, World.ownsRow_nil _ _ _ _, Below.refl _ _⟩
  | some ad =>
    have hr2 : Rd (w.alloc (.cells #[] 3)) (some ad) (iv l) := h1.below' ((Below.refl _ _).alloc (Nat.le_refl _) _)
    have hown : (w.alloc (.cells #[] 3)).ownsRow w.heap.size 3 1 (.slice (some ⟨w.heap.size, 0, none⟩) 0 0) 0 [] := World.ownsRow_made w #[] 0 (Nat.le_refl _) (by omega) (by simp)
    go_enter Try.func82, Try.ntmps82
    go_wp2_with (at_builtin; refine wpList_appendN T_ints18 _ rfl _ _ rfl w.heap.size _ _ _ rfl hown _ _ _ (iv l) rfl ?c1 (fun _ h => nomatch h) hr2 (iv_oneCell l) ?c2 ?c3 ?_)
    case c1 => simp [iv]
    case c2 => omega
    case c3 => simp
    intro v' w' hown' hg hnil
    have hb' : Below w.heap.size w w' := ((Below.refl _ _).alloc (Nat.le_refl _) _).grown hg (by simp) (fun k hk => by simp [Value.ownBlock] at hk; omega)
    clear hg hnil hown
    go_wp2
    go_ret
    exact ⟨_, rfl, hown', hb'⟩
end Go.Proofs.Ytohknblokejldaa
end
section
/- Contracts of the package slots: Right. -/
namespace Go.Proofs.Ytohknblokejldaa
open Go.RowKit
open Go.Lib (hid)
set_option linter.unusedVariables false

def badN (n : Int) : Bool := decide (n < 0) || decide (4096 ≤ n)
theorem slots_wrong (n : Int) (w : World) (b : Bool) (hb : Hid (badN n = b)) : Calls Try.prog 49 #[.int .i64 n] w fun e w' => e = .returned (.bool b) ∧ w = w' := by
  have h := hb.out
  unfold badN at h
  by_cases h1 : n < 0
  · simp only [h1, decide_true, Bool.true_or] at h
    subst h
    go_enter Try.func49, Try.ntmps49
    go_wp2
    go_ret
    exact ⟨rfl, rfl⟩
  · by_cases h2 : 4096 ≤ n
    · simp only [h1, h2, decide_true, decide_false, Bool.or_true] at h
      subst h
      go_enter Try.func49, Try.ntmps49
      go_wp2
      go_ret
      exact ⟨rfl, rfl⟩
    · simp only [h1, h2, decide_false, Bool.or_self] at h
      subst h
      have h3 : decide (4096 ≤ n) = false := decide_eq_false h2
      go_enter Try.func49, Try.ntmps49
      go_wp2
      go_ret
      exact ⟨rfl, rfl⟩
def idxBad : List Int → Nat → Int
  | [], _ => -1
  | y :: l, k => if badN y = true then (k : Int) else idxBad l (k + 1)
theorem idxBad_iff : ∀ (l : List Int) (k : Nat), (0 ≤ idxBad l k) ↔ l.any badN = true
  | [], k => by simp [idxBad]
  | y :: l, k => by
    rw [idxBad]
    by_cases h : badN y = true
    · rw [if_pos h]; simp [h]
    · rw [if_neg h, idxBad_iff l (k + 1)]; simp [h]
theorem slots_IndexFunc (l : List Int) (v : Value) (w : World) (hs : SlI w v l) (r : Int) (hr : Hid (idxBad l 0 = r)) :
    Calls Try.prog 95 #[v, .func (.func 49) #[] #[]] w fun e w' => e = .returned (.int .i64 r) ∧ w = w' := by
  obtain ⟨a, c, rfl, hrd, h3, h4, h5⟩ := hs
  have h64 : l.length ≤ 9223372036854775807 := by omega
  clear h3 h4 h5
  go_enter Try.func95, Try.ntmps95
  go_wp2
  go_loop [8] (fun v8 => ∃ (k : Nat), v8 = .int .i64 k ∧ k ≤ l.length ∧ Hid (idxBad (l.drop k) k = r)) (fun v8 => l.length - (intOf v8).toNat)
  case atStart => exact ⟨0, rfl, by omega, hr⟩
  case round =>
    obtain ⟨k, rfl, hk, hsum⟩ := hrel
    by_cases hlt : k < l.length
    · obtain ⟨b, off, y, rfl, hc, -, hd, -, -⟩ := hrd.int k hlt
      have h1 := hsum.out
      rw [hd, idxBad] at h1
      obtain ⟨bb, hbb⟩ : ∃ bb, badN y = bb := ⟨_, rfl⟩
      rw [hbb] at h1
      have HB := hid hbb
      have H1 := hid h1
      clear hd hbb h1
      go_wp2_with fail
      refine (slots_wrong y _ bb HB).mono ?_
      rintro e w' ⟨rfl, rfl⟩
      cases bb with
      | true =>
        have h2 := H1.out
        rw [if_pos rfl] at h2
        subst h2
        go_wp2_with fail
        go_ret
        exact ⟨rfl, rfl⟩
      | false =>
        have h2 := H1.out
        rw [if_neg (by simp)] at h2
        have H2 := hid h2
        clear h2
        go_wp2_with fail
        go_round
        case rel => exact ⟨k + 1, by go_num, by omega, H2⟩
        case measure => simp [intOf]; omega
    · have h1 := hsum.out
      rw [List.drop_of_length_le (by omega), idxBad] at h1
      subst h1
      go_wp2_with fail
      go_ret
      exact ⟨rfl, rfl⟩
theorem slots_ContainsFunc (l : List Int) (v : Value) (w : World) (hs : SlI w v l) (b : Bool) (hb : Hid (l.any badN = b)) :
    Calls Try.prog 50 #[v, .func (.func 49) #[] #[]] w fun e w' => e = .returned (.bool b) ∧ w = w' := by
  obtain ⟨r, hr⟩ : ∃ r, idxBad l 0 = r := ⟨_, rfl⟩
  have hm := idxBad_iff l 0
  rw [hr] at hm
  have HR := hid hr
  have hb2 : decide (0 ≤ r) = b := by
    rw [← hb.out]
    cases h : l.any badN with
    | true => exact decide_eq_true (hm.2 h)
    | false => exact decide_eq_false (fun q => by have := hm.1 q; rw [h] at this; cases this)
  have HB := hid hb2
  have HS := hid hs
  clear hr hm hs hb2
  go_enter Try.func50, Try.ntmps50
  go_wp2_with (go_at_call 95; (with_reducible refine (slots_IndexFunc l v _ HS.out r HR).mono ?_); rintro e w' ⟨rfl, rfl⟩)
  go_ret
  exact ⟨by rw [← HB.out]; rfl, rfl⟩
def rightR (e : Int) (l : List Int) : Bool := decide (1 ≤ e) && decide (e ≤ 1099511627776) && decide (l.length ≤ 64) && !l.any badN
set_option maxRecDepth 100000 in
theorem slots_Right (e : Int) (l : List Int) (v : Value) (w : World) (hs : SlI w v l) (b : Bool) (hb : Hid (rightR e l = b)) :
    Calls Try.prog 16 #[.agg #[.int .i64 e, v]] w fun e w' => e = .returned (.bool b) ∧ Below w.heap.size w w' := by
  have HK : Hid (∀ x, Below w.heap.size w (w.alloc x)) := hid fun x => Below.new w x
  have HS : Hid (∀ x, SlI (w.alloc x) v l) := hid fun x => hs.below (Below.new w x)
  obtain ⟨a, c, rfl, -, g1, g2, -⟩ := hs
  have h64 : l.length ≤ 9223372036854775807 := by omega
  have h := hb.out
  unfold rightR at h
  clear g1 g2
  by_cases h1 : 1 ≤ e
  · by_cases h2 : e ≤ 1099511627776
    · by_cases h3 : l.length ≤ 64
      · simp only [h1, h2, h3, decide_true, Bool.true_and, Bool.and_self] at h
        obtain ⟨q, hq⟩ : ∃ q, l.any badN = q := ⟨_, rfl⟩
        rw [hq] at h
        have HQ := hid hq
        have H := hid h
        clear hq h
        go_enter Try.func16, Try.ntmps16
        go_wp2_with fail
        refine (slots_ContainsFunc l _ _ (HS.out _) q HQ).mono ?_
        rintro e w' ⟨rfl, rfl⟩
        go_wp2_with fail
        go_ret
        exact ⟨by rw [← H.out]; rfl, HK.out _⟩
      · have d3 : decide (l.length ≤ 64) = false := decide_eq_false h3
        simp only [h1, h2, d3, decide_true, Bool.true_and, Bool.and_false, Bool.false_and] at h
        subst h
        go_enter Try.func16, Try.ntmps16
        go_wp2_with fail
        go_ret
        exact ⟨rfl, HK.out _⟩
    · have d2 : decide (e ≤ 1099511627776) = false := decide_eq_false h2
      simp only [h1, d2, decide_true, Bool.true_and, Bool.and_false, Bool.false_and] at h
      subst h
      go_enter Try.func16, Try.ntmps16
      go_wp2_with fail
      go_ret
      exact ⟨rfl, HK.out _⟩
  · have d1 : decide (1 ≤ e) = false := decide_eq_false h1
    simp only [d1, Bool.false_and] at h
    subst h
    go_enter Try.func16, Try.ntmps16
    go_wp2_with fail
    go_ret
    exact ⟨rfl, HK.out _⟩
end Go.Proofs.Ytohknblokejldaa
end
section
/- Contract: slices.Equal of numbers. -/
namespace Go.Proofs.Ytohknblokejldaa
open Go.RowKit
open Go.Lib (hid)
set_option linter.unusedVariables false

set_option maxRecDepth 100000 in
set_option maxHeartbeats 1000000 in
theorem sl_EqualI (l1 l2 : List Int) (v1 v2 : Value) (w : World) (h1 : SlI w v1 l1) (h2 : SlI w v2 l2) (b : Bool) (hb : Hid (decide (l1 = l2) = b)) :
    Calls Try.prog 51 #[v1, v2] w fun e w' => e = .returned (.bool b) ∧ Below w.heap.size w w' := by
  have H1 := hid h1
  have H2 := hid h2
  obtain ⟨a1, c1, rfl, -, q1, q2, -⟩ := h1
  obtain ⟨a2, c2, rfl, -, q3, q4, -⟩ := h2
  have hn1 : l1.length ≤ 9223372036854775807 := by omega
  have hn2 : l2.length ≤ 9223372036854775807 := by omega
  clear q1 q2 q3 q4
  by_cases hlen : l1.length = l2.length
  case neg =>
    have hq : ((l1.length : Int) != (l2.length : Int)) = true := by simp; omega
    have hne : ¬ l1 = l2 := fun q => hlen (by rw [q])
    have hb2 := hb.out
    rw [decide_eq_false hne] at hb2
    subst hb2
    have HB := hid (Below.refl w.heap.size w)
    clear hlen hne
    go_enter Try.func51, Try.ntmps51
    go_wp2
    go_ret
    exact ⟨rfl, HB.out⟩
  have hq : ((l1.length : Int) != (l2.length : Int)) = false := by simp; omega
  have HL := hid hlen
  clear hlen
  go_enter Try.func51, Try.ntmps51
  go_wp2
  go_loopw [5, 13] (fun v5 v13 wr => ∃ (k : Nat), v13 = .int .i64 k ∧ k ≤ l1.length ∧ Hid (decide (l1.drop k = l2.drop k) = b) ∧ Hid (Below w.heap.size w wr)) (fun _ v13 _ => l1.length - (intOf v13).toNat)
  case atStart => exact ⟨0, rfl, by omega, hb, hid (Below.refl _ _)⟩
  case round =>
    obtain ⟨k, rfl, hk, hs, HB⟩ := hrel
    by_cases hlt : k < l1.length
    · obtain ⟨a1', c1', e1, hr1, -⟩ := H1.out.below HB.out
      obtain ⟨a2', c2', e2, hr2, -⟩ := H2.out.below HB.out
      simp only [Value.slice.injEq] at e1 e2
      obtain ⟨rfl, -, rfl⟩ := e1
      obtain ⟨rfl, -, rfl⟩ := e2
      have hlt2 : k < l2.length := by have := HL.out; omega
      obtain ⟨b1, o1, y1, rfl, hc1, -, hd1, -, -⟩ := hr1.int k hlt
      obtain ⟨b2, o2, y2, rfl, hc2, -, hd2, -, -⟩ := hr2.int k hlt2
      have hw1 : ∀ x, Below wr.heap.size wr x → x.cell? ⟨b1, o1 + k, none⟩ = some (.int .i64 y1) := fun x hb => by rw [← hc1]; exact World.cell?_of_block (hb.block _ (World.block_lt_of_cell? wr _ hc1))
      have hw2 : ∀ x, Below wr.heap.size wr x → x.cell? ⟨b2, o2 + k, none⟩ = some (.int .i64 y2) := fun x hb => by rw [← hc2]; exact World.cell?_of_block (hb.block _ (World.block_lt_of_cell? wr _ hc2))
      have j0 : (k : Int) < (l2.length : Int) := by omega
      have h3 := hs.out
      rw [hd1, hd2] at h3
      have hk0 := (Below.refl wr.heap.size wr).drew
      by_cases hx : y1 = y2
      · have hxb : (y1 != y2) = false := by simpa using hx
        have h4 : decide (l1.drop (k + 1) = l2.drop (k + 1)) = b := by rw [← h3]; simp [hx]
        have H4 := hid h4
        have HB2 := hid (Below.next HB.out hk0)
        clear h3 h4 hx hd1 hd2 hr1 hr2 hc1 hc2
        go_wp2_with fail
        refine wp_region_kept [] (fun x => Below wr.heap.size wr x) (by kernel_rfl) (by assumption) (fun hH => ?_)
        refine wpK.take (i := 0) (v := _) (by simp only [List.getElem?_toArray, List.getElem?_cons_succ, List.getElem?_cons_zero]; rfl) (by kernel_rfl) (by kernel_rfl) (by kernel_rfl) (by kernel_rfl) (by kernel_rfl) (by exact fun _ _ _ h => h) (by first | exact Or.inl ⟨by rfl, by intro w hSw; go_simp; try with_reducible rfl⟩ | exact Or.inr ⟨by rfl, rfl⟩) hH ?_
        try simp only [Act.put, List.setIfInBounds_toArray, List.set_cons_zero, List.set_cons_succ]
        refine wpK.take (i := 1) (v := _) (by simp only [List.getElem?_toArray, List.getElem?_cons_succ, List.getElem?_cons_zero]; rfl) (by kernel_rfl) (by kernel_rfl) (by kernel_rfl) (by kernel_rfl) (by kernel_rfl) (by exact fun _ _ _ h => h) (by first | exact Or.inl ⟨by rfl, by intro w hSw; go_simp; try with_reducible rfl⟩ | exact Or.inr ⟨by rfl, rfl⟩) hH ?_
        try simp only [Act.put, List.setIfInBounds_toArray, List.set_cons_zero, List.set_cons_succ]
        refine wpK.take (i := 2) (v := _) (by simp only [List.getElem?_toArray, List.getElem?_cons_succ, List.getElem?_cons_zero]; rfl) (by kernel_rfl) (by kernel_rfl) (by kernel_rfl) (by kernel_rfl) (by kernel_rfl) (by exact fun _ _ _ h => h) (by first | exact Or.inl ⟨by rfl, by intro w hSw; go_simp; try with_reducible rfl⟩ | exact Or.inr ⟨by rfl, rfl⟩) hH ?_
        try simp only [Act.put, List.setIfInBounds_toArray, List.set_cons_zero, List.set_cons_succ]
        refine wpK.take (i := 3) (v := _) (by simp only [List.getElem?_toArray, List.getElem?_cons_succ, List.getElem?_cons_zero]; rfl) (by kernel_rfl) (by kernel_rfl) (by kernel_rfl) (by kernel_rfl) (by kernel_rfl) (by exact fun _ _ _ h => h) (by first | exact Or.inl ⟨by rfl, by intro w hSw; go_simp; try with_reducible rfl⟩ | exact Or.inr ⟨by rfl, rfl⟩) hH ?_
        try simp only [Act.put, List.setIfInBounds_toArray, List.set_cons_zero, List.set_cons_succ]
        refine wpK.take (i := 4) (v := _) (by simp only [List.getElem?_toArray, List.getElem?_cons_succ, List.getElem?_cons_zero]; rfl) (by kernel_rfl) (by kernel_rfl) (by kernel_rfl) (by kernel_rfl) (by kernel_rfl) (by exact fun _ _ _ h => h) (by first | exact Or.inl ⟨by rfl, by intro w hSw; go_simp; try with_reducible rfl⟩ | exact Or.inr ⟨by rfl, rfl⟩) hH ?_
        try simp only [Act.put, List.setIfInBounds_toArray, List.set_cons_zero, List.set_cons_succ]
        refine wpK.take (i := 5) (v := _) (by simp only [List.getElem?_toArray, List.getElem?_cons_succ, List.getElem?_cons_zero]; rfl) (by kernel_rfl) (by kernel_rfl) (by kernel_rfl) (by kernel_rfl) (by kernel_rfl) (by exact fun _ _ _ h => h) (by first | exact Or.inl ⟨by rfl, by intro w hSw; go_simp; try with_reducible rfl⟩ | exact Or.inr ⟨by rfl, rfl⟩) hH ?_
        try simp only [Act.put, List.setIfInBounds_toArray, List.set_cons_zero, List.set_cons_succ]
        refine wpK.take (i := 6) (v := _) (by simp only [List.getElem?_toArray, List.getElem?_cons_succ, List.getElem?_cons_zero]; rfl) (by kernel_rfl) (by kernel_rfl) (by kernel_rfl) (by kernel_rfl) (by kernel_rfl) (by exact fun _ _ _ h => h) (by first | exact Or.inl ⟨by rfl, by intro w hSw; go_simp; try with_reducible rfl⟩ | exact Or.inr ⟨by rfl, rfl⟩) hH ?_
        try simp only [Act.put, List.setIfInBounds_toArray, List.set_cons_zero, List.set_cons_succ]
        refine wpK.take (i := 7) (v := _) (by simp only [List.getElem?_toArray, List.getElem?_cons_succ, List.getElem?_cons_zero]; rfl) (by kernel_rfl) (by kernel_rfl) (by kernel_rfl) (by kernel_rfl) (by kernel_rfl) (by exact fun _ _ _ h => h) (by first | exact Or.inl ⟨by rfl, by intro w hSw; go_simp; try with_reducible rfl⟩ | exact Or.inr ⟨by rfl, rfl⟩) hH ?_
        try simp only [Act.put, List.setIfInBounds_toArray, List.set_cons_zero, List.set_cons_succ]
        refine wpK.take (i := 8) (v := _) (by simp only [List.getElem?_toArray, List.getElem?_cons_succ, List.getElem?_cons_zero]; rfl) (by kernel_rfl) (by kernel_rfl) (by kernel_rfl) (by kernel_rfl) (by kernel_rfl) (by exact fun _ _ _ h => h) (by first | exact Or.inl ⟨by rfl, by intro w hSw; go_simp; try with_reducible rfl⟩ | exact Or.inr ⟨by rfl, rfl⟩) hH ?_
        try simp only [Act.put, List.setIfInBounds_toArray, List.set_cons_zero, List.set_cons_succ]
        refine wpK.done (by kernel_rfl) ?_ _
        clear hw1 hw2 hH hk0
        go_wp2_with fail
        go_roundw
        case rel => exact ⟨k + 1, by go_num, by omega, H4, HB2⟩
        case measure => simp [intOf]; omega
      · have hxb : (y1 != y2) = true := by simpa using hx
        have h4 : false = b := by rw [← h3]; simp [hx]
        subst h4
        have HB2 := hid (Below.next HB.out hk0)
        clear h3 hx hd1 hd2 hr1 hr2 hc1 hc2
        go_wp2_with fail
        refine wp_region_kept [] (fun x => Below wr.heap.size wr x) (by kernel_rfl) (by assumption) (fun hH => ?_)
        refine wpK.take (i := 0) (v := _) (by simp only [List.getElem?_toArray, List.getElem?_cons_succ, List.getElem?_cons_zero]; rfl) (by kernel_rfl) (by kernel_rfl) (by kernel_rfl) (by kernel_rfl) (by kernel_rfl) (by exact fun _ _ _ h => h) (by first | exact Or.inl ⟨by rfl, by intro w hSw; go_simp; try with_reducible rfl⟩ | exact Or.inr ⟨by rfl, rfl⟩) hH ?_
        try simp only [Act.put, List.setIfInBounds_toArray, List.set_cons_zero, List.set_cons_succ]
        refine wpK.take (i := 1) (v := _) (by simp only [List.getElem?_toArray, List.getElem?_cons_succ, List.getElem?_cons_zero]; rfl) (by kernel_rfl) (by kernel_rfl) (by kernel_rfl) (by kernel_rfl) (by kernel_rfl) (by exact fun _ _ _ h => h) (by first | exact Or.inl ⟨by rfl, by intro w hSw; go_simp; try with_reducible rfl⟩ | exact Or.inr ⟨by rfl, rfl⟩) hH ?_
        try simp only [Act.put, List.setIfInBounds_toArray, List.set_cons_zero, List.set_cons_succ]
        refine wpK.take (i := 2) (v := _) (by simp only [List.getElem?_toArray, List.getElem?_cons_succ, List.getElem?_cons_zero]; rfl) (by kernel_rfl) (by kernel_rfl) (by kernel_rfl) (by kernel_rfl) (by kernel_rfl) (by exact fun _ _ _ h => h) (by first | exact Or.inl ⟨by rfl, by intro w hSw; go_simp; try with_reducible rfl⟩ | exact Or.inr ⟨by rfl, rfl⟩) hH ?_
        try simp only [Act.put, List.setIfInBounds_toArray, List.set_cons_zero, List.set_cons_succ]
        refine wpK.take (i := 3) (v := _) (by simp only [List.getElem?_toArray, List.getElem?_cons_succ, List.getElem?_cons_zero]; rfl) (by kernel_rfl) (by kernel_rfl) (by kernel_rfl) (by kernel_rfl) (by kernel_rfl) (by exact fun _ _ _ h => h) (by first | exact Or.inl ⟨by rfl, by intro w hSw; go_simp; try with_reducible rfl⟩ | exact Or.inr ⟨by rfl, rfl⟩) hH ?_
        try simp only [Act.put, List.setIfInBounds_toArray, List.set_cons_zero, List.set_cons_succ]
        refine wpK.take (i := 4) (v := _) (by simp only [List.getElem?_toArray, List.getElem?_cons_succ, List.getElem?_cons_zero]; rfl) (by kernel_rfl) (by kernel_rfl) (by kernel_rfl) (by kernel_rfl) (by kernel_rfl) (by exact fun _ _ _ h => h) (by first | exact Or.inl ⟨by rfl, by intro w hSw; go_simp; try with_reducible rfl⟩ | exact Or.inr ⟨by rfl, rfl⟩) hH ?_
        try simp only [Act.put, List.setIfInBounds_toArray, List.set_cons_zero, List.set_cons_succ]
        refine wpK.take (i := 5) (v := _) (by simp only [List.getElem?_toArray, List.getElem?_cons_succ, List.getElem?_cons_zero]; rfl) (by kernel_rfl) (by kernel_rfl) (by kernel_rfl) (by kernel_rfl) (by kernel_rfl) (by exact fun _ _ _ h => h) (by first | exact Or.inl ⟨by rfl, by intro w hSw; go_simp; try with_reducible rfl⟩ | exact Or.inr ⟨by rfl, rfl⟩) hH ?_
        try simp only [Act.put, List.setIfInBounds_toArray, List.set_cons_zero, List.set_cons_succ]
        refine wpK.take (i := 6) (v := _) (by simp only [List.getElem?_toArray, List.getElem?_cons_succ, List.getElem?_cons_zero]; rfl) (by kernel_rfl) (by kernel_rfl) (by kernel_rfl) (by kernel_rfl) (by kernel_rfl) (by exact fun _ _ _ h => h) (by first | exact Or.inl ⟨by rfl, by intro w hSw; go_simp; try with_reducible rfl⟩ | exact Or.inr ⟨by rfl, rfl⟩) hH ?_
        try simp only [Act.put, List.setIfInBounds_toArray, List.set_cons_zero, List.set_cons_succ]
        refine wpK.take (i := 7) (v := _) (by simp only [List.getElem?_toArray, List.getElem?_cons_succ, List.getElem?_cons_zero]; rfl) (by kernel_rfl) (by kernel_rfl) (by kernel_rfl) (by kernel_rfl) (by kernel_rfl) (by exact fun _ _ _ h => h) (by first | exact Or.inl ⟨by rfl, by intro w hSw; go_simp; try with_reducible rfl⟩ | exact Or.inr ⟨by rfl, rfl⟩) hH ?_
        try simp only [Act.put, List.setIfInBounds_toArray, List.set_cons_zero, List.set_cons_succ]
        refine wpK.take (i := 8) (v := _) (by simp only [List.getElem?_toArray, List.getElem?_cons_succ, List.getElem?_cons_zero]; rfl) (by kernel_rfl) (by kernel_rfl) (by kernel_rfl) (by kernel_rfl) (by kernel_rfl) (by exact fun _ _ _ h => h) (by first | exact Or.inl ⟨by rfl, by intro w hSw; go_simp; try with_reducible rfl⟩ | exact Or.inr ⟨by rfl, rfl⟩) hH ?_
        try simp only [Act.put, List.setIfInBounds_toArray, List.set_cons_zero, List.set_cons_succ]
        refine wpK.done (by kernel_rfl) ?_ _
        clear hw1 hw2 hH hk0
        go_wp2_with fail
        go_ret
        exact ⟨rfl, HB2.out⟩
    · have h1 := hs.out
      rw [List.drop_of_length_le (by omega), List.drop_of_length_le (by have := HL.out; omega)] at h1
      simp only [decide_true] at h1
      subst h1
      go_wp2_with fail
      go_ret
      exact ⟨rfl, HB.out⟩
end Go.Proofs.Ytohknblokejldaa
end
section
/- The sum of the package seal, as a plain function on numbers: by half bytes, and bit by bit: one and the same. No program in sight. -/
namespace Go.Proofs.Ytohknblokejldaa
open Go.RowKit
open Go.Lib (hid)
set_option linter.unusedVariables false

/-- one bit of the register -/
def bit1 (x : Nat) : Nat := if x % 2 = 1 then (x / 2) ^^^ 3988292384 else x / 2
/-- what half a byte does to the register -/
def tab (i : Nat) : Nat := bit1 (bit1 (bit1 (bit1 i)))
def nib (x : Nat) : Nat := (x / 16) ^^^ tab (x % 16)
def crcStep (x : Nat) (b : UInt8) : Nat := nib (nib (x ^^^ b.toNat))
def crcFrom (x : Nat) (l : List UInt8) : Nat := l.foldl crcStep x
def crc (l : List UInt8) : Nat := 4294967295 - crcFrom 4294967295 l

theorem div2_xor (x y : Nat) : (x ^^^ y) / 2 = (x / 2) ^^^ (y / 2) := by
  have := Nat.shiftRight_xor_distrib (a := x) (b := y) (i := 1)
  simpa [Nat.shiftRight_eq_div_pow] using this
theorem mod2_xor (x y : Nat) : (x ^^^ y) % 2 = (x % 2 + y % 2) % 2 := by
  have h := Nat.testBit_xor x y 0
  have h2 : x % 2 < 2 := Nat.mod_lt _ (by omega)
  have h3 : y % 2 < 2 := Nat.mod_lt _ (by omega)
  have h1 : (x ^^^ y) % 2 < 2 := Nat.mod_lt _ (by omega)
  rw [Nat.testBit_zero, Nat.testBit_zero, Nat.testBit_zero] at h
  rcases Nat.lt_or_ge (x % 2) 1 with a | a <;> rcases Nat.lt_or_ge (y % 2) 1 with b | b
  · have e1 : decide (x % 2 = 1) = false := by simp; omega
    have e2 : decide (y % 2 = 1) = false := by simp; omega
    rw [e1, e2] at h
    have := of_decide_eq_false h
    omega
  · have e1 : decide (x % 2 = 1) = false := by simp; omega
    have e2 : decide (y % 2 = 1) = true := by simp; omega
    rw [e1, e2] at h
    have := of_decide_eq_true h
    omega
  · have e1 : decide (x % 2 = 1) = true := by simp; omega
    have e2 : decide (y % 2 = 1) = false := by simp; omega
    rw [e1, e2] at h
    have := of_decide_eq_true h
    omega
  · have e1 : decide (x % 2 = 1) = true := by simp; omega
    have e2 : decide (y % 2 = 1) = true := by simp; omega
    rw [e1, e2] at h
    have := of_decide_eq_false h
    omega
theorem bit1_xor (x y : Nat) : bit1 (x ^^^ y) = bit1 x ^^^ bit1 y := by
  unfold bit1
  rw [div2_xor, mod2_xor]
  have h2 : x % 2 < 2 := Nat.mod_lt _ (by omega)
  have h3 : y % 2 < 2 := Nat.mod_lt _ (by omega)
  by_cases a : x % 2 = 1 <;> by_cases b : y % 2 = 1
  · rw [if_neg (by omega), if_pos a, if_pos b]
    rw [Nat.xor_assoc, ← Nat.xor_assoc 3988292384, Nat.xor_comm 3988292384 (y / 2), Nat.xor_assoc (y / 2), Nat.xor_self, Nat.xor_zero]
  · rw [if_pos (by omega), if_pos a, if_neg b, Nat.xor_assoc, Nat.xor_comm (y / 2), ← Nat.xor_assoc]
  · rw [if_pos (by omega), if_neg a, if_pos b, Nat.xor_assoc]
  · rw [if_neg (by omega), if_neg a, if_neg b]
theorem bit1_even (x : Nat) : bit1 (2 * x) = x := by unfold bit1; rw [if_neg (by omega)]; omega

/-- four bits are half a byte -/
theorem nib_bits (x : Nat) : nib x = bit1 (bit1 (bit1 (bit1 x))) := by
  have h : x = (2 * (2 * (2 * (2 * (x / 16))))) ^^^ (x % 16) := by
    have e : 2 * (2 * (2 * (2 * (x / 16)))) = 2 ^ 4 * (x / 16) := by omega
    have e2 : x = 2 ^ 4 * (x / 16) + x % 16 := by omega
    rw [e]
    apply Nat.eq_of_testBit_eq
    intro i
    rw [Nat.testBit_xor, Nat.testBit_two_pow_mul]
    conv => lhs; rw [e2, Nat.testBit_two_pow_mul_add _ (show x % 16 < 2 ^ 4 by omega)]
    by_cases hi : i < 4
    · simp [hi, show ¬ i ≥ 4 by omega]
    · have hr : (x % 16).testBit i = false := Nat.testBit_lt_two_pow (Nat.lt_of_lt_of_le (show x % 16 < 2 ^ 4 by omega) (Nat.pow_le_pow_right (by omega) (by omega)))
      simp [hi, show i ≥ 4 by omega, hr]
  conv => rhs; rw [h]
  rw [bit1_xor, bit1_xor, bit1_xor, bit1_xor, bit1_even, bit1_even, bit1_even, bit1_even]
  rfl
end Go.Proofs.Ytohknblokejldaa
end
section
/- The table of the package seal. -/
namespace Go.Proofs.Ytohknblokejldaa
open Go.RowKit
open Go.Lib (hid)
set_option linter.unusedVariables false

theorem seal_halves (w : World) : Calls Try.prog 113 #[] w fun e w' => e = .returned (.agg #[.int .u32 0, .int .u32 498536548, .int .u32 997073096, .int .u32 651767980, .int .u32 1994146192, .int .u32 1802195444, .int .u32 1303535960, .int .u32 1342533948, .int .u32 3988292384, .int .u32 4027552580, .int .u32 3604390888, .int .u32 3412177804, .int .u32 2607071920, .int .u32 2262029012, .int .u32 2685067896, .int .u32 3183342108]) ∧ Below w.heap.size w w' := by
  go_enter Try.func113, Try.ntmps113
  go_wp2
  go_returns
  exact ⟨rfl, by go_grown⟩

end Go.Proofs.Ytohknblokejldaa
end
