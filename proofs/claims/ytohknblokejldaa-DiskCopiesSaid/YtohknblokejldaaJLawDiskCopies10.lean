/- Joined texts, in this order: VarIn2, VarIn3, VarInts, VarRead, VarIntsLaw, Iv. Each one's first remark says what it proves; no condition beyond those that its theorems name. -/
import Derived.Test.YtohknblokejldaaJLawDiskCopies09
import Derived.Test.YtohknblokejldaaJLawDiskCopies08
import Derived.Deep.QuietTactic
import Derived.Deep.RegionHeld3
import Derived.Test.YtohknblokejldaaJLawDiskCopies01
section
/- Contracts of the package varint: an In, continued: its calls as steps on what is left. -/
namespace Go.Proofs.Ytohknblokejldaa
open Go.RowKit
open Go.Lib (hid)
set_option linter.unusedVariables false

theorem InIs.lt {w : World} {g D : Nat} {s : Option (List UInt8)} (h : InIs w g D s) : g < w.heap.size := by
  obtain ⟨⟨a, n, cap, hb, -⟩, -⟩ := h
  exact hb.lt
/-- an In while blocks of others turn -/
theorem InIs.upd {S : Nat → Prop} {w w' : World} {g D : Nat} {s : Option (List UInt8)} (h : InIs w g D s) (hu : Upd S w w') (hg : ¬ S g) (hD : D < w.heap.size → ¬ S D) : InIs w' g D s := by
  obtain ⟨⟨a, n, cap, hb, hs, hd⟩, hne⟩ := h
  exact ⟨⟨a, n, cap, hb.upd hu hg, hu.slb hs (fun b off ha x => by obtain ⟨rfl, hlt⟩ := hd b off ha; exact hD hlt x), fun b off ha => ⟨(hd b off ha).1, Nat.lt_of_lt_of_le (hd b off ha).2 hu.size⟩⟩, hne⟩
theorem InIs.below {w w' : World} {g D : Nat} {s : Option (List UInt8)} (h : InIs w g D s) (hu : Below w.heap.size w w') : InIs w' g D s :=
  h.upd (S := fun _ => False) (Upd.of_below hu) (fun x => x) (fun _ x => x)

/-- was all read just so? -/
def inDone (s : Option (List UInt8)) : Bool := s == some []
theorem in_Done (s : Option (List UInt8)) (g D : Nat) (w : World) (h : InIs w g D s) :
    Calls Try.prog 59 #[.pointer (some ⟨g, 0, none⟩)] w fun e w' => e = .returned (.bool (inDone s)) ∧ w = w' := by
  obtain ⟨⟨a, m, cap, hb, hs, -⟩, -⟩ := h
  have hc1 : w.cell? ⟨g, 1, none⟩ = some (.bool s.isNone) := by rw [hb.cell]; rfl
  have hc0 : w.cell? ⟨g, 0, none⟩ = some (.slice a m cap) := by rw [hb.cell]; rfl
  obtain ⟨a', c', e, -⟩ := hs
  simp only [Value.slice.injEq] at e
  obtain ⟨rfl, rfl, rfl⟩ := e
  clear hb
  cases s with
  | none =>
    have hd : inDone none = false := rfl
    rw [hd]
    simp only [Option.isNone_none] at hc1
    clear hd hc0
    go_enter Try.func59, Try.ntmps59
    go_wp2
    go_ret
    exact ⟨rfl, rfl⟩
  | some l =>
    simp only [Option.isNone_some, Option.getD_some] at hc1 hc0
    cases l with
    | nil =>
      have hd : inDone (some []) = true := rfl
      rw [hd]
      simp only [List.length_nil] at hc0
      clear hd
      go_enter Try.func59, Try.ntmps59
      go_wp2
      go_ret
      exact ⟨rfl, rfl⟩
    | cons y ys =>
      have hd : inDone (some (y :: ys)) = false := by simp [inDone]
      rw [hd]
      obtain ⟨n, hn⟩ : ∃ n, (y :: ys).length = n := ⟨_, rfl⟩
      have hp : ((n : Int) == 0) = false := by simp; simp at hn; omega
      rw [hn] at hc0
      clear hd hn
      go_enter Try.func59, Try.ntmps59
      go_wp2
      go_ret
      exact ⟨rfl, rfl⟩

theorem in_fails (s : Option (List UInt8)) (g D : Nat) (w : World) (h : InIs w g D s) :
    Calls Try.prog 100 #[.pointer (some ⟨g, 0, none⟩)] w fun e w' => e = .returned (.tuple #[]) ∧ InIs w' g D none ∧ Upd (fun k => k = g) w w' := by
  obtain ⟨⟨a, m, cap, hb, hs, -⟩, hne⟩ := h
  have hc1 : w.cell? ⟨g, 1, none⟩ = some (.bool s.isNone) := by rw [hb.cell]; rfl
  have hc0 : w.cell? ⟨g, 0, none⟩ = some (.slice a m cap) := by rw [hb.cell]; rfl
  have hf0 := hb.unfrozen 0
  have hf1 := hb.unfrozen 1
  have HO : Hid (InIs ((w.setCell ⟨g, 1, none⟩ (.bool true)).setCell ⟨g, 0, none⟩ (.slice none 0 0)) g D none ∧ Upd (fun k => k = g) w ((w.setCell ⟨g, 1, none⟩ (.bool true)).setCell ⟨g, 0, none⟩ (.slice none 0 0))) := hid
    ⟨⟨⟨none, 0, 0, by simpa using (hb.set 1 (.bool true)).set 0 (.slice none 0 0), ⟨none, 0, rfl, by simp, Rd.nil _ _, by simp, by omega, fun _ => rfl⟩, nofun⟩, hne⟩,
     (Upd.setCell w g 1 _).trans (Upd.setCell _ g 0 _) (fun _ _ x => x)⟩
  clear hb hs
  go_enter Try.func100, Try.ntmps100
  go_wp2
  go_end0
  exact ⟨rfl, HO.out.1, HO.out.2⟩

/-- the next bytes -/
def inTake (n : Nat) : Option (List UInt8) → List UInt8 × Option (List UInt8)
  | none => ([], none)
  | some l => if l.length < n then ([], none) else (l.take n, some (l.drop n))
theorem in_take (n : Nat) (N : Int) (hN : N = (n : Int)) (s : Option (List UInt8)) (g D : Nat) (w : World) (h : InIs w g D s) :
    Calls Try.prog 101 #[.pointer (some ⟨g, 0, none⟩), .int .i64 N] w fun e w' => ∃ a m cap, e = .returned (.slice a m cap) ∧ SlB w' (.slice a m cap) (inTake n s).1 ∧ (∀ b off, a = some ⟨b, off, none⟩ → b = D) ∧ InIs w' g D (inTake n s).2 ∧ Upd (fun k => k = g) w w' := by
  subst hN
  have H := hid h
  obtain ⟨⟨a, m, cap, hb, hs, hD⟩, hne⟩ := h
  have hc1 : w.cell? ⟨g, 1, none⟩ = some (.bool s.isNone) := by rw [hb.cell]; rfl
  have hc0 : w.cell? ⟨g, 0, none⟩ = some (.slice a m cap) := by rw [hb.cell]; rfl
  have hf0 := hb.unfrozen 0
  have HNIL : ∀ w' : World, SlB w' (.slice none 0 0) [] := fun w' => ⟨none, 0, rfl, by simp, Rd.nil _ _, by simp, by omega, fun _ => rfl⟩
  have HN := hid HNIL
  clear HNIL
  cases s with
  | none =>
    simp only [Option.isNone_none] at hc1
    clear hc0 hb hs
    go_enter Try.func101, Try.ntmps101
    go_wp2_with (go_at_call 100; (with_reducible refine (in_fails none g D _ H.out).mono ?_); rintro e w1 ⟨rfl, hi, hu⟩)
    go_ret
    exact ⟨none, 0, 0, rfl, HN.out _, nofun, hi, hu⟩
  | some l =>
    simp only [Option.isNone_some] at hc1
    simp only [Option.getD_some] at hs
    have HS := hid hs
    obtain ⟨a', c', e, h1, h2, h3, h4, h5⟩ := hs
    simp only [Value.slice.injEq] at e
    obtain ⟨rfl, rfl, rfl⟩ := e
    by_cases hlt : l.length < n
    · have hr : inTake n (some l) = ([], none) := by simp [inTake, hlt]
      rw [hr]
      clear hr hb h2
      go_enter Try.func101, Try.ntmps101
      go_wp2_with (go_at_call 100; (with_reducible refine (in_fails (some l) g D _ H.out).mono ?_); rintro e w1 ⟨rfl, hi, hu⟩)
      go_ret
      exact ⟨none, 0, 0, rfl, HN.out _, nofun, hi, hu⟩
    · have hr : inTake n (some l) = (l.take n, some (l.drop n)) := by simp [inTake, hlt]
      rw [hr]
      clear hr
      have hn1 : n ≤ l.length := by omega
      have hn2 : (n : Int) ≤ (l.length : Int) := by omega
      have hn3 : (n : Int) ≤ (cap : Int) := by omega
      have hn0 : (0 : Int) ≤ (n : Int) := by omega
      by_cases hz : l = []
      · obtain rfl : n = 0 := by subst hz; simpa using hn1
        subst hz
        have HR : ∀ (w' : World) (x : Option Addr) (c : Nat), c ≤ 9223372036854775807 → (x = none → c = 0) → SlB w' (.slice x 0 c) [] := fun w' x c hc hx => ⟨x, c, rfl, by simp, Rd.nil _ _, by simp, hc, hx⟩
        have HR2 := hid HR
        have HD2 := hid hD
        have H5 := hid h5
        simp only [List.length_nil] at hc0
        clear hlt HR hD h5 h2 hn1 hn2 hn3 h1 h3
        cases a with
        | none =>
          obtain rfl := H5.out rfl
          have HO : Hid (InIs (w.setCell ⟨g, 0, none⟩ (.slice none 0 0)) g D (some []) ∧ Upd (fun k => k = g) w (w.setCell ⟨g, 0, none⟩ (.slice none 0 0))) := hid
            ⟨⟨⟨none, 0, 0, by simpa using hb.set 0 (.slice none 0 0), HR2.out _ _ _ (by omega) (fun _ => rfl), nofun⟩, hne⟩, Upd.setCell w g 0 _⟩
          clear hb
          go_enter Try.func101, Try.ntmps101
          go_wp2
          go_ret
          exact ⟨none, 0, 0, rfl, HN.out _, nofun, HO.out.1, HO.out.2⟩
        | some ad =>
          by_cases hcz : cap = 0
          · subst hcz
            have HO : Hid (InIs (w.setCell ⟨g, 0, none⟩ (.slice (some ad) 0 0)) g D (some []) ∧ Upd (fun k => k = g) w (w.setCell ⟨g, 0, none⟩ (.slice (some ad) 0 0))) := hid
              ⟨⟨⟨some ad, 0, 0, by simpa using hb.set 0 (.slice (some ad) 0 0), HR2.out _ _ _ (by omega) nofun, fun b off e => by simpa using HD2.out b off e⟩, hne⟩, Upd.setCell w g 0 _⟩
            clear hb
            go_enter Try.func101, Try.ntmps101
            go_wp2
            go_ret
            exact ⟨some ad, 0, 0, rfl, HR2.out _ _ _ (by omega) nofun, fun b off e => (HD2.out b off e).1, HO.out.1, HO.out.2⟩
          · have HO : Hid (InIs (w.setCell ⟨g, 0, none⟩ (.slice (some ad) 0 cap)) g D (some []) ∧ Upd (fun k => k = g) w (w.setCell ⟨g, 0, none⟩ (.slice (some ad) 0 cap))) := hid
              ⟨⟨⟨some ad, 0, cap, by simpa using hb.set 0 (.slice (some ad) 0 cap), HR2.out _ _ _ h4 nofun, fun b off e => by simpa using HD2.out b off e⟩, hne⟩, Upd.setCell w g 0 _⟩
            clear hb
            go_enter Try.func101, Try.ntmps101
            go_wp2
            go_ret
            exact ⟨some ad, 0, 0, rfl, HR2.out _ _ _ (by omega) nofun, fun b off e => (HD2.out b off e).1, HO.out.1, HO.out.2⟩
      · obtain ⟨b, off, rfl, -⟩ := h2 0 (by rw [bv_length]; cases l <;> simp_all)
        obtain ⟨rfl, hDlt⟩ := hD b off rfl
        have hs1 : ∀ w' : World, w'.heap[b]? = w.heap[b]? → SlB w' (.slice (some ⟨b, off, none⟩) n n) (l.take n) := by
          intro w' hw
          refine ⟨some ⟨b, off, none⟩, n, by simp [List.length_take]; omega, by simp; omega, ?_, by simp; omega, by omega, nofun⟩
          have := (h2.sub 0 n).congr (w' := w') (fun b' off' e hlt => by simp at e; obtain ⟨rfl, rfl⟩ := e; exact hw)
          simpa [bv, List.map_take] using this
        have hs2 : ∀ w' : World, w'.heap[b]? = w.heap[b]? → ∀ x, (n < l.length → x = some ⟨b, off + n, none⟩) → x ≠ none → SlB w' (.slice x (l.length - n) (cap - n)) (l.drop n) := by
          intro w' hw x hx hx2
          refine ⟨x, cap - n, by simp, by simp; omega, ?_, by simp; omega, by omega, fun e => absurd e hx2⟩
          intro i hi
          simp [bv] at hi
          have := hx (by omega)
          subst this
          have h := (h2.sub n (l.length - n)).congr (w' := w') (fun b' off' e hlt => by simp at e; obtain ⟨rfl, rfl⟩ := e; exact hw)
          have h' := h i (by simp [bv]; omega)
          have e : bv (l.drop n) = ((bv l).drop n).take (l.length - n) := by
            rw [List.take_of_length_le (by simp [bv])]
            simp [bv, List.map_drop]
          rw [e]; exact h'
        have HS1 := hid hs1
        have HS2 := hid hs2
        clear hlt hD h2 h5 hz hs1 hs2 hn1
        by_cases hcn : cap = n
        · subst hcn
          have hl0 : l.length - cap = 0 := by omega
          have HO : Hid (InIs (w.setCell ⟨g, 0, none⟩ (.slice (some ⟨b, off, none⟩) 0 0)) g b (some (l.drop cap)) ∧ Upd (fun k => k = g) w (w.setCell ⟨g, 0, none⟩ (.slice (some ⟨b, off, none⟩) 0 0))) := hid
            ⟨⟨⟨some ⟨b, off, none⟩, 0, 0, by simpa using hb.set 0 (.slice (some ⟨b, off, none⟩) 0 0), by
                have := HS2.out (w.setCell ⟨g, 0, none⟩ (.slice (some ⟨b, off, none⟩) 0 0)) (heap_setCell_other w ⟨g, 0, none⟩ b _ (fun e => hne e)) (some ⟨b, off, none⟩) (fun h => by omega) nofun
                rw [hl0] at this; simpa using this, fun b' off' e => by simp at e; obtain ⟨rfl, rfl⟩ := e; exact ⟨rfl, by simpa using hDlt⟩⟩, hne⟩, Upd.setCell w g 0 _⟩
          have hbo : Hid ((w.setCell ⟨g, 0, none⟩ (.slice (some ⟨b, off, none⟩) 0 0)).heap[b]? = w.heap[b]?) := hid (heap_setCell_other w ⟨g, 0, none⟩ b _ (fun e => hne e))
          clear hb hl0
          go_enter Try.func101, Try.ntmps101
          go_wp2
          go_ret
          exact ⟨some ⟨b, off, none⟩, cap, cap, rfl, HS1.out _ hbo.out, fun b' off' e => by simp at e; exact e.1.symm, HO.out.1, HO.out.2⟩
        · have HO : Hid (InIs (w.setCell ⟨g, 0, none⟩ (.slice (some ⟨b, off + n, none⟩) (l.length - n) (cap - n))) g b (some (l.drop n)) ∧ Upd (fun k => k = g) w (w.setCell ⟨g, 0, none⟩ (.slice (some ⟨b, off + n, none⟩) (l.length - n) (cap - n)))) := hid
            ⟨⟨⟨some ⟨b, off + n, none⟩, l.length - n, cap - n, by simpa using hb.set 0 (.slice (some ⟨b, off + n, none⟩) (l.length - n) (cap - n)), by
                have := HS2.out (w.setCell ⟨g, 0, none⟩ (.slice (some ⟨b, off + n, none⟩) (l.length - n) (cap - n))) (heap_setCell_other w ⟨g, 0, none⟩ b _ (fun e => hne e)) (some ⟨b, off + n, none⟩) (fun _ => rfl) nofun
                simpa using this, fun b' off' e => by simp at e; obtain ⟨rfl, rfl⟩ := e; exact ⟨rfl, by simpa using hDlt⟩⟩, hne⟩, Upd.setCell w g 0 _⟩
          have hbo : Hid ((w.setCell ⟨g, 0, none⟩ (.slice (some ⟨b, off + n, none⟩) (l.length - n) (cap - n))).heap[b]? = w.heap[b]?) := hid (heap_setCell_other w ⟨g, 0, none⟩ b _ (fun e => hne e))
          clear hb
          go_enter Try.func101, Try.ntmps101
          go_wp2
          go_ret
          exact ⟨some ⟨b, off, none⟩, n, n, rfl, HS1.out _ hbo.out, fun b' off' e => by simp at e; exact e.1.symm, HO.out.1, HO.out.2⟩
end Go.Proofs.Ytohknblokejldaa
end
section
/- Contracts of the package varint: an In, continued: Int, Within, Bytes, Text, Bool, Ints. -/
namespace Go.Proofs.Ytohknblokejldaa
open Go.RowKit
open Go.Lib (hid)
set_option linter.unusedVariables false

theorem readF_le : ∀ (l : List UInt8) (k u : Nat), (readF l k u).1 = 0 ∨ (k < (readF l k u).1 ∧ (readF l k u).1 ≤ k + l.length)
  | [], k, u => .inl rfl
  | c :: t, k, u => by
    rw [readF]
    split
    · exact .inl rfl
    · split
      · exact .inl rfl
      · split
        · split
          · exact .inl rfl
          · exact .inr ⟨by simp, by simp⟩
        · rcases readF_le t (k + 1) (u + c.toNat % 128 * 128 ^ k) with h | h
          · exact .inl h
          · exact .inr ⟨by omega, by simp; omega⟩
theorem readF_bd : ∀ (l : List UInt8) (k u : Nat), k ≤ 10 → u < 128 ^ k → u < 18446744073709551616 → (readF l k u).2 < 18446744073709551616
  | [], k, u, _, _, _ => by simp [readF]
  | c :: t, k, u, hk, hu, h64 => by
    rw [readF]
    split
    · simp
    · split
      · simp
      · rename_i h10 h9
        have hp : c.toNat % 128 < 128 := Nat.mod_lt _ (by omega)
        obtain ⟨-, -, o3, o4⟩ := or_shift u (c.toNat % 128) k (by omega) hu hp (fun h => by omega)
        split
        · split
          · simp
          · exact o3
        · exact readF_bd t (k + 1) _ (by omega) o4 o3

/-- the next number -/
def inInt (s : Option (List UInt8)) : Int × Option (List UInt8) :=
  if (readF (s.getD []) 0 0).1 = 0 then (0, none) else (unzz (readF (s.getD []) 0 0).2, (inTake (readF (s.getD []) 0 0).1 s).2)
theorem inInt_bd (s : Option (List UInt8)) : -9223372036854775808 ≤ (inInt s).1 ∧ (inInt s).1 ≤ 9223372036854775807 := by
  unfold inInt
  split
  · simp
  · exact unzz_bd _ (readF_bd _ 0 0 (by omega) (by decide) (by omega))

set_option maxRecDepth 100000 in
theorem in_Int (s : Option (List UInt8)) (g D : Nat) (w : World) (h : InIs w g D s) (n : Int) (s' : Option (List UInt8)) (hs : Hid (inInt s = (n, s'))) :
    Calls Try.prog 57 #[.pointer (some ⟨g, 0, none⟩)] w fun e w' => e = .returned (.int .i64 n) ∧ InIs w' g D s' ∧ Upd (fun k => k = g) w w' := by
  obtain ⟨k, u, hr⟩ : ∃ k u, readF (s.getD []) 0 0 = (k, u) := ⟨_, _, rfl⟩
  have HR := hid hr
  have H := hid h
  have hs2 := hs.out
  unfold inInt at hs2
  rw [hr] at hs2
  have hu : u < 18446744073709551616 := by have := readF_bd (s.getD []) 0 0 (by omega) (by decide) (by omega); rw [hr] at this; exact this
  have HU := hid hu
  clear hr h hu
  by_cases hk : k = 0
  · subst hk
    rw [if_pos rfl] at hs2
    simp only [Prod.mk.injEq] at hs2
    obtain ⟨rfl, rfl⟩ := hs2
    clear hs
    go_enter Try.func57, Try.ntmps57
    go_wp2_with (first | (go_at_call 99; (with_reducible refine (in_groups s g D _ H.out 0 u HR).mono ?_); rintro e w' ⟨rfl, rfl⟩) | (go_at_call 100; (with_reducible refine (in_fails s g D _ H.out).mono ?_); rintro e w1 ⟨rfl, hi, hu⟩))
    go_ret
    exact ⟨rfl, hi, hu⟩
  · rw [if_neg hk] at hs2
    simp only [Prod.mk.injEq] at hs2
    obtain ⟨rfl, rfl⟩ := hs2
    have hkb : ((k : Int) == 0) = false := by simp; omega
    clear hs hk
    go_enter Try.func57, Try.ntmps57
    go_wp2_with (first | (go_at_call 99; (with_reducible refine (in_groups s g D _ H.out k u HR).mono ?_); rintro e w' ⟨rfl, rfl⟩) | (go_at_call 101; (with_reducible refine (in_take k _ (by rfl) s g D _ H.out).mono ?_); rintro e w1 ⟨a, m, cap, rfl, -, -, hi, hu⟩) | (go_at_call 102; (with_reducible refine (var_back u HU.out _).mono ?_); rintro e w' ⟨rfl, rfl⟩))
    go_ret
    exact ⟨rfl, hi, hu⟩

/-- the next number, within bounds -/
def inWithin (lo hi : Int) (s : Option (List UInt8)) : Int × Option (List UInt8) :=
  if (inInt s).2 = none ∨ (inInt s).1 < lo ∨ hi < (inInt s).1 then (0, none) else inInt s
theorem in_Within (lo hi : Int) (s : Option (List UInt8)) (g D : Nat) (w : World) (h : InIs w g D s) (n : Int) (s' : Option (List UInt8)) (hs : Hid (inWithin lo hi s = (n, s'))) :
    Calls Try.prog 103 #[.pointer (some ⟨g, 0, none⟩), .int .i64 lo, .int .i64 hi] w fun e w' => e = .returned (.int .i64 n) ∧ InIs w' g D s' ∧ Upd (fun k => k = g) w w' := by
  obtain ⟨x, s1, hx⟩ : ∃ x s1, inInt s = (x, s1) := ⟨_, _, rfl⟩
  have HX := hid hx
  have H := hid h
  have hs2 := hs.out
  unfold inWithin at hs2
  rw [hx] at hs2
  clear hx h hs
  go_enter Try.func103, Try.ntmps103
  go_wp2_with fail
  refine (in_Int s g D w H.out x s1 HX).mono ?_
  rintro e w1 ⟨rfl, hi1, hu1⟩
  have H1 := hid hi1
  have U1 := hid hu1
  obtain ⟨⟨a, m, cap, hb, -, -⟩, -⟩ := hi1
  have hc1 : w1.cell? ⟨g, 1, none⟩ = some (.bool s1.isNone) := by rw [hb.cell]; rfl
  clear hb hu1
  cases s1 with
  | none =>
    rw [if_pos (.inl rfl)] at hs2
    simp only [Prod.mk.injEq] at hs2
    obtain ⟨rfl, rfl⟩ := hs2
    simp only [Option.isNone_none] at hc1
    go_wp2_with (go_at_call 100; (with_reducible refine (in_fails none g D _ H1.out).mono ?_); rintro e w2 ⟨rfl, hi2, hu2⟩)
    go_ret
    exact ⟨rfl, hi2, U1.out.trans hu2 (fun _ _ x => x)⟩
  | some l =>
    simp only [Option.isNone_some] at hc1
    by_cases h1 : x < lo
    · rw [if_pos (.inr (.inl h1))] at hs2
      simp only [Prod.mk.injEq] at hs2
      obtain ⟨rfl, rfl⟩ := hs2
      go_wp2_with (go_at_call 100; (with_reducible refine (in_fails (some l) g D _ H1.out).mono ?_); rintro e w2 ⟨rfl, hi2, hu2⟩)
      go_ret
      exact ⟨rfl, hi2, U1.out.trans hu2 (fun _ _ x => x)⟩
    · by_cases h2 : hi < x
      · rw [if_pos (.inr (.inr h2))] at hs2
        simp only [Prod.mk.injEq] at hs2
        obtain ⟨rfl, rfl⟩ := hs2
        go_wp2_with (go_at_call 100; (with_reducible refine (in_fails (some l) g D _ H1.out).mono ?_); rintro e w2 ⟨rfl, hi2, hu2⟩)
        go_ret
        exact ⟨rfl, hi2, U1.out.trans hu2 (fun _ _ x => x)⟩
      · rw [if_neg (by simp; omega)] at hs2
        simp only [Prod.mk.injEq] at hs2
        obtain ⟨rfl, rfl⟩ := hs2
        have h2b : decide (hi < x) = false := by simpa using h2
        go_wp2_with fail
        go_ret
        exact ⟨rfl, H1.out, U1.out⟩

/-- the next bytes, with their count -/
def inBytes (most : Int) (s : Option (List UInt8)) : List UInt8 × Option (List UInt8) := inTake (inWithin 0 most s).1.toNat (inWithin 0 most s).2
theorem inWithin_lo (lo hi : Int) (s : Option (List UInt8)) (h : lo ≤ 0) : lo ≤ (inWithin lo hi s).1 := by unfold inWithin; split <;> omega
theorem inTake_len (n : Nat) (s : Option (List UInt8)) : (inTake n s).1.length ≤ n := by
  cases s <;> simp [inTake]
  split <;> simp; omega
/-- the next bool -/
def inBool (s : Option (List UInt8)) : Bool × Option (List UInt8) :=
  match inTake 1 s with
  | ([], s1) => (false, s1)
  | (c :: _, s1) => if 1 < c.toNat then (false, none) else (c.toNat == 1, s1)
theorem var_NewIn (l : List UInt8) (u : Value) (w : World) (hl : SlB w u l) (hb : l.length ≤ 1048576) : Calls Try.prog 56 #[u] w fun e w' =>
    ∃ g D, e = .returned (.pointer (some ⟨g, 0, none⟩)) ∧ InIs w' g D (some l) ∧ w.heap.size ≤ g ∧ (D < w'.heap.size → w.heap.size ≤ D) ∧ Below w.heap.size w w' := by
  have HL := hid hl
  clear hl
  go_enter Try.func56, Try.ntmps56
  go_wp2_with fail
  refine (bytes_Clone l _ w HL.out (by omega)).mono ?_
  rintro e w1 ⟨v1, rfl, hown, hb1⟩
  have hsl := ownsRow.slb hown (by omega)
  have HSL := hid hsl
  obtain ⟨a, c, rfl, -⟩ := hsl
  have HO : Hid (∃ D, InIs (w1.alloc (.cells #[.slice a l.length c, .bool false] 156)) w1.heap.size D (some l) ∧ (D < (w1.alloc (.cells #[.slice a l.length c, .bool false] 156)).heap.size → w.heap.size ≤ D)) := hid (by
    rcases hown.2 with ⟨h1, -⟩ | ⟨g1, c1, cur, h1, h2, h3, -⟩
    · simp only [Value.slice.injEq] at h1
      obtain ⟨rfl, -, rfl⟩ := h1
      exact ⟨w1.heap.size + 1, ⟨⟨none, l.length, 0, Blk.new _ _ _, HSL.out.below (Below.new _ _), nofun⟩, by omega⟩, fun h => by simp at h⟩
    · simp only [Value.slice.injEq] at h1
      obtain ⟨rfl, -, rfl⟩ := h1
      have hlt := (Array.getElem?_eq_some_iff.1 h3).1
      exact ⟨g1, ⟨⟨some ⟨g1, 0, none⟩, l.length, c, Blk.new _ _ _, HSL.out.below (Below.new _ _), fun b off e => by simp at e; obtain ⟨rfl, rfl⟩ := e; exact ⟨rfl, by simp; omega⟩⟩, by omega⟩, fun _ => h2⟩)
  have HB := hid (Below.next hb1 (Below.new w1 (.cells #[.slice a l.length c, .bool false] 156)))
  have HS := hid hb1.size
  clear hown hb1
  go_wp2
  go_ret
  obtain ⟨D, h1, h2⟩ := HO.out
  exact ⟨w1.heap.size, D, rfl, h1, HS.out, h2, HB.out⟩
end Go.Proofs.Ytohknblokejldaa
end
section
/- Contracts: All, Len, Size, the reference's Int, awake; the law VarintInts. -/
namespace Go.Proofs.Ytohknblokejldaa
open Go.RowKit
open Go.Lib (hid)
set_option linter.unusedVariables false

theorem OutIs.slb {w : World} {g : Nat} {v : Value} {l : List UInt8} (h : OutIs w g v l) (hl : l.length ≤ 9223372036854775807) : SlB w v l := ownsRow.slb (ownsRow_base h.own (Nat.zero_le _)) hl
theorem OutIs.below {w w' : World} {g : Nat} {v : Value} {l : List UInt8} (h : OutIs w g v l) (hb : Below w.heap.size w w') : OutIs w' g v l :=
  ⟨Blk.below hb h.blk, ownsRow_below h.own hb, h.ne⟩

theorem out_All (g : Nat) (v : Value) (l : List UInt8) (w : World) (h : OutIs w g v l) (hl : l.length ≤ 1048576) :
    Calls Try.prog 48 #[.pointer (some ⟨g, 0, none⟩)] w fun e w' => ∃ u, e = .returned u ∧ w'.ownsRow w.heap.size 5 1 u l.length (bv l) ∧ Below w.heap.size w w' := by
  have hc0 : w.cell? ⟨g, 0, none⟩ = some v := by rw [h.blk.cell]; rfl
  have HS := hid (h.slb (by omega))
  clear h
  go_enter Try.func48, Try.ntmps48
  go_wp2_with fail
  refine (bytes_Clone l v w HS.out (by omega)).mono ?_
  rintro e w1 ⟨v1, rfl, hown, hb⟩
  go_wp2
  go_ret
  exact ⟨_, rfl, hown, hb⟩

set_option maxRecDepth 100000 in
/-- the reference's bytes of a number -/
theorem ref_Int (n : Int) (h1 : -9223372036854775808 ≤ n) (h2 : n ≤ 9223372036854775807) (w : World) :
    Calls Try.prog 96 #[.int .i64 n] w fun e w' => ∃ v, e = .returned v ∧ w'.ownsRow w.heap.size 5 1 v (enc (zz n)).length (bv (enc (zz n))) ∧ Below w.heap.size w w' := by
  have hlen := enc_len10 (zz n) (zz_lt n h1 h2)
  have hz := hid (zz_lt n h1 h2)
  go_enter Try.func96, Try.ntmps96
  go_wp2_with (go_at_call 114; (with_reducible refine (ref_Twice n h1 h2 _).mono ?_); rintro e w' ⟨rfl, rfl⟩)
  go_loopw [3, 4] (fun v3 v4 wr => ∃ (m : List UInt8) (x : Nat), v4 = .int .u64 x ∧ x < 18446744073709551616 ∧ wr.ownsRow w.heap.size 5 1 v3 m.length (bv m) ∧ m.length ≤ 10 ∧ Hid (m ++ enc x = enc (zz n)) ∧ Below w.heap.size w wr) (fun _ v4 _ => (intOf v4).toNat)
  case atStart => exact ⟨[], zz n, rfl, hz.out, World.ownsRow_nil _ _ _ _, by simp, hid rfl, Below.refl _ _⟩
  case round =>
    obtain ⟨m, x, rfl, hx, ho, hm, henc, hb⟩ := hrel
    have hml : m.length + (enc x).length = (enc (zz n)).length := by
      have := congrArg List.length henc.out
      simpa using this
    have hpos := enc_pos x
    by_cases h128 : x < 128
    · have HE := hid (enc_small x h128)
      have hb1 : m.length + 1 ≤ 140737488355328 := by omega
      clear hml hpos hlen
      go_wp2_with (at_builtin; refine wpList_append1 T_bytes _ rfl _ _ #[.int .u8 (x : Int)] rfl w.heap.size _ _ _ rfl ho rfl rfl ?c1 ?c2 ?c3 ?_)
      case c1 => rfl
      case c2 => omega
      case c3 => exact hb.size
      intro v' w1 hown' hgrow hne
      have hbv : Hid (bv (enc (zz n)) = bv m ++ [.int .u8 (x : Int)]) := hid (by
        rw [← henc.out, HE.out, bv_append, bv_one]
        congr 3
        simp; omega)
      have hlu : Hid ((enc (zz n)).length = m.length + 1) := hid (by rw [← henc.out, HE.out]; simp)
      have HO : Hid (w1.ownsRow w.heap.size 5 1 v' (enc (zz n)).length (bv (enc (zz n)))) := hid (by rw [hbv.out, hlu.out]; exact hown')
      have HB : Hid (Below w.heap.size w w1) := hid (hb.grown hgrow hb.size (fun k hk => (ho.lt k hk).1))
      clear hown' hgrow
      go_wp2
      go_ret
      exact ⟨_, rfl, HO.out, HB.out⟩
    · have HE := hid (enc_big x h128)
      have hb1 : m.length + 1 ≤ 10 := by have := enc_pos (x / 128); rw [HE.out] at hml; simp at hml; omega
      clear hml hpos hlen
      go_wp2_with (at_builtin; refine wpList_append1 T_bytes _ rfl _ _ #[.int .u8 ((x : Int) % 128 + 128)] rfl w.heap.size _ _ _ rfl ho rfl rfl ?c1 ?c2 ?c3 ?_)
      case c1 => rfl
      case c2 => omega
      case c3 => exact hb.size
      intro v' w1 hown' hgrow hne
      have hbv : Hid (bv (m ++ [UInt8.ofNat (x % 128 + 128)]) = bv m ++ [.int .u8 ((x : Int) % 128 + 128)]) := hid (by
        rw [bv_append, bv_one]
        congr 3
        simp; omega)
      have HO : Hid (w1.ownsRow w.heap.size 5 1 v' (m ++ [UInt8.ofNat (x % 128 + 128)]).length (bv (m ++ [UInt8.ofNat (x % 128 + 128)]))) := hid (by rw [hbv.out]; simpa using hown')
      have HB : Below w.heap.size w w1 := hb.grown hgrow hb.size (fun k hk => (ho.lt k hk).1)
      have henc2 : Hid ((m ++ [UInt8.ofNat (x % 128 + 128)]) ++ enc (x / 128) = enc (zz n)) := hid (by rw [← henc.out, HE.out]; simp)
      clear hown' hgrow hne hb
      go_wp2
      go_roundw
      case rel => exact ⟨m ++ [UInt8.ofNat (x % 128 + 128)], x / 128, rfl, by omega, HO.out, by simp; omega, henc2, HB⟩
      case measure => simp [intOf]; omega

/-- a new Out -/
theorem OutIs.new (w : World) : OutIs (w.alloc (.cells #[.slice none 0 0] 97)) w.heap.size (.slice none 0 0) [] :=
  ⟨Blk.new _ _ _, World.ownsRow_nil _ _ _ _, by simp [Value.ownBlock]⟩

end Go.Proofs.Ytohknblokejldaa
end
section
/- Contract: the reference's Read. -/
namespace Go.Proofs.Ytohknblokejldaa
open Go.RowKit
open Go.Lib (hid)
set_option linter.unusedVariables false

theorem cong_step (a b c : Int) : (a % 18446744073709551616 + (b * (c % 18446744073709551616)) % 18446744073709551616) % 18446744073709551616 = (a + b * c) % 18446744073709551616 := by
  rw [← Int.add_emod, Int.add_emod, Int.mul_emod, Int.emod_emod_of_dvd _ (Int.dvd_refl _), ← Int.mul_emod, ← Int.add_emod]

theorem cong_mul (a b : Int) : (a % 18446744073709551616 * b) % 18446744073709551616 = (a * b) % 18446744073709551616 := by
  rw [Int.mul_emod, Int.emod_emod_of_dvd _ (Int.dvd_refl _), ← Int.mul_emod]

end Go.Proofs.Ytohknblokejldaa
end
section
/- The law VarintInts, walked. -/
namespace Go.Proofs.Ytohknblokejldaa
open Go.RowKit
open Go.Lib (hid)
set_option linter.unusedVariables false

theorem inInt_enc (n : Int) (h1 : -9223372036854775808 ≤ n) (h2 : n ≤ 9223372036854775807) (t : List UInt8) : inInt (some (enc (zz n) ++ t)) = (n, some t) := by
  have hz := zz_lt n h1 h2
  have hr := readF_enc (zz n) t 0 0 (by omega) (by simpa using hz) (by omega)
  have hp := enc_pos (zz n)
  simp only [Nat.zero_add, Nat.pow_zero, Nat.mul_one] at hr
  unfold inInt
  simp only [Option.getD_some, hr]
  rw [if_neg (by omega)]
  have hno : ¬ (enc (zz n)).length + t.length < (enc (zz n)).length := by omega
  simp [inTake, unzz_zz, hno]

end Go.Proofs.Ytohknblokejldaa
end
section
/- Numbers as the cells of a row. No program in sight. -/
namespace Go.Proofs.Ytohknblokejldaa
def iv (l : List Int) : List Value := l.map (Value.int .i64)
end Go.Proofs.Ytohknblokejldaa
end
