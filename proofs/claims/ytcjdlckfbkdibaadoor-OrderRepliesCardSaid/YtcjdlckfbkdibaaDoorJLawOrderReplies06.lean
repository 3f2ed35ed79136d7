/- Joined texts, in this order: VarIn2. Each one's first remark says what it proves; no condition beyond those that its theorems name. -/
import Derived.Test.YtcjdlckfbkdibaaDoorJLawOrderReplies05
section
/- Contracts of the package varint: an In, continued: its calls as steps on what is left. -/
namespace Go.Proofs.YtcjdlckfbkdibaaDoor
open Go.RowKit
open Go.Lib (hid)
set_option linter.unusedVariables false

theorem InIs.lt {w : World} {g D : Nat} {s : Option (List UInt8)} (h : InIs w g D s) : g < w.heap.size := by
  obtain ⟨⟨a, n, cap, hb, -⟩, -⟩ := h
  exact hb.lt
/-- an In while blocks of others turn -/
theorem InIs.upd {S : Nat → Prop} {w w' : World} {g D : Nat} {s : Option (List UInt8)} (h : InIs w g D s) (hu : Upd S w w') (hg : ¬ S g) (hD : D < w.heap.size → ¬ S D) : InIs w' g D s := by
  obtain ⟨⟨a, n, cap, hb, hs, hd⟩, hne⟩ := h
  exact ⟨⟨a, n, cap, hb.upd hu hg, hu.slb hs (fun b off ha x => by obtain ⟨rfl, hlt⟩ := hd b off ha; exact hD hlt x), fun b off ha => ⟨(hd b off ha).1, Nat.lt_of_lt_of_le (hd b off ha).2 hu.size⟩⟩, hne⟩
theorem InIs.below {w w' : World} {g D : Nat} {s : Option (List UInt8)} (h : InIs w g D s) (hu : Below w.heap.size w w') : InIs w' g D s :=
  h.upd (S := fun _ => False) (Upd.of_below hu) (fun x => x) (fun _ x => x)

/-- was all read just so? -/
def inDone (s : Option (List UInt8)) : Bool := s == some []
theorem in_Done (s : Option (List UInt8)) (g D : Nat) (w : World) (h : InIs w g D s) :
    Calls Tryd.prog 70 #[.pointer (some ⟨g, 0, none⟩)] w fun e w' => e = .returned (.bool (inDone s)) ∧ w = w' := by
  obtain ⟨⟨a, m, cap, hb, hs, -⟩, -⟩ := h
  have hc1 : w.cell? ⟨g, 1, none⟩ = some (.bool s.isNone) := by rw [hb.cell]; rfl
  have hc0 : w.cell? ⟨g, 0, none⟩ = some (.slice a m cap) := by rw [hb.cell]; rfl
  obtain ⟨a', c', e, -⟩ := hs
  simp only [Value.slice.injEq] at e
  obtain ⟨rfl, rfl, rfl⟩ := e
  clear hb
  cases s with
  | none =>
    have hd : inDone none = false := rfl
    rw [hd]
    simp only [Option.isNone_none] at hc1
    clear hd hc0
    go_enter Tryd.func70, Tryd.ntmps70
    go_wp2
    go_ret
    exact ⟨rfl, rfl⟩
  | some l =>
    simp only [Option.isNone_some, Option.getD_some] at hc1 hc0
    cases l with
    | nil =>
      have hd : inDone (some []) = true := rfl
      rw [hd]
      simp only [List.length_nil] at hc0
      clear hd
      go_enter Tryd.func70, Tryd.ntmps70
      go_wp2
      go_ret
      exact ⟨rfl, rfl⟩
    | cons y ys =>
      have hd : inDone (some (y :: ys)) = false := by simp [inDone]
      rw [hd]
      obtain ⟨n, hn⟩ : ∃ n, (y :: ys).length = n := ⟨_, rfl⟩
      have hp : ((n : Int) == 0) = false := by simp; simp at hn; omega
      rw [hn] at hc0
      clear hd hn
      go_enter Tryd.func70, Tryd.ntmps70
      go_wp2
      go_ret
      exact ⟨rfl, rfl⟩

theorem in_fails (s : Option (List UInt8)) (g D : Nat) (w : World) (h : InIs w g D s) :
    Calls Tryd.prog 93 #[.pointer (some ⟨g, 0, none⟩)] w fun e w' => e = .returned (.tuple #[]) ∧ InIs w' g D none ∧ Upd (fun k => k = g) w w' := by
  obtain ⟨⟨a, m, cap, hb, hs, -⟩, hne⟩ := h
  have hc1 : w.cell? ⟨g, 1, none⟩ = some (.bool s.isNone) := by rw [hb.cell]; rfl
  have hc0 : w.cell? ⟨g, 0, none⟩ = some (.slice a m cap) := by rw [hb.cell]; rfl
  have hf0 := hb.unfrozen 0
  have hf1 := hb.unfrozen 1
  have HO : Hid (InIs ((w.setCell ⟨g, 1, none⟩ (.bool true)).setCell ⟨g, 0, none⟩ (.slice none 0 0)) g D none ∧ Upd (fun k => k = g) w ((w.setCell ⟨g, 1, none⟩ (.bool true)).setCell ⟨g, 0, none⟩ (.slice none 0 0))) := hid
    ⟨⟨⟨none, 0, 0, by simpa using (hb.set 1 (.bool true)).set 0 (.slice none 0 0), ⟨none, 0, rfl, by simp, Rd.nil _ _, by simp, by omega, fun _ => rfl⟩, nofun⟩, hne⟩,
     (Upd.setCell w g 1 _).trans (Upd.setCell _ g 0 _) (fun _ _ x => x)⟩
  clear hb hs
  go_enter Tryd.func93, Tryd.ntmps93
  go_wp2
  go_end0
  exact ⟨rfl, HO.out.1, HO.out.2⟩

/-- the next bytes -/
def inTake (n : Nat) : Option (List UInt8) → List UInt8 × Option (List UInt8)
  | none => ([], none)
  | some l => if l.length < n then ([], none) else (l.take n, some (l.drop n))
theorem in_take (n : Nat) (N : Int) (hN : N = (n : Int)) (s : Option (List UInt8)) (g D : Nat) (w : World) (h : InIs w g D s) :
    Calls Tryd.prog 95 #[.pointer (some ⟨g, 0, none⟩), .int .i64 N] w fun e w' => ∃ a m cap, e = .returned (.slice a m cap) ∧ SlB w' (.slice a m cap) (inTake n s).1 ∧ (∀ b off, a = some ⟨b, off, none⟩ → b = D) ∧ InIs w' g D (inTake n s).2 ∧ Upd (fun k => k = g) w w' := by
  subst hN
  have H := hid h
  obtain ⟨⟨a, m, cap, hb, hs, hD⟩, hne⟩ := h
  have hc1 : w.cell? ⟨g, 1, none⟩ = some (.bool s.isNone) := by rw [hb.cell]; rfl
  have hc0 : w.cell? ⟨g, 0, none⟩ = some (.slice a m cap) := by rw [hb.cell]; rfl
  have hf0 := hb.unfrozen 0
  have HNIL : ∀ w' : World, SlB w' (.slice none 0 0) [] := fun w' => ⟨none, 0, rfl, by simp, Rd.nil _ _, by simp, by omega, fun _ => rfl⟩
  have HN := hid HNIL
  clear HNIL
  cases s with
  | none =>
    simp only [Option.isNone_none] at hc1
    clear hc0 hb hs
    go_enter Tryd.func95, Tryd.ntmps95
    go_wp2_with (go_at_call 93; (with_reducible refine (in_fails none g D _ H.out).mono ?_); rintro e w1 ⟨rfl, hi, hu⟩)
    go_ret
    exact ⟨none, 0, 0, rfl, HN.out _, nofun, hi, hu⟩
  | some l =>
    simp only [Option.isNone_some] at hc1
    simp only [Option.getD_some] at hs
    have HS := hid hs
    obtain ⟨a', c', e, h1, h2, h3, h4, h5⟩ := hs
    simp only [Value.slice.injEq] at e
    obtain ⟨rfl, rfl, rfl⟩ := e
    by_cases hlt : l.length < n
    · have hr : inTake n (some l) = ([], none) := by simp [inTake, hlt]
      rw [hr]
      clear hr hb h2
      go_enter Tryd.func95, Tryd.ntmps95
      go_wp2_with (go_at_call 93; (with_reducible refine (in_fails (some l) g D _ H.out).mono ?_); rintro e w1 ⟨rfl, hi, hu⟩)
      go_ret
      exact ⟨none, 0, 0, rfl, HN.out _, nofun, hi, hu⟩
    · have hr : inTake n (some l) = (l.take n, some (l.drop n)) := by simp [inTake, hlt]
      rw [hr]
      clear hr
      have hn1 : n ≤ l.length := by omega
      have hn2 : (n : Int) ≤ (l.length : Int) := by omega
      have hn3 : (n : Int) ≤ (cap : Int) := by omega
      have hn0 : (0 : Int) ≤ (n : Int) := by omega
      by_cases hz : l = []
      · obtain rfl : n = 0 := by subst hz; simpa using hn1
        subst hz
        have HR : ∀ (w' : World) (x : Option Addr) (c : Nat), c ≤ 9223372036854775807 → (x = none → c = 0) → SlB w' (.slice x 0 c) [] := fun w' x c hc hx => ⟨x, c, rfl, by simp, Rd.nil _ _, by simp, hc, hx⟩
        have HR2 := hid HR
        have HD2 := hid hD
        have H5 := hid h5
        simp only [List.length_nil] at hc0
        clear hlt HR hD h5 h2 hn1 hn2 hn3 h1 h3
        cases a with
        | none =>
          obtain rfl := H5.out rfl
          have HO : Hid (InIs (w.setCell ⟨g, 0, none⟩ (.slice none 0 0)) g D (some []) ∧ Upd (fun k => k = g) w (w.setCell ⟨g, 0, none⟩ (.slice none 0 0))) := hid
            ⟨⟨⟨none, 0, 0, by simpa using hb.set 0 (.slice none 0 0), HR2.out _ _ _ (by omega) (fun _ => rfl), nofun⟩, hne⟩, Upd.setCell w g 0 _⟩
          clear hb
          go_enter Tryd.func95, Tryd.ntmps95
          go_wp2
          go_ret
          exact ⟨none, 0, 0, rfl, HN.out _, nofun, HO.out.1, HO.out.2⟩
        | some ad =>
          by_cases hcz : cap = 0
          · subst hcz
            have HO : Hid (InIs (w.setCell ⟨g, 0, none⟩ (.slice (some ad) 0 0)) g D (some []) ∧ Upd (fun k => k = g) w (w.setCell ⟨g, 0, none⟩ (.slice (some ad) 0 0))) := hid
              ⟨⟨⟨some ad, 0, 0, by simpa using hb.set 0 (.slice (some ad) 0 0), HR2.out _ _ _ (by omega) nofun, fun b off e => by simpa using HD2.out b off e⟩, hne⟩, Upd.setCell w g 0 _⟩
            clear hb
            go_enter Tryd.func95, Tryd.ntmps95
            go_wp2
            go_ret
            exact ⟨some ad, 0, 0, rfl, HR2.out _ _ _ (by omega) nofun, fun b off e => (HD2.out b off e).1, HO.out.1, HO.out.2⟩
          · have HO : Hid (InIs (w.setCell ⟨g, 0, none⟩ (.slice (some ad) 0 cap)) g D (some []) ∧ Upd (fun k => k = g) w (w.setCell ⟨g, 0, none⟩ (.slice (some ad) 0 cap))) := hid
              ⟨⟨⟨some ad, 0, cap, by simpa using hb.set 0 (.slice (some ad) 0 cap), HR2.out _ _ _ h4 nofun, fun b off e => by simpa using HD2.out b off e⟩, hne⟩, Upd.setCell w g 0 _⟩
            clear hb
            go_enter Tryd.func95, Tryd.ntmps95
            go_wp2
            go_ret
            exact ⟨some ad, 0, 0, rfl, HR2.out _ _ _ (by omega) nofun, fun b off e => (HD2.out b off e).1, HO.out.1, HO.out.2⟩
      · obtain ⟨b, off, rfl, -⟩ := h2 0 (by rw [bv_length]; cases l <;> simp_all)
        obtain ⟨rfl, hDlt⟩ := hD b off rfl
        have hs1 : ∀ w' : World, w'.heap[b]? = w.heap[b]? → SlB w' (.slice (some ⟨b, off, none⟩) n n) (l.take n) := by
          intro w' hw
          refine ⟨some ⟨b, off, none⟩, n, by simp [List.length_take]; omega, by simp; omega, ?_, by simp; omega, by omega, nofun⟩
          have := (h2.sub 0 n).congr (w' := w') (fun b' off' e hlt => by simp at e; obtain ⟨rfl, rfl⟩ := e; exact hw)
          simpa [bv, List.map_take] using this
        have hs2 : ∀ w' : World, w'.heap[b]? = w.heap[b]? → ∀ x, (n < l.length → x = some ⟨b, off + n, none⟩) → x ≠ none → SlB w' (.slice x (l.length - n) (cap - n)) (l.drop n) := by
          intro w' hw x hx hx2
          refine ⟨x, cap - n, by simp, by simp; omega, ?_, by simp; omega, by omega, fun e => absurd e hx2⟩
          intro i hi
          simp [bv] at hi
          have := hx (by omega)
          subst this
          have h := (h2.sub n (l.length - n)).congr (w' := w') (fun b' off' e hlt => by simp at e; obtain ⟨rfl, rfl⟩ := e; exact hw)
          have h' := h i (by simp [bv]; omega)
          have e : bv (l.drop n) = ((bv l).drop n).take (l.length - n) := by
            rw [List.take_of_length_le (by simp [bv])]
            simp [bv, List.map_drop]
          rw [e]; exact h'
        have HS1 := hid hs1
        have HS2 := hid hs2
        clear hlt hD h2 h5 hz hs1 hs2 hn1
        by_cases hcn : cap = n
        · subst hcn
          have hl0 : l.length - cap = 0 := by omega
          have HO : Hid (InIs (w.setCell ⟨g, 0, none⟩ (.slice (some ⟨b, off, none⟩) 0 0)) g b (some (l.drop cap)) ∧ Upd (fun k => k = g) w (w.setCell ⟨g, 0, none⟩ (.slice (some ⟨b, off, none⟩) 0 0))) := hid
            ⟨⟨⟨some ⟨b, off, none⟩, 0, 0, by simpa using hb.set 0 (.slice (some ⟨b, off, none⟩) 0 0), by
                have := HS2.out (w.setCell ⟨g, 0, none⟩ (.slice (some ⟨b, off, none⟩) 0 0)) (heap_setCell_other w ⟨g, 0, none⟩ b _ (fun e => hne e)) (some ⟨b, off, none⟩) (fun h => by omega) nofun
                rw [hl0] at this; simpa using this, fun b' off' e => by simp at e; obtain ⟨rfl, rfl⟩ := e; exact ⟨rfl, by simpa using hDlt⟩⟩, hne⟩, Upd.setCell w g 0 _⟩
          have hbo : Hid ((w.setCell ⟨g, 0, none⟩ (.slice (some ⟨b, off, none⟩) 0 0)).heap[b]? = w.heap[b]?) := hid (heap_setCell_other w ⟨g, 0, none⟩ b _ (fun e => hne e))
          clear hb hl0
          go_enter Tryd.func95, Tryd.ntmps95
          go_wp2
          go_ret
          exact ⟨some ⟨b, off, none⟩, cap, cap, rfl, HS1.out _ hbo.out, fun b' off' e => by simp at e; exact e.1.symm, HO.out.1, HO.out.2⟩
        · have HO : Hid (InIs (w.setCell ⟨g, 0, none⟩ (.slice (some ⟨b, off + n, none⟩) (l.length - n) (cap - n))) g b (some (l.drop n)) ∧ Upd (fun k => k = g) w (w.setCell ⟨g, 0, none⟩ (.slice (some ⟨b, off + n, none⟩) (l.length - n) (cap - n)))) := hid
            ⟨⟨⟨some ⟨b, off + n, none⟩, l.length - n, cap - n, by simpa using hb.set 0 (.slice (some ⟨b, off + n, none⟩) (l.length - n) (cap - n)), by
                have := HS2.out (w.setCell ⟨g, 0, none⟩ (.slice (some ⟨b, off + n, none⟩) (l.length - n) (cap - n))) (heap_setCell_other w ⟨g, 0, none⟩ b _ (fun e => hne e)) (some ⟨b, off + n, none⟩) (fun _ => rfl) nofun
                simpa using this, fun b' off' e => by simp at e; obtain ⟨rfl, rfl⟩ := e; exact ⟨rfl, by simpa using hDlt⟩⟩, hne⟩, Upd.setCell w g 0 _⟩
          have hbo : Hid ((w.setCell ⟨g, 0, none⟩ (.slice (some ⟨b, off + n, none⟩) (l.length - n) (cap - n))).heap[b]? = w.heap[b]?) := hid (heap_setCell_other w ⟨g, 0, none⟩ b _ (fun e => hne e))
          clear hb
          go_enter Tryd.func95, Tryd.ntmps95
          go_wp2
          go_ret
          exact ⟨some ⟨b, off, none⟩, n, n, rfl, HS1.out _ hbo.out, fun b' off' e => by simp at e; exact e.1.symm, HO.out.1, HO.out.2⟩
end Go.Proofs.YtcjdlckfbkdibaaDoor
end
