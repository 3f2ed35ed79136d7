/- Contracts of the package varint: an Out. -/
import Derived.Test.YtdchopckbklncaaVarNum
import Derived.Deep.RegionWith
namespace Go.Proofs.Ytdchopckbklncaa
open Go.RowKit
open Go.Lib (hid)
set_option linter.unusedVariables false

/-- at block g stands an Out that has written l, in the slice v -/
structure OutIs (w : World) (g : Nat) (v : Value) (l : List UInt8) : Prop where
  blk : Blk w g #[v]
  own : w.ownsRow 0 5 1 v l.length (bv l)
  ne : v.ownBlock ≠ some g
/-- what writing does to the memory -/
structure OutStep (g : Nat) (v v' : Value) (w w' : World) : Prop where
  upd : Upd (fun k => k = g ∨ v.ownBlock = some k) w w'
  wh : ∀ k, v'.ownBlock = some k → v.ownBlock = some k ∨ w.heap.size ≤ k
theorem OutStep.trans {g : Nat} {u v x : Value} {a b c : World} (h : OutStep g u v a b) (k : OutStep g v x b c) : OutStep g u x a c :=
  ⟨h.upd.trans k.upd (fun i hi hs => by rcases hs with h1 | h1; exact .inl h1; rcases h.wh i h1 with h2 | h2; exact .inr h2; omega),
   fun i hi => by rcases k.wh i hi with h1 | h1; exact h.wh i h1; exact .inr (by have := h.upd.size; omega)⟩

theorem out_stored {g : Nat} {v v1 : Value} {l m : List UInt8} {w w0 w1 : World} (h : OutIs w g v l) (hd : Below w.heap.size w w0) (hown : w1.ownsRow 0 5 1 v1 m.length (bv m)) (hupd : Upd (fun k => v.ownBlock = some k) w0 w1)
    (hwh : ∀ k, v1.ownBlock = some k → v.ownBlock = some k ∨ w0.heap.size ≤ k) : OutIs (w1.setCell ⟨g, 0, none⟩ v1) g v1 m ∧ OutStep g v v1 w (w1.setCell ⟨g, 0, none⟩ v1) := by
  have hg : g < w.heap.size := h.blk.lt
  have hne : ∀ k, v1.ownBlock = some k → k ≠ g := by
    intro k hk e
    subst e
    rcases hwh k hk with x | x
    · exact h.ne x
    · have := hd.size; omega
  have hb1 : Blk w1 g #[v] := (Blk.below hd h.blk).upd hupd h.ne
  have hu : Upd (fun k => k = g ∨ v.ownBlock = some k) w w1 := (Upd.of_below hd).trans hupd (fun i _ x => .inr x)
  refine ⟨⟨by simpa using hb1.set 0 v1, (Upd.setCell w1 g 0 v1).owns hown (fun k hk e => hne k hk e), fun e => hne g e rfl⟩,
    ⟨hu.trans (Upd.setCell w1 g 0 v1) (fun i _ x => .inl x), fun k hk => by rcases hwh k hk with x | x; exact .inl x; exact .inr (by have := hd.size; omega)⟩⟩

set_option maxRecDepth 100000 in
theorem var_Out_Int (n : Int) (h1 : -9223372036854775808 ≤ n) (h2 : n ≤ 9223372036854775807) (g : Nat) (v : Value) (l : List UInt8) (w : World) (h : OutIs w g v l) (hl : l.length ≤ 1048576) :
    Calls Try.prog 15 #[.pointer (some ⟨g, 0, none⟩), .int .i64 n] w fun e w' => ∃ v', e = .returned (.pointer (some ⟨g, 0, none⟩)) ∧ OutIs w' g v' (l ++ enc (zz n)) ∧ OutStep g v v' w w' ∧ v' ≠ .slice none 0 0 := by
  have hc : w.cell? ⟨g, 0, none⟩ = some v := by rw [h.blk.cell]; rfl
  have hz := hid (zz_lt n h1 h2)
  have H := hid h
  go_enter Try.func15, Try.ntmps15
  go_wp2
  go_region_with (first
    | (go_at_call 77; (with_reducible refine (var_turned n h1 h2 _).mono ?_); rintro e w' ⟨rfl, rfl⟩)
    | (go_at_call 76; (with_reducible refine (var_appended l (zz n) hz.out v _ ?_ hl).mono ?_); exact H.out.own; rintro e w1 ⟨v1, rfl, hown, hupd, hwh, hne⟩; (obtain ⟨g1, c1, rfl⟩ := Joins.ownsRow_form hown (by have := enc_pos (zz n); simp; omega)); (have hb1 : Blk w1 g #[v] := (Blk.below (Below.refl _ _).drew H.out.blk).upd hupd H.out.ne); (have hf : w1.frozen? ⟨g, 0, none⟩ = false := hb1.unfrozen 0); (have hc1 : w1.cell? ⟨g, 0, none⟩ = some v := by rw [hb1.cell]; rfl)))
  all_goals
    have HO : Hid (OutIs (w1.setCell ⟨g, 0, none⟩ (.slice (some ⟨g1, 0, none⟩) (l.length + (enc (zz n)).length) c1)) g (.slice (some ⟨g1, 0, none⟩) (l.length + (enc (zz n)).length) c1) (l ++ enc (zz n)) ∧ OutStep g v (.slice (some ⟨g1, 0, none⟩) (l.length + (enc (zz n)).length) c1) w (w1.setCell ⟨g, 0, none⟩ (.slice (some ⟨g1, 0, none⟩) (l.length + (enc (zz n)).length) c1))) := hid (by
      have := out_stored H.out (Below.refl _ _).drew hown hupd hwh
      simpa using this)
    clear hown hupd hwh hb1 hf hc1
    go_wp2
    go_ret
    exact ⟨_, rfl, HO.out.1, HO.out.2, by simp⟩
end Go.Proofs.Ytdchopckbklncaa
