/- Joined texts, in this order: VarOut, VarNum, VarObj. Each one's first remark says what it proves; no condition beyond those that its theorems name. -/
import Derived.Test.YtcjdlckfbkdibaaDoorJLawOrderReplies03
import Derived.Test.YtcjdlckfbkdibaaDoorJLawOrderReplies02
import Derived.Deep.RegionWith
section
/- Contracts of the package varint: what is written. -/
namespace Go.Proofs.YtcjdlckfbkdibaaDoor
open Go.RowKit
open Go.Lib (hid)
set_option linter.unusedVariables false

theorem or128 (x : Nat) : bits .or .u8 ((x : Int) % 256) 128 = ((x % 128 + 128 : Nat) : Int) := by
  have h := u8_or_nat (x % 256) 128 (by omega) (by omega)
  have hall : ∀ y : Fin 256, (y.val ||| 128) = y.val % 128 + 128 := by decide +kernel
  have e : x % 256 ||| 128 = x % 128 + 128 := by
    have := hall ⟨x % 256, by omega⟩
    simp only at this
    omega
  rw [e] at h
  exact h

/-- behind an append: the block is the one that was there, or a new one -/
theorem own_step {w0 w : World} {v vb v' : Value} (hob : ∀ k, vb.ownBlock = some k → v.ownBlock = some k ∨ w0.heap.size ≤ k) (hs : w0.heap.size ≤ w.heap.size)
    (hwh : ∀ k, v'.ownBlock = some k → vb.ownBlock = some k ∨ w.heap.size ≤ k) : ∀ k, v'.ownBlock = some k → v.ownBlock = some k ∨ w0.heap.size ≤ k := by
  intro k hk
  rcases hwh k hk with h | h
  · exact hob k h
  · exact .inr (by omega)

set_option maxRecDepth 100000 in
theorem var_appended (l : List UInt8) (u : Nat) (hu : u < 18446744073709551616) (v : Value) (w : World) (hown : w.ownsRow 0 5 1 v l.length (bv l)) (hl : l.length ≤ 1048576) :
    Calls Tryd.prog 89 #[v, .int .u64 (u : Int)] w fun e w' => ∃ v', e = .returned v' ∧ w'.ownsRow 0 5 1 v' (l ++ enc u).length (bv (l ++ enc u)) ∧ Upd (fun k => v.ownBlock = some k) w w' ∧
      (∀ k, v'.ownBlock = some k → v.ownBlock = some k ∨ w.heap.size ≤ k) ∧ v' ≠ .slice none 0 0 := by
  have hlen := enc_len10 u hu
  go_enter Tryd.func89, Tryd.ntmps89
  go_wp2
  go_loopw [0, 1] (fun v0 v1 wr => ∃ (m : List UInt8) (x : Nat), v1 = .int .u64 x ∧ x < 18446744073709551616 ∧ wr.ownsRow 0 5 1 v0 m.length (bv m) ∧ m.length ≤ l.length + 10 ∧ Hid (m ++ enc x = l ++ enc u) ∧ Upd (fun k => v.ownBlock = some k) w wr ∧ Hid (∀ k, v0.ownBlock = some k → v.ownBlock = some k ∨ w.heap.size ≤ k)) (fun _ v1 _ => (intOf v1).toNat)
  case atStart => exact ⟨l, u, rfl, hu, hown, by omega, hid rfl, Upd.refl _ _, hid (fun k hk => .inl hk)⟩
  case round =>
    obtain ⟨m, x, rfl, hx, ho, hm, henc, hupd, hob⟩ := hrel
    have hml : m.length + (enc x).length = l.length + (enc u).length := by
      have := congrArg List.length henc.out
      simpa using this
    have hpos := enc_pos x
    by_cases h128 : x < 128
    · have HE := hid (enc_small x h128)
      have hb1 : m.length + 1 ≤ 140737488355328 := by omega
      clear hml hpos hlen
      go_wp2_with (at_builtin; refine wpList_append1w T_bytes _ rfl _ _ #[.int .u8 (x : Int)] rfl 0 _ _ _ rfl ho rfl rfl ?c1 ?c2 ?c3 ?_)
      case c1 => rfl
      case c2 => omega
      case c3 => omega
      intro v' w1 hown' hgrow hne hwh
      have hbv : Hid (bv (l ++ enc u) = bv m ++ [.int .u8 (x : Int)]) := hid (by
        rw [← henc.out, HE.out, bv_append, bv_one]
        congr 3
        simp; omega)
      have hlu : Hid ((l ++ enc u).length = m.length + 1) := hid (by rw [← henc.out, HE.out]; simp)
      have HO : Hid (w1.ownsRow 0 5 1 v' (l ++ enc u).length (bv (l ++ enc u))) := hid (by rw [hbv.out, hlu.out]; exact hown')
      have hu2 : Upd (fun k => v.ownBlock = some k) w w1 := hupd.trans (Upd.of_grown hgrow) (fun i hi h => by rcases hob.out i h with h | h; exact h; omega)
      have hob2 : Hid (∀ k, v'.ownBlock = some k → v.ownBlock = some k ∨ w.heap.size ≤ k) := hid (own_step hob.out hupd.size hwh)
      clear hown' hgrow hwh
      go_wp2
      go_ret
      exact ⟨_, rfl, HO.out, hu2, hob2.out, hne⟩
    · have HE := hid (enc_big x h128)
      have hb1 : m.length + 1 ≤ l.length + 10 := by have := enc_pos (x / 128); rw [HE.out] at hml; simp at hml; omega
      have e1 := or128 x
      obtain ⟨y, hy⟩ : ∃ y : Nat, y = x % 128 + 128 := ⟨_, rfl⟩
      rw [← hy] at e1
      have HY := hid hy
      clear hml hpos hlen hy
      go_wp2_with (at_builtin; refine wpList_append1w T_bytes _ rfl _ _ #[.int .u8 (y : Int)] rfl 0 _ _ _ rfl ho rfl rfl ?c1 ?c2 ?c3 ?_)
      case c1 => rfl
      case c2 => omega
      case c3 => omega
      intro v' w1 hown' hgrow hne hwh
      have hbv : Hid (bv (m ++ [UInt8.ofNat y]) = bv m ++ [.int .u8 (y : Int)]) := hid (by
        rw [bv_append, bv_one]
        congr 3
        have := HY.out
        simp; omega)
      have HO : Hid (w1.ownsRow 0 5 1 v' (m ++ [UInt8.ofNat y]).length (bv (m ++ [UInt8.ofNat y]))) := hid (by rw [hbv.out]; simpa using hown')
      have hu2 : Upd (fun k => v.ownBlock = some k) w w1 := hupd.trans (Upd.of_grown hgrow) (fun i hi h => by rcases hob.out i h with h | h; exact h; omega)
      have hob2 : Hid (∀ k, v'.ownBlock = some k → v.ownBlock = some k ∨ w.heap.size ≤ k) := hid (own_step hob.out hupd.size hwh)
      have henc2 : Hid ((m ++ [UInt8.ofNat y]) ++ enc (x / 128) = l ++ enc u) := hid (by rw [← henc.out, HE.out, HY.out]; simp)
      clear hown' hgrow hne hwh
      go_wp2
      go_roundw
      case rel => exact ⟨m ++ [UInt8.ofNat y], x / 128, rfl, by omega, HO.out, by simp; omega, henc2, hu2, hob2⟩
      case measure => simp [intOf]; omega
end Go.Proofs.YtcjdlckfbkdibaaDoor
end
section
/- Contracts of the package varint: numbers and their signs. -/
namespace Go.Proofs.YtcjdlckfbkdibaaDoor
open Go.RowKit
open Go.Lib (hid)
set_option linter.unusedVariables false

theorem xor_u64_zero (x : Nat) (hx : x < 18446744073709551616) : bits .xor .u64 (x : Int) 0 = (x : Int) := by
  have h := u64_xor_nat x 0 hx (by omega)
  rw [Nat.xor_zero] at h
  exact h
theorem xor_u64_ones (x : Nat) (hx : x < 18446744073709551616) : bits .xor .u64 (x : Int) 18446744073709551615 = 18446744073709551615 - (x : Int) := by
  have h := u64_xor_nat x 18446744073709551615 hx (by omega)
  have h2 : x ^^^ 18446744073709551615 = 18446744073709551615 - x := by
    have h := congrArg BitVec.toNat (BitVec.xor_allOnes (x := BitVec.ofNat 64 x))
    rw [BitVec.toNat_xor, BitVec.toNat_not, BitVec.toNat_allOnes, BitVec.toNat_ofNat, Nat.mod_eq_of_lt (by omega)] at h
    simpa using h
  rw [h2] at h
  rw [show ((18446744073709551615 : Nat) : Int) = 18446744073709551615 from rfl] at h
  rw [h]; omega
theorem xor_i64_zero (x : Int) (h1 : 0 ≤ x) (h2 : x ≤ 9223372036854775807) : bits .xor .i64 x 0 = x := by
  show IntKind.i64.wrap ((BitVec.ofInt 64 x ^^^ BitVec.ofInt 64 0).toNat : Int) = x
  have e0 : BitVec.ofInt 64 0 = 0#64 := by decide
  rw [e0, BitVec.xor_zero]
  obtain ⟨X, rfl⟩ := Int.eq_ofNat_of_zero_le h1
  rw [BitVec.ofInt_natCast, BitVec.toNat_ofNat, Nat.mod_eq_of_lt (by omega), IntKind.wrap_i64]
  omega
theorem xor_i64_ones (x : Int) (h1 : 0 ≤ x) (h2 : x ≤ 9223372036854775807) : bits .xor .i64 x (-1) = -x - 1 := by
  show IntKind.i64.wrap ((BitVec.ofInt 64 x ^^^ BitVec.ofInt 64 (-1)).toNat : Int) = -x - 1
  have e0 : BitVec.ofInt 64 (-1) = BitVec.allOnes 64 := by decide
  rw [e0, BitVec.xor_allOnes, BitVec.toNat_not]
  obtain ⟨X, rfl⟩ := Int.eq_ofNat_of_zero_le h1
  rw [BitVec.ofInt_natCast, BitVec.toNat_ofNat, Nat.mod_eq_of_lt (by omega), IntKind.wrap_i64]
  omega
theorem turned_pos (n : Int) (h0 : 0 ≤ n) (h2 : n ≤ 9223372036854775807) : bits .xor .u64 (n * 2) (n / 9223372036854775808) = ((zz n : Nat) : Int) := by
  rw [show n / 9223372036854775808 = 0 by omega]
  have h := xor_u64_zero (2 * n).toNat (by omega)
  rw [show (((2 * n).toNat : Nat) : Int) = n * 2 by omega] at h
  rw [h]; unfold zz; rw [if_pos h0]; omega
theorem turned_neg (n : Int) (h0 : n < 0) (h1 : -9223372036854775808 ≤ n) : bits .xor .u64 (IntKind.u64.wrap (IntKind.u64.wrap n * 2)) (IntKind.u64.wrap (n / 9223372036854775808)) = ((zz n : Nat) : Int) := by
  rw [show n / 9223372036854775808 = -1 by omega, IntKind.wrap_u64, IntKind.wrap_u64, IntKind.wrap_u64]
  have e1 : (n % 18446744073709551616 * 2) % 18446744073709551616 = ((2 * n + 18446744073709551616).toNat : Int) := by omega
  have e2 : (-1 : Int) % 18446744073709551616 = 18446744073709551615 := by decide
  rw [e1, e2, xor_u64_ones _ (by omega)]
  unfold zz; rw [if_neg (by omega)]; omega
theorem back_eq (u : Nat) (hu : u < 18446744073709551616) : bits .xor .i64 ((u : Int) / 2) (wrap64 (-wrap64 (bits .and .u64 (u : Int) 1))) = unzz u := by
  rw [and_one_u64 (u : Int) (by omega) (by omega)]
  unfold unzz
  by_cases h : u % 2 = 0
  · rw [if_pos h, show ((u : Int) % 2) = 0 by omega]
    have e : wrap64 (-wrap64 0) = 0 := by unfold wrap64; omega
    rw [e, xor_i64_zero _ (by omega) (by omega)]
    omega
  · rw [if_neg h, show ((u : Int) % 2) = 1 by omega]
    have e : wrap64 (-wrap64 1) = -1 := by unfold wrap64; omega
    rw [e, xor_i64_ones _ (by omega) (by omega)]
    omega

theorem var_turned (n : Int) (h1 : -9223372036854775808 ≤ n) (h2 : n ≤ 9223372036854775807) (w : World) :
    Calls Tryd.prog 90 #[.int .i64 n] w fun e w' => e = .returned (.int .u64 ((zz n : Nat) : Int)) ∧ w = w' := by
  by_cases h0 : 0 ≤ n
  · go_enter Tryd.func90, Tryd.ntmps90
    go_wp2
    go_ret
    exact ⟨ret_int (turned_pos n h0 h2), rfl⟩
  · go_enter Tryd.func90, Tryd.ntmps90
    go_wp2
    go_ret
    exact ⟨ret_int (turned_neg n (by omega) h1), rfl⟩
theorem var_back (u : Nat) (hu : u < 18446744073709551616) (w : World) :
    Calls Tryd.prog 96 #[.int .u64 (u : Int)] w fun e w' => e = .returned (.int .i64 (unzz u)) ∧ w = w' := by
  by_cases h0 : u % 2 = 0
  · go_enter Tryd.func96, Tryd.ntmps96
    go_wp2
    go_ret
    exact ⟨ret_int (back_eq u hu), rfl⟩
  · go_enter Tryd.func96, Tryd.ntmps96
    go_wp2
    go_ret
    exact ⟨ret_int (back_eq u hu), rfl⟩
theorem ref_Twice (n : Int) (h1 : -9223372036854775808 ≤ n) (h2 : n ≤ 9223372036854775807) (w : World) :
    Calls Tryd.prog 98 #[.int .i64 n] w fun e w' => e = .returned (.int .u64 ((zz n : Nat) : Int)) ∧ w = w' := by
  by_cases h0 : n < 0
  · go_enter Tryd.func98, Tryd.ntmps98
    go_wp2
    go_ret
    exact ⟨ret_int (by unfold zz; split <;> omega), rfl⟩
  · go_enter Tryd.func98, Tryd.ntmps98
    go_wp2
    go_ret
    exact ⟨ret_int (by unfold zz; split <;> omega), rfl⟩
end Go.Proofs.YtcjdlckfbkdibaaDoor
end
section
/- Contracts of the package varint: an Out. -/
namespace Go.Proofs.YtcjdlckfbkdibaaDoor
open Go.RowKit
open Go.Lib (hid)
set_option linter.unusedVariables false

/-- at block g stands an Out that has written l, in the slice v -/
structure OutIs (w : World) (g : Nat) (v : Value) (l : List UInt8) : Prop where
  blk : Blk w g #[v]
  own : w.ownsRow 0 5 1 v l.length (bv l)
  ne : v.ownBlock ≠ some g
/-- what writing does to the memory -/
structure OutStep (g : Nat) (v v' : Value) (w w' : World) : Prop where
  upd : Upd (fun k => k = g ∨ v.ownBlock = some k) w w'
  wh : ∀ k, v'.ownBlock = some k → v.ownBlock = some k ∨ w.heap.size ≤ k
theorem OutStep.trans {g : Nat} {u v x : Value} {a b c : World} (h : OutStep g u v a b) (k : OutStep g v x b c) : OutStep g u x a c :=
  ⟨h.upd.trans k.upd (fun i hi hs => by rcases hs with h1 | h1; exact .inl h1; rcases h.wh i h1 with h2 | h2; exact .inr h2; omega),
   fun i hi => by rcases k.wh i hi with h1 | h1; exact h.wh i h1; exact .inr (by have := h.upd.size; omega)⟩

theorem out_stored {g : Nat} {v v1 : Value} {l m : List UInt8} {w w0 w1 : World} (h : OutIs w g v l) (hd : Below w.heap.size w w0) (hown : w1.ownsRow 0 5 1 v1 m.length (bv m)) (hupd : Upd (fun k => v.ownBlock = some k) w0 w1)
    (hwh : ∀ k, v1.ownBlock = some k → v.ownBlock = some k ∨ w0.heap.size ≤ k) : OutIs (w1.setCell ⟨g, 0, none⟩ v1) g v1 m ∧ OutStep g v v1 w (w1.setCell ⟨g, 0, none⟩ v1) := by
  have hg : g < w.heap.size := h.blk.lt
  have hne : ∀ k, v1.ownBlock = some k → k ≠ g := by
    intro k hk e
    subst e
    rcases hwh k hk with x | x
    · exact h.ne x
    · have := hd.size; omega
  have hb1 : Blk w1 g #[v] := (Blk.below hd h.blk).upd hupd h.ne
  have hu : Upd (fun k => k = g ∨ v.ownBlock = some k) w w1 := (Upd.of_below hd).trans hupd (fun i _ x => .inr x)
  refine ⟨⟨by simpa using hb1.set 0 v1, (Upd.setCell w1 g 0 v1).owns hown (fun k hk e => hne k hk e), fun e => hne g e rfl⟩,
    ⟨hu.trans (Upd.setCell w1 g 0 v1) (fun i _ x => .inl x), fun k hk => by rcases hwh k hk with x | x; exact .inl x; exact .inr (by have := hd.size; omega)⟩⟩

set_option maxRecDepth 100000 in
theorem var_Out_Int (n : Int) (h1 : -9223372036854775808 ≤ n) (h2 : n ≤ 9223372036854775807) (g : Nat) (v : Value) (l : List UInt8) (w : World) (h : OutIs w g v l) (hl : l.length ≤ 1048576) :
    Calls Tryd.prog 60 #[.pointer (some ⟨g, 0, none⟩), .int .i64 n] w fun e w' => ∃ v', e = .returned (.pointer (some ⟨g, 0, none⟩)) ∧ OutIs w' g v' (l ++ enc (zz n)) ∧ OutStep g v v' w w' ∧ v' ≠ .slice none 0 0 := by
  have hc : w.cell? ⟨g, 0, none⟩ = some v := by rw [h.blk.cell]; rfl
  have hz := hid (zz_lt n h1 h2)
  have H := hid h
  go_enter Tryd.func60, Tryd.ntmps60
  go_wp2
  go_region_with (first
    | (go_at_call 90; (with_reducible refine (var_turned n h1 h2 _).mono ?_); rintro e w' ⟨rfl, rfl⟩)
    | (go_at_call 89; (with_reducible refine (var_appended l (zz n) hz.out v _ ?_ hl).mono ?_); exact H.out.own; rintro e w1 ⟨v1, rfl, hown, hupd, hwh, hne⟩; (obtain ⟨g1, c1, rfl⟩ := Joins.ownsRow_form hown (by have := enc_pos (zz n); simp; omega)); (have hb1 : Blk w1 g #[v] := (Blk.below (Below.refl _ _).drew H.out.blk).upd hupd H.out.ne); (have hf : w1.frozen? ⟨g, 0, none⟩ = false := hb1.unfrozen 0); (have hc1 : w1.cell? ⟨g, 0, none⟩ = some v := by rw [hb1.cell]; rfl)))
  all_goals
    have HO : Hid (OutIs (w1.setCell ⟨g, 0, none⟩ (.slice (some ⟨g1, 0, none⟩) (l.length + (enc (zz n)).length) c1)) g (.slice (some ⟨g1, 0, none⟩) (l.length + (enc (zz n)).length) c1) (l ++ enc (zz n)) ∧ OutStep g v (.slice (some ⟨g1, 0, none⟩) (l.length + (enc (zz n)).length) c1) w (w1.setCell ⟨g, 0, none⟩ (.slice (some ⟨g1, 0, none⟩) (l.length + (enc (zz n)).length) c1))) := hid (by
      have := out_stored H.out (Below.refl _ _).drew hown hupd hwh
      simpa using this)
    clear hown hupd hwh hb1 hf hc1
    go_wp2
    go_ret
    exact ⟨_, rfl, HO.out.1, HO.out.2, by simp⟩
end Go.Proofs.YtcjdlckfbkdibaaDoor
end
