/- Joined texts, in this order: VarIn3, VarInts, VarRead. Each one's first remark says what it proves; no condition beyond those that its theorems name. -/
import Derived.Test.YtcjdlckfbkdibaaDoorJLawOrderReplies06
import Derived.Test.YtcjdlckfbkdibaaDoorJLawOrderReplies04
import Derived.Test.YtcjdlckfbkdibaaDoorJLawOrderReplies03
import Derived.Deep.QuietTactic
section
/- Contracts of the package varint: an In, continued: Int, Within, Bytes, Text, Bool, Ints. -/
namespace Go.Proofs.YtcjdlckfbkdibaaDoor
open Go.RowKit
open Go.Lib (hid)
set_option linter.unusedVariables false

theorem readF_le : ∀ (l : List UInt8) (k u : Nat), (readF l k u).1 = 0 ∨ (k < (readF l k u).1 ∧ (readF l k u).1 ≤ k + l.length)
  | [], k, u => .inl rfl
  | c :: t, k, u => by
    rw [readF]
    split
    · exact .inl rfl
    · split
      · exact .inl rfl
      · split
        · split
          · exact .inl rfl
          · exact .inr ⟨by simp, by simp⟩
        · rcases readF_le t (k + 1) (u + c.toNat % 128 * 128 ^ k) with h | h
          · exact .inl h
          · exact .inr ⟨by omega, by simp; omega⟩
theorem readF_bd : ∀ (l : List UInt8) (k u : Nat), k ≤ 10 → u < 128 ^ k → u < 18446744073709551616 → (readF l k u).2 < 18446744073709551616
  | [], k, u, _, _, _ => by simp [readF]
  | c :: t, k, u, hk, hu, h64 => by
    rw [readF]
    split
    · simp
    · split
      · simp
      · rename_i h10 h9
        have hp : c.toNat % 128 < 128 := Nat.mod_lt _ (by omega)
        obtain ⟨-, -, o3, o4⟩ := or_shift u (c.toNat % 128) k (by omega) hu hp (fun h => by omega)
        split
        · split
          · simp
          · exact o3
        · exact readF_bd t (k + 1) _ (by omega) o4 o3

/-- the next number -/
def inInt (s : Option (List UInt8)) : Int × Option (List UInt8) :=
  if (readF (s.getD []) 0 0).1 = 0 then (0, none) else (unzz (readF (s.getD []) 0 0).2, (inTake (readF (s.getD []) 0 0).1 s).2)
theorem inInt_bd (s : Option (List UInt8)) : -9223372036854775808 ≤ (inInt s).1 ∧ (inInt s).1 ≤ 9223372036854775807 := by
  unfold inInt
  split
  · simp
  · exact unzz_bd _ (readF_bd _ 0 0 (by omega) (by decide) (by omega))

set_option maxRecDepth 100000 in
theorem in_Int (s : Option (List UInt8)) (g D : Nat) (w : World) (h : InIs w g D s) (n : Int) (s' : Option (List UInt8)) (hs : Hid (inInt s = (n, s'))) :
    Calls Tryd.prog 68 #[.pointer (some ⟨g, 0, none⟩)] w fun e w' => e = .returned (.int .i64 n) ∧ InIs w' g D s' ∧ Upd (fun k => k = g) w w' := by
  obtain ⟨k, u, hr⟩ : ∃ k u, readF (s.getD []) 0 0 = (k, u) := ⟨_, _, rfl⟩
  have HR := hid hr
  have H := hid h
  have hs2 := hs.out
  unfold inInt at hs2
  rw [hr] at hs2
  have hu : u < 18446744073709551616 := by have := readF_bd (s.getD []) 0 0 (by omega) (by decide) (by omega); rw [hr] at this; exact this
  have HU := hid hu
  clear hr h hu
  by_cases hk : k = 0
  · subst hk
    rw [if_pos rfl] at hs2
    simp only [Prod.mk.injEq] at hs2
    obtain ⟨rfl, rfl⟩ := hs2
    clear hs
    go_enter Tryd.func68, Tryd.ntmps68
    go_wp2_with (first | (go_at_call 94; (with_reducible refine (in_groups s g D _ H.out 0 u HR).mono ?_); rintro e w' ⟨rfl, rfl⟩) | (go_at_call 93; (with_reducible refine (in_fails s g D _ H.out).mono ?_); rintro e w1 ⟨rfl, hi, hu⟩))
    go_ret
    exact ⟨rfl, hi, hu⟩
  · rw [if_neg hk] at hs2
    simp only [Prod.mk.injEq] at hs2
    obtain ⟨rfl, rfl⟩ := hs2
    have hkb : ((k : Int) == 0) = false := by simp; omega
    clear hs hk
    go_enter Tryd.func68, Tryd.ntmps68
    go_wp2_with (first | (go_at_call 94; (with_reducible refine (in_groups s g D _ H.out k u HR).mono ?_); rintro e w' ⟨rfl, rfl⟩) | (go_at_call 95; (with_reducible refine (in_take k _ (by rfl) s g D _ H.out).mono ?_); rintro e w1 ⟨a, m, cap, rfl, -, -, hi, hu⟩) | (go_at_call 96; (with_reducible refine (var_back u HU.out _).mono ?_); rintro e w' ⟨rfl, rfl⟩))
    go_ret
    exact ⟨rfl, hi, hu⟩

/-- the next number, within bounds -/
def inWithin (lo hi : Int) (s : Option (List UInt8)) : Int × Option (List UInt8) :=
  if (inInt s).2 = none ∨ (inInt s).1 < lo ∨ hi < (inInt s).1 then (0, none) else inInt s
theorem in_Within (lo hi : Int) (s : Option (List UInt8)) (g D : Nat) (w : World) (h : InIs w g D s) (n : Int) (s' : Option (List UInt8)) (hs : Hid (inWithin lo hi s = (n, s'))) :
    Calls Tryd.prog 67 #[.pointer (some ⟨g, 0, none⟩), .int .i64 lo, .int .i64 hi] w fun e w' => e = .returned (.int .i64 n) ∧ InIs w' g D s' ∧ Upd (fun k => k = g) w w' := by
  obtain ⟨x, s1, hx⟩ : ∃ x s1, inInt s = (x, s1) := ⟨_, _, rfl⟩
  have HX := hid hx
  have H := hid h
  have hs2 := hs.out
  unfold inWithin at hs2
  rw [hx] at hs2
  clear hx h hs
  go_enter Tryd.func67, Tryd.ntmps67
  go_wp2_with fail
  refine (in_Int s g D w H.out x s1 HX).mono ?_
  rintro e w1 ⟨rfl, hi1, hu1⟩
  have H1 := hid hi1
  have U1 := hid hu1
  obtain ⟨⟨a, m, cap, hb, -, -⟩, -⟩ := hi1
  have hc1 : w1.cell? ⟨g, 1, none⟩ = some (.bool s1.isNone) := by rw [hb.cell]; rfl
  clear hb hu1
  cases s1 with
  | none =>
    rw [if_pos (.inl rfl)] at hs2
    simp only [Prod.mk.injEq] at hs2
    obtain ⟨rfl, rfl⟩ := hs2
    simp only [Option.isNone_none] at hc1
    go_wp2_with (go_at_call 93; (with_reducible refine (in_fails none g D _ H1.out).mono ?_); rintro e w2 ⟨rfl, hi2, hu2⟩)
    go_ret
    exact ⟨rfl, hi2, U1.out.trans hu2 (fun _ _ x => x)⟩
  | some l =>
    simp only [Option.isNone_some] at hc1
    by_cases h1 : x < lo
    · rw [if_pos (.inr (.inl h1))] at hs2
      simp only [Prod.mk.injEq] at hs2
      obtain ⟨rfl, rfl⟩ := hs2
      go_wp2_with (go_at_call 93; (with_reducible refine (in_fails (some l) g D _ H1.out).mono ?_); rintro e w2 ⟨rfl, hi2, hu2⟩)
      go_ret
      exact ⟨rfl, hi2, U1.out.trans hu2 (fun _ _ x => x)⟩
    · by_cases h2 : hi < x
      · rw [if_pos (.inr (.inr h2))] at hs2
        simp only [Prod.mk.injEq] at hs2
        obtain ⟨rfl, rfl⟩ := hs2
        go_wp2_with (go_at_call 93; (with_reducible refine (in_fails (some l) g D _ H1.out).mono ?_); rintro e w2 ⟨rfl, hi2, hu2⟩)
        go_ret
        exact ⟨rfl, hi2, U1.out.trans hu2 (fun _ _ x => x)⟩
      · rw [if_neg (by simp; omega)] at hs2
        simp only [Prod.mk.injEq] at hs2
        obtain ⟨rfl, rfl⟩ := hs2
        have h2b : decide (hi < x) = false := by simpa using h2
        go_wp2_with fail
        go_ret
        exact ⟨rfl, H1.out, U1.out⟩

/-- the next bytes, with their count -/
def inBytes (most : Int) (s : Option (List UInt8)) : List UInt8 × Option (List UInt8) := inTake (inWithin 0 most s).1.toNat (inWithin 0 most s).2
theorem inWithin_lo (lo hi : Int) (s : Option (List UInt8)) (h : lo ≤ 0) : lo ≤ (inWithin lo hi s).1 := by unfold inWithin; split <;> omega
theorem inTake_len (n : Nat) (s : Option (List UInt8)) : (inTake n s).1.length ≤ n := by
  cases s <;> simp [inTake]
  split <;> simp; omega
theorem in_Bytes (most : Int) (s : Option (List UInt8)) (g D : Nat) (w : World) (h : InIs w g D s) (hlen : (s.getD []).length ≤ 1048576) (l : List UInt8) (s' : Option (List UInt8)) (hs : Hid (inBytes most s = (l, s'))) :
    Calls Tryd.prog 97 #[.pointer (some ⟨g, 0, none⟩), .int .i64 most] w fun e w' => ∃ v, e = .returned v ∧ w'.ownsRow w.heap.size 5 1 v l.length (bv l) ∧ InIs w' g D s' ∧ Upd (fun k => k = g) w w' := by
  obtain ⟨x, s1, hx⟩ : ∃ x s1, inWithin 0 most s = (x, s1) := ⟨_, _, rfl⟩
  have HX := hid hx
  have H := hid h
  have hx0 : 0 ≤ x := by have := inWithin_lo 0 most s (by omega); rw [hx] at this; exact this
  have hs2 : inTake x.toNat s1 = (l, s') := by have := hs.out; unfold inBytes at this; rw [hx] at this; exact this
  have hll : l.length ≤ 1048576 := by
    have h1 : s1 = none ∨ ∃ r, s1 = (inTake r s).2 := by
      have h3 : s1 = (inWithin 0 most s).2 := by rw [hx]
      rw [h3]; unfold inWithin
      split
      · exact .inl rfl
      · unfold inInt; split
        · exact .inl rfl
        · exact .inr ⟨_, rfl⟩
    have h2 : (s1.getD []).length ≤ 1048576 := by
      rcases h1 with rfl | ⟨r, rfl⟩
      · simp
      · cases s with
        | none => simp [inTake]
        | some y => simp [inTake] at hlen ⊢; split <;> simp; omega
    have h4 : l = (inTake x.toNat s1).1 := by rw [hs2]
    rw [h4]
    cases s1 with
    | none => simp [inTake]
    | some y => simp [inTake] at h2 ⊢; split <;> simp; omega
  have hl : (inTake x.toNat s1).1 = l := by rw [hs2]
  have hs' : (inTake x.toNat s1).2 = s' := by rw [hs2]
  have HL := hid hl
  have HS' := hid hs'
  have hxx : Hid (x = (x.toNat : Int)) := hid (by omega)
  clear hx h hs hs2 hl hs' hlen
  go_enter Tryd.func97, Tryd.ntmps97
  go_wp2_with fail
  refine (in_Within 0 most s g D w H.out x s1 HX).mono ?_
  rintro e w1 ⟨rfl, hi1, hu1⟩
  have H1 := hid hi1
  have U1 := hid hu1
  clear hi1 hu1
  go_wp2_with fail
  refine (in_take x.toNat x hxx.out s1 g D w1 H1.out).mono ?_
  rintro e w2 ⟨a, m, cap, rfl, hsl, -, hi2, hu2⟩
  rw [HL.out] at hsl
  rw [HS'.out] at hi2
  have H2 := hid hi2
  have U2 := hid (U1.out.trans hu2 (fun _ _ x => x))
  have SL := hid hsl
  clear hi2 hu2 hsl
  go_wp2_with fail
  refine (bytes_Clone l _ w2 SL.out (by omega)).mono ?_
  rintro e w3 ⟨v3, rfl, hown, hb3⟩
  have HO := hid (ownsRow_base hown U2.out.size)
  have HI := hid (H2.out.below hb3)
  have U3 := hid (U2.out.trans (Upd.of_below (S := fun k => k = g) hb3) (fun _ _ x => x))
  clear hown hb3
  go_wp2
  go_ret
  exact ⟨_, rfl, HO.out, HI.out, U3.out⟩

theorem in_Text (most : Int) (s : Option (List UInt8)) (g D : Nat) (w : World) (h : InIs w g D s) (hlen : (s.getD []).length ≤ 1048576) (l : List UInt8) (s' : Option (List UInt8)) (hs : Hid (inBytes most s = (l, s'))) (hll : l.length ≤ 1048576) :
    Calls Tryd.prog 69 #[.pointer (some ⟨g, 0, none⟩), .int .i64 most] w fun e w' => e = .returned (.string ⟨l.toArray⟩) ∧ InIs w' g D s' ∧ Upd (fun k => k = g) w w' := by
  have H := hid h
  clear h
  go_enter Tryd.func69, Tryd.ntmps69
  go_wp2_with fail
  refine (in_Bytes most s g D w H.out hlen l s' hs).mono ?_
  rintro e w1 ⟨v1, rfl, hown, hi, hu⟩
  have HI := hid hi
  have HU := hid hu
  have hsl := ownsRow.slb hown (by omega)
  obtain ⟨a, c, rfl, -⟩ := hsl
  have hst := (ownsRow.slb hown (by omega)).str w1 (Below.refl _ _)
  clear hown hi hu hlen
  go_wp2
  go_ret
  exact ⟨rfl, HI.out, HU.out⟩

/-- the next bool -/
def inBool (s : Option (List UInt8)) : Bool × Option (List UInt8) :=
  match inTake 1 s with
  | ([], s1) => (false, s1)
  | (c :: _, s1) => if 1 < c.toNat then (false, none) else (c.toNat == 1, s1)
theorem var_NewIn (l : List UInt8) (u : Value) (w : World) (hl : SlB w u l) (hb : l.length ≤ 1048576) : Calls Tryd.prog 66 #[u] w fun e w' =>
    ∃ g D, e = .returned (.pointer (some ⟨g, 0, none⟩)) ∧ InIs w' g D (some l) ∧ w.heap.size ≤ g ∧ (D < w'.heap.size → w.heap.size ≤ D) ∧ Below w.heap.size w w' := by
  have HL := hid hl
  clear hl
  go_enter Tryd.func66, Tryd.ntmps66
  go_wp2_with fail
  refine (bytes_Clone l _ w HL.out (by omega)).mono ?_
  rintro e w1 ⟨v1, rfl, hown, hb1⟩
  have hsl := ownsRow.slb hown (by omega)
  have HSL := hid hsl
  obtain ⟨a, c, rfl, -⟩ := hsl
  have HO : Hid (∃ D, InIs (w1.alloc (.cells #[.slice a l.length c, .bool false] 129)) w1.heap.size D (some l) ∧ (D < (w1.alloc (.cells #[.slice a l.length c, .bool false] 129)).heap.size → w.heap.size ≤ D)) := hid (by
    rcases hown.2 with ⟨h1, -⟩ | ⟨g1, c1, cur, h1, h2, h3, -⟩
    · simp only [Value.slice.injEq] at h1
      obtain ⟨rfl, -, rfl⟩ := h1
      exact ⟨w1.heap.size + 1, ⟨⟨none, l.length, 0, Blk.new _ _ _, HSL.out.below (Below.new _ _), nofun⟩, by omega⟩, fun h => by simp at h⟩
    · simp only [Value.slice.injEq] at h1
      obtain ⟨rfl, -, rfl⟩ := h1
      have hlt := (Array.getElem?_eq_some_iff.1 h3).1
      exact ⟨g1, ⟨⟨some ⟨g1, 0, none⟩, l.length, c, Blk.new _ _ _, HSL.out.below (Below.new _ _), fun b off e => by simp at e; obtain ⟨rfl, rfl⟩ := e; exact ⟨rfl, by simp; omega⟩⟩, by omega⟩, fun _ => h2⟩)
  have HB := hid (Below.next hb1 (Below.new w1 (.cells #[.slice a l.length c, .bool false] 129)))
  have HS := hid hb1.size
  clear hown hb1
  go_wp2
  go_ret
  obtain ⟨D, h1, h2⟩ := HO.out
  exact ⟨w1.heap.size, D, rfl, h1, HS.out, h2, HB.out⟩
end Go.Proofs.YtcjdlckfbkdibaaDoor
end
section
/- Contracts: All, Len, Size, the reference's Int, awake; the law VarintInts. -/
namespace Go.Proofs.YtcjdlckfbkdibaaDoor
open Go.RowKit
open Go.Lib (hid)
set_option linter.unusedVariables false

theorem OutIs.slb {w : World} {g : Nat} {v : Value} {l : List UInt8} (h : OutIs w g v l) (hl : l.length ≤ 9223372036854775807) : SlB w v l := ownsRow.slb (ownsRow_base h.own (Nat.zero_le _)) hl
theorem OutIs.below {w w' : World} {g : Nat} {v : Value} {l : List UInt8} (h : OutIs w g v l) (hb : Below w.heap.size w w') : OutIs w' g v l :=
  ⟨Blk.below hb h.blk, ownsRow_below h.own hb, h.ne⟩

theorem out_All (g : Nat) (v : Value) (l : List UInt8) (w : World) (h : OutIs w g v l) (hl : l.length ≤ 1048576) :
    Calls Tryd.prog 62 #[.pointer (some ⟨g, 0, none⟩)] w fun e w' => ∃ u, e = .returned u ∧ w'.ownsRow w.heap.size 5 1 u l.length (bv l) ∧ Below w.heap.size w w' := by
  have hc0 : w.cell? ⟨g, 0, none⟩ = some v := by rw [h.blk.cell]; rfl
  have HS := hid (h.slb (by omega))
  clear h
  go_enter Tryd.func62, Tryd.ntmps62
  go_wp2_with fail
  refine (bytes_Clone l v w HS.out (by omega)).mono ?_
  rintro e w1 ⟨v1, rfl, hown, hb⟩
  go_wp2
  go_ret
  exact ⟨_, rfl, hown, hb⟩

set_option maxRecDepth 100000 in
/-- the reference's bytes of a number -/
theorem ref_Int (n : Int) (h1 : -9223372036854775808 ≤ n) (h2 : n ≤ 9223372036854775807) (w : World) :
    Calls Tryd.prog 71 #[.int .i64 n] w fun e w' => ∃ v, e = .returned v ∧ w'.ownsRow w.heap.size 5 1 v (enc (zz n)).length (bv (enc (zz n))) ∧ Below w.heap.size w w' := by
  have hlen := enc_len10 (zz n) (zz_lt n h1 h2)
  have hz := hid (zz_lt n h1 h2)
  go_enter Tryd.func71, Tryd.ntmps71
  go_wp2_with (go_at_call 98; (with_reducible refine (ref_Twice n h1 h2 _).mono ?_); rintro e w' ⟨rfl, rfl⟩)
  go_loopw [3, 4] (fun v3 v4 wr => ∃ (m : List UInt8) (x : Nat), v4 = .int .u64 x ∧ x < 18446744073709551616 ∧ wr.ownsRow w.heap.size 5 1 v3 m.length (bv m) ∧ m.length ≤ 10 ∧ Hid (m ++ enc x = enc (zz n)) ∧ Below w.heap.size w wr) (fun _ v4 _ => (intOf v4).toNat)
  case atStart => exact ⟨[], zz n, rfl, hz.out, World.ownsRow_nil _ _ _ _, by simp, hid rfl, Below.refl _ _⟩
  case round =>
    obtain ⟨m, x, rfl, hx, ho, hm, henc, hb⟩ := hrel
    have hml : m.length + (enc x).length = (enc (zz n)).length := by
      have := congrArg List.length henc.out
      simpa using this
    have hpos := enc_pos x
    by_cases h128 : x < 128
    · have HE := hid (enc_small x h128)
      have hb1 : m.length + 1 ≤ 140737488355328 := by omega
      clear hml hpos hlen
      go_wp2_with (at_builtin; refine wpList_append1 T_bytes _ rfl _ _ #[.int .u8 (x : Int)] rfl w.heap.size _ _ _ rfl ho rfl rfl ?c1 ?c2 ?c3 ?_)
      case c1 => rfl
      case c2 => omega
      case c3 => exact hb.size
      intro v' w1 hown' hgrow hne
      have hbv : Hid (bv (enc (zz n)) = bv m ++ [.int .u8 (x : Int)]) := hid (by
        rw [← henc.out, HE.out, bv_append, bv_one]
        congr 3
        simp; omega)
      have hlu : Hid ((enc (zz n)).length = m.length + 1) := hid (by rw [← henc.out, HE.out]; simp)
      have HO : Hid (w1.ownsRow w.heap.size 5 1 v' (enc (zz n)).length (bv (enc (zz n)))) := hid (by rw [hbv.out, hlu.out]; exact hown')
      have HB : Hid (Below w.heap.size w w1) := hid (hb.grown hgrow hb.size (fun k hk => (ho.lt k hk).1))
      clear hown' hgrow
      go_wp2
      go_ret
      exact ⟨_, rfl, HO.out, HB.out⟩
    · have HE := hid (enc_big x h128)
      have hb1 : m.length + 1 ≤ 10 := by have := enc_pos (x / 128); rw [HE.out] at hml; simp at hml; omega
      clear hml hpos hlen
      go_wp2_with (at_builtin; refine wpList_append1 T_bytes _ rfl _ _ #[.int .u8 ((x : Int) % 128 + 128)] rfl w.heap.size _ _ _ rfl ho rfl rfl ?c1 ?c2 ?c3 ?_)
      case c1 => rfl
      case c2 => omega
      case c3 => exact hb.size
      intro v' w1 hown' hgrow hne
      have hbv : Hid (bv (m ++ [UInt8.ofNat (x % 128 + 128)]) = bv m ++ [.int .u8 ((x : Int) % 128 + 128)]) := hid (by
        rw [bv_append, bv_one]
        congr 3
        simp; omega)
      have HO : Hid (w1.ownsRow w.heap.size 5 1 v' (m ++ [UInt8.ofNat (x % 128 + 128)]).length (bv (m ++ [UInt8.ofNat (x % 128 + 128)]))) := hid (by rw [hbv.out]; simpa using hown')
      have HB : Below w.heap.size w w1 := hb.grown hgrow hb.size (fun k hk => (ho.lt k hk).1)
      have henc2 : Hid ((m ++ [UInt8.ofNat (x % 128 + 128)]) ++ enc (x / 128) = enc (zz n)) := hid (by rw [← henc.out, HE.out]; simp)
      clear hown' hgrow hne hb
      go_wp2
      go_roundw
      case rel => exact ⟨m ++ [UInt8.ofNat (x % 128 + 128)], x / 128, rfl, by omega, HO.out, by simp; omega, henc2, HB⟩
      case measure => simp [intOf]; omega

/-- a new Out -/
theorem OutIs.new (w : World) : OutIs (w.alloc (.cells #[.slice none 0 0] 96)) w.heap.size (.slice none 0 0) [] :=
  ⟨Blk.new _ _ _, World.ownsRow_nil _ _ _ _, by simp [Value.ownBlock]⟩

end Go.Proofs.YtcjdlckfbkdibaaDoor
end
section
/- Contract: the reference's Read. -/
namespace Go.Proofs.YtcjdlckfbkdibaaDoor
open Go.RowKit
open Go.Lib (hid)
set_option linter.unusedVariables false

theorem cong_step (a b c : Int) : (a % 18446744073709551616 + (b * (c % 18446744073709551616)) % 18446744073709551616) % 18446744073709551616 = (a + b * c) % 18446744073709551616 := by
  rw [← Int.add_emod, Int.add_emod, Int.mul_emod, Int.emod_emod_of_dvd _ (Int.dvd_refl _), ← Int.mul_emod, ← Int.add_emod]

theorem cong_mul (a b : Int) : (a % 18446744073709551616 * b) % 18446744073709551616 = (a * b) % 18446744073709551616 := by
  rw [Int.mul_emod, Int.emod_emod_of_dvd _ (Int.dvd_refl _), ← Int.mul_emod]

end Go.Proofs.YtcjdlckfbkdibaaDoor
end
