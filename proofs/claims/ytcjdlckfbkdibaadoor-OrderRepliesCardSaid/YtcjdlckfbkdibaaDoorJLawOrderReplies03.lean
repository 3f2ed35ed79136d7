/- Joined texts, in this order: Bytes, VarMath, VarReadMath. Each one's first remark says what it proves; no condition beyond those that its theorems name. -/
import Derived.Test.YtcjdlckfbkdibaaDoorJLawOrderReplies01
import Derived.Test.YtcjdlckfbkdibaaDoorProg
import Derived.Lib.SlBytesConst
import Derived.Deep.QuietTactic
import Derived.BigQuiet
import Derived.Deep.RegionHeld3
section
/- Contracts of the package bytes: Equal, Clone. -/
namespace Go.Proofs.YtcjdlckfbkdibaaDoor
open Go.RowKit
open Go.Lib (hid)
set_option linter.unusedVariables false

theorem T_bytes : SlT Tryd.prog 28 5 (.int .u8 0) 1 1 := SlT.mk' Tryd.underlying28 (by kernel_rfl) rfl (by decide) (by decide)
theorem run_str (w : World) (a : Option Addr) (n cap : Nat) (l : List UInt8) (hn : n = l.length) (h : Rd w a (bv l)) :
    (convert 28 9 (.slice a n cap)).run Tryd.prog w = .ok (.string ⟨l.toArray⟩) w :=
  run_bytes_str 28 5 9 Tryd.underlying28 Tryd.underlying5 Tryd.underlying9 w a n cap l hn h

theorem Rd.nil_of_none {w : World} {xs : List Value} (h : Rd w none xs) : xs = [] := by
  cases xs with
  | nil => rfl
  | cons y ys => obtain ⟨b, off, had, _⟩ := h 0 (by simp); cases had

theorem bv_oneCell (l : List UInt8) : ∀ u ∈ bv l, u.oneCell' = true := by
  intro u hu
  obtain ⟨_, _, rfl⟩ := List.mem_map.1 hu
  rfl

theorem bytes_Clone (l : List UInt8) (u : Value) (w : World) (hl : SlB w u l) (hb : l.length ≤ 140737488355328) : Calls Tryd.prog 92 #[u] w fun e w' =>
    ∃ v, e = .returned v ∧ w'.ownsRow w.heap.size 5 1 v l.length (bv l) ∧ Below w.heap.size w w' := by
  obtain ⟨a, c, rfl, h1, h2, -⟩ := hl
  have hn := fun (w : World) (a : Option Addr) (n c : Nat) => Lib.run_eql_slice_nil (P := Tryd.prog) w 28 5 a n c 0 0 Tryd.underlying28
  cases a with
  | none =>
    have := Rd.nil_of_none h2
    obtain rfl : l = [] := by cases l <;> simp_all [bv]
    clear this
    go_enter Tryd.func92, Tryd.ntmps92
    go_wp2
    go_ret
    exact ⟨_, rfl, World.ownsRow_nil _ _ _ _, Below.refl _ _⟩
  | some ad =>
    have hr2 : Rd (w.alloc (.cells #[] 5)) (some ad) (bv l) := h2.below' ((Below.refl _ _).alloc (Nat.le_refl _) _)
    have hown : (w.alloc (.cells #[] 5)).ownsRow w.heap.size 5 1 (.slice (some ⟨w.heap.size, 0, none⟩) 0 0) 0 [] := World.ownsRow_made w #[] 0 (Nat.le_refl _) (by omega) (by simp)
    go_enter Tryd.func92, Tryd.ntmps92
    go_wp2_with (at_builtin; refine wpList_appendN T_bytes _ rfl _ _ rfl w.heap.size _ _ _ rfl hown _ _ _ (bv l) rfl ?c1 (fun _ h => nomatch h) hr2 (bv_oneCell l) ?c2 ?c3 ?_)
    case c1 => simp [bv_length]
    case c2 => omega
    case c3 => simp
    intro v' w' hown' hg hnil
    have hb' : Below w.heap.size w w' := ((Below.refl _ _).alloc (Nat.le_refl _) _).grown hg (by simp) (fun k hk => by simp [Value.ownBlock] at hk; omega)
    clear hg hnil hown
    go_wp2
    go_ret
    exact ⟨_, rfl, hown', hb'⟩

/-- what is owned reads as bytes -/
theorem ownsRow.slb {w : World} {base : Nat} {v : Value} {l : List UInt8} (h : w.ownsRow base 5 1 v l.length (bv l)) (hm : l.length ≤ 9223372036854775807) : SlB w v l := by
  obtain ⟨a, cap, rfl, h1, h2, hr, h3⟩ := ownsRow.rd h
  exact ⟨a, cap, rfl, hm, hr, h1, by unfold maxLen at h2; omega, h3⟩
theorem SlB.below {w w' : World} {v : Value} {l : List UInt8} (h : SlB w v l) (hb : Below w.heap.size w w') : SlB w' v l := by
  obtain ⟨a, c, rfl, h1, h2, h3⟩ := h
  exact ⟨a, c, rfl, h1, h2.below' hb, h3⟩

theorem Below.next {w w1 w2 : World} (h : Below w.heap.size w w1) (k : Below w1.heap.size w1 w2) : Below w.heap.size w w2 := h.trans (k.mono h.size)
theorem Below.new (w : World) (o : Obj) : Below w.heap.size w (w.alloc o) := (Below.refl _ _).alloc (Nat.le_refl _) o
theorem Below.grownBy {w w' : World} (hb : Below w.heap.size w w') : w.grownBy w' none := ⟨hb.os, hb.tape, hb.output, hb.size, fun k hk _ => hb.block k hk⟩
theorem ownsRow_below {w w' : World} {base : Nat} {e : TypeId} {v : Value} {n : Nat} {xs : List Value} {size : Nat} (h : w.ownsRow base e size v n xs) (hb : Below w.heap.size w w') : w'.ownsRow base e size v n xs :=
  h.kept (Below.grownBy hb) (by cases v.ownBlock <;> simp)
theorem cell_block0 (w : World) (u : Value) (e : TypeId) : (w.alloc (.cells #[u] e)).cell? ⟨w.heap.size, 0, none⟩ = some u := by
  rw [World.cell?_alloc_new]; rfl
theorem cell_block1 (w : World) (o : Obj) (u : Value) (e : TypeId) : ((w.alloc o).alloc (.cells #[u] e)).cell? ⟨w.heap.size + 1, 0, none⟩ = some u := by
  rw [← World.size_alloc w o]; exact cell_block0 _ _ _
theorem Below.drawn (w : World) (n : Nat) : Below w.heap.size w (w.drewN n) := below_drewN (Below.refl _ _) n

theorem str_append (l m : List UInt8) : ((⟨l.toArray⟩ : ByteArray) ++ (⟨m.toArray⟩ : ByteArray)) = ⟨(l ++ m).toArray⟩ := by
  apply ByteArray.ext
  simp

/-- string(v) in every world in which what was there is as it was -/
theorem SlB.str {w : World} {a : Option Addr} {n c : Nat} {l : List UInt8} (h : SlB w (.slice a n c) l) :
    ∀ w', Below w.heap.size w w' → (convert 28 9 (.slice a n c)).run Tryd.prog w' = .ok (.string ⟨l.toArray⟩) w' := by
  intro w' hb
  obtain ⟨a', c', e, h1, h2, -⟩ := h
  simp only [Value.slice.injEq] at e
  obtain ⟨rfl, rfl, rfl⟩ := e
  exact run_str w' a _ c l rfl (h2.below' hb)

theorem kc (w : World) (C : Array Value) (n c : Nat) : (convert 28 28 (.slice (some ⟨w.heap.size, 0, none⟩) n c)).run Tryd.prog (w.alloc (.cells C 5)) = .ok (.slice (some ⟨w.heap.size, 0, none⟩) n c) (w.alloc (.cells C 5 (C.size, C.size + 1))) :=
  Lib.run_convert_bytes_const (P := Tryd.prog) w 28 5 C n c Tryd.underlying28 Tryd.underlying5

/-- a slice of bytes that the call has just laid -/
theorem slb_lit (w : World) (cs : Array Value) (fr : Nat × Nat) (l : List UInt8) (h : cs.toList = bv l) (hl : l.length ≤ 1000) (n : Nat) (hn : n = l.length) : SlB (w.alloc (.cells cs 5 fr)) (.slice (some ⟨w.heap.size, 0, none⟩) n n) l := by
  subst hn
  refine ⟨_, _, rfl, by omega, fun i hi => ⟨w.heap.size, 0, rfl, ?_⟩, Nat.le_refl _, by omega, nofun⟩
  rw [Nat.zero_add, ← h, Array.getElem?_toList]
  have : (w.alloc (.cells cs 5 fr)).heap[w.heap.size]? = some (.cells cs 5 fr) := by show (w.heap.push _)[w.heap.size]? = _; simp
  unfold World.cell?
  rw [this]
  simp
end Go.Proofs.YtcjdlckfbkdibaaDoor
end
section
/- Numbers in groups of seven bits: plain functions and laws. No program in sight. -/
namespace Go.Proofs.YtcjdlckfbkdibaaDoor
set_option linter.unusedVariables false

/-- a number, whose sign stands in its lowest bit; and back -/
def zz (n : Int) : Nat := if 0 ≤ n then (2 * n).toNat else (-2 * n - 1).toNat
def unzz (u : Nat) : Int := if u % 2 = 0 then (u / 2 : Nat) else -((u / 2 : Nat) : Int) - 1
theorem unzz_zz (n : Int) : unzz (zz n) = n := by unfold unzz zz; split <;> split <;> omega
theorem zz_unzz (u : Nat) : zz (unzz u) = u := by unfold unzz zz; split <;> split <;> omega
theorem zz_lt (n : Int) (h1 : -9223372036854775808 ≤ n) (h2 : n ≤ 9223372036854775807) : zz n < 18446744073709551616 := by unfold zz; split <;> omega
theorem unzz_bd (u : Nat) (h : u < 18446744073709551616) : -9223372036854775808 ≤ unzz u ∧ unzz u ≤ 9223372036854775807 := by unfold unzz; split <;> omega

/-- a number's groups -/
def enc (u : Nat) : List UInt8 := if h : u < 128 then [UInt8.ofNat u] else UInt8.ofNat (u % 128 + 128) :: enc (u / 128)
termination_by u
decreasing_by omega
theorem enc_small (u : Nat) (h : u < 128) : enc u = [UInt8.ofNat u] := by rw [enc, dif_pos h]
theorem enc_big (u : Nat) (h : ¬ u < 128) : enc u = UInt8.ofNat (u % 128 + 128) :: enc (u / 128) := by conv => lhs; rw [enc, dif_neg h]
theorem enc_pos (u : Nat) : 0 < (enc u).length := by rw [enc]; split <;> simp
theorem enc_len (k : Nat) : ∀ u, u < 128 ^ (k + 1) → (enc u).length ≤ k + 1 := by
  induction k with
  | zero => intro u h; rw [enc_small u (by simpa using h)]; simp
  | succ k ih =>
    intro u h
    by_cases hs : u < 128
    · rw [enc_small u hs]; simp
    · rw [enc_big u hs]
      have := ih (u / 128) (by rw [Nat.div_lt_iff_lt_mul (by omega)]; rw [Nat.pow_succ] at h; exact h)
      simp; omega
theorem enc_len10 (u : Nat) (h : u < 18446744073709551616) : (enc u).length ≤ 10 := enc_len 9 u (by omega)

/-- what the program reads: how many bytes the next number has, and what they come to; 0: there is none -/
def readF : List UInt8 → Nat → Nat → Nat × Nat
  | [], _, _ => (0, 0)
  | c :: t, k, u =>
    if k = 10 then (0, 0) else
    if k = 9 ∧ 1 < c.toNat % 128 then (0, 0) else
    if c.toNat < 128 then (if 0 < k ∧ c.toNat = 0 then (0, 0) else (k + 1, u + c.toNat % 128 * 128 ^ k)) else
    readF t (k + 1) (u + c.toNat % 128 * 128 ^ k)

/-- reading what was written -/
theorem readF_enc (u : Nat) : ∀ (t : List UInt8) (k a : Nat), k ≤ 9 → u * 128 ^ k < 18446744073709551616 → (0 < k → 0 < u) →
    readF (enc u ++ t) k a = (k + (enc u).length, a + u * 128 ^ k) := by
  induction u using Nat.strongRecOn with
  | _ u ih =>
    intro t k a hk hu h0
    by_cases hs : u < 128
    · rw [enc_small u hs]
      have hc : (UInt8.ofNat u).toNat = u := by simp; omega
      rw [List.cons_append, readF, hc, if_neg (by omega)]
      have hm : u % 128 = u := by omega
      rw [hm]
      rw [if_neg (by
        rintro ⟨rfl, h⟩
        have : u * 128 ^ 9 = u * 9223372036854775808 := by rfl
        omega)]
      rw [if_pos hs, if_neg (by omega)]
      simp
    · rw [enc_big u hs]
      have hc : (UInt8.ofNat (u % 128 + 128)).toNat = u % 128 + 128 := by simp; omega
      rw [List.cons_append, readF, hc, if_neg (by omega)]
      have hk9 : k ≠ 9 := by
        rintro rfl
        have : u * 128 ^ 9 = u * 9223372036854775808 := by rfl
        omega
      rw [if_neg (by omega), if_neg (by omega)]
      have hpow : u / 128 * 128 ^ (k + 1) + u % 128 * 128 ^ k = u * 128 ^ k := by
        rw [Nat.pow_succ, Nat.mul_comm (128 ^ k) 128, ← Nat.mul_assoc, ← Nat.add_mul]
        congr 1; omega
      have hmod : (u % 128 + 128) % 128 = u % 128 := by omega
      rw [hmod, ih (u / 128) (by omega) t (k + 1) _ (by omega) (by omega) (by omega)]
      simp only [List.length_cons, Prod.mk.injEq]
      constructor <;> omega
end Go.Proofs.YtcjdlckfbkdibaaDoor
end
section
/- Plain: the reference's reading and mine. -/
namespace Go.Proofs.YtcjdlckfbkdibaaDoor
open Go.RowKit
open Go.Lib (hid)
set_option linter.unusedVariables false

def val : List UInt8 → Nat
  | [] => 0
  | c :: t => c.toNat % 128 + 128 * val t
theorem val_enc (u : Nat) : val (enc u) = u := by
  induction u using Nat.strongRecOn with
  | _ u ih =>
    by_cases h : u < 128
    · rw [enc_small u h]; simp [val]; omega
    · rw [enc_big u h, val, ih (u / 128) (by omega)]; simp; omega
theorem val_append (c : UInt8) : ∀ (p : List UInt8), val (p ++ [c]) = val p + c.toNat % 128 * 128 ^ p.length
  | [] => by simp [val]
  | d :: t => by
    rw [List.cons_append, val, val, val_append c t, List.length_cons, Nat.pow_succ, Nat.mul_add, ← Nat.mul_assoc (c.toNat % 128)]
    have := Nat.mul_comm 128 (c.toNat % 128 * 128 ^ t.length)
    omega
def Big (l : List UInt8) : Prop := ∀ c ∈ l, 128 ≤ c.toNat
theorem enc_shape (u : Nat) : ∃ m c, enc u = m ++ [c] ∧ Big m ∧ c.toNat < 128 := by
  induction u using Nat.strongRecOn with
  | _ u ih =>
    by_cases h : u < 128
    · exact ⟨[], UInt8.ofNat u, by rw [enc_small u h]; rfl, by simp [Big], by simp; omega⟩
    · obtain ⟨m, c, e, hm, hc⟩ := ih (u / 128) (by omega)
      refine ⟨UInt8.ofNat (u % 128 + 128) :: m, c, by rw [enc_big u h, e]; rfl, ?_, hc⟩
      intro d hd
      rcases List.mem_cons.1 hd with rfl | hd
      · simp; omega
      · exact hm d hd
theorem big_cut : ∀ (m p : List UInt8) (c d : UInt8) (r s : List UInt8), Big m → Big p → c.toNat < 128 → d.toNat < 128 → m ++ c :: r = p ++ d :: s → m = p ∧ c = d
  | [], [], c, d, r, s, _, _, _, _, h => by simp at h; exact ⟨rfl, h.1⟩
  | [], y :: p, c, d, r, s, _, hp, hc, _, h => by
    simp at h
    have := hp y (by simp)
    rw [← h.1] at this
    omega
  | x :: m, [], c, d, r, s, hm, _, _, hd, h => by
    simp at h
    have := hm x (by simp)
    rw [h.1] at this
    omega
  | x :: m, y :: p, c, d, r, s, hm, hp, hc, hd, h => by
    simp at h
    obtain ⟨e1, e2⟩ := big_cut m p c d r s (fun z hz => hm z (by simp [hz])) (fun z hz => hp z (by simp [hz])) hc hd h.2
    exact ⟨by rw [h.1, e1], e2⟩
theorem pow64 (k : Nat) (hk : k ≤ 9) : (2 : Nat) ^ 64 = 2 ^ (64 - 7 * k) * 128 ^ k := by
  rw [show (128 : Nat) = 2 ^ 7 from rfl, ← Nat.pow_mul, ← Nat.pow_add]
  congr 1; omega
theorem pow_room (k : Nat) (hk : k < 9) (u c : Nat) (hc : c < 128) (h : u * 128 ^ (k + 1) < 18446744073709551616) : (c + 128 * u) * 128 ^ k < 18446744073709551616 := by
  have e := pow64 (k + 1) (by omega)
  have e2 : (2 : Nat) ^ 64 = 18446744073709551616 := by rfl
  rw [← e2] at h ⊢
  rw [e] at h ⊢
  generalize 2 ^ (64 - 7 * (k + 1)) = Q at h ⊢
  have hu := Nat.lt_of_mul_lt_mul_right h
  rw [Nat.pow_succ, Nat.mul_comm (128 ^ k), ← Nat.mul_assoc]
  exact Nat.mul_lt_mul_of_pos_right (by omega) (Nat.pow_pos (by omega))
theorem pow_room1 (k : Nat) (hk : k < 10) (c : Nat) (hc : c < 128) (h : k = 9 → c ≤ 1) : c * 128 ^ k < 18446744073709551616 := by
  by_cases h9 : k = 9
  · subst h9
    have h1 := h rfl
    have : (128 : Nat) ^ 9 = 9223372036854775808 := by rfl
    rw [this]; omega
  · have e := pow64 (k + 1) (by omega)
    have e2 : (2 : Nat) ^ 64 = 18446744073709551616 := by rfl
    rw [← e2, e, Nat.pow_succ, Nat.mul_comm (128 ^ k), ← Nat.mul_assoc]
    have : 0 < 2 ^ (64 - 7 * (k + 1)) := Nat.pow_pos (by omega)
    exact Nat.mul_lt_mul_of_pos_right (by omega) (Nat.pow_pos (by omega))
set_option maxRecDepth 100000 in
theorem readF_sound : ∀ (l : List UInt8) (k a : Nat), k ≤ 10 → (readF l k a).1 ≠ 0 → ∃ u r, l = enc u ++ r ∧ (readF l k a).1 = k + (enc u).length ∧ (readF l k a).2 = a + u * 128 ^ k ∧ u * 128 ^ k < 18446744073709551616 ∧ (0 < k → 0 < u)
  | [], k, a, _, h => by simp [readF] at h
  | c :: t, k, a, hk, h => by
    rw [readF] at h ⊢
    by_cases h10 : k = 10
    · rw [if_pos h10] at h; exact absurd rfl h
    rw [if_neg h10] at h ⊢
    by_cases h9 : k = 9 ∧ 1 < c.toNat % 128
    · rw [if_pos h9] at h; exact absurd rfl h
    rw [if_neg h9] at h ⊢
    by_cases hc : c.toNat < 128
    · rw [if_pos hc] at h ⊢
      by_cases h0 : 0 < k ∧ c.toNat = 0
      · rw [if_pos h0] at h; exact absurd rfl h
      rw [if_neg h0]
      refine ⟨c.toNat, t, ?_, ?_, ?_, pow_room1 k (by omega) _ hc (fun e => by omega), by omega⟩
      · rw [enc_small _ hc]; simp
      · rw [enc_small _ hc]; simp
      · simp only; rw [show c.toNat % 128 = c.toNat by omega]
    · rw [if_neg hc] at h ⊢
      obtain ⟨u, r, e1, e2, e3, e4, e5⟩ := readF_sound t (k + 1) (a + c.toNat % 128 * 128 ^ k) (by omega) h
      have hu := e5 (by omega)
      have hk9 : k < 9 := by
        rcases Nat.lt_or_ge k 9 with x | x
        · exact x
        · obtain rfl : k = 9 := by omega
          exfalso
          cases t with
          | nil => simp [readF] at h
          | cons d t => simp [readF] at h
      have hlt : c.toNat < 256 := c.toNat_lt
      have hb : ¬ c.toNat % 128 + 128 * u < 128 := by omega
      refine ⟨c.toNat % 128 + 128 * u, r, ?_, ?_, ?_, pow_room k hk9 u _ (by omega) e4, by omega⟩
      · rw [enc_big _ hb, show (c.toNat % 128 + 128 * u) / 128 = u by omega, show (c.toNat % 128 + 128 * u) % 128 + 128 = c.toNat by omega, e1]
        simp
      · rw [enc_big _ hb, show (c.toNat % 128 + 128 * u) / 128 = u by omega, e2]
        simp; omega
      · rw [e3, Nat.pow_succ, Nat.add_mul, Nat.mul_comm 128 u, Nat.mul_assoc, Nat.mul_comm 128 (128 ^ k), Nat.add_assoc]

/-- what the reference reads -/
def refRead (l : List UInt8) : Int × Nat := if (readF l 0 0).1 = 0 then (0, 0) else (unzz (readF l 0 0).2, (readF l 0 0).1)
set_option maxRecDepth 100000 in
theorem refRead_none (l : List UInt8) (h : Big (l.take 10)) : refRead l = (0, 0) := by
  unfold refRead
  by_cases h0 : (readF l 0 0).1 = 0
  · rw [if_pos h0]
  · exfalso
    obtain ⟨u, r, e1, e2, e3, e4, e5⟩ := readF_sound l 0 0 (by omega) h0
    have hu : u < 18446744073709551616 := by simpa using e4
    have hl := enc_len10 u hu
    obtain ⟨m, c, e, hm, hc⟩ := enc_shape u
    have : c ∈ l.take 10 := by
      rw [e1, e, List.append_assoc]
      rw [e] at hl
      simp at hl
      rw [List.take_append]
      obtain ⟨j, hj⟩ : ∃ j, 10 - m.length = j + 1 := ⟨10 - m.length - 1, by omega⟩
      rw [hj]
      simp
    have := h c this
    omega
set_option maxRecDepth 100000 in
theorem refRead_yes (l p r : List UInt8) (x : Nat) (hx : x < 18446744073709551616) (hl : l = p ++ r) (he : enc x = p) : refRead l = (unzz x, p.length) := by
  have := readF_enc x r 0 0 (by omega) (by simpa using hx) (by omega)
  have hp := enc_pos x
  rw [he, ← hl] at this
  rw [he] at hp
  unfold refRead
  rw [this]
  simp
  intro h0
  simp [h0] at hp
set_option maxRecDepth 100000 in
theorem refRead_no (l p r : List UInt8) (c : UInt8) (hl : l = p ++ c :: r) (hp : Big p) (hc : c.toNat < 128) (he : enc (val (p ++ [c]) % 18446744073709551616) ≠ p ++ [c]) : refRead l = (0, 0) := by
  unfold refRead
  by_cases h0 : (readF l 0 0).1 = 0
  · rw [if_pos h0]
  · exfalso
    obtain ⟨u, r', e1, e2, e3, e4, e5⟩ := readF_sound l 0 0 (by omega) h0
    have hu : u < 18446744073709551616 := by simpa using e4
    obtain ⟨m, d, e, hm, hd⟩ := enc_shape u
    have hcut := big_cut m p d c r' r hm hp hd hc (by rw [← hl, e1, e]; simp)
    obtain ⟨rfl, rfl⟩ := hcut
    apply he
    rw [← e, val_enc, Nat.mod_eq_of_lt hu, e]
end Go.Proofs.YtcjdlckfbkdibaaDoor
end
