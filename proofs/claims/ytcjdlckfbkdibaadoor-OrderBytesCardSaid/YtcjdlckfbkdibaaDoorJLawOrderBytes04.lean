/- Joined texts, in this order: VarReadMath, VarOut. Each one's first remark says what it proves; no condition beyond those that its theorems name. -/
import Derived.Test.YtcjdlckfbkdibaaDoorJLawOrderBytes03
import Derived.Test.YtcjdlckfbkdibaaDoorJLawOrderBytes02
section
/- Plain: the reference's reading and mine. -/
namespace Go.Proofs.YtcjdlckfbkdibaaDoor
open Go.RowKit
open Go.Lib (hid)
set_option linter.unusedVariables false

def val : List UInt8 → Nat
  | [] => 0
  | c :: t => c.toNat % 128 + 128 * val t
theorem val_enc (u : Nat) : val (enc u) = u := by
  induction u using Nat.strongRecOn with
  | _ u ih =>
    by_cases h : u < 128
    · rw [enc_small u h]; simp [val]; omega
    · rw [enc_big u h, val, ih (u / 128) (by omega)]; simp; omega
theorem val_append (c : UInt8) : ∀ (p : List UInt8), val (p ++ [c]) = val p + c.toNat % 128 * 128 ^ p.length
  | [] => by simp [val]
  | d :: t => by
    rw [List.cons_append, val, val, val_append c t, List.length_cons, Nat.pow_succ, Nat.mul_add, ← Nat.mul_assoc (c.toNat % 128)]
    have := Nat.mul_comm 128 (c.toNat % 128 * 128 ^ t.length)
    omega
def Big (l : List UInt8) : Prop := ∀ c ∈ l, 128 ≤ c.toNat
theorem enc_shape (u : Nat) : ∃ m c, enc u = m ++ [c] ∧ Big m ∧ c.toNat < 128 := by
  induction u using Nat.strongRecOn with
  | _ u ih =>
    by_cases h : u < 128
    · exact ⟨[], UInt8.ofNat u, by rw [enc_small u h]; rfl, by simp [Big], by simp; omega⟩
    · obtain ⟨m, c, e, hm, hc⟩ := ih (u / 128) (by omega)
      refine ⟨UInt8.ofNat (u % 128 + 128) :: m, c, by rw [enc_big u h, e]; rfl, ?_, hc⟩
      intro d hd
      rcases List.mem_cons.1 hd with rfl | hd
      · simp; omega
      · exact hm d hd
theorem big_cut : ∀ (m p : List UInt8) (c d : UInt8) (r s : List UInt8), Big m → Big p → c.toNat < 128 → d.toNat < 128 → m ++ c :: r = p ++ d :: s → m = p ∧ c = d
  | [], [], c, d, r, s, _, _, _, _, h => by simp at h; exact ⟨rfl, h.1⟩
  | [], y :: p, c, d, r, s, _, hp, hc, _, h => by
    simp at h
    have := hp y (by simp)
    rw [← h.1] at this
    omega
  | x :: m, [], c, d, r, s, hm, _, _, hd, h => by
    simp at h
    have := hm x (by simp)
    rw [h.1] at this
    omega
  | x :: m, y :: p, c, d, r, s, hm, hp, hc, hd, h => by
    simp at h
    obtain ⟨e1, e2⟩ := big_cut m p c d r s (fun z hz => hm z (by simp [hz])) (fun z hz => hp z (by simp [hz])) hc hd h.2
    exact ⟨by rw [h.1, e1], e2⟩
theorem pow64 (k : Nat) (hk : k ≤ 9) : (2 : Nat) ^ 64 = 2 ^ (64 - 7 * k) * 128 ^ k := by
  rw [show (128 : Nat) = 2 ^ 7 from rfl, ← Nat.pow_mul, ← Nat.pow_add]
  congr 1; omega
theorem pow_room (k : Nat) (hk : k < 9) (u c : Nat) (hc : c < 128) (h : u * 128 ^ (k + 1) < 18446744073709551616) : (c + 128 * u) * 128 ^ k < 18446744073709551616 := by
  have e := pow64 (k + 1) (by omega)
  have e2 : (2 : Nat) ^ 64 = 18446744073709551616 := by rfl
  rw [← e2] at h ⊢
  rw [e] at h ⊢
  generalize 2 ^ (64 - 7 * (k + 1)) = Q at h ⊢
  have hu := Nat.lt_of_mul_lt_mul_right h
  rw [Nat.pow_succ, Nat.mul_comm (128 ^ k), ← Nat.mul_assoc]
  exact Nat.mul_lt_mul_of_pos_right (by omega) (Nat.pow_pos (by omega))
theorem pow_room1 (k : Nat) (hk : k < 10) (c : Nat) (hc : c < 128) (h : k = 9 → c ≤ 1) : c * 128 ^ k < 18446744073709551616 := by
  by_cases h9 : k = 9
  · subst h9
    have h1 := h rfl
    have : (128 : Nat) ^ 9 = 9223372036854775808 := by rfl
    rw [this]; omega
  · have e := pow64 (k + 1) (by omega)
    have e2 : (2 : Nat) ^ 64 = 18446744073709551616 := by rfl
    rw [← e2, e, Nat.pow_succ, Nat.mul_comm (128 ^ k), ← Nat.mul_assoc]
    have : 0 < 2 ^ (64 - 7 * (k + 1)) := Nat.pow_pos (by omega)
    exact Nat.mul_lt_mul_of_pos_right (by omega) (Nat.pow_pos (by omega))
set_option maxRecDepth 100000 in
theorem readF_sound : ∀ (l : List UInt8) (k a : Nat), k ≤ 10 → (readF l k a).1 ≠ 0 → ∃ u r, l = enc u ++ r ∧ (readF l k a).1 = k + (enc u).length ∧ (readF l k a).2 = a + u * 128 ^ k ∧ u * 128 ^ k < 18446744073709551616 ∧ (0 < k → 0 < u)
  | [], k, a, _, h => by simp [readF] at h
  | c :: t, k, a, hk, h => by
    rw [readF] at h ⊢
    by_cases h10 : k = 10
    · rw [if_pos h10] at h; exact absurd rfl h
    rw [if_neg h10] at h ⊢
    by_cases h9 : k = 9 ∧ 1 < c.toNat % 128
    · rw [if_pos h9] at h; exact absurd rfl h
    rw [if_neg h9] at h ⊢
    by_cases hc : c.toNat < 128
    · rw [if_pos hc] at h ⊢
      by_cases h0 : 0 < k ∧ c.toNat = 0
      · rw [if_pos h0] at h; exact absurd rfl h
      rw [if_neg h0]
      refine ⟨c.toNat, t, ?_, ?_, ?_, pow_room1 k (by omega) _ hc (fun e => by omega), by omega⟩
      · rw [enc_small _ hc]; simp
      · rw [enc_small _ hc]; simp
      · simp only; rw [show c.toNat % 128 = c.toNat by omega]
    · rw [if_neg hc] at h ⊢
      obtain ⟨u, r, e1, e2, e3, e4, e5⟩ := readF_sound t (k + 1) (a + c.toNat % 128 * 128 ^ k) (by omega) h
      have hu := e5 (by omega)
      have hk9 : k < 9 := by
        rcases Nat.lt_or_ge k 9 with x | x
        · exact x
        · obtain rfl : k = 9 := by omega
          exfalso
          cases t with
          | nil => simp [readF] at h
          | cons d t => simp [readF] at h
      have hlt : c.toNat < 256 := c.toNat_lt
      have hb : ¬ c.toNat % 128 + 128 * u < 128 := by omega
      refine ⟨c.toNat % 128 + 128 * u, r, ?_, ?_, ?_, pow_room k hk9 u _ (by omega) e4, by omega⟩
      · rw [enc_big _ hb, show (c.toNat % 128 + 128 * u) / 128 = u by omega, show (c.toNat % 128 + 128 * u) % 128 + 128 = c.toNat by omega, e1]
        simp
      · rw [enc_big _ hb, show (c.toNat % 128 + 128 * u) / 128 = u by omega, e2]
        simp; omega
      · rw [e3, Nat.pow_succ, Nat.add_mul, Nat.mul_comm 128 u, Nat.mul_assoc, Nat.mul_comm 128 (128 ^ k), Nat.add_assoc]

/-- what the reference reads -/
def refRead (l : List UInt8) : Int × Nat := if (readF l 0 0).1 = 0 then (0, 0) else (unzz (readF l 0 0).2, (readF l 0 0).1)
set_option maxRecDepth 100000 in
theorem refRead_none (l : List UInt8) (h : Big (l.take 10)) : refRead l = (0, 0) := by
  unfold refRead
  by_cases h0 : (readF l 0 0).1 = 0
  · rw [if_pos h0]
  · exfalso
    obtain ⟨u, r, e1, e2, e3, e4, e5⟩ := readF_sound l 0 0 (by omega) h0
    have hu : u < 18446744073709551616 := by simpa using e4
    have hl := enc_len10 u hu
    obtain ⟨m, c, e, hm, hc⟩ := enc_shape u
    have : c ∈ l.take 10 := by
      rw [e1, e, List.append_assoc]
      rw [e] at hl
      simp at hl
      rw [List.take_append]
      obtain ⟨j, hj⟩ : ∃ j, 10 - m.length = j + 1 := ⟨10 - m.length - 1, by omega⟩
      rw [hj]
      simp
    have := h c this
    omega
set_option maxRecDepth 100000 in
theorem refRead_yes (l p r : List UInt8) (x : Nat) (hx : x < 18446744073709551616) (hl : l = p ++ r) (he : enc x = p) : refRead l = (unzz x, p.length) := by
  have := readF_enc x r 0 0 (by omega) (by simpa using hx) (by omega)
  have hp := enc_pos x
  rw [he, ← hl] at this
  rw [he] at hp
  unfold refRead
  rw [this]
  simp
  intro h0
  simp [h0] at hp
set_option maxRecDepth 100000 in
theorem refRead_no (l p r : List UInt8) (c : UInt8) (hl : l = p ++ c :: r) (hp : Big p) (hc : c.toNat < 128) (he : enc (val (p ++ [c]) % 18446744073709551616) ≠ p ++ [c]) : refRead l = (0, 0) := by
  unfold refRead
  by_cases h0 : (readF l 0 0).1 = 0
  · rw [if_pos h0]
  · exfalso
    obtain ⟨u, r', e1, e2, e3, e4, e5⟩ := readF_sound l 0 0 (by omega) h0
    have hu : u < 18446744073709551616 := by simpa using e4
    obtain ⟨m, d, e, hm, hd⟩ := enc_shape u
    have hcut := big_cut m p d c r' r hm hp hd hc (by rw [← hl, e1, e]; simp)
    obtain ⟨rfl, rfl⟩ := hcut
    apply he
    rw [← e, val_enc, Nat.mod_eq_of_lt hu, e]
end Go.Proofs.YtcjdlckfbkdibaaDoor
end
section
/- Contracts of the package varint: what is written. -/
namespace Go.Proofs.YtcjdlckfbkdibaaDoor
open Go.RowKit
open Go.Lib (hid)
set_option linter.unusedVariables false

theorem or128 (x : Nat) : bits .or .u8 ((x : Int) % 256) 128 = ((x % 128 + 128 : Nat) : Int) := by
  have h := u8_or_nat (x % 256) 128 (by omega) (by omega)
  have hall : ∀ y : Fin 256, (y.val ||| 128) = y.val % 128 + 128 := by decide +kernel
  have e : x % 256 ||| 128 = x % 128 + 128 := by
    have := hall ⟨x % 256, by omega⟩
    simp only at this
    omega
  rw [e] at h
  exact h

/-- behind an append: the block is the one that was there, or a new one -/
theorem own_step {w0 w : World} {v vb v' : Value} (hob : ∀ k, vb.ownBlock = some k → v.ownBlock = some k ∨ w0.heap.size ≤ k) (hs : w0.heap.size ≤ w.heap.size)
    (hwh : ∀ k, v'.ownBlock = some k → vb.ownBlock = some k ∨ w.heap.size ≤ k) : ∀ k, v'.ownBlock = some k → v.ownBlock = some k ∨ w0.heap.size ≤ k := by
  intro k hk
  rcases hwh k hk with h | h
  · exact hob k h
  · exact .inr (by omega)

set_option maxRecDepth 100000 in
theorem var_appended (l : List UInt8) (u : Nat) (hu : u < 18446744073709551616) (v : Value) (w : World) (hown : w.ownsRow 0 5 1 v l.length (bv l)) (hl : l.length ≤ 1048576) :
    Calls Tryd.prog 89 #[v, .int .u64 (u : Int)] w fun e w' => ∃ v', e = .returned v' ∧ w'.ownsRow 0 5 1 v' (l ++ enc u).length (bv (l ++ enc u)) ∧ Upd (fun k => v.ownBlock = some k) w w' ∧
      (∀ k, v'.ownBlock = some k → v.ownBlock = some k ∨ w.heap.size ≤ k) ∧ v' ≠ .slice none 0 0 := by
  have hlen := enc_len10 u hu
  go_enter Tryd.func89, Tryd.ntmps89
  go_wp2
  go_loopw [0, 1] (fun v0 v1 wr => ∃ (m : List UInt8) (x : Nat), v1 = .int .u64 x ∧ x < 18446744073709551616 ∧ wr.ownsRow 0 5 1 v0 m.length (bv m) ∧ m.length ≤ l.length + 10 ∧ Hid (m ++ enc x = l ++ enc u) ∧ Upd (fun k => v.ownBlock = some k) w wr ∧ Hid (∀ k, v0.ownBlock = some k → v.ownBlock = some k ∨ w.heap.size ≤ k)) (fun _ v1 _ => (intOf v1).toNat)
  case atStart => exact ⟨l, u, rfl, hu, hown, by omega, hid rfl, Upd.refl _ _, hid (fun k hk => .inl hk)⟩
  case round =>
    obtain ⟨m, x, rfl, hx, ho, hm, henc, hupd, hob⟩ := hrel
    have hml : m.length + (enc x).length = l.length + (enc u).length := by
      have := congrArg List.length henc.out
      simpa using this
    have hpos := enc_pos x
    by_cases h128 : x < 128
    · have HE := hid (enc_small x h128)
      have hb1 : m.length + 1 ≤ 140737488355328 := by omega
      clear hml hpos hlen
      go_wp2_with (at_builtin; refine wpList_append1w T_bytes _ rfl _ _ #[.int .u8 (x : Int)] rfl 0 _ _ _ rfl ho rfl rfl ?c1 ?c2 ?c3 ?_)
      case c1 => rfl
      case c2 => omega
      case c3 => omega
      intro v' w1 hown' hgrow hne hwh
      have hbv : Hid (bv (l ++ enc u) = bv m ++ [.int .u8 (x : Int)]) := hid (by
        rw [← henc.out, HE.out, bv_append, bv_one]
        congr 3
        simp; omega)
      have hlu : Hid ((l ++ enc u).length = m.length + 1) := hid (by rw [← henc.out, HE.out]; simp)
      have HO : Hid (w1.ownsRow 0 5 1 v' (l ++ enc u).length (bv (l ++ enc u))) := hid (by rw [hbv.out, hlu.out]; exact hown')
      have hu2 : Upd (fun k => v.ownBlock = some k) w w1 := hupd.trans (Upd.of_grown hgrow) (fun i hi h => by rcases hob.out i h with h | h; exact h; omega)
      have hob2 : Hid (∀ k, v'.ownBlock = some k → v.ownBlock = some k ∨ w.heap.size ≤ k) := hid (own_step hob.out hupd.size hwh)
      clear hown' hgrow hwh
      go_wp2
      go_ret
      exact ⟨_, rfl, HO.out, hu2, hob2.out, hne⟩
    · have HE := hid (enc_big x h128)
      have hb1 : m.length + 1 ≤ l.length + 10 := by have := enc_pos (x / 128); rw [HE.out] at hml; simp at hml; omega
      have e1 := or128 x
      obtain ⟨y, hy⟩ : ∃ y : Nat, y = x % 128 + 128 := ⟨_, rfl⟩
      rw [← hy] at e1
      have HY := hid hy
      clear hml hpos hlen hy
      go_wp2_with (at_builtin; refine wpList_append1w T_bytes _ rfl _ _ #[.int .u8 (y : Int)] rfl 0 _ _ _ rfl ho rfl rfl ?c1 ?c2 ?c3 ?_)
      case c1 => rfl
      case c2 => omega
      case c3 => omega
      intro v' w1 hown' hgrow hne hwh
      have hbv : Hid (bv (m ++ [UInt8.ofNat y]) = bv m ++ [.int .u8 (y : Int)]) := hid (by
        rw [bv_append, bv_one]
        congr 3
        have := HY.out
        simp; omega)
      have HO : Hid (w1.ownsRow 0 5 1 v' (m ++ [UInt8.ofNat y]).length (bv (m ++ [UInt8.ofNat y]))) := hid (by rw [hbv.out]; simpa using hown')
      have hu2 : Upd (fun k => v.ownBlock = some k) w w1 := hupd.trans (Upd.of_grown hgrow) (fun i hi h => by rcases hob.out i h with h | h; exact h; omega)
      have hob2 : Hid (∀ k, v'.ownBlock = some k → v.ownBlock = some k ∨ w.heap.size ≤ k) := hid (own_step hob.out hupd.size hwh)
      have henc2 : Hid ((m ++ [UInt8.ofNat y]) ++ enc (x / 128) = l ++ enc u) := hid (by rw [← henc.out, HE.out, HY.out]; simp)
      clear hown' hgrow hne hwh
      go_wp2
      go_roundw
      case rel => exact ⟨m ++ [UInt8.ofNat y], x / 128, rfl, by omega, HO.out, by simp; omega, henc2, hu2, hob2⟩
      case measure => simp [intOf]; omega
end Go.Proofs.YtcjdlckfbkdibaaDoor
end
