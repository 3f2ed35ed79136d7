/- Contracts of the package varint: what is written. -/
import Derived.Test.YtdchopckbklncaaVarMath
import Derived.Test.YtdchopckbklncaaMem
import Derived.Test.YtdchopckbklncaaBytes
namespace Go.Proofs.Ytdchopckbklncaa
open Go.RowKit
open Go.Lib (hid)
set_option linter.unusedVariables false

theorem or128 (x : Nat) : bits .or .u8 ((x : Int) % 256) 128 = ((x % 128 + 128 : Nat) : Int) := by
  have h := u8_or_nat (x % 256) 128 (by omega) (by omega)
  have hall : ∀ y : Fin 256, (y.val ||| 128) = y.val % 128 + 128 := by decide +kernel
  have e : x % 256 ||| 128 = x % 128 + 128 := by
    have := hall ⟨x % 256, by omega⟩
    simp only at this
    omega
  rw [e] at h
  exact h

/-- behind an append: the block is the one that was there, or a new one -/
theorem own_step {w0 w : World} {v vb v' : Value} (hob : ∀ k, vb.ownBlock = some k → v.ownBlock = some k ∨ w0.heap.size ≤ k) (hs : w0.heap.size ≤ w.heap.size)
    (hwh : ∀ k, v'.ownBlock = some k → vb.ownBlock = some k ∨ w.heap.size ≤ k) : ∀ k, v'.ownBlock = some k → v.ownBlock = some k ∨ w0.heap.size ≤ k := by
  intro k hk
  rcases hwh k hk with h | h
  · exact hob k h
  · exact .inr (by omega)

set_option maxRecDepth 100000 in
theorem var_appended (l : List UInt8) (u : Nat) (hu : u < 18446744073709551616) (v : Value) (w : World) (hown : w.ownsRow 0 5 1 v l.length (bv l)) (hl : l.length ≤ 1048576) :
    Calls Try.prog 76 #[v, .int .u64 (u : Int)] w fun e w' => ∃ v', e = .returned v' ∧ w'.ownsRow 0 5 1 v' (l ++ enc u).length (bv (l ++ enc u)) ∧ Upd (fun k => v.ownBlock = some k) w w' ∧
      (∀ k, v'.ownBlock = some k → v.ownBlock = some k ∨ w.heap.size ≤ k) ∧ v' ≠ .slice none 0 0 := by
  have hlen := enc_len10 u hu
  go_enter Try.func76, Try.ntmps76
  go_wp2
  go_loopw [0, 1] (fun v0 v1 wr => ∃ (m : List UInt8) (x : Nat), v1 = .int .u64 x ∧ x < 18446744073709551616 ∧ wr.ownsRow 0 5 1 v0 m.length (bv m) ∧ m.length ≤ l.length + 10 ∧ Hid (m ++ enc x = l ++ enc u) ∧ Upd (fun k => v.ownBlock = some k) w wr ∧ Hid (∀ k, v0.ownBlock = some k → v.ownBlock = some k ∨ w.heap.size ≤ k)) (fun _ v1 _ => (intOf v1).toNat)
  case atStart => exact ⟨l, u, rfl, hu, hown, by omega, hid rfl, Upd.refl _ _, hid (fun k hk => .inl hk)⟩
  case round =>
    obtain ⟨m, x, rfl, hx, ho, hm, henc, hupd, hob⟩ := hrel
    have hml : m.length + (enc x).length = l.length + (enc u).length := by
      have := congrArg List.length henc.out
      simpa using this
    have hpos := enc_pos x
    by_cases h128 : x < 128
    · have HE := hid (enc_small x h128)
      have hb1 : m.length + 1 ≤ 140737488355328 := by omega
      clear hml hpos hlen
      go_wp2_with (at_builtin; refine wpList_append1w T_bytes _ rfl _ _ #[.int .u8 (x : Int)] rfl 0 _ _ _ rfl ho rfl rfl ?c1 ?c2 ?c3 ?_)
      case c1 => rfl
      case c2 => omega
      case c3 => omega
      intro v' w1 hown' hgrow hne hwh
      have hbv : Hid (bv (l ++ enc u) = bv m ++ [.int .u8 (x : Int)]) := hid (by
        rw [← henc.out, HE.out, bv_append, bv_one]
        congr 3
        simp; omega)
      have hlu : Hid ((l ++ enc u).length = m.length + 1) := hid (by rw [← henc.out, HE.out]; simp)
      have HO : Hid (w1.ownsRow 0 5 1 v' (l ++ enc u).length (bv (l ++ enc u))) := hid (by rw [hbv.out, hlu.out]; exact hown')
      have hu2 : Upd (fun k => v.ownBlock = some k) w w1 := hupd.trans (Upd.of_grown hgrow) (fun i hi h => by rcases hob.out i h with h | h; exact h; omega)
      have hob2 : Hid (∀ k, v'.ownBlock = some k → v.ownBlock = some k ∨ w.heap.size ≤ k) := hid (own_step hob.out hupd.size hwh)
      clear hown' hgrow hwh
      go_wp2
      go_ret
      exact ⟨_, rfl, HO.out, hu2, hob2.out, hne⟩
    · have HE := hid (enc_big x h128)
      have hb1 : m.length + 1 ≤ l.length + 10 := by have := enc_pos (x / 128); rw [HE.out] at hml; simp at hml; omega
      have e1 := or128 x
      obtain ⟨y, hy⟩ : ∃ y : Nat, y = x % 128 + 128 := ⟨_, rfl⟩
      rw [← hy] at e1
      have HY := hid hy
      clear hml hpos hlen hy
      go_wp2_with (at_builtin; refine wpList_append1w T_bytes _ rfl _ _ #[.int .u8 (y : Int)] rfl 0 _ _ _ rfl ho rfl rfl ?c1 ?c2 ?c3 ?_)
      case c1 => rfl
      case c2 => omega
      case c3 => omega
      intro v' w1 hown' hgrow hne hwh
      have hbv : Hid (bv (m ++ [UInt8.ofNat y]) = bv m ++ [.int .u8 (y : Int)]) := hid (by
        rw [bv_append, bv_one]
        congr 3
        have := HY.out
        simp; omega)
      have HO : Hid (w1.ownsRow 0 5 1 v' (m ++ [UInt8.ofNat y]).length (bv (m ++ [UInt8.ofNat y]))) := hid (by rw [hbv.out]; simpa using hown')
      have hu2 : Upd (fun k => v.ownBlock = some k) w w1 := hupd.trans (Upd.of_grown hgrow) (fun i hi h => by rcases hob.out i h with h | h; exact h; omega)
      have hob2 : Hid (∀ k, v'.ownBlock = some k → v.ownBlock = some k ∨ w.heap.size ≤ k) := hid (own_step hob.out hupd.size hwh)
      have henc2 : Hid ((m ++ [UInt8.ofNat y]) ++ enc (x / 128) = l ++ enc u) := hid (by rw [← henc.out, HE.out, HY.out]; simp)
      clear hown' hgrow hne hwh
      go_wp2
      go_roundw
      case rel => exact ⟨m ++ [UInt8.ofNat y], x / 128, rfl, by omega, HO.out, by simp; omega, henc2, hu2, hob2⟩
      case measure => simp [intOf]; omega
end Go.Proofs.Ytdchopckbklncaa
