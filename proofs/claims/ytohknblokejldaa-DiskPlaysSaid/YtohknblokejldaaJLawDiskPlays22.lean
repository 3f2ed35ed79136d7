/- Joined texts, in this order: SlotsMath, SlotsCrMath. Each one's first remark says what it proves; no condition beyond those that its theorems name. -/
import Derived.Test.YtohknblokejldaaJLawDiskPlays21
section
/- The plain laws of slots. -/
namespace Go.Proofs.Ytohknblokejldaa
open Go.RowKit
open Go.Lib (hid)
set_option linter.unusedVariables false

theorem bytesR_form {e : Int} {l : List Int} {size : Int} {b : List UInt8} (hb : bytesR e l size = some b) : 14 ≤ size ∧ size ≤ 65544 ∧ (plainR e l).length + 14 ≤ size.toNat ∧ b = fitted (plainR e l) (size.toNat - 8) ++ be8 e ∧ b.length = size.toNat := by
  unfold bytesR at hb
  split at hb
  · cases hb
  · simp only [Option.some.injEq] at hb
    have e1 : (size - 8).toNat = size.toNat - 8 := by omega
    rw [e1] at hb
    refine ⟨by omega, by omega, by omega, hb.symm, ?_⟩
    rw [← hb, List.length_append, be8_len]
    unfold fitted
    rw [List.length_append, lowB_length, fitL_length _ _ (by omega)]
    omega
theorem parse_bytes {e : Int} {l : List Int} {size : Int} {b : List UInt8} (hr : rightR e l = true) (hb : bytesR e l size = some b) : parseR b = some (e, l) ∧ (b.length : Int) = size := by
  obtain ⟨h1, h2, h3, h4, h5⟩ := bytesR_form hb
  obtain ⟨q1, q2, q3, q4⟩ := right_bd hr
  have hlen : (b.length : Int) = size := by omega
  refine ⟨?_, hlen⟩
  unfold parseR
  rw [if_neg (by omega)]
  have ht : b.take (b.length - 8) = fitted (plainR e l) (size.toNat - 8) := by
    have : b.length - 8 = (fitted (plainR e l) (size.toNat - 8)).length := by
      have := congrArg List.length h4
      rw [List.length_append, be8_len] at this
      omega
    rw [this, h4, List.take_left]
  rw [ht, partL_fitted _ _ (by omega) (by omega), Option.bind_some]
  have hi : inInt (some (plainR e l)) = (e, some (enc (zz (l.length : Int)) ++ encs l)) := by
    unfold plainR
    rw [List.append_assoc]
    exact inInt_enc e (by omega) (by omega) _
  have hii : inInts 64 (some (enc (zz (l.length : Int)) ++ encs l)) = (l, some []) := inInts_enc 64 l (fun x hx => by have := q4 x hx; omega) (by omega) (by omega)
  rw [parseI_eq hi hii, hlen, if_pos ⟨rfl, hr, hb⟩]
theorem set_mix (D : List (List UInt8)) (k : Nat) (b : List UInt8) : mixF (fun _ b _ => b) D (aput [] (k : Int) b) [] = D.set k b := by
  apply List.ext_getElem?
  intro i
  rw [mixF_at, List.getElem?_set]
  by_cases hik : k = i
  · subst hik
    rw [if_pos rfl]
    cases hd : D[k]? with
    | none => simp [List.getElem?_eq_none_iff.1 hd]
    | some d =>
      have := (List.getElem?_eq_some_iff.1 hd).1
      simp [this, aput, adel]
  · rw [if_neg hik]
    have h2 : ((i : Int) == (k : Int)) = false := by simp; omega
    cases hd : D[i]? with
    | none => rfl
    | some d => simp [aput, adel, List.lookup, h2]
/-- a root is saved on a disk whose cache is empty, and whose power stays -/
theorem save_plain (s : Dk) (hok : s.Ok) (hd : s.down = false) (ha : s.armed = false) (hC : s.C = []) (h2 : 2 ≤ s.D.length) {e : Int} {l : List Int} {b : List UInt8} (hr : rightR e l = true) (hb : bytesR e l (s.size : Int) = some b) :
    ∃ d, dkSave s e l = (0, { s with D := s.D.set (e % 2).toNat b, C := [], done := d }) := by
  obtain ⟨q1, q2, -, -⟩ := right_bd hr
  have hbl := (bytesR_form hb).2.2.2.2
  have hbl2 : b.length = s.size := by omega
  have ho : outB e l (s.size : Int) = (b, 0) := by unfold outB; rw [if_pos hr, hb]
  have hck : dkCheck s (e % 2) = 0 := by unfold dkCheck; rw [hd, if_neg (by simp), if_neg (by omega)]
  unfold dkSave
  rw [ho]
  simp only [ne_eq, not_true_eq_false, if_false]
  rw [if_neg (by omega)]
  obtain ⟨k, hk⟩ : ∃ k : Nat, e % 2 = (k : Int) := ⟨(e % 2).toNat, by omega⟩
  have hw : dkWrite s (e % 2) b = (0, { s with C := aput [] (k : Int) b, done := wrap64 (s.done + 1) }) := by
    unfold dkWrite
    rw [hck]
    simp [hbl2, dkCommand, ha, hC, hk]
  rw [hw]
  simp only [ne_eq, not_true_eq_false, if_false]
  refine ⟨wrap64 (wrap64 (s.done + 1) + 1), ?_⟩
  unfold dkFlush
  simp only [hd, Bool.false_eq_true, if_false]
  simp only [dkCommand, ha, Bool.false_eq_true, if_false, ne_eq, not_true_eq_false]
  rw [flushD, hk, Int.toNat_natCast]
  simp only
  rw [set_mix]

theorem Dk.Ok.setD {s : Dk} (h : s.Ok) (k : Nat) {b : List UInt8} (hb : b.length = s.size) (d : Int) : Dk.Ok { s with D := s.D.set k b, C := [], done := d } := by
  refine ⟨fun p hp => by simp at hp, fun x hx => ?_, by simpa using h.pos, by simpa using h.le, h.sz, h.sz0⟩
  rcases List.mem_or_eq_of_mem_set hx with h1 | h1
  · exact h.sec x h1
  · rw [h1]; exact hb
theorem dkNew_ok (n size : Nat) (h1 : 1 ≤ n) (h2 : n ≤ 4096) (h3 : 16 ≤ size) (h4 : size ≤ 4096) : (dkNew n size).Ok := by
  refine ⟨fun p hp => by simp [dkNew] at hp, fun x hx => ?_, by simp [dkNew]; omega, by simp [dkNew]; omega, h4, h3⟩
  simp [dkNew] at hx
  rw [hx.2]; simp [dkNew]
theorem small_bytes (e x : Int) (he1 : 1 ≤ e) (he : e ≤ 63) (hx0 : 0 ≤ x) (hx : x ≤ 63) (size : Int) (h1 : 20 ≤ size) (h2 : size ≤ 65544) : rightR e [x] = true ∧ ∃ b, bytesR e [x] size = some b := by
  have hl : (plainR e [x]).length = 3 := by
    have z1 : zz e < 128 := by unfold zz; split <;> omega
    have z2 : zz x < 128 := by unfold zz; split <;> omega
    have z3 : zz (([x] : List Int).length : Int) < 128 := by show zz 1 < 128; decide
    unfold plainR
    rw [encs, encs, enc_small _ z1, enc_small _ z2, enc_small _ z3]
    rfl
  refine ⟨?_, ?_⟩
  · unfold rightR badN
    simp; omega
  · unfold bytesR
    rw [hl, if_neg (by omega)]
    exact ⟨_, rfl⟩
/-- two roots, one behind the other, on a new disk -/
theorem awake06 : ∃ s1 s2 : Dk, dkSave (dkNew 3 64) 1 [5] = (0, s1) ∧ s1.Ok ∧ dkSave s1 2 [6] = (0, s2) ∧ s2.Ok ∧ dkLoad s2 = ((2, [6]), 0) ∧ dkSave s2 0 [] = (10, s2) := by
  obtain ⟨r1, b1, hb1⟩ := small_bytes 1 5 (by omega) (by omega) (by omega) (by omega) 64 (by omega) (by omega)
  obtain ⟨r2, b2, hb2⟩ := small_bytes 2 6 (by omega) (by omega) (by omega) (by omega) 64 (by omega) (by omega)
  have l1 : b1.length = 64 := (bytesR_form hb1).2.2.2.2
  have l2 : b2.length = 64 := (bytesR_form hb2).2.2.2.2
  have ok0 := dkNew_ok 3 64 (by omega) (by omega) (by omega) (by omega)
  obtain ⟨d1, h1⟩ := save_plain (dkNew 3 64) ok0 rfl rfl rfl (by simp [dkNew]) r1 hb1
  have ok1 := ok0.setD (1 % 2 : Int).toNat (b := b1) l1 d1
  obtain ⟨d2, h2⟩ := save_plain _ ok1 rfl rfl rfl (by simp [dkNew]) r2 hb2
  have ok2 := ok1.setD (2 % 2 : Int).toNat (b := b2) l2 d2
  refine ⟨_, _, h1, ok1, h2, ok2, ?_, ?_⟩
  · have p1 := (parse_bytes r1 hb1).1
    have p2 := (parse_bytes r2 hb2).1
    unfold dkLoad
    simp [dkNew, loadN, dkSector, pickB, p1, p2, List.lookup]
  · unfold dkSave
    have : outB 0 [] 64 = ([], 10) := by unfold outB; rw [if_neg]; decide
    simp [dkNew, this]
end Go.Proofs.Ytohknblokejldaa
end
section
/- Plain: what a crash in the midst of a save leaves. -/
namespace Go.Proofs.Ytohknblokejldaa
open Go.RowKit
open Go.Lib (hid)
set_option linter.unusedVariables false

theorem encs_len2 : ∀ (l : List Int), (∀ x ∈ l, 0 ≤ x ∧ x < 4096) → (encs l).length ≤ 2 * l.length
  | [], _ => by simp [encs]
  | x :: t, h => by
    have h1 := encs_len2 t (fun y hy => h y (List.mem_cons_of_mem _ hy))
    have h2 := h x List.mem_cons_self
    have h3 : zz x < 128 ^ (1 + 1) := by unfold zz; rw [if_pos h2.1]; omega
    have h4 := enc_len 1 _ h3
    rw [encs, List.length_append, List.length_cons]
    omega
theorem cr_bytes {e : Int} {l : List Int} (hr : rightR e l = true) (he : e ≤ 63) (hl : l.length ≤ 20) : ∃ b, bytesR e l 128 = some b := by
  obtain ⟨h1, h2, h3, h4⟩ := right_bd hr
  have a1 : zz e < 128 := by unfold zz; rw [if_pos (by omega)]; omega
  have a2 : zz (l.length : Int) < 128 := by unfold zz; rw [if_pos (by omega)]; omega
  have a3 := encs_len2 l h4
  have hp : (plainR e l).length ≤ 42 := by
    unfold plainR
    simp only [List.length_append, enc_small _ a1, enc_small _ a2, List.length_cons, List.length_nil]
    omega
  unfold bytesR
  rw [if_neg (by omega)]
  exact ⟨_, rfl⟩
theorem be8_inj {a b : Nat} (ha : a < 18446744073709551616) (hb : b < 18446744073709551616) (h : be8 (a : Int) = be8 (b : Int)) : a = b := by
  rw [be8_eq, be8_eq] at h
  simp only [List.cons.injEq, and_true] at h
  obtain ⟨h7, h6, h5, h4, h3, h2, h1, h0⟩ := h
  have cv : ∀ x y : Nat, x < 256 → y < 256 → UInt8.ofNat x = UInt8.ofNat y → x = y := by
    intro x y hx hy h
    have := congrArg UInt8.toNat h
    simpa [Nat.mod_eq_of_lt hx, Nat.mod_eq_of_lt hy] using this
  have k7 := cv _ _ (by omega) (by omega) h7
  have k6 := cv _ _ (by omega) (by omega) h6
  have k5 := cv _ _ (by omega) (by omega) h5
  have k4 := cv _ _ (by omega) (by omega) h4
  have k3 := cv _ _ (by omega) (by omega) h3
  have k2 := cv _ _ (by omega) (by omega) h2
  have k1 := cv _ _ (by omega) (by omega) h1
  have k0 := cv _ _ (by omega) (by omega) h0
  omega
theorem be8_5 : be8 5 = [0, 0, 0, 0, 0, 0, 0, 5] := by decide
theorem be8_7 : be8 7 = [0, 0, 0, 0, 0, 0, 0, 7] := by decide
/-- a torn sector is the new one, or its tail names the old epoch -/
theorem torn_tail {f g : List UInt8} (hf : f.length = 120) (hg : g.length = 120) (n : Nat) (hn : n < 128) : ((f ++ be8 7).take n ++ (g ++ be8 5).drop n).drop 120 = be8 5 := by
  by_cases h : n ≤ 120
  · rw [List.drop_append, List.drop_drop, List.drop_eq_nil_of_le (by simp; omega), List.nil_append]
    have e : n + (120 - (List.take n (f ++ be8 7)).length) = g.length := by
      rw [List.length_take, List.length_append, be8_len]; omega
    rw [e, List.drop_left]
  · obtain ⟨m, rfl⟩ : ∃ m, n = 120 + m := ⟨n - 120, by omega⟩
    have hm : m < 8 := by omega
    have e1 : (f ++ be8 7).take (120 + m) = f ++ (be8 7).take m := by rw [← hf, List.take_length_add_append]
    have e2 : (g ++ be8 5).drop (120 + m) = (be8 5).drop m := by rw [← hg, List.drop_length_add_append]
    rw [e1, e2, List.append_assoc, ← hf, List.drop_left, be8_5, be8_7]
    rcases (by omega : m = 0 ∨ m = 1 ∨ m = 2 ∨ m = 3 ∨ m = 4 ∨ m = 5 ∨ m = 6 ∨ m = 7) with h | h | h | h | h | h | h | h <;> subst h <;> rfl
theorem torn_parse {t : List Int} {b5 b7 : List UInt8} (h5 : bytesR 5 [] 128 = some b5) (h7 : bytesR 7 t 128 = some b7) (n : Nat) {best r : Int × List Int} (hb : parseR (b7.take n ++ b5.drop n) = some r) (hr7 : rightR 7 t = true) :
    r = (7, t) ∨ r.1 = 5 := by
  have l5 := (bytesR_form h5).2.2.2
  have l7 := (bytesR_form h7).2.2.2
  obtain ⟨e5, n5⟩ := l5
  obtain ⟨e7, n7⟩ := l7
  by_cases hn : 128 ≤ n
  · left
    have hn7 : b7.length = 128 := n7
    have hn5 : b5.length = 128 := n5
    rw [List.take_of_length_le (by omega), List.drop_eq_nil_of_le (by omega), List.append_nil, (parse_bytes hr7 h7).1] at hb
    simpa using hb.symm
  · right
    have q := parse_right hb
    have ql : (b7.take n ++ b5.drop n).length = 128 := by
      have hn7 : b7.length = 128 := n7
      have hn5 : b5.length = 128 := n5
      simp only [List.length_append, List.length_take, List.length_drop]; omega
    rw [ql] at q
    replace q : rightR r.1 r.2 = true ∧ bytesR r.1 r.2 128 = some (b7.take n ++ b5.drop n) := q
    obtain ⟨g1, g2, -, -⟩ := right_bd q.1
    obtain ⟨-, -, -, e, -⟩ := bytesR_form q.2
    have fl : ∀ (e : Int) (l : List Int) (b : List UInt8), bytesR e l 128 = some b → (fitted (plainR e l) (((128 : Int)).toNat - 8)).length = 120 := by
      intro e l b h
      obtain ⟨-, -, -, f1, f2⟩ := bytesR_form h
      rw [f1, List.length_append, be8_len] at f2
      have : ((128 : Int)).toNat = 128 := rfl
      omega
    have ht := torn_tail (fl _ _ _ h7) (fl _ _ _ h5) n (by omega)
    rw [← e7, ← e5, e] at ht
    have hd : (fitted (plainR r.1 r.2) (((128 : Int)).toNat - 8) ++ be8 r.1).drop 120 = be8 r.1 := by
      have := fl _ _ _ q.2
      rw [← this, List.drop_left]
    rw [hd] at ht
    obtain ⟨m, hm⟩ : ∃ m : Nat, r.1 = (m : Int) := ⟨r.1.toNat, by omega⟩
    rw [hm] at ht g2 ⊢
    have := be8_inj (a := m) (b := 5) (by omega) (by omega) ht
    omega
theorem lookup_mem' {k : Int} {b : List UInt8} : ∀ {C : List (Int × List UInt8)}, C.lookup k = some b → (k, b) ∈ C
  | (j, c) :: t, h => by
    rw [List.lookup] at h
    split at h
    · rename_i hk
      have : k = j := by simpa using hk
      simp only [Option.some.injEq] at h
      subst this; subst h; exact List.mem_cons_self
    · exact List.mem_cons_of_mem _ (lookup_mem' h)
theorem Dk.Ok.crash {s : Dk} (h : s.Ok) (keep : List Int) (torn cut : Int) : (dkCrash s keep torn cut).Ok := by
  refine ⟨fun p hp => by simp [dkCrash, dkArm] at hp, fun d hd => ?_, by simpa [dkCrash, dkArm, mixF_len] using h.pos, by simpa [dkCrash, dkArm, mixF_len] using h.le, h.sz, h.sz0⟩
  have hd2 : d ∈ mixF (crashF keep torn (cutN cut s.size)) s.D s.C [] := hd
  obtain ⟨i, hi⟩ := List.mem_iff_getElem?.1 hd2
  rw [mixF_at] at hi
  obtain ⟨d0, h0, h1⟩ := Option.map_eq_some_iff.1 hi
  have l0 := h.sec d0 (List.mem_of_getElem? h0)
  rw [if_neg (by simp)] at h1
  show d.length = s.size
  rw [← h1]
  split
  · exact l0
  · rename_i b hb
    have hk := (h.key _ (lookup_mem' hb)).2.2
    simp only at hk
    unfold crashF
    split
    · exact hk
    · split
      · simp only [List.length_append, List.length_take, List.length_drop]; omega
      · exact l0
/-- the whole law: 5 and 6 are saved, the power is armed, 7 is saved, the disk crashes -/
theorem crash07 {t nx : List Int} (hr6 : rightR 6 t = true) (hr7 : rightR 7 nx = true) (ht : t.length ≤ 20) (hn : nx.length ≤ 20) (arm : Int) (ha : arm ≤ 20) (keep : List Int) (torn cut : Int) :
    ∃ s1 s2 : Dk, ∃ e s4 r, dkSave (dkNew 3 128) 5 [] = (0, s1) ∧ s1.Ok ∧ dkSave s1 6 t = (0, s2) ∧ s2.Ok ∧ (dkArm s2 arm).Ok ∧ dkSave (dkArm s2 arm) 7 nx = (e, s4) ∧ s4.Ok ∧ (dkCrash s4 keep torn cut).Ok ∧ dkLoad (dkCrash s4 keep torn cut) = (r, 0) ∧
      (e = 0 ∧ r = (7, nx) ∨ e = 20 ∧ (r = (6, t) ∨ r = (7, nx))) := by
  have r5 : rightR 5 [] = true := by decide
  obtain ⟨b5, h5⟩ := cr_bytes r5 (by omega) (by simp)
  obtain ⟨b6, h6⟩ := cr_bytes hr6 (by omega) ht
  obtain ⟨b7, h7⟩ := cr_bytes hr7 (by omega) hn
  have l5 : b5.length = 128 := (bytesR_form h5).2.2.2.2
  have l6 : b6.length = 128 := (bytesR_form h6).2.2.2.2
  have l7 : b7.length = 128 := (bytesR_form h7).2.2.2.2
  have ok0 := dkNew_ok 3 128 (by omega) (by omega) (by omega) (by omega)
  obtain ⟨d1, q1⟩ := save_plain (dkNew 3 128) ok0 rfl rfl rfl (by simp [dkNew]) r5 h5
  have ok1 := ok0.setD (5 % 2 : Int).toNat (b := b5) l5 d1
  obtain ⟨d2, q2⟩ := save_plain _ ok1 rfl rfl rfl (by simp [dkNew]) hr6 h6
  have ok2 := ok1.setD (6 % 2 : Int).toNat (b := b6) l6 d2
  have p5 := (parse_bytes r5 h5).1
  have p6 := (parse_bytes hr6 h6).1
  have p7 := (parse_bytes hr7 h7).1
  obtain ⟨s2, hs2⟩ : ∃ s2 : Dk, s2 = ⟨128, [b6, b5, List.replicate 128 0], [], false, 0, false, d2⟩ := ⟨_, rfl⟩
  have e2 : ({ { dkNew 3 128 with D := (dkNew 3 128).D.set (5 % 2 : Int).toNat b5, C := [], done := d1 } with D := ((dkNew 3 128).D.set (5 % 2 : Int).toNat b5).set (6 % 2 : Int).toNat b6, C := [], done := d2 } : Dk) = s2 := by
    rw [hs2]; rfl
  have oks2 : s2.Ok := by rw [← e2]; exact ok2
  have okA : (dkArm s2 arm).Ok := oks2.of_same rfl rfl rfl
  have okC : Dk.Ok { dkArm s2 arm with C := aput (dkArm s2 arm).C 1 b7 } := okA.put 1 b7 (by omega) (by rw [hs2]; simp [dkArm]) (by rw [l7, hs2]; rfl)
  have o7 : outB 7 nx ((128 : Nat) : Int) = (b7, 0) := by
    have h7' : bytesR 7 nx ((128 : Nat) : Int) = some b7 := h7
    unfold outB; rw [if_pos hr7, h7']
  -- what a disk loads whose first two sectors are these
  have hload : ∀ (x z : List UInt8) (a : Bool) (lf dn : Int) (r : Int × List Int), pickB (6, t) 1 x = r → r.1 ≠ 0 → dkLoad ⟨128, [b6, x, z], [], a, lf, false, dn⟩ = (r, 0) := by
    intro x z a lf dn r hx h0
    have hl : loadN ⟨128, [b6, x, z], [], a, lf, false, dn⟩ 2 = r := by
      simp [loadN, dkSector, List.lookup]
      have : pickB (0, []) 0 b6 = (6, t) := by unfold pickB; rw [p6]; simp
      rw [this]; exact hx
    unfold dkLoad
    simp [hl, h0]
  have pick7 : pickB (6, t) 1 b7 = (7, nx) := by unfold pickB; rw [p7]; simp
  have pick5 : pickB (6, t) 1 b5 = (6, t) := by unfold pickB; rw [p5]; simp
  have pickT : ∀ n, pickB (6, t) 1 (b7.take n ++ b5.drop n) = (6, t) ∨ pickB (6, t) 1 (b7.take n ++ b5.drop n) = (7, nx) := by
    intro n
    unfold pickB
    cases hp : parseR (b7.take n ++ b5.drop n) with
    | none => exact .inl rfl
    | some r =>
      simp only
      rcases torn_parse (best := r) h5 h7 n hp hr7 with rfl | h
      · right; simp
      · left; rw [if_neg]; rw [h]; omega
  have fin : ∀ (e : Int) (s4 : Dk) (r : Int × List Int), s4.Ok → dkSave (dkArm s2 arm) 7 nx = (e, s4) → dkLoad (dkCrash s4 keep torn cut) = (r, 0) → (e = 0 ∧ r = (7, nx) ∨ e = 20 ∧ (r = (6, t) ∨ r = (7, nx))) → 
      ∃ s1 s2 : Dk, ∃ e s4 r, dkSave (dkNew 3 128) 5 [] = (0, s1) ∧ s1.Ok ∧ dkSave s1 6 t = (0, s2) ∧ s2.Ok ∧ (dkArm s2 arm).Ok ∧ dkSave (dkArm s2 arm) 7 nx = (e, s4) ∧ s4.Ok ∧ (dkCrash s4 keep torn cut).Ok ∧ dkLoad (dkCrash s4 keep torn cut) = (r, 0) ∧
      (e = 0 ∧ r = (7, nx) ∨ e = 20 ∧ (r = (6, t) ∨ r = (7, nx))) :=
    fun e s4 r o4 a b c => ⟨_, s2, e, s4, r, q1, ok1, by rw [q2, e2], oks2, okA, a, o4, o4.crash _ _ _, b, c⟩
  -- the cached sector, and the power gone
  have gone : ∀ (a : Bool) (lf dn : Int), ∃ r, dkLoad (dkCrash ⟨128, [b6, b5, List.replicate 128 0], [(1, b7)], a, lf, true, dn⟩ keep torn cut) = (r, 0) ∧ (r = (6, t) ∨ r = (7, nx)) := by
    intro a lf dn
    have hc : dkCrash ⟨128, [b6, b5, List.replicate 128 0], [(1, b7)], a, lf, true, dn⟩ keep torn cut = ⟨128, [b6, crashF keep torn (cutN cut 128) 1 b7 b5, List.replicate 128 0], [], false, -1, false, dn⟩ := by
      simp [dkCrash, dkArm, mixF, List.lookup]
    rw [hc]
    have hp : pickB (6, t) 1 (crashF keep torn (cutN cut 128) 1 b7 b5) = (6, t) ∨ pickB (6, t) 1 (crashF keep torn (cutN cut 128) 1 b7 b5) = (7, nx) := by
      unfold crashF
      split
      · exact .inr pick7
      · split
        · exact pickT _
        · exact .inl pick5
    rcases hp with h | h
    · exact ⟨_, hload _ _ _ _ _ _ h (by simp), .inl rfl⟩
    · exact ⟨_, hload _ _ _ _ _ _ h (by simp), .inr rfl⟩
  have kept : ∀ (a : Bool) (lf dn : Int), dkLoad (dkCrash ⟨128, [b6, b7, List.replicate 128 0], [], a, lf, false, dn⟩ keep torn cut) = ((7, nx), 0) := by
    intro a lf dn
    have hc : dkCrash ⟨128, [b6, b7, List.replicate 128 0], [], a, lf, false, dn⟩ keep torn cut = ⟨128, [b6, b7, List.replicate 128 0], [], false, -1, false, dn⟩ := by
      simp [dkCrash, dkArm, mixF]
    rw [hc]
    exact hload _ _ _ _ _ _ pick7 (by simp)
  have hsv : ∀ x, x = dkSave (dkArm s2 arm) 7 nx → ∃ e s4, x = (e, s4) ∧ s4.Ok ∧ ∃ r, dkLoad (dkCrash s4 keep torn cut) = (r, 0) ∧ (e = 0 ∧ r = (7, nx) ∨ e = 20 ∧ (r = (6, t) ∨ r = (7, nx))) := by
    intro x hx
    have hz : (List.replicate 128 (0 : UInt8)).length = 128 := by simp
    obtain ⟨z, hzz⟩ : ∃ z, z = List.replicate 128 (0 : UInt8) := ⟨_, rfl⟩
    rw [← hzz] at hz
    have hA : dkArm s2 arm = ⟨128, [b6, b5, z], [], decide (0 ≤ arm), arm, false, d2⟩ := by rw [hs2, hzz]; rfl
    have hS : ∀ (a : Bool) (lf : Int), dkSave ⟨128, [b6, b5, z], [], a, lf, false, d2⟩ 7 nx = if (dkCommand ⟨128, [b6, b5, z], [(1, b7)], a, lf, false, d2⟩).1 ≠ 0 then dkCommand ⟨128, [b6, b5, z], [(1, b7)], a, lf, false, d2⟩ else dkFlush (dkCommand ⟨128, [b6, b5, z], [(1, b7)], a, lf, false, d2⟩).2 := by
      intro a lf
      have hw : dkWrite ⟨128, [b6, b5, z], [], a, lf, false, d2⟩ 1 b7 = dkCommand ⟨128, [b6, b5, z], [(1, b7)], a, lf, false, d2⟩ := by
        unfold dkWrite dkCheck
        simp [l7, aput, adel]
      unfold dkSave
      simp only [o7, ne_eq, not_true_eq_false, if_false]
      rw [if_neg (by simp)]
      simp only [show (7 : Int) % 2 = 1 from rfl, hw]
    have hfl : ∀ (a : Bool) (lf dn : Int), flushD ⟨128, [b6, b5, z], [(1, b7)], a, lf, false, dn⟩ = [b6, b7, z] := by
      intro a lf dn
      unfold flushD
      simp [mixF, List.lookup]
    have okD : ∀ (x : List UInt8) (C : List (Int × List UInt8)) (a c : Bool) (lf dn : Int), x.length = 128 → (C = [] ∨ C = [(1, b7)]) → Dk.Ok ⟨128, [b6, x, z], C, a, lf, c, dn⟩ := by
      intro x C a c lf dn hx hC
      refine ⟨fun p hp => ?_, fun d hd => ?_, by simp, by simp, by simp, by simp⟩
      · rcases hC with rfl | rfl
        · simp at hp
        · simp at hp; subst hp; simp [l7]
      · simp at hd
        rcases hd with rfl | rfl | rfl
        · exact l6
        · exact hx
        · exact hz
    rw [← hzz] at gone kept
    rw [hA, hS] at hx
    by_cases h1 : 0 ≤ arm
    · have hd : decide (0 ≤ arm) = true := by simpa using h1
      rw [hd] at hx
      by_cases h2 : arm = 0
      · subst h2
        simp only [dkCommand, if_true, ne_eq, show ¬ ((20 : Int) = 0) from by decide, not_false_eq_true] at hx
        obtain ⟨r, hr, hr2⟩ := gone true 0 d2
        exact ⟨_, _, hx, okD _ _ _ _ _ _ l5 (.inr rfl), r, hr, .inr ⟨rfl, hr2⟩⟩
      · have hw1 : wrap64 (arm - 1) = arm - 1 := by unfold wrap64; omega
        simp only [dkCommand, if_true, if_neg h2, ne_eq, not_true_eq_false, if_false, dkFlush, Bool.false_eq_true, hw1] at hx
        by_cases h3 : arm - 1 = 0
        · rw [if_pos h3] at hx
          simp only [if_true, show ¬ ((20 : Int) = 0) from by decide, not_false_eq_true] at hx
          obtain ⟨r, hr, hr2⟩ := gone true (arm - 1) (wrap64 (d2 + 1))
          exact ⟨_, _, hx, okD _ _ _ _ _ _ l5 (.inr rfl), r, hr, .inr ⟨rfl, hr2⟩⟩
        · rw [if_neg h3] at hx
          simp only [not_true_eq_false, if_false, hfl] at hx
          exact ⟨_, _, hx, okD _ _ _ _ _ _ l7 (.inl rfl), _, kept _ _ _, .inl ⟨rfl, rfl⟩⟩
    · have hd : decide (0 ≤ arm) = false := by simpa using h1
      rw [hd] at hx
      simp only [dkCommand, Bool.false_eq_true, if_false, ne_eq, not_true_eq_false, dkFlush, hfl] at hx
      exact ⟨_, _, hx, okD _ _ _ _ _ _ l7 (.inl rfl), _, kept _ _ _, .inl ⟨rfl, rfl⟩⟩
  obtain ⟨e, s4, h1, h2, r, h3, h4⟩ := hsv _ rfl
  exact fin e s4 r h2 h1 h3 h4
end Go.Proofs.Ytohknblokejldaa
end
