/- Joined texts, in this order: SlotsCrMath, Ref05Math. Each one's first remark says what it proves; no condition beyond those that its theorems name. -/
import Derived.Test.YtohknblokejldaaJLawDiskCopies19
import Derived.Test.YtohknblokejldaaJLawDiskCopies08
section
/- Plain: what a crash in the midst of a save leaves. -/
namespace Go.Proofs.Ytohknblokejldaa
open Go.RowKit
open Go.Lib (hid)
set_option linter.unusedVariables false

theorem encs_len2 : ∀ (l : List Int), (∀ x ∈ l, 0 ≤ x ∧ x < 4096) → (encs l).length ≤ 2 * l.length
  | [], _ => by simp [encs]
  | x :: t, h => by
    have h1 := encs_len2 t (fun y hy => h y (List.mem_cons_of_mem _ hy))
    have h2 := h x List.mem_cons_self
    have h3 : zz x < 128 ^ (1 + 1) := by unfold zz; rw [if_pos h2.1]; omega
    have h4 := enc_len 1 _ h3
    rw [encs, List.length_append, List.length_cons]
    omega
theorem cr_bytes {e : Int} {l : List Int} (hr : rightR e l = true) (he : e ≤ 63) (hl : l.length ≤ 20) : ∃ b, bytesR e l 128 = some b := by
  obtain ⟨h1, h2, h3, h4⟩ := right_bd hr
  have a1 : zz e < 128 := by unfold zz; rw [if_pos (by omega)]; omega
  have a2 : zz (l.length : Int) < 128 := by unfold zz; rw [if_pos (by omega)]; omega
  have a3 := encs_len2 l h4
  have hp : (plainR e l).length ≤ 42 := by
    unfold plainR
    simp only [List.length_append, enc_small _ a1, enc_small _ a2, List.length_cons, List.length_nil]
    omega
  unfold bytesR
  rw [if_neg (by omega)]
  exact ⟨_, rfl⟩
theorem be8_inj {a b : Nat} (ha : a < 18446744073709551616) (hb : b < 18446744073709551616) (h : be8 (a : Int) = be8 (b : Int)) : a = b := by
  rw [be8_eq, be8_eq] at h
  simp only [List.cons.injEq, and_true] at h
  obtain ⟨h7, h6, h5, h4, h3, h2, h1, h0⟩ := h
  have cv : ∀ x y : Nat, x < 256 → y < 256 → UInt8.ofNat x = UInt8.ofNat y → x = y := by
    intro x y hx hy h
    have := congrArg UInt8.toNat h
    simpa [Nat.mod_eq_of_lt hx, Nat.mod_eq_of_lt hy] using this
  have k7 := cv _ _ (by omega) (by omega) h7
  have k6 := cv _ _ (by omega) (by omega) h6
  have k5 := cv _ _ (by omega) (by omega) h5
  have k4 := cv _ _ (by omega) (by omega) h4
  have k3 := cv _ _ (by omega) (by omega) h3
  have k2 := cv _ _ (by omega) (by omega) h2
  have k1 := cv _ _ (by omega) (by omega) h1
  have k0 := cv _ _ (by omega) (by omega) h0
  omega
theorem be8_5 : be8 5 = [0, 0, 0, 0, 0, 0, 0, 5] := by decide
theorem be8_7 : be8 7 = [0, 0, 0, 0, 0, 0, 0, 7] := by decide
/-- a torn sector is the new one, or its tail names the old epoch -/
theorem torn_tail {f g : List UInt8} (hf : f.length = 120) (hg : g.length = 120) (n : Nat) (hn : n < 128) : ((f ++ be8 7).take n ++ (g ++ be8 5).drop n).drop 120 = be8 5 := by
  by_cases h : n ≤ 120
  · rw [List.drop_append, List.drop_drop, List.drop_eq_nil_of_le (by simp; omega), List.nil_append]
    have e : n + (120 - (List.take n (f ++ be8 7)).length) = g.length := by
      rw [List.length_take, List.length_append, be8_len]; omega
    rw [e, List.drop_left]
  · obtain ⟨m, rfl⟩ : ∃ m, n = 120 + m := ⟨n - 120, by omega⟩
    have hm : m < 8 := by omega
    have e1 : (f ++ be8 7).take (120 + m) = f ++ (be8 7).take m := by rw [← hf, List.take_length_add_append]
    have e2 : (g ++ be8 5).drop (120 + m) = (be8 5).drop m := by rw [← hg, List.drop_length_add_append]
    rw [e1, e2, List.append_assoc, ← hf, List.drop_left, be8_5, be8_7]
    rcases (by omega : m = 0 ∨ m = 1 ∨ m = 2 ∨ m = 3 ∨ m = 4 ∨ m = 5 ∨ m = 6 ∨ m = 7) with h | h | h | h | h | h | h | h <;> subst h <;> rfl
theorem torn_parse {t : List Int} {b5 b7 : List UInt8} (h5 : bytesR 5 [] 128 = some b5) (h7 : bytesR 7 t 128 = some b7) (n : Nat) {best r : Int × List Int} (hb : parseR (b7.take n ++ b5.drop n) = some r) (hr7 : rightR 7 t = true) :
    r = (7, t) ∨ r.1 = 5 := by
  have l5 := (bytesR_form h5).2.2.2
  have l7 := (bytesR_form h7).2.2.2
  obtain ⟨e5, n5⟩ := l5
  obtain ⟨e7, n7⟩ := l7
  by_cases hn : 128 ≤ n
  · left
    have hn7 : b7.length = 128 := n7
    have hn5 : b5.length = 128 := n5
    rw [List.take_of_length_le (by omega), List.drop_eq_nil_of_le (by omega), List.append_nil, (parse_bytes hr7 h7).1] at hb
    simpa using hb.symm
  · right
    have q := parse_right hb
    have ql : (b7.take n ++ b5.drop n).length = 128 := by
      have hn7 : b7.length = 128 := n7
      have hn5 : b5.length = 128 := n5
      simp only [List.length_append, List.length_take, List.length_drop]; omega
    rw [ql] at q
    replace q : rightR r.1 r.2 = true ∧ bytesR r.1 r.2 128 = some (b7.take n ++ b5.drop n) := q
    obtain ⟨g1, g2, -, -⟩ := right_bd q.1
    obtain ⟨-, -, -, e, -⟩ := bytesR_form q.2
    have fl : ∀ (e : Int) (l : List Int) (b : List UInt8), bytesR e l 128 = some b → (fitted (plainR e l) (((128 : Int)).toNat - 8)).length = 120 := by
      intro e l b h
      obtain ⟨-, -, -, f1, f2⟩ := bytesR_form h
      rw [f1, List.length_append, be8_len] at f2
      have : ((128 : Int)).toNat = 128 := rfl
      omega
    have ht := torn_tail (fl _ _ _ h7) (fl _ _ _ h5) n (by omega)
    rw [← e7, ← e5, e] at ht
    have hd : (fitted (plainR r.1 r.2) (((128 : Int)).toNat - 8) ++ be8 r.1).drop 120 = be8 r.1 := by
      have := fl _ _ _ q.2
      rw [← this, List.drop_left]
    rw [hd] at ht
    obtain ⟨m, hm⟩ : ∃ m : Nat, r.1 = (m : Int) := ⟨r.1.toNat, by omega⟩
    rw [hm] at ht g2 ⊢
    have := be8_inj (a := m) (b := 5) (by omega) (by omega) ht
    omega
theorem lookup_mem' {k : Int} {b : List UInt8} : ∀ {C : List (Int × List UInt8)}, C.lookup k = some b → (k, b) ∈ C
  | (j, c) :: t, h => by
    rw [List.lookup] at h
    split at h
    · rename_i hk
      have : k = j := by simpa using hk
      simp only [Option.some.injEq] at h
      subst this; subst h; exact List.mem_cons_self
    · exact List.mem_cons_of_mem _ (lookup_mem' h)
theorem Dk.Ok.crash {s : Dk} (h : s.Ok) (keep : List Int) (torn cut : Int) : (dkCrash s keep torn cut).Ok := by
  refine ⟨fun p hp => by simp [dkCrash, dkArm] at hp, fun d hd => ?_, by simpa [dkCrash, dkArm, mixF_len] using h.pos, by simpa [dkCrash, dkArm, mixF_len] using h.le, h.sz, h.sz0⟩
  have hd2 : d ∈ mixF (crashF keep torn (cutN cut s.size)) s.D s.C [] := hd
  obtain ⟨i, hi⟩ := List.mem_iff_getElem?.1 hd2
  rw [mixF_at] at hi
  obtain ⟨d0, h0, h1⟩ := Option.map_eq_some_iff.1 hi
  have l0 := h.sec d0 (List.mem_of_getElem? h0)
  rw [if_neg (by simp)] at h1
  show d.length = s.size
  rw [← h1]
  split
  · exact l0
  · rename_i b hb
    have hk := (h.key _ (lookup_mem' hb)).2.2
    simp only at hk
    unfold crashF
    split
    · exact hk
    · split
      · simp only [List.length_append, List.length_take, List.length_drop]; omega
      · exact l0
/-- the whole law: 5 and 6 are saved, the power is armed, 7 is saved, the disk crashes -/
theorem crash07 {t nx : List Int} (hr6 : rightR 6 t = true) (hr7 : rightR 7 nx = true) (ht : t.length ≤ 20) (hn : nx.length ≤ 20) (arm : Int) (ha : arm ≤ 20) (keep : List Int) (torn cut : Int) :
    ∃ s1 s2 : Dk, ∃ e s4 r, dkSave (dkNew 3 128) 5 [] = (0, s1) ∧ s1.Ok ∧ dkSave s1 6 t = (0, s2) ∧ s2.Ok ∧ (dkArm s2 arm).Ok ∧ dkSave (dkArm s2 arm) 7 nx = (e, s4) ∧ s4.Ok ∧ (dkCrash s4 keep torn cut).Ok ∧ dkLoad (dkCrash s4 keep torn cut) = (r, 0) ∧
      (e = 0 ∧ r = (7, nx) ∨ e = 20 ∧ (r = (6, t) ∨ r = (7, nx))) := by
  have r5 : rightR 5 [] = true := by decide
  obtain ⟨b5, h5⟩ := cr_bytes r5 (by omega) (by simp)
  obtain ⟨b6, h6⟩ := cr_bytes hr6 (by omega) ht
  obtain ⟨b7, h7⟩ := cr_bytes hr7 (by omega) hn
  have l5 : b5.length = 128 := (bytesR_form h5).2.2.2.2
  have l6 : b6.length = 128 := (bytesR_form h6).2.2.2.2
  have l7 : b7.length = 128 := (bytesR_form h7).2.2.2.2
  have ok0 := dkNew_ok 3 128 (by omega) (by omega) (by omega) (by omega)
  obtain ⟨d1, q1⟩ := save_plain (dkNew 3 128) ok0 rfl rfl rfl (by simp [dkNew]) r5 h5
  have ok1 := ok0.setD (5 % 2 : Int).toNat (b := b5) l5 d1
  obtain ⟨d2, q2⟩ := save_plain _ ok1 rfl rfl rfl (by simp [dkNew]) hr6 h6
  have ok2 := ok1.setD (6 % 2 : Int).toNat (b := b6) l6 d2
  have p5 := (parse_bytes r5 h5).1
  have p6 := (parse_bytes hr6 h6).1
  have p7 := (parse_bytes hr7 h7).1
  obtain ⟨s2, hs2⟩ : ∃ s2 : Dk, s2 = ⟨128, [b6, b5, List.replicate 128 0], [], false, 0, false, d2⟩ := ⟨_, rfl⟩
  have e2 : ({ { dkNew 3 128 with D := (dkNew 3 128).D.set (5 % 2 : Int).toNat b5, C := [], done := d1 } with D := ((dkNew 3 128).D.set (5 % 2 : Int).toNat b5).set (6 % 2 : Int).toNat b6, C := [], done := d2 } : Dk) = s2 := by
    rw [hs2]; rfl
  have oks2 : s2.Ok := by rw [← e2]; exact ok2
  have okA : (dkArm s2 arm).Ok := oks2.of_same rfl rfl rfl
  have okC : Dk.Ok { dkArm s2 arm with C := aput (dkArm s2 arm).C 1 b7 } := okA.put 1 b7 (by omega) (by rw [hs2]; simp [dkArm]) (by rw [l7, hs2]; rfl)
  have o7 : outB 7 nx ((128 : Nat) : Int) = (b7, 0) := by
    have h7' : bytesR 7 nx ((128 : Nat) : Int) = some b7 := h7
    unfold outB; rw [if_pos hr7, h7']
  -- what a disk loads whose first two sectors are these
  have hload : ∀ (x z : List UInt8) (a : Bool) (lf dn : Int) (r : Int × List Int), pickB (6, t) 1 x = r → r.1 ≠ 0 → dkLoad ⟨128, [b6, x, z], [], a, lf, false, dn⟩ = (r, 0) := by
    intro x z a lf dn r hx h0
    have hl : loadN ⟨128, [b6, x, z], [], a, lf, false, dn⟩ 2 = r := by
      simp [loadN, dkSector, List.lookup]
      have : pickB (0, []) 0 b6 = (6, t) := by unfold pickB; rw [p6]; simp
      rw [this]; exact hx
    unfold dkLoad
    simp [hl, h0]
  have pick7 : pickB (6, t) 1 b7 = (7, nx) := by unfold pickB; rw [p7]; simp
  have pick5 : pickB (6, t) 1 b5 = (6, t) := by unfold pickB; rw [p5]; simp
  have pickT : ∀ n, pickB (6, t) 1 (b7.take n ++ b5.drop n) = (6, t) ∨ pickB (6, t) 1 (b7.take n ++ b5.drop n) = (7, nx) := by
    intro n
    unfold pickB
    cases hp : parseR (b7.take n ++ b5.drop n) with
    | none => exact .inl rfl
    | some r =>
      simp only
      rcases torn_parse (best := r) h5 h7 n hp hr7 with rfl | h
      · right; simp
      · left; rw [if_neg]; rw [h]; omega
  have fin : ∀ (e : Int) (s4 : Dk) (r : Int × List Int), s4.Ok → dkSave (dkArm s2 arm) 7 nx = (e, s4) → dkLoad (dkCrash s4 keep torn cut) = (r, 0) → (e = 0 ∧ r = (7, nx) ∨ e = 20 ∧ (r = (6, t) ∨ r = (7, nx))) → 
      ∃ s1 s2 : Dk, ∃ e s4 r, dkSave (dkNew 3 128) 5 [] = (0, s1) ∧ s1.Ok ∧ dkSave s1 6 t = (0, s2) ∧ s2.Ok ∧ (dkArm s2 arm).Ok ∧ dkSave (dkArm s2 arm) 7 nx = (e, s4) ∧ s4.Ok ∧ (dkCrash s4 keep torn cut).Ok ∧ dkLoad (dkCrash s4 keep torn cut) = (r, 0) ∧
      (e = 0 ∧ r = (7, nx) ∨ e = 20 ∧ (r = (6, t) ∨ r = (7, nx))) :=
    fun e s4 r o4 a b c => ⟨_, s2, e, s4, r, q1, ok1, by rw [q2, e2], oks2, okA, a, o4, o4.crash _ _ _, b, c⟩
  -- the cached sector, and the power gone
  have gone : ∀ (a : Bool) (lf dn : Int), ∃ r, dkLoad (dkCrash ⟨128, [b6, b5, List.replicate 128 0], [(1, b7)], a, lf, true, dn⟩ keep torn cut) = (r, 0) ∧ (r = (6, t) ∨ r = (7, nx)) := by
    intro a lf dn
    have hc : dkCrash ⟨128, [b6, b5, List.replicate 128 0], [(1, b7)], a, lf, true, dn⟩ keep torn cut = ⟨128, [b6, crashF keep torn (cutN cut 128) 1 b7 b5, List.replicate 128 0], [], false, -1, false, dn⟩ := by
      simp [dkCrash, dkArm, mixF, List.lookup]
    rw [hc]
    have hp : pickB (6, t) 1 (crashF keep torn (cutN cut 128) 1 b7 b5) = (6, t) ∨ pickB (6, t) 1 (crashF keep torn (cutN cut 128) 1 b7 b5) = (7, nx) := by
      unfold crashF
      split
      · exact .inr pick7
      · split
        · exact pickT _
        · exact .inl pick5
    rcases hp with h | h
    · exact ⟨_, hload _ _ _ _ _ _ h (by simp), .inl rfl⟩
    · exact ⟨_, hload _ _ _ _ _ _ h (by simp), .inr rfl⟩
  have kept : ∀ (a : Bool) (lf dn : Int), dkLoad (dkCrash ⟨128, [b6, b7, List.replicate 128 0], [], a, lf, false, dn⟩ keep torn cut) = ((7, nx), 0) := by
    intro a lf dn
    have hc : dkCrash ⟨128, [b6, b7, List.replicate 128 0], [], a, lf, false, dn⟩ keep torn cut = ⟨128, [b6, b7, List.replicate 128 0], [], false, -1, false, dn⟩ := by
      simp [dkCrash, dkArm, mixF]
    rw [hc]
    exact hload _ _ _ _ _ _ pick7 (by simp)
  have hsv : ∀ x, x = dkSave (dkArm s2 arm) 7 nx → ∃ e s4, x = (e, s4) ∧ s4.Ok ∧ ∃ r, dkLoad (dkCrash s4 keep torn cut) = (r, 0) ∧ (e = 0 ∧ r = (7, nx) ∨ e = 20 ∧ (r = (6, t) ∨ r = (7, nx))) := by
    intro x hx
    have hz : (List.replicate 128 (0 : UInt8)).length = 128 := by simp
    obtain ⟨z, hzz⟩ : ∃ z, z = List.replicate 128 (0 : UInt8) := ⟨_, rfl⟩
    rw [← hzz] at hz
    have hA : dkArm s2 arm = ⟨128, [b6, b5, z], [], decide (0 ≤ arm), arm, false, d2⟩ := by rw [hs2, hzz]; rfl
    have hS : ∀ (a : Bool) (lf : Int), dkSave ⟨128, [b6, b5, z], [], a, lf, false, d2⟩ 7 nx = if (dkCommand ⟨128, [b6, b5, z], [(1, b7)], a, lf, false, d2⟩).1 ≠ 0 then dkCommand ⟨128, [b6, b5, z], [(1, b7)], a, lf, false, d2⟩ else dkFlush (dkCommand ⟨128, [b6, b5, z], [(1, b7)], a, lf, false, d2⟩).2 := by
      intro a lf
      have hw : dkWrite ⟨128, [b6, b5, z], [], a, lf, false, d2⟩ 1 b7 = dkCommand ⟨128, [b6, b5, z], [(1, b7)], a, lf, false, d2⟩ := by
        unfold dkWrite dkCheck
        simp [l7, aput, adel]
      unfold dkSave
      simp only [o7, ne_eq, not_true_eq_false, if_false]
      rw [if_neg (by simp)]
      simp only [show (7 : Int) % 2 = 1 from rfl, hw]
    have hfl : ∀ (a : Bool) (lf dn : Int), flushD ⟨128, [b6, b5, z], [(1, b7)], a, lf, false, dn⟩ = [b6, b7, z] := by
      intro a lf dn
      unfold flushD
      simp [mixF, List.lookup]
    have okD : ∀ (x : List UInt8) (C : List (Int × List UInt8)) (a c : Bool) (lf dn : Int), x.length = 128 → (C = [] ∨ C = [(1, b7)]) → Dk.Ok ⟨128, [b6, x, z], C, a, lf, c, dn⟩ := by
      intro x C a c lf dn hx hC
      refine ⟨fun p hp => ?_, fun d hd => ?_, by simp, by simp, by simp, by simp⟩
      · rcases hC with rfl | rfl
        · simp at hp
        · simp at hp; subst hp; simp [l7]
      · simp at hd
        rcases hd with rfl | rfl | rfl
        · exact l6
        · exact hx
        · exact hz
    rw [← hzz] at gone kept
    rw [hA, hS] at hx
    by_cases h1 : 0 ≤ arm
    · have hd : decide (0 ≤ arm) = true := by simpa using h1
      rw [hd] at hx
      by_cases h2 : arm = 0
      · subst h2
        simp only [dkCommand, if_true, ne_eq, show ¬ ((20 : Int) = 0) from by decide, not_false_eq_true] at hx
        obtain ⟨r, hr, hr2⟩ := gone true 0 d2
        exact ⟨_, _, hx, okD _ _ _ _ _ _ l5 (.inr rfl), r, hr, .inr ⟨rfl, hr2⟩⟩
      · have hw1 : wrap64 (arm - 1) = arm - 1 := by unfold wrap64; omega
        simp only [dkCommand, if_true, if_neg h2, ne_eq, not_true_eq_false, if_false, dkFlush, Bool.false_eq_true, hw1] at hx
        by_cases h3 : arm - 1 = 0
        · rw [if_pos h3] at hx
          simp only [if_true, show ¬ ((20 : Int) = 0) from by decide, not_false_eq_true] at hx
          obtain ⟨r, hr, hr2⟩ := gone true (arm - 1) (wrap64 (d2 + 1))
          exact ⟨_, _, hx, okD _ _ _ _ _ _ l5 (.inr rfl), r, hr, .inr ⟨rfl, hr2⟩⟩
        · rw [if_neg h3] at hx
          simp only [not_true_eq_false, if_false, hfl] at hx
          exact ⟨_, _, hx, okD _ _ _ _ _ _ l7 (.inl rfl), _, kept _ _ _, .inl ⟨rfl, rfl⟩⟩
    · have hd : decide (0 ≤ arm) = false := by simpa using h1
      rw [hd] at hx
      simp only [dkCommand, Bool.false_eq_true, if_false, ne_eq, not_true_eq_false, dkFlush, hfl] at hx
      exact ⟨_, _, hx, okD _ _ _ _ _ _ l7 (.inl rfl), _, kept _ _ _, .inl ⟨rfl, rfl⟩⟩
  obtain ⟨e, s4, h1, h2, r, h3, h4⟩ := hsv _ rfl
  exact fin e s4 r h2 h1 h3 h4
end Go.Proofs.Ytohknblokejldaa
end
section
/- Plain: the document's disk, two lists of sectors; how it goes with the program's. -/
namespace Go.Proofs.Ytohknblokejldaa
open Go.RowKit
set_option linter.unusedVariables false

structure Rf where
  D : List (List UInt8)
  C : List (List UInt8)
  size : Nat
  armed : Bool
  down : Bool
  left : Int
  done : Int
def rfNew (n size : Nat) : Rf := ⟨List.replicate n (List.replicate size 0), List.replicate n [], size, false, false, 0, 0⟩
def rfCommand (x : Rf) : Int × Rf := if x.armed = true then (if x.left = 0 then (20, { x with down := true }) else (0, { x with left := wrap64 (x.left - 1), done := wrap64 (x.done + 1) })) else (0, { x with done := wrap64 (x.done + 1) })
def rfCheck (x : Rf) (i : Int) : Int := if x.down then 20 else if i < 0 ∨ (x.D.length : Int) ≤ i then 11 else 0
def rfWrite (x : Rf) (i : Int) (l : List UInt8) : Int × Rf :=
  if rfCheck x i ≠ 0 then (rfCheck x i, x) else if l.length ≠ x.size then (10, x) else rfCommand { x with C := x.C.set i.toNat l }
def rfSector (x : Rf) (i : Nat) : List UInt8 := if x.C.getD i [] = [] then x.D.getD i [] else x.C.getD i []
def rfRead (x : Rf) (i : Int) : List UInt8 × Int := if rfCheck x i ≠ 0 then ([], rfCheck x i) else (rfSector x i.toNat, 0)
def mixR (f : Int → List UInt8 → List UInt8 → List UInt8) (D C : List (List UInt8)) : List (List UInt8) := D.mapIdx fun i d => if C.getD i [] = [] then d else f (i : Int) (C.getD i []) d
def rfFlush (x : Rf) : Int × Rf := if x.down then (20, x) else if (rfCommand x).1 ≠ 0 then rfCommand x else (0, { (rfCommand x).2 with D := mixR (fun _ b _ => b) x.D x.C, C := List.replicate x.C.length [] })
def rfCrash (x : Rf) (keep : List Int) (torn cut : Int) : Rf := { x with D := mixR (crashF keep torn (cutN cut x.size)) x.D x.C, C := List.replicate x.C.length [], down := false, armed := false }
def rfArm (x : Rf) (n : Int) : Rf := { x with armed := decide (0 ≤ n), left := n }

structure RfRel (s : Dk) (x : Rf) : Prop where
  D : x.D = s.D
  len : x.C.length = s.D.length
  C : ∀ i : Nat, i < s.D.length → x.C.getD i [] = (s.C.lookup (i : Int)).getD []
  size : x.size = s.size
  armed : x.armed = s.armed
  down : x.down = s.down
  done : x.done = s.done
  left : s.armed = true → x.left = s.left
theorem getD_replicate {n i : Nat} : (List.replicate n ([] : List UInt8)).getD i [] = [] := by
  rw [List.getD_eq_getElem?_getD, List.getElem?_replicate]; split <;> rfl
theorem RfRel.new (n size : Nat) : RfRel (dkNew n size) (rfNew n size) :=
  ⟨rfl, by simp [rfNew, dkNew], fun i _ => by show (List.replicate n []).getD i [] = _; rw [getD_replicate]; rfl, rfl, rfl, rfl, rfl, fun h => by cases h⟩
theorem RfRel.check {s : Dk} {x : Rf} (h : RfRel s x) (i : Int) : rfCheck x i = dkCheck s i := by unfold rfCheck dkCheck; rw [h.down, h.D]
theorem RfRel.command {s : Dk} {x : Rf} (h : RfRel s x) : (rfCommand x).1 = (dkCommand s).1 ∧ RfRel (dkCommand s).2 (rfCommand x).2 := by
  unfold rfCommand dkCommand
  by_cases ha : s.armed = true
  · have hxa : x.armed = true := h.armed.trans ha
    have hl := h.left ha
    rw [if_pos hxa, if_pos ha]
    by_cases h0 : s.left = 0
    · rw [if_pos (hl.trans h0), if_pos h0]
      exact ⟨rfl, h.D, h.len, h.C, h.size, h.armed, rfl, h.done, h.left⟩
    · rw [if_neg (by rw [hl]; exact h0), if_neg h0]
      exact ⟨rfl, h.D, h.len, h.C, h.size, h.armed, h.down, by show wrap64 (x.done + 1) = wrap64 (s.done + 1); rw [h.done], fun _ => by show wrap64 (x.left - 1) = wrap64 (s.left - 1); rw [hl]⟩
  · have hxa : ¬ x.armed = true := by rw [h.armed]; exact ha
    rw [if_neg hxa, if_neg ha]
    exact ⟨rfl, h.D, h.len, h.C, h.size, h.armed, h.down, by show wrap64 (x.done + 1) = wrap64 (s.done + 1); rw [h.done], fun q => absurd q ha⟩
theorem Dk.Ok.command {s : Dk} (h : s.Ok) : (dkCommand s).2.Ok := h.of_same (dkCommand_same s).1 (dkCommand_same s).2.1 (dkCommand_same s).2.2
theorem RfRel.write {s : Dk} {x : Rf} (h : RfRel s x) (hok : s.Ok) (i : Int) (l : List UInt8) : (rfWrite x i l).1 = (dkWrite s i l).1 ∧ RfRel (dkWrite s i l).2 (rfWrite x i l).2 ∧ (dkWrite s i l).2.Ok := by
  by_cases hc : dkCheck s i = 0
  · by_cases hl : l.length = s.size
    · have e1 : rfWrite x i l = rfCommand { x with C := x.C.set i.toNat l } := by
        unfold rfWrite
        rw [if_neg (by rw [h.check]; simpa using hc), if_neg (by rw [h.size]; simpa using hl)]
      have e2 : dkWrite s i l = dkCommand { s with C := aput s.C i l } := by
        unfold dkWrite
        rw [if_neg (by simpa using hc), if_neg (by simpa using hl)]
      rw [e1, e2]
      have hb : 0 ≤ i ∧ i < (s.D.length : Int) := by
        unfold dkCheck at hc
        by_cases hd : s.down = true
        · rw [if_pos hd] at hc; omega
        · rw [if_neg hd] at hc
          by_cases hr : i < 0 ∨ (s.D.length : Int) ≤ i
          · rw [if_pos hr] at hc; omega
          · omega
      have hput := hok.put i l hb.1 hb.2 hl
      have hrel : RfRel { s with C := aput s.C i l } { x with C := x.C.set i.toNat l } := ⟨h.D, by simpa using h.len, fun j hj => by
        show (x.C.set i.toNat l).getD j [] = ((aput s.C i l).lookup (j : Int)).getD []
        have hj2 : j < s.D.length := hj
        have hlen := h.len
        rw [lookup_aput, List.getD_eq_getElem?_getD, List.getElem?_set]
        by_cases hij : i.toNat = j
        · rw [if_pos hij, if_pos (by omega), if_pos (by omega), Option.getD_some]
        · rw [if_neg hij, if_neg (by omega), ← h.C j hj, List.getD_eq_getElem?_getD], h.size, h.armed, h.down, h.done, h.left⟩
      exact ⟨hrel.command.1, hrel.command.2, hput.command⟩
    · have e1 : rfWrite x i l = (10, x) := by
        unfold rfWrite
        rw [if_neg (by rw [h.check]; simpa using hc), if_pos (by rw [h.size]; exact hl)]
      have e2 : dkWrite s i l = (10, s) := by
        unfold dkWrite
        rw [if_neg (by simpa using hc), if_pos hl]
      rw [e1, e2]
      exact ⟨rfl, h, hok⟩
  · have e1 : rfWrite x i l = (rfCheck x i, x) := by
      unfold rfWrite
      rw [if_pos (by rw [h.check]; exact hc)]
    have e2 : dkWrite s i l = (dkCheck s i, s) := by
      unfold dkWrite
      rw [if_pos hc]
    rw [e1, e2]
    exact ⟨h.check i, h, hok⟩
theorem Dk.Ok.lookup {s : Dk} (h : s.Ok) {k : Int} {l : List UInt8} (hl : s.C.lookup k = some l) : 0 ≤ k ∧ k < (s.D.length : Int) ∧ l.length = s.size ∧ l ≠ [] := by
  have := h.key _ (lookup_mem hl)
  refine ⟨this.1, this.2.1, this.2.2, fun e => ?_⟩
  have h2 := this.2.2
  have h3 := h.sz0
  rw [e] at h2
  simp at h2
  omega
theorem RfRel.sector {s : Dk} {x : Rf} (h : RfRel s x) (hok : s.Ok) (i : Nat) (hi : i < s.D.length) : rfSector x i = dkSector s (i : Int) := by
  unfold rfSector dkSector
  rw [h.C i hi, h.D]
  cases hl : s.C.lookup (i : Int) with
  | none => simp
  | some b =>
    rw [Option.getD_some, if_neg (hok.lookup hl).2.2.2]
    rfl
theorem RfRel.read {s : Dk} {x : Rf} (h : RfRel s x) (hok : s.Ok) (i : Int) : rfRead x i = dkRead s i := by
  unfold rfRead dkRead
  rw [h.check]
  by_cases hc : dkCheck s i = 0
  · rw [if_neg (by simpa using hc), if_neg (by simpa using hc)]
    have hb : 0 ≤ i ∧ i < (s.D.length : Int) := by
      unfold dkCheck at hc
      by_cases hd : s.down = true
      · rw [if_pos hd] at hc; omega
      · rw [if_neg hd] at hc
        by_cases hr : i < 0 ∨ (s.D.length : Int) ≤ i
        · rw [if_pos hr] at hc; omega
        · omega
    have := h.sector hok i.toNat (by omega)
    rw [this, show ((i.toNat : Nat) : Int) = i by omega]
  · rw [if_pos hc, if_pos hc]
theorem RfRel.mix {s : Dk} {x : Rf} (h : RfRel s x) (hok : s.Ok) (f : Int → List UInt8 → List UInt8 → List UInt8) : mixR f x.D x.C = mixF f s.D s.C [] := by
  apply List.ext_getElem?
  intro i
  rw [mixF_at]
  unfold mixR
  rw [List.getElem?_mapIdx, h.D]
  cases hd : s.D[i]? with
  | none => rfl
  | some d =>
    have hi : i < s.D.length := (List.getElem?_eq_some_iff.1 hd).1
    rw [Option.map_some, Option.map_some, h.C i hi]
    simp only [List.not_mem_nil, if_false]
    cases hl : s.C.lookup (i : Int) with
    | none => simp
    | some b => rw [Option.getD_some, if_neg (hok.lookup hl).2.2.2]
theorem RfRel.empty {s : Dk} {x : Rf} (h : RfRel s x) (i : Nat) : (List.replicate x.C.length ([] : List UInt8)).getD i [] = ((([] : List (Int × List UInt8))).lookup (i : Int)).getD [] := by rw [getD_replicate]; rfl
theorem RfRel.flush {s : Dk} {x : Rf} (h : RfRel s x) (hok : s.Ok) : (rfFlush x).1 = (dkFlush s).1 ∧ RfRel (dkFlush s).2 (rfFlush x).2 ∧ (dkFlush s).2.Ok := by
  have hcm := h.command
  have hcs := dkCommand_same s
  have hok1 := hok.command
  by_cases hd : s.down = true
  · have e1 : rfFlush x = (20, x) := by unfold rfFlush; rw [if_pos (h.down.trans hd)]
    have e2 : dkFlush s = (20, s) := by unfold dkFlush; rw [if_pos hd]
    rw [e1, e2]
    exact ⟨rfl, h, hok⟩
  · by_cases he : (dkCommand s).1 = 0
    · have e1 : rfFlush x = (0, { (rfCommand x).2 with D := mixR (fun _ b _ => b) x.D x.C, C := List.replicate x.C.length [] }) := by
        unfold rfFlush
        rw [if_neg (by rw [h.down]; exact hd), if_neg (by rw [hcm.1]; simpa using he)]
      have e2 : dkFlush s = (0, { (dkCommand s).2 with D := flushD (dkCommand s).2, C := [] }) := by
        unfold dkFlush
        rw [if_neg hd, if_neg (by simpa using he)]
      rw [e1, e2]
      have hm := h.mix hok (fun _ b _ => b)
      refine ⟨rfl, ⟨?_, ?_, ?_, hcm.2.size, hcm.2.armed, hcm.2.down, hcm.2.done, hcm.2.left⟩, hok1.flush⟩
      · show mixR (fun _ b _ => b) x.D x.C = flushD (dkCommand s).2
        unfold flushD
        rw [hcs.1, hcs.2.1]; exact hm
      · show (List.replicate x.C.length []).length = (flushD (dkCommand s).2).length
        unfold flushD
        rw [List.length_replicate, mixF_len, hcs.1]; exact h.len
      · intro i _; exact h.empty i
    · have e1 : rfFlush x = rfCommand x := by
        unfold rfFlush
        rw [if_neg (by rw [h.down]; exact hd), if_pos (by rw [hcm.1]; exact he)]
      have e2 : dkFlush s = dkCommand s := by
        unfold dkFlush
        rw [if_neg hd, if_pos he]
      rw [e1, e2]
      exact ⟨hcm.1, hcm.2, hok1⟩
theorem RfRel.arm {s : Dk} {x : Rf} (h : RfRel s x) (n : Int) : RfRel (dkArm s n) (rfArm x n) := ⟨h.D, h.len, h.C, h.size, rfl, h.down, h.done, fun _ => rfl⟩
theorem Dk.Ok.arm {s : Dk} (h : s.Ok) (n : Int) : (dkArm s n).Ok := h.of_same rfl rfl rfl
theorem RfRel.crash {s : Dk} {x : Rf} (h : RfRel s x) (hok : s.Ok) (keep : List Int) (torn cut : Int) : RfRel (dkCrash s keep torn cut) (rfCrash x keep torn cut) := by
  have hm := h.mix hok (crashF keep torn (cutN cut s.size))
  refine ⟨?_, ?_, ?_, h.size, rfl, rfl, h.done, fun q => by simp [dkCrash, dkArm] at q⟩
  · show mixR (crashF keep torn (cutN cut x.size)) x.D x.C = mixF _ s.D s.C []
    rw [h.size]; exact hm
  · show (List.replicate x.C.length []).length = (mixF _ s.D s.C []).length
    rw [List.length_replicate, mixF_len]; exact h.len
  · intro i _; exact h.empty i
end Go.Proofs.Ytohknblokejldaa
end
