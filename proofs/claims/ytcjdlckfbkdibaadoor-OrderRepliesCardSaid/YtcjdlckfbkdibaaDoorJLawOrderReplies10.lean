/- Joined texts, in this order: VarTellMath, NameMath. Each one's first remark says what it proves; no condition beyond those that its theorems name. -/
import Derived.Test.YtcjdlckfbkdibaaDoorJLawOrderReplies09
import Derived.Test.YtcjdlckfbkdibaaDoorJLawOrderReplies03
import Derived.Lib.SlTrimSet
import Derived.Lib.Bytealg
section
/- Plain: things, their bytes, what is told of them. -/
namespace Go.Proofs.YtcjdlckfbkdibaaDoor
set_option linter.unusedVariables false

/-- no number's bytes are the front of another's -/
theorem enc_free (u v : Nat) (r s : List UInt8) (h : enc u ++ r = enc v ++ s) : u = v ∧ r = s := by
  obtain ⟨m, c, hu, hm, hc⟩ := enc_shape u
  obtain ⟨p, d, hv, hp, hd⟩ := enc_shape v
  have h2 := h
  rw [hu, hv, List.append_assoc, List.append_assoc] at h2
  obtain ⟨e1, e2⟩ := big_cut m p c d r s hm hp hc hd h2
  have e3 : enc u = enc v := by rw [hu, hv, e1, e2]
  have e4 : u = v := by rw [← val_enc u, ← val_enc v, e3]
  refine ⟨e4, ?_⟩
  rw [e3] at h
  exact List.append_cancel_left h
theorem zz_inj {a b : Int} (h : zz a = zz b) : a = b := by rw [← unzz_zz a, ← unzz_zz b, h]
theorem encs_free : ∀ (a b : List Int) (r s : List UInt8), a.length = b.length → encs a ++ r = encs b ++ s → a = b ∧ r = s
  | [], [], r, s, _, h => ⟨rfl, by simpa [encs] using h⟩
  | x :: a, y :: b, r, s, hl, h => by
    simp only [encs, List.append_assoc] at h
    obtain ⟨e1, e2⟩ := enc_free _ _ _ _ h
    obtain ⟨e3, e4⟩ := encs_free a b r s (by simpa using hl) e2
    exact ⟨by rw [zz_inj e1, e3], e4⟩
  | [], _ :: _, _, _, hl, _ => by simp at hl
  | _ :: _, [], _, _, hl, _ => by simp at hl

/-- a thing that is written, and read -/
structure Thing where
  kind : Int
  n : Int
  text : List UInt8
  flag : Bool
  list : List Int
structure Thing.Ok (x : Thing) : Prop where
  n1 : -9223372036854775808 ≤ x.n
  n2 : x.n ≤ 9223372036854775807
  text : x.text.length ≤ 300
  list : x.list.length ≤ 40
  bd : ∀ y ∈ x.list, -9223372036854775808 ≤ y ∧ y ≤ 9223372036854775807
/-- its bytes -/
def Thing.enc (x : Thing) : List UInt8 :=
  if x.kind = 0 then Proofs.YtcjdlckfbkdibaaDoor.enc (zz x.n) else if x.kind = 1 then Proofs.YtcjdlckfbkdibaaDoor.enc (zz (x.text.length : Int)) ++ x.text else if x.kind = 2 then [if x.flag then 1 else 0]
  else if x.kind = 3 then Proofs.YtcjdlckfbkdibaaDoor.enc (zz (x.list.length : Int)) ++ encs x.list else []
/-- is it told? what is left -/
def Thing.told (x : Thing) (s : Option (List UInt8)) : Bool × Option (List UInt8) :=
  if x.kind = 0 then (decide ((inInt s).1 = x.n), (inInt s).2) else if x.kind = 1 then (decide ((inBytes 1000 s).1 = x.text), (inBytes 1000 s).2) else if x.kind = 2 then (decide ((inBool s).1 = x.flag), (inBool s).2)
  else if x.kind = 3 then (decide ((inInts 1000 s).1 = x.list), (inInts 1000 s).2) else (true, s)
theorem Thing.enc_le (x : Thing) (h : x.Ok) : x.enc.length ≤ 410 := by
  unfold Thing.enc
  have e1 := enc_len10 (zz x.n) (zz_lt _ h.n1 h.n2)
  have e2 := enc_len10 (zz (x.text.length : Int)) (zz_lt _ (by omega) (by have := h.text; omega))
  have e3 := enc_len10 (zz (x.list.length : Int)) (zz_lt _ (by omega) (by have := h.list; omega))
  have e4 := encs_le x.list h.bd
  have := h.text
  have := h.list
  split
  · omega
  split
  · rw [List.length_append]; omega
  split
  · simp
  split
  · rw [List.length_append]; omega
  · simp
theorem Thing.told_enc (x : Thing) (h : x.Ok) (t : List UInt8) : x.told (some (x.enc ++ t)) = (true, some t) := by
  unfold Thing.told Thing.enc
  split
  · rw [inInt_enc _ h.n1 h.n2]; simp
  split
  · rw [List.append_assoc, inBytes_enc 1000 x.text t (by have := h.text; omega) (by have := h.text; omega)]; simp
  split
  · cases x.flag <;> simp [inBool, inTake]
  split
  · unfold inInts
    rw [List.append_assoc, inWithin_enc 1000 _ (by omega) (by have := h.list; omega) (by have := h.list; omega)]
    simp only [Int.toNat_natCast]
    simp [inIntsF_encs x.list [] t h.bd]
  · simp
theorem inTake_none (n : Nat) : inTake n none = ([], none) := rfl
theorem inInt_noneT : inInt none = (0, none) := by unfold inInt; simp [readF]
theorem inWithin_none (lo hi : Int) : inWithin lo hi none = (0, none) := by unfold inWithin; rw [inInt_noneT]; simp
theorem inInts_noneT : (inInts 1000 none).2 = none := by unfold inInts; rw [inWithin_none]; rfl
theorem Thing.told_none (x : Thing) : (x.told none).2 = none := by
  unfold Thing.told
  split
  · rw [inInt_noneT]
  split
  · unfold inBytes; rw [inWithin_none]; rfl
  split
  · rfl
  split
  · exact inInts_noneT
  · rfl
/-- a number is cut off: it is bad -/
theorem inInt_cut (n : Int) (p q : List UInt8) (h : p ++ q = enc (zz n)) (hq : q ≠ []) : (inInt (some p)).2 = none := by
  cases hr : inInt (some p) with
  | mk n' s =>
    cases s with
    | none => rfl
    | some t =>
      exfalso
      have := inInt_sound p n' t hr
      rw [this, List.append_assoc] at h
      obtain ⟨-, e⟩ := enc_free (zz n') (zz n) (t ++ q) [] (by rw [h, List.append_nil])
      simp at e
      exact hq e.2
/-- a count is read, or it is bad -/
theorem inWithin_cut (hi n : Int) (p q l : List UInt8) (h : p ++ q = enc (zz n) ++ l) : (inWithin 0 hi (some p)).2 = none ∨ ∃ t, inWithin 0 hi (some p) = (n, some t) ∧ t ++ q = l := by
  unfold inWithin
  split
  · exact .inl rfl
  · rename_i hc
    cases hr : inInt (some p) with
    | mk n' s =>
      cases s with
      | none => exact .inl rfl
      | some t =>
        right
        have := inInt_sound p n' t hr
        rw [this, List.append_assoc] at h
        obtain ⟨e1, e2⟩ := enc_free (zz n') (zz n) (t ++ q) l h
        exact ⟨t, by rw [zz_inj e1], e2⟩
theorem Thing.told_cut (x : Thing) (p q : List UInt8) (h : p ++ q = x.enc) (hq : q ≠ []) : (x.told (some p)).2 = none := by
  have hql : 0 < q.length := List.length_pos_iff.2 hq
  unfold Thing.enc at h
  unfold Thing.told
  split
  · rename_i hk
    rw [if_pos hk] at h
    exact inInt_cut x.n p q h hq
  rename_i k0
  rw [if_neg k0] at h
  split
  · rename_i hk
    rw [if_pos hk] at h
    unfold inBytes
    rcases inWithin_cut 1000 _ p q _ h with e | ⟨t, e, ht⟩
    · rw [e]; rfl
    · rw [e]
      have := congrArg List.length ht
      rw [List.length_append] at this
      unfold inTake
      simp only [Int.toNat_natCast]
      rw [if_pos (by omega)]
  rename_i k1
  rw [if_neg k1] at h
  split
  · rename_i hk
    rw [if_pos hk] at h
    have := congrArg List.length h
    rw [List.length_append, List.length_singleton] at this
    have : p = [] := List.eq_nil_of_length_eq_zero (by omega)
    subst this
    rfl
  rename_i k2
  rw [if_neg k2] at h
  split
  · rename_i hk
    rw [if_pos hk] at h
    unfold inInts
    rcases inWithin_cut 1000 _ p q _ h with e | ⟨t, e, ht⟩
    · cases hw : inWithin 0 1000 (some p) with
      | mk n' s =>
        rw [hw] at e
        simp only at e
        subst e
        have hn : inWithin 0 1000 (some p) = (0, none) := by
          unfold inWithin at hw ⊢
          split
          · rfl
          · rename_i hc
            rw [if_neg hc] at hw
            rw [hw] at hc
            simp at hc
        rw [hn] at hw
        simp only [Prod.mk.injEq] at hw
        rw [← hw.1]
        rfl
    · rw [e]
      simp only [Int.toNat_natCast]
      cases hf : inIntsF x.list.length [] (some t) with
      | mk li s =>
        cases s with
        | none => rfl
        | some t' =>
          exfalso
          obtain ⟨r, -, hr, hm, -⟩ := inIntsF_some _ _ _ _ _ hf
          rw [hm, List.append_assoc] at ht
          obtain ⟨-, e2⟩ := encs_free r x.list (t' ++ q) [] hr (by rw [ht, List.append_nil])
          simp at e2
          exact hq e2.2
  · rename_i hk
    rw [if_neg hk] at h
    simp at h
    exact absurd h.2 hq
/-- all things' bytes -/
def encT : List Thing → List UInt8
  | [] => []
  | x :: l => x.enc ++ encT l
theorem encT_append : ∀ (a b : List Thing), encT (a ++ b) = encT a ++ encT b
  | [], b => rfl
  | x :: a, b => by simp [encT, encT_append a b]
theorem encT_le : ∀ (l : List Thing), (∀ x ∈ l, x.Ok) → (encT l).length ≤ 410 * l.length
  | [], _ => by simp [encT]
  | x :: l, h => by
    have h1 := x.enc_le (h x (by simp))
    have h2 := encT_le l (fun y hy => h y (by simp [hy]))
    simp only [encT, List.length_append, List.length_cons]
    omega
end Go.Proofs.YtcjdlckfbkdibaaDoor
end
section
/- What a name is (layers 17 and 27). No program in sight. -/
namespace Go.Proofs.YtcjdlckfbkdibaaDoor
open Go.Lib (trimS trimLeftS trimRightS indexByte)

def isFirstB (c : UInt8) : Bool := decide (97 ≤ c.toNat) && decide (c.toNat ≤ 122)
def isLetB (c : UInt8) : Bool := isFirstB c || (decide (48 ≤ c.toNat) && decide (c.toNat ≤ 57)) || c == 45
def nameB (l : List UInt8) : Bool := decide (1 ≤ l.length) && decide (l.length ≤ 16) && isFirstB (l.getD 0 0) && l.all isLetB
def firstS : List UInt8 := [97, 98, 99, 100, 101, 102, 103, 104, 105, 106, 107, 108, 109, 110, 111, 112, 113, 114, 115, 116, 117, 118, 119, 120, 121, 122]
def lettersS : List UInt8 := firstS ++ [48, 49, 50, 51, 52, 53, 54, 55, 56, 57, 45]
theorem u8_all {P : UInt8 → Prop} (h : ∀ n : Fin 256, P (UInt8.ofNat n.val)) (c : UInt8) : P c := by
  have := h ⟨c.toNat, c.toNat_lt⟩
  simpa using this
set_option maxRecDepth 100000 in
theorem letters_contains (c : UInt8) : lettersS.contains c = isLetB c := u8_all (P := fun c => lettersS.contains c = isLetB c) (by decide) c
set_option maxRecDepth 100000 in
theorem index_first (c : UInt8) : decide (0 ≤ indexByte firstS c) = isFirstB c := u8_all (P := fun c => decide (0 ≤ indexByte firstS c) = isFirstB c) (by decide) c
theorem trimLeft_empty (l cs : List UInt8) : (trimLeftS l cs).isEmpty = l.all (cs.contains ·) := by
  unfold trimLeftS
  induction l with
  | nil => rfl
  | cons a l ih =>
    rw [List.dropWhile_cons]
    cases h : cs.contains a
    · simp only [Bool.false_eq_true, if_false, List.all_cons, h, Bool.false_and]; rfl
    · simp only [if_true, List.all_cons, h, Bool.true_and]; exact ih
theorem dropWhile_all (p : UInt8 → Bool) (l : List UInt8) : (l.dropWhile p).all p = l.all p := by
  induction l with
  | nil => rfl
  | cons a l ih =>
    rw [List.dropWhile_cons]
    cases h : p a
    · simp [h]
    · simp only [if_true, List.all_cons, h, Bool.true_and]; exact ih
theorem trim_empty (l cs : List UInt8) : (trimS l cs).isEmpty = l.all (cs.contains ·) := by
  unfold trimS
  rw [trimLeft_empty]
  unfold trimRightS
  rw [List.all_reverse, dropWhile_all, List.all_reverse]
theorem trim_letters (l : List UInt8) : (trimS l lettersS).isEmpty = l.all isLetB := by
  rw [trim_empty]
  congr 1
  funext c
  exact letters_contains c
/-- the program's word of it -/
theorem nameB_eq (l : List UInt8) : nameB l = (!l.isEmpty && decide (l.length ≤ 16) && (trimS l lettersS).isEmpty && decide (0 ≤ indexByte firstS (l.getD 0 0))) := by
  unfold nameB
  rw [trim_letters, index_first]
  cases l with
  | nil => rfl
  | cons a l =>
    have : decide (1 ≤ (a :: l).length) = true := by simp
    rw [this]
    simp only [List.isEmpty_cons, Bool.not_false, Bool.true_and]
    cases decide ((a :: l).length ≤ 16) <;> cases isFirstB ((a :: l).getD 0 0) <;> cases (a :: l).all isLetB <;> rfl
end Go.Proofs.YtcjdlckfbkdibaaDoor
end
