/- Joined texts, in this order: OrdMath. Each one's first remark says what it proves; no condition beyond those that its theorems name. -/
import Derived.Test.YtcjdlckfbkdibaaDoorJLawOrderReplies10
section
/- Plain: commands, their bytes, and what is read of bytes. -/
namespace Go.Proofs.YtcjdlckfbkdibaaDoor
set_option linter.unusedVariables false

/-- how many numbers a kind uses -/
def usesN (k : Int) : Nat :=
  if k = 1 ∨ k = 8 then 0 else if k = 4 ∨ k = 7 ∨ k = 22 then 4 else if k = 11 ∨ k = 14 ∨ k = 19 then 3
  else if k = 2 ∨ k = 3 ∨ k = 6 ∨ k = 10 ∨ k = 18 ∨ k = 20 ∨ k = 21 ∨ k = 26 then 2
  else if k = 24 ∨ k = 27 ∨ k < 1 ∨ 27 < k then 0 else 1
/-- does it use a text? -/
def usesT (k : Int) : Bool := decide (k = 1) || decide (k = 8)
def fieldsL (k : Int) : List UInt8 := if usesT k then [84] else ([65, 66, 67, 68] : List UInt8).take (usesN k)
theorem usesN_le (k : Int) : usesN k ≤ 4 := by unfold usesN; (repeat' split) <;> omega
theorem usesT_N {k : Int} (h : usesT k = true) : usesN k = 0 := by
  unfold usesT at h
  simp at h
  unfold usesN
  rw [if_pos h]
theorem usesT_zero : usesT 0 = false := by decide
theorem usesN_zero : usesN 0 = 0 := by decide

/-- a command -/
structure Cm where
  ses : Int
  who : Int
  kind : Int
  ns : List Int
  text : List UInt8
  login : List UInt8
/-- may it be one? -/
def Cm.right (c : Cm) : Bool :=
  decide (0 ≤ c.ses) && decide (c.ses ≤ 1048576) && decide (c.who = 0) && (c.ns.drop (usesN c.kind)).all (fun x => decide (x = 0)) &&
  (if c.login.isEmpty then (usesT c.kind || c.text.isEmpty) && decide (c.text.length ≤ 16) && (decide (1 ≤ c.kind) && decide (c.kind ≤ 27))
   else decide (c.kind = 0) && c.text.isEmpty && decide (0 < c.ses) && nameB c.login)
def encB (l : List UInt8) : List UInt8 := enc (zz (l.length : Int)) ++ l
/-- its bytes -/
def Cm.bytes (c : Cm) : List UInt8 :=
  enc (zz c.ses) ++ enc (zz c.kind) ++ (if c.login.isEmpty then (if usesT c.kind then encB c.text else encs (c.ns.take (usesN c.kind))) else encB c.login)
/-- some numbers, one behind the other -/
def inNums : Nat → Option (List UInt8) → List Int × Option (List UInt8)
  | 0, s => ([], s)
  | n + 1, s => ((inInt s).1 :: (inNums n (inInt s).2).1, (inNums n (inInt s).2).2)
theorem inNums_len : ∀ (n : Nat) (s : Option (List UInt8)), (inNums n s).1.length = n
  | 0, s => rfl
  | n + 1, s => by rw [inNums, List.length_cons, inNums_len n]
theorem inNums_none : ∀ (n : Nat), (inNums n none).2 = none
  | 0 => rfl
  | n + 1 => by rw [inNums, inInt_noneT]; exact inNums_none n
theorem inNums_enc : ∀ (li : List Int) (t : List UInt8), (∀ x ∈ li, -9223372036854775808 ≤ x ∧ x ≤ 9223372036854775807) → inNums li.length (some (encs li ++ t)) = (li, some t)
  | [], t, _ => by simp [inNums, encs]
  | x :: r, t, h => by
    have hx := h x (by simp)
    rw [List.length_cons, inNums, encs, List.append_assoc, inInt_enc x hx.1 hx.2, inNums_enc r t (fun y hy => h y (by simp [hy]))]
theorem inNums_sound : ∀ (n : Nat) (m t : List UInt8) (li : List Int), inNums n (some m) = (li, some t) → m = encs li ++ t
  | 0, m, t, li, h => by
    simp only [inNums, Prod.mk.injEq, Option.some.injEq] at h
    obtain ⟨rfl, rfl⟩ := h; rfl
  | n + 1, m, t, li, h => by
    simp only [inNums, Prod.mk.injEq] at h
    obtain ⟨rfl, h2⟩ := h
    cases hi : inInt (some m) with
    | mk x s =>
      rw [hi] at h2
      cases s with
      | none => rw [inNums_none] at h2; simp at h2
      | some m2 =>
        simp only at h2 ⊢
        have e := inNums_sound n m2 t (inNums n (some m2)).1 (by rw [← h2])
        rw [inInt_sound m x m2 hi, encs, List.append_assoc]
        exact congrArg _ e
theorem inWithin_sound (lo hi : Int) (m t : List UInt8) (n : Int) (h : inWithin lo hi (some m) = (n, some t)) : m = enc (zz n) ++ t := by
  unfold inWithin at h
  split at h
  · simp at h
  · exact inInt_sound m n t h
theorem inBytes_sound (hi : Int) (m t l : List UInt8) (h : inBytes hi (some m) = (l, some t)) : m = encB l ++ t := by
  unfold inBytes at h
  cases hw : inWithin 0 hi (some m) with
  | mk n s =>
    have h0 := inWithin_lo 0 hi (some m) (by omega)
    rw [hw] at h h0
    cases s with
    | none => simp [inTake] at h
    | some m2 =>
      have := inWithin_sound 0 hi m m2 n hw
      simp only [inTake] at h
      split at h
      · simp at h
      · simp only [Prod.mk.injEq, Option.some.injEq] at h
        obtain ⟨rfl, rfl⟩ := h
        rw [this]
        unfold encB
        rw [List.length_take, Nat.min_eq_left (by omega), Int.toNat_of_nonneg h0]
        simp
/-- what is read -/
structure Rd0 where
  ses : Int
  kind : Int
  login : List UInt8
  text : List UInt8
  nums : List Int
  left : Option (List UInt8)
def readCm (b : List UInt8) : Rd0 :=
  let r1 := inWithin 0 1048576 (some b)
  let r2 := inInt r1.2
  let r3 : List UInt8 × Option (List UInt8) := if r2.1 = 0 then inBytes 16 r2.2 else ([], r2.2)
  let r4 : List UInt8 × Option (List UInt8) := if usesT r2.1 then inBytes 16 r3.2 else ([], r3.2)
  let r5 := inNums (usesN r2.1) r4.2
  ⟨r1.1, r2.1, r3.1, r4.1, r5.1, r5.2⟩
def Rd0.cm (r : Rd0) : Cm := ⟨r.ses, 0, r.kind, r.nums ++ List.replicate (4 - r.nums.length) 0, r.text, r.login⟩
def parseCm (b : List UInt8) : Option Cm := if (readCm b).left = some [] ∧ (readCm b).cm.right = true then some (readCm b).cm else none

structure Cm.Ok (c : Cm) : Prop where
  s1 : -9223372036854775808 ≤ c.ses
  s2 : c.ses ≤ 9223372036854775807
  k1 : -9223372036854775808 ≤ c.kind
  k2 : c.kind ≤ 9223372036854775807
  ns : c.ns.length = 4
  bd : ∀ x ∈ c.ns, -9223372036854775808 ≤ x ∧ x ≤ 9223372036854775807
theorem Cm.ext' {a b : Cm} (h1 : a.ses = b.ses) (h2 : a.who = b.who) (h3 : a.kind = b.kind) (h4 : a.ns = b.ns) (h5 : a.text = b.text) (h6 : a.login = b.login) : a = b := by
  cases a; cases b; simp_all
theorem fill_ns (l : List Int) (n : Nat) (hl : l.length = 4) (h : (l.drop n).all (fun x => decide (x = 0)) = true) (hn : n ≤ 4) : l.take n ++ List.replicate (4 - (l.take n).length) 0 = l := by
  have h1 : l.drop n = List.replicate (l.drop n).length 0 := List.eq_replicate_of_mem (fun b hb => by simpa using List.all_eq_true.1 h b hb)
  have h2 : 4 - (l.take n).length = (l.drop n).length := by rw [List.length_take, List.length_drop]; omega
  rw [h2, ← h1, List.take_append_drop]
theorem parse_bytes (c : Cm) (ok : c.Ok) (h : c.right = true) : parseCm c.bytes = some c := by
  have hr := h
  obtain ⟨ses, who, kind, ns, text, login⟩ := c
  unfold Cm.right at h
  simp only [Bool.and_eq_true, decide_eq_true_eq] at h
  obtain ⟨⟨⟨⟨h1, h2⟩, h3⟩, h4⟩, h5⟩ := h
  have s1 := ok.s1; have s2 := ok.s2; have k1 := ok.k1; have k2 := ok.k2; have hns := ok.ns; have hbd := ok.bd
  simp only at h1 h2 h3 h4 h5 s1 s2 k1 k2 hns hbd
  have hread : (readCm (Cm.bytes ⟨ses, who, kind, ns, text, login⟩)).left = some [] ∧ (readCm (Cm.bytes ⟨ses, who, kind, ns, text, login⟩)).cm = ⟨ses, who, kind, ns, text, login⟩ := by
    unfold readCm Cm.bytes
    simp only
    rw [List.append_assoc]
    have e1 : inWithin 0 1048576 (some (enc (zz ses) ++ (enc (zz kind) ++ (if login.isEmpty then (if usesT kind then encB text else encs (ns.take (usesN kind))) else encB login)))) = (ses, some (enc (zz kind) ++ (if login.isEmpty then (if usesT kind then encB text else encs (ns.take (usesN kind))) else encB login))) := inWithin_enc 1048576 ses h1 h2 (by omega) _
    rw [e1]
    simp only
    rw [inInt_enc kind k1 k2]
    simp only
    cases hl : login.isEmpty with
    | true =>
      rw [hl] at h5
      simp only [if_true, Bool.and_eq_true, decide_eq_true_eq] at h5
      obtain ⟨⟨h6, h7⟩, h8, h9⟩ := h5
      have hk0 : ¬ kind = 0 := by omega
      have hlog : login = [] := by simpa using hl
      subst hlog
      simp only [if_true, if_neg hk0]
      cases hT : usesT kind with
      | true =>
        have hN := usesT_N hT
        have e2 := inBytes_enc 16 text [] (by omega) (by omega)
        rw [List.append_nil] at e2
        simp only [if_true]
        unfold encB
        rw [e2]
        simp only [hN, inNums]
        refine ⟨trivial, ?_⟩
        have := fill_ns ns 0 hns (by rw [hN] at h4; exact h4) (by omega)
        simp only [List.take_zero] at this
        exact Cm.ext' rfl h3.symm rfl this rfl rfl
      | false =>
        rw [hT] at h6
        simp only [Bool.false_or] at h6
        have htx : text = [] := by simpa using h6
        subst htx
        simp only [Bool.false_eq_true, if_false]
        have hle : (ns.take (usesN kind)).length = usesN kind := by rw [List.length_take, hns, Nat.min_eq_left (usesN_le kind)]
        have e3 := inNums_enc (ns.take (usesN kind)) [] (fun x hx => hbd x (List.mem_of_mem_take hx))
        rw [List.append_nil, hle] at e3
        rw [e3]
        exact ⟨rfl, Cm.ext' rfl h3.symm rfl (fill_ns ns _ hns h4 (usesN_le kind)) rfl rfl⟩
    | false =>
      rw [hl] at h5
      simp only [Bool.false_eq_true, if_false, Bool.and_eq_true, decide_eq_true_eq] at h5
      obtain ⟨⟨⟨h6, h7⟩, h8⟩, h9⟩ := h5
      subst h6
      have htx : text = [] := by simpa using h7
      subst htx
      have hlen : login.length ≤ 16 := by
        unfold nameB at h9
        simp only [Bool.and_eq_true, decide_eq_true_eq] at h9
        omega
      have e2 := inBytes_enc 16 login [] (by omega) (by omega)
      rw [List.append_nil] at e2
      simp only [Bool.false_eq_true, if_false, if_true, usesT_zero, usesN_zero, inNums]
      unfold encB
      rw [e2]
      refine ⟨rfl, ?_⟩
      have := fill_ns ns 0 hns (by rw [usesN_zero] at h4; exact h4) (by omega)
      simp only [List.take_zero] at this
      exact Cm.ext' rfl h3.symm rfl this rfl rfl
  unfold parseCm
  rw [hread.2, hread.1, if_pos ⟨rfl, hr⟩]
theorem parse_sound (b : List UInt8) (c : Cm) (h : parseCm b = some c) : c.right = true ∧ c.bytes = b ∧ c.who = 0 := by
  unfold parseCm at h
  split at h
  · rename_i hc
    simp only [Option.some.injEq] at h
    subst h
    refine ⟨hc.2, ?_, rfl⟩
    have hl := hc.1
    have hrt := hc.2
    unfold readCm at hl hrt ⊢
    simp only at hl hrt ⊢
    cases e1 : inWithin 0 1048576 (some b) with
    | mk ses s1 =>
      rw [e1] at hl hrt
      simp only at hl hrt ⊢
      cases s1 with
      | none =>
        exfalso
        simp only [inInt_noneT, if_true, usesT_zero, usesN_zero, inNums, Bool.false_eq_true, if_false] at hl
        unfold inBytes at hl
        rw [inWithin_none] at hl
        simp [inTake] at hl
      | some b1 =>
        have q1 := inWithin_sound 0 1048576 b b1 ses e1
        cases e2 : inInt (some b1) with
        | mk kind s2 =>
          rw [e2] at hl hrt
          simp only at hl hrt ⊢
          cases s2 with
          | none =>
            exfalso
            have hk : kind = 0 := by
              unfold inInt at e2
              split at e2
              · simp at e2; exact e2.symm
              · rename_i h0
                exfalso
                obtain ⟨u, r, e3, e4, e5, e6, e7⟩ := readF_sound b1 0 0 (by omega) (by simpa using h0)
                simp only [Option.getD_some, Prod.mk.injEq, inTake] at e2
                rw [if_neg (by rw [e4, e3]; simp)] at e2
                simp at e2
            subst hk
            simp only [if_true, usesT_zero, usesN_zero, inNums, Bool.false_eq_true, if_false] at hl
            unfold inBytes at hl
            rw [inWithin_none] at hl
            simp [inTake] at hl
          | some b2 =>
            have q2 := inInt_sound b1 kind b2 e2
            by_cases hk : kind = 0
            · subst hk
              simp only [if_true, usesT_zero, usesN_zero, inNums, Bool.false_eq_true, if_false] at hl hrt ⊢
              cases e3 : inBytes 16 (some b2) with
              | mk login s3 =>
                rw [e3] at hl hrt
                simp only at hl hrt ⊢
                rw [hl] at e3
                have q3 := inBytes_sound 16 b2 [] login e3
                rw [List.append_nil] at q3
                have hne : login.isEmpty = false := by
                  cases hq : login.isEmpty with
                  | false => rfl
                  | true =>
                    unfold Cm.right Rd0.cm at hrt
                    simp [hq] at hrt
                unfold Cm.bytes Rd0.cm
                simp only [hne, Bool.false_eq_true, if_false]
                rw [q1, q2, q3, List.append_assoc]
            · simp only [if_neg hk] at hl hrt ⊢
              cases hT : usesT kind with
              | true =>
                have hN := usesT_N hT
                rw [hT, hN] at hl
                rw [hT] at hrt
                simp only [hN, if_true, inNums] at hl hrt ⊢
                cases e3 : inBytes 16 (some b2) with
                | mk text s3 =>
                  rw [e3] at hl
                  simp only at hl ⊢
                  rw [hl] at e3
                  have q3 := inBytes_sound 16 b2 [] text e3
                  rw [List.append_nil] at q3
                  unfold Cm.bytes Rd0.cm
                  simp only [List.isEmpty_nil, if_true, hT]
                  rw [q1, q2, q3, List.append_assoc]
              | false =>
                rw [hT] at hl hrt
                simp only [Bool.false_eq_true, if_false] at hl hrt ⊢
                have q3 := inNums_sound (usesN kind) b2 [] (inNums (usesN kind) (some b2)).1 (by rw [← hl])
                rw [List.append_nil] at q3
                unfold Cm.bytes Rd0.cm
                simp only [List.isEmpty_nil, if_true, hT, Bool.false_eq_true, if_false]
                have hlen := inNums_len (usesN kind) (some b2)
                rw [List.take_append_of_le_length (by rw [hlen]; exact Nat.le_refl _), List.take_of_length_le (by rw [hlen]; exact Nat.le_refl _), ← q3, q1, q2, List.append_assoc]
  · simp at h
end Go.Proofs.YtcjdlckfbkdibaaDoor
end
