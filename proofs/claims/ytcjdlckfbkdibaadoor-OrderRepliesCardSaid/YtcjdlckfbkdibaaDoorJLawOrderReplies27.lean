/- Joined texts, in this order: OrdRReply. Each one's first remark says what it proves; no condition beyond those that its theorems name. -/
import Derived.Test.YtcjdlckfbkdibaaDoorJLawOrderReplies21
import Derived.Test.YtcjdlckfbkdibaaDoorJLawOrderReplies25
import Derived.Test.YtcjdlckfbkdibaaDoorJLawOrderReplies26
section
/- Contracts: the document's Reply, Reply.Equal, order.Full; plain: replies are told again. -/
namespace Go.Proofs.YtcjdlckfbkdibaaDoor
open Go.RowKit
open Go.Lib (hid)
set_option linter.unusedVariables false

theorem inInts_sound (hi : Int) (m t : List UInt8) (li : List Int) (h : inInts hi (some m) = (li, some t)) : m = enc (zz (li.length : Int)) ++ encs li ++ t ∧ ∀ x ∈ li, -9223372036854775808 ≤ x ∧ x ≤ 9223372036854775807 := by
  unfold inInts at h
  cases hw : inWithin 0 hi (some m) with
  | mk n s =>
    have h0 := inWithin_lo 0 hi (some m) (by omega)
    rw [hw] at h h0
    cases s with
    | none =>
      exfalso
      have hn : n = 0 := by
        unfold inWithin at hw
        split at hw
        · simp at hw; exact hw.symm
        · rename_i hc
          rw [hw] at hc
          simp at hc
      subst hn
      simp [inIntsF] at h
    | some m2 =>
      have e1 := inWithin_sound 0 hi m m2 n hw
      simp only at h
      obtain ⟨r, e2, e3, e4, e5⟩ := inIntsF_some n.toNat [] m2 t li h
      rw [List.nil_append] at e2
      subst e2
      refine ⟨?_, e5⟩
      rw [e1, e4, e3, Int.toNat_of_nonneg h0, List.append_assoc]
theorem parseR_reply (e n : Int) (li : List Int) (he : -9223372036854775808 ≤ e ∧ e ≤ 9223372036854775807) (hn : -9223372036854775808 ≤ n ∧ n ≤ 9223372036854775807) (hbd : ∀ x ∈ li, -9223372036854775808 ≤ x ∧ x ≤ 9223372036854775807) (hl : li.length ≤ 1000) : parseR (replyL e n li) = some (e, n, li) := by
  unfold parseR replyL
  rw [List.append_assoc, inInt_enc e he.1 he.2]
  simp only
  rw [inInt_enc n hn.1 hn.2]
  simp only
  rw [inInts_enc 4096 li hbd (by omega) hl]
  rfl
theorem parseR_sound (b : List UInt8) (e n : Int) (li : List Int) (h : parseR b = some (e, n, li)) : replyL e n li = b ∧ (-9223372036854775808 ≤ e ∧ e ≤ 9223372036854775807) ∧ (-9223372036854775808 ≤ n ∧ n ≤ 9223372036854775807) ∧ (∀ x ∈ li, -9223372036854775808 ≤ x ∧ x ≤ 9223372036854775807) := by
  unfold parseR at h
  split at h
  · rename_i hc
    simp only [Option.some.injEq, Prod.mk.injEq] at h
    obtain ⟨rfl, rfl, rfl⟩ := h
    cases h1 : inInt (some b) with
    | mk e1 s1 =>
      rw [h1] at hc
      simp only at hc ⊢
      have b1 := inInt_bd (some b)
      rw [h1] at b1
      cases h2 : inInt s1 with
      | mk n1 s2 =>
        rw [h2] at hc
        simp only at hc ⊢
        have b2 := inInt_bd s1
        rw [h2] at b2
        cases h3 : inInts 4096 s2 with
        | mk li s3 =>
          rw [h3] at hc
          simp only at hc ⊢
          subst hc
          cases s2 with
          | none =>
            exfalso
            unfold inInts at h3
            rw [inWithin_none] at h3
            simp [inIntsF] at h3
          | some m2 =>
            cases s1 with
            | none => rw [inInt_noneT] at h2; simp at h2
            | some m1 =>
              have q1 := inInt_sound b e1 m1 h1
              have q2 := inInt_sound m1 n1 m2 h2
              obtain ⟨q3, q4⟩ := inInts_sound 4096 m2 [] li h3
              rw [List.append_nil] at q3
              refine ⟨?_, b1, b2, q4⟩
              unfold replyL
              rw [q1, q2, q3, List.append_assoc]
  · simp at h
theorem encs_lenX : ∀ (li : List Int), li.length ≤ (encs li).length
  | [] => by simp
  | x :: l => by
    have := encs_lenX l
    have := enc_pos (zz x)
    rw [encs, List.length_append, List.length_cons]; omega
theorem reply_len (e n : Int) (li : List Int) : li.length ≤ (replyL e n li).length := by
  have := encs_lenX li
  unfold replyL
  simp only [List.length_append]; omega
set_option maxRecDepth 100000 in
set_option maxHeartbeats 4000000 in
theorem ref_Reply (e n : Int) (he : Hid (-9223372036854775808 ≤ e ∧ e ≤ 9223372036854775807)) (hn : Hid (-9223372036854775808 ≤ n ∧ n ≤ 9223372036854775807)) (li : List Int) (hbd : Hid (∀ x ∈ li, -9223372036854775808 ≤ x ∧ x ≤ 9223372036854775807)) (a : Option Addr) (c : Nat) (hli : li.length ≤ 10000) (w : World) (hr : Rd w a (iv li)) (all : List UInt8) (hall : Hid (all = replyL e n li)) :
    Calls Tryd.prog 38 #[.int .i64 e, .int .i64 n, .slice a li.length c] w fun e w' => e = .returned (.string ⟨all.toArray⟩) ∧ Below w.heap.size w w' := by
  have HR := hid hr
  obtain ⟨le, hle⟩ : ∃ l, l = enc (zz e) := ⟨_, rfl⟩
  obtain ⟨ln, hln⟩ : ∃ l, l = enc (zz n) := ⟨_, rfl⟩
  obtain ⟨lm, hlm⟩ : ∃ l, l = le ++ ln := ⟨_, rfl⟩
  obtain ⟨ll, hll⟩ : ∃ l, l = enc (zz (li.length : Int)) ++ encs li := ⟨_, rfl⟩
  have h1 : le.length ≤ 10 := by rw [hle]; exact enc_len10 (zz e) (zz_lt _ he.out.1 he.out.2)
  have h2 : ln.length ≤ 10 := by rw [hln]; exact enc_len10 (zz n) (zz_lt _ hn.out.1 hn.out.2)
  have h3 : ll.length ≤ 200000 := by
    rw [hll, List.length_append]
    have := enc_len10 (zz (li.length : Int)) (zz_lt _ (by omega) (by omega))
    have := encs_le li hbd.out
    omega
  have h4 : lm.length ≤ 20 := by rw [hlm, List.length_append]; omega
  have hsum1 : ¬ 9223372036854775807 < le.length + ln.length := by omega
  have hsum2 : ¬ 9223372036854775807 < lm.length + ll.length := by omega
  have hadd1 : (⟨le.toArray⟩ : ByteArray) ++ ⟨ln.toArray⟩ = ⟨lm.toArray⟩ := by rw [bytes_app, hlm]
  have hadd2 : (⟨lm.toArray⟩ : ByteArray) ++ ⟨ll.toArray⟩ = ⟨all.toArray⟩ := by rw [bytes_app, hall.out, hlm, hll, hle, hln]; rfl
  have HLE := hid hle
  have HLN := hid hln
  have HLL := hid hll
  have H123 := hid (And.intro h1 (And.intro h2 h3))
  clear hr hle hln hlm hll h1 h2 h3 h4
  go_enter Tryd.func38, Tryd.ntmps38
  go_wp2_with fail
  have hy := (Below.refl w.heap.size w).drew
  refine wp_region_kept [11] (fun y => Below w.heap.size w y) (by kernel_rfl) (by assumption) (fun hH => ?_)
  refine wpK.take (i := 0) (v := _) (by simp only [List.getElem?_toArray, List.getElem?_cons_succ, List.getElem?_cons_zero]; rfl) (by kernel_rfl) (by kernel_rfl) (by kernel_rfl) (by kernel_rfl) (by kernel_rfl) (by exact fun _ _ _ h => h) (by first | exact Or.inl ⟨by rfl, by intro w hSw; go_simp; try with_reducible rfl⟩ | exact Or.inr ⟨by rfl, rfl⟩) hH ?_
  try simp only [Act.put, List.setIfInBounds_toArray, List.set_cons_zero, List.set_cons_succ]
  refine wpK.take (i := 3) (v := _) (by simp only [List.getElem?_toArray, List.getElem?_cons_succ, List.getElem?_cons_zero]; rfl) (by kernel_rfl) (by kernel_rfl) (by kernel_rfl) (by kernel_rfl) (by kernel_rfl) (by exact fun _ _ _ h => h) (by first | exact Or.inl ⟨by rfl, by intro w hSw; go_simp; try with_reducible rfl⟩ | exact Or.inr ⟨by rfl, rfl⟩) hH ?_
  try simp only [Act.put, List.setIfInBounds_toArray, List.set_cons_zero, List.set_cons_succ]
  refine wpK.take (i := 7) (v := _) (by simp only [List.getElem?_toArray, List.getElem?_cons_succ, List.getElem?_cons_zero]; rfl) (by kernel_rfl) (by kernel_rfl) (by kernel_rfl) (by kernel_rfl) (by kernel_rfl) (by exact fun _ _ _ h => h) (by first | exact Or.inl ⟨by rfl, by intro w hSw; go_simp; try with_reducible rfl⟩ | exact Or.inr ⟨by rfl, rfl⟩) hH ?_
  try simp only [Act.put, List.setIfInBounds_toArray, List.set_cons_zero, List.set_cons_succ]
  refine wpK.inv (le := fun w w' => Below w.heap.size w w') (fun w => Below.refl _ w) (fun _ _ _ h k => Below.next h k) (m := 1) [1, 2, 4, 5, 6, 8, 9, 10] (fun i => match i with | 2 => [1] | 5 => [4] | 6 => [2, 5] | 9 => [8] | 10 => [6, 9] | _ => []) (fun i => match i with | 1 => fun u w => ∃ a c, u 1 = .slice a le.length c ∧ SlB w (.slice a le.length c) le | 2 => fun u w => u 2 = .string ⟨le.toArray⟩ | 4 => fun u w => ∃ a c, u 4 = .slice a ln.length c ∧ SlB w (.slice a ln.length c) ln | 5 => fun u w => u 5 = .string ⟨ln.toArray⟩ | 6 => fun u w => u 6 = .string ⟨lm.toArray⟩ | 8 => fun u w => ∃ a c, u 8 = .slice a ll.length c ∧ SlB w (.slice a ll.length c) ll | 9 => fun u w => u 9 = .string ⟨ll.toArray⟩ | 10 => fun u w => u 10 = .string ⟨all.toArray⟩ | _ => fun _ _ => True) (by kernel_rfl) ⟨(fun u w w' hb h => by obtain ⟨a, c, h1, h2⟩ := h; exact ⟨a, c, h1, h2.below hb⟩), (fun _ _ _ _ h => h), (fun u w w' hb h => by obtain ⟨a, c, h1, h2⟩ := h; exact ⟨a, c, h1, h2.below hb⟩), (fun _ _ _ _ h => h), (fun _ _ _ _ h => h), (fun u w w' hb h => by obtain ⟨a, c, h1, h2⟩ := h; exact ⟨a, c, h1, h2.below hb⟩), (fun _ _ _ _ h => h), (fun _ _ _ _ h => h), trivial⟩ ⟨(by dsimp only; intro u j v w h1 h2 h; have e0 := upd_ne u v (Ne.symm h1); simp only [e0]; exact h), (by dsimp only; intro u j v w h1 h2 h; simp only [List.mem_cons, List.not_mem_nil, or_false, not_or] at h2; have e0 := upd_ne u v (Ne.symm h1); have e1 := upd_ne u v (Ne.symm h2); simp only [e0, e1]; exact h), (by dsimp only; intro u j v w h1 h2 h; have e0 := upd_ne u v (Ne.symm h1); simp only [e0]; exact h), (by dsimp only; intro u j v w h1 h2 h; simp only [List.mem_cons, List.not_mem_nil, or_false, not_or] at h2; have e0 := upd_ne u v (Ne.symm h1); have e1 := upd_ne u v (Ne.symm h2); simp only [e0, e1]; exact h), (by dsimp only; intro u j v w h1 h2 h; simp only [List.mem_cons, List.not_mem_nil, or_false, not_or] at h2; have e0 := upd_ne u v (Ne.symm h1); have e1 := upd_ne u v (Ne.symm h2.1); have e2 := upd_ne u v (Ne.symm h2.2); simp only [e0, e1, e2]; exact h), (by dsimp only; intro u j v w h1 h2 h; have e0 := upd_ne u v (Ne.symm h1); simp only [e0]; exact h), (by dsimp only; intro u j v w h1 h2 h; simp only [List.mem_cons, List.not_mem_nil, or_false, not_or] at h2; have e0 := upd_ne u v (Ne.symm h1); have e1 := upd_ne u v (Ne.symm h2); simp only [e0, e1]; exact h), (by dsimp only; intro u j v w h1 h2 h; simp only [List.mem_cons, List.not_mem_nil, or_false, not_or] at h2; have e0 := upd_ne u v (Ne.symm h1); have e1 := upd_ne u v (Ne.symm h2.1); have e2 := upd_ne u v (Ne.symm h2.2); simp only [e0, e1, e2]; exact h), trivial⟩ (fun _ h => Below.next hH h) (fun u => ?_)
  generalize hacts : acts _ _ u _ = A_
  simp only [acts, dstOf, List.getElem?_toArray, List.getElem?_cons_succ, List.getElem?_cons_zero, Option.bind_some, Act.put, List.setIfInBounds_toArray, List.set_cons_succ, List.set_cons_zero] at hacts
  subst hacts
  refine ⟨⟨?_, ?_, ?_, ?_, ?_, ?_, ?_, ?_, trivial⟩, ?_⟩
  · intro wx hw h_
    clear h_
    apply wpOp_stepI (i := 1) (le := fun w w' => Below w.heap.size w w') (φ := fun v w' => (fun u w => ∃ a c, u 1 = .slice a le.length c ∧ SlB w (.slice a le.length c) le) (upd u 1 v) w')
    · simp only [List.getElem?_toArray, List.getElem?_cons_succ, List.getElem?_cons_zero]; rfl
    · rfl
    intro K hK
    go_simp
    refine (ref_Int e he.out.1 he.out.2 _).mono ?_
    rintro e1 wk ⟨v2, rfl, ho2, hb2⟩
    rw [← HLE.out] at ho2
    have hs2 := ownsRow.slb ho2 (by have := H123.out.1; omega)
    obtain ⟨a2, c2, rfl, -⟩ := ownsRow.slb ho2 (by have := H123.out.1; omega)
    go_simp
    exact hK.out _ _ hb2 ⟨a2, c2, rfl, hs2⟩
  · intro wx hw h_
    have h_1 : (fun u w => ∃ a c, u 1 = .slice a le.length c ∧ SlB w (.slice a le.length c) le) u wx := h_.1
    try dsimp only at h_1
    clear h_
    apply wpOp_stepI (i := 2) (le := fun w w' => Below w.heap.size w w') (φ := fun v w' => (fun u w => u 2 = .string ⟨le.toArray⟩) (upd u 2 v) w')
    · simp only [List.getElem?_toArray, List.getElem?_cons_succ, List.getElem?_cons_zero]; rfl
    · rfl
    intro K hK
    obtain ⟨a2, c2, e2, hs2⟩ := h_1
    simp only [e2] at hK ⊢
    have hst := hs2.str wx (Below.refl _ _)
    go_simp
    exact hK.out (.string ⟨le.toArray⟩) _ (Below.refl _ _) rfl
  · intro wx hw h_
    clear h_
    apply wpOp_stepI (i := 4) (le := fun w w' => Below w.heap.size w w') (φ := fun v w' => (fun u w => ∃ a c, u 4 = .slice a ln.length c ∧ SlB w (.slice a ln.length c) ln) (upd u 4 v) w')
    · simp only [List.getElem?_toArray, List.getElem?_cons_succ, List.getElem?_cons_zero]; rfl
    · rfl
    intro K hK
    go_simp
    refine (ref_Int n hn.out.1 hn.out.2 _).mono ?_
    rintro e1 wk ⟨v2, rfl, ho2, hb2⟩
    rw [← HLN.out] at ho2
    have hs2 := ownsRow.slb ho2 (by have := H123.out.2.1; omega)
    obtain ⟨a2, c2, rfl, -⟩ := ownsRow.slb ho2 (by have := H123.out.2.1; omega)
    go_simp
    exact hK.out _ _ hb2 ⟨a2, c2, rfl, hs2⟩
  · intro wx hw h_
    have h_4 : (fun u w => ∃ a c, u 4 = .slice a ln.length c ∧ SlB w (.slice a ln.length c) ln) u wx := h_.1
    try dsimp only at h_4
    clear h_
    apply wpOp_stepI (i := 5) (le := fun w w' => Below w.heap.size w w') (φ := fun v w' => (fun u w => u 5 = .string ⟨ln.toArray⟩) (upd u 5 v) w')
    · simp only [List.getElem?_toArray, List.getElem?_cons_succ, List.getElem?_cons_zero]; rfl
    · rfl
    intro K hK
    obtain ⟨a2, c2, e2, hs2⟩ := h_4
    simp only [e2] at hK ⊢
    have hst := hs2.str wx (Below.refl _ _)
    go_simp
    exact hK.out (.string ⟨ln.toArray⟩) _ (Below.refl _ _) rfl
  · intro wx hw h_
    have h_2 : (fun u w => u 2 = .string ⟨le.toArray⟩) u wx := h_.1
    try dsimp only at h_2
    have h_5 : (fun u w => u 5 = .string ⟨ln.toArray⟩) u wx := h_.2.1
    try dsimp only at h_5
    clear h_
    apply wpOp_stepI (i := 6) (le := fun w w' => Below w.heap.size w w') (φ := fun v w' => (fun u w => u 6 = .string ⟨lm.toArray⟩) (upd u 6 v) w')
    · simp only [List.getElem?_toArray, List.getElem?_cons_succ, List.getElem?_cons_zero]; rfl
    · rfl
    intro K hK
    try simp only [h_2, h_5] at hK ⊢
    go_simp
    exact hK.out (.string ⟨lm.toArray⟩) _ (Below.refl _ _) rfl
  · intro wx hw h_
    clear h_
    apply wpOp_stepI (i := 8) (le := fun w w' => Below w.heap.size w w') (φ := fun v w' => (fun u w => ∃ a c, u 8 = .slice a ll.length c ∧ SlB w (.slice a ll.length c) ll) (upd u 8 v) w')
    · simp only [List.getElem?_toArray, List.getElem?_cons_succ, List.getElem?_cons_zero]; rfl
    · rfl
    intro K hK
    go_simp
    refine (ref_Ints li hbd a li.length c rfl (by omega) wx (HR.out.below' (Below.next hy hw)) ll HLL).mono ?_
    rintro e1 wk ⟨v2, rfl, ho2, hb2⟩
    have hs2 := ownsRow.slb ho2 (by have := H123.out.2.2; omega)
    obtain ⟨a2, c2, rfl, -⟩ := ownsRow.slb ho2 (by have := H123.out.2.2; omega)
    go_simp
    exact hK.out _ _ hb2 ⟨a2, c2, rfl, hs2⟩
  · intro wx hw h_
    have h_8 : (fun u w => ∃ a c, u 8 = .slice a ll.length c ∧ SlB w (.slice a ll.length c) ll) u wx := h_.1
    try dsimp only at h_8
    clear h_
    apply wpOp_stepI (i := 9) (le := fun w w' => Below w.heap.size w w') (φ := fun v w' => (fun u w => u 9 = .string ⟨ll.toArray⟩) (upd u 9 v) w')
    · simp only [List.getElem?_toArray, List.getElem?_cons_succ, List.getElem?_cons_zero]; rfl
    · rfl
    intro K hK
    obtain ⟨a2, c2, e2, hs2⟩ := h_8
    simp only [e2] at hK ⊢
    have hst := hs2.str wx (Below.refl _ _)
    go_simp
    exact hK.out (.string ⟨ll.toArray⟩) _ (Below.refl _ _) rfl
  · intro wx hw h_
    have h_6 : (fun u w => u 6 = .string ⟨lm.toArray⟩) u wx := h_.1
    try dsimp only at h_6
    have h_9 : (fun u w => u 9 = .string ⟨ll.toArray⟩) u wx := h_.2.1
    try dsimp only at h_9
    clear h_
    apply wpOp_stepI (i := 10) (le := fun w w' => Below w.heap.size w w') (φ := fun v w' => (fun u w => u 10 = .string ⟨all.toArray⟩) (upd u 10 v) w')
    · simp only [List.getElem?_toArray, List.getElem?_cons_succ, List.getElem?_cons_zero]; rfl
    · rfl
    intro K hK
    try simp only [h_6, h_9] at hK ⊢
    go_simp
    exact hK.out (.string ⟨all.toArray⟩) _ (Below.refl _ _) rfl
  · intro wx hw h_
    have h_1 : (fun u w => ∃ a c, u 1 = .slice a le.length c ∧ SlB w (.slice a le.length c) le) u wx := h_.1
    try dsimp only at h_1
    have h_2 : (fun u w => u 2 = .string ⟨le.toArray⟩) u wx := h_.2.1
    try dsimp only at h_2
    have h_4 : (fun u w => ∃ a c, u 4 = .slice a ln.length c ∧ SlB w (.slice a ln.length c) ln) u wx := h_.2.2.1
    try dsimp only at h_4
    have h_5 : (fun u w => u 5 = .string ⟨ln.toArray⟩) u wx := h_.2.2.2.1
    try dsimp only at h_5
    have h_6 : (fun u w => u 6 = .string ⟨lm.toArray⟩) u wx := h_.2.2.2.2.1
    try dsimp only at h_6
    have h_8 : (fun u w => ∃ a c, u 8 = .slice a ll.length c ∧ SlB w (.slice a ll.length c) ll) u wx := h_.2.2.2.2.2.1
    try dsimp only at h_8
    have h_9 : (fun u w => u 9 = .string ⟨ll.toArray⟩) u wx := h_.2.2.2.2.2.2.1
    try dsimp only at h_9
    have h_10 : (fun u w => u 10 = .string ⟨all.toArray⟩) u wx := h_.2.2.2.2.2.2.2.1
    try dsimp only at h_10
    clear h_
    refine wpK.late (i := 11) (by kernel_rfl) (by simp only [List.getElem?_toArray, List.getElem?_cons_succ, List.getElem?_cons_zero]; rfl) (by kernel_rfl) (fun K hK => ?_)
    go_simp
    refine hK.out _ _ ?_
    clear hK K
    try simp only [Act.put, List.setIfInBounds_toArray, List.set_cons_zero, List.set_cons_succ]
    refine wpK.done (by kernel_rfl) ?_ _
    have HBx := hid (Below.next hy hw)
    clear h_1 h_2 h_4 h_5 h_6 h_8 h_9 h_10 hw hH hy hsum1 hsum2 hadd1 hadd2
    go_wp2_with fail
    go_ret
    exact ⟨rfl, HBx.out⟩
theorem order_Full (w : World) (all : List UInt8) (hall : Hid (all = [42, 0, 0])) :
    Calls Tryd.prog 40 #[] w fun e w' => ∃ u, e = .returned u ∧ w'.ownsRow w.heap.size 5 1 u all.length (bv all) ∧ Below w.heap.size w w' := by
  go_enter Tryd.func40, Tryd.ntmps40
  go_wp2_with fail
  refine (order_Reply 21 0 (hid (by omega)) (hid (by omega)) [] (hid (by simp)) none 0 (by simp) w (Rd.nil _ _) all (hid (by rw [hall.out]; unfold replyL encs; rw [show zz 21 = 42 from rfl, show zz 0 = 0 from rfl, show zz (([] : List Int).length : Int) = 0 from rfl, enc_small 42 (by omega), enc_small 0 (by omega)]; rfl))).mono ?_
  rintro e w1 ⟨u, rfl, hu, hb⟩
  have HU := hid hu
  have HB := hid hb
  clear hu hb
  go_wp2_with fail
  go_ret
  exact ⟨_, rfl, HU.out, HB.out⟩
set_option maxRecDepth 100000 in
set_option maxHeartbeats 2000000 in
theorem reply_Equal (e1 n1 e2 n2 : Int) (l1 l2 : List Int) (v1 v2 : Value) (w : World) (h1 : SlI w v1 l1) (h2 : SlI w v2 l2) (B : Bool) (hB : Hid (decide (e1 = e2 ∧ n1 = n2 ∧ l1 = l2) = B)) :
    Calls Tryd.prog 39 #[.agg #[.int .i64 e1, .int .i64 n1, v1], .agg #[.int .i64 e2, .int .i64 n2, v2]] w fun e w' => e = .returned (.bool B) ∧ Below w.heap.size w w' := by
  have H1 := hid h1
  have H2 := hid h2
  obtain ⟨a1, c1, rfl, -⟩ := h1
  obtain ⟨a2, c2, rfl, -⟩ := h2
  have HK : Hid (∀ x y, Below w.heap.size w ((w.alloc x).alloc y)) := hid fun x y => Below.next (Below.new w x) (Below.new _ _)
  by_cases q1 : e1 = e2
  · by_cases q2 : n1 = n2
    · subst q1
      subst q2
      have hB2 : Hid (decide (l1 = l2) = B) := hid (by rw [← hB.out]; simp)
      clear hB
      go_enter Tryd.func39, Tryd.ntmps39
      go_wp2_with fail
      refine (sl_EqualI l1 l2 _ _ _ (H1.out.below (HK.out _ _)) (H2.out.below (HK.out _ _)) B hB2).mono ?_
      rintro e w1 ⟨rfl, hb1⟩
      have HB1 := hid (Below.next (HK.out _ _) hb1)
      clear hb1
      go_wp2_with fail
      go_ret
      exact ⟨rfl, HB1.out⟩
    · have : B = false := by rw [← hB.out]; simp [q2]
      subst this
      have t2 : (n1 == n2) = false := by simp [q2]
      subst q1
      clear hB q2
      go_enter Tryd.func39, Tryd.ntmps39
      go_wp2_with fail
      go_ret
      exact ⟨rfl, HK.out _ _⟩
  · have : B = false := by rw [← hB.out]; simp [q1]
    subst this
    have t2 : (e1 == e2) = false := by simp [q1]
    clear hB q1
    go_enter Tryd.func39, Tryd.ntmps39
    go_wp2_with fail
    go_ret
    exact ⟨rfl, HK.out _ _⟩
end Go.Proofs.YtcjdlckfbkdibaaDoor
end
