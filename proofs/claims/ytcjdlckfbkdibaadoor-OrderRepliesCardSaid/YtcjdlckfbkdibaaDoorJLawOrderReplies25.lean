/- Joined texts, in this order: OrdRefBytes, Ints. Each one's first remark says what it proves; no condition beyond those that its theorems name. -/
import Derived.Test.YtcjdlckfbkdibaaDoorJLawOrderReplies23
import Derived.Test.YtcjdlckfbkdibaaDoorJLawOrderReplies24
import Derived.Test.YtcjdlckfbkdibaaDoorJLawOrderReplies01
import Derived.Test.YtcjdlckfbkdibaaDoorJLawOrderReplies02
import Derived.Test.YtcjdlckfbkdibaaDoorProg
section
/- Contract of the document's Bytes of a command. -/
namespace Go.Proofs.YtcjdlckfbkdibaaDoor
open Go.RowKit
open Go.Lib (hid)
set_option linter.unusedVariables false

theorem bytes_app (l m : List UInt8) : (⟨l.toArray⟩ : ByteArray) ++ ⟨m.toArray⟩ = ⟨(l ++ m).toArray⟩ := by
  apply ByteArray.ext
  simp [ByteArray.data_append]
theorem encB_leX (l : List UInt8) (h : l.length ≤ 100) : (encB l).length ≤ 110 := by
  unfold encB
  have := enc_len10 (zz (l.length : Int)) (zz_lt _ (by omega) (by omega))
  rw [List.length_append]; omega
/-- a part of a string's bytes -/
def SrL (n : Nat) (a b c d : Int) (all : List UInt8) (w0 : World) (bb : Nat) (cs : Array Value) (v3 v6 : Value) (w : World) : Prop :=
  ∃ (i : Nat) (m : List UInt8), v6 = .int .i64 (i : Int) ∧ v3 = .string ⟨m.toArray⟩ ∧ i ≤ n ∧ Hid (Below w0.heap.size w0 w) ∧ Hid (Blk w bb cs) ∧ Hid (m ++ encs ((([a, b, c, d] : List Int).take n).drop i) = all) ∧ Hid (m.length ≤ 20 + 10 * i)
set_option maxRecDepth 100000 in
set_option maxHeartbeats 4000000 in
theorem ref_CmBytes (ses who kind a b c d : Int) (text login : ByteArray) (w : World) (hl : login.size ≤ 100) (ht : text.size ≤ 100) (hok : Hid ((cmOf ses who kind a b c d text login).Ok)) (all : List UInt8) (hall : Hid ((cmOf ses who kind a b c d text login).bytes = all)) :
    Calls Tryd.prog 33 #[.agg #[.int .i64 ses, .int .i64 who, .int .i64 kind, .int .i64 a, .int .i64 b, .int .i64 c, .int .i64 d, .string text, .string login]] w fun e w' => e = .returned (.string ⟨all.toArray⟩) ∧ Below w.heap.size w w' := by
  obtain ⟨lt, rfl⟩ : ∃ l : List UInt8, text = ⟨l.toArray⟩ := ⟨text.data.toList, rfl⟩
  obtain ⟨lg, rfl⟩ : ∃ l : List UInt8, login = ⟨l.toArray⟩ := ⟨login.data.toList, rfl⟩
  have s1 := hok.out.s1
  have s2 := hok.out.s2
  have k1 := hok.out.k1
  have k2 := hok.out.k2
  simp only [cmOf] at s1 s2 k1 k2
  have HS := hid (And.intro s1 s2)
  have HK := hid (And.intro k1 k2)
  have HS10 := hid (enc_len10 (zz ses) (zz_lt _ s1 s2))
  have HK10 := hid (enc_len10 (zz kind) (zz_lt _ k1 k2))
  obtain ⟨ls, hls⟩ : ∃ l, l = enc (zz ses) := ⟨_, rfl⟩
  obtain ⟨lk, hlk⟩ : ∃ l, l = enc (zz kind) := ⟨_, rfl⟩
  have HLS := hid hls
  have HLK := hid hlk
  have hle : ls.length ≤ 10 := by rw [hls]; exact HS10.out
  have hke : lk.length ≤ 10 := by rw [hlk]; exact HK10.out
  obtain ⟨n, hn⟩ : ∃ n, n = usesN kind := ⟨_, rfl⟩
  obtain ⟨t, htt⟩ : ∃ t, t = usesT kind := ⟨_, rfl⟩
  have HN := hid hn
  have HT := hid htt
  have HTL : Hid (lt.length ≤ 100) := hid ht
  have HLL : Hid (lg.length ≤ 100) := hid hl
  have HAPP := hid bytes_app
  clear s1 s2 k1 k2 hls hlk hn htt
  obtain ⟨bb, hbb⟩ : ∃ bb, bb = w.heap.size := ⟨_, rfl⟩
  go_enter Tryd.func33, Tryd.ntmps33
  go_wp2_with fail
  generalize hw1 : World.alloc w _ = w1
  have HB1 : Hid (Below w.heap.size w w1) := hid (by rw [← hw1]; exact Below.new _ _)
  have hK1 : Blk w1 w.heap.size (cmA ses who kind a b c d ⟨lt.toArray⟩ ⟨lg.toArray⟩) := by rw [← hw1]; exact Blk.new w _ _
  clear hw1
  rw [← hbb] at hK1
  rw [← hbb]
  have HK1 := hid hK1
  have HBB := hid hbb
  have k0 : ∀ y, Below w1.heap.size w1 y → y.cell? ⟨bb, 0, none⟩ = some (.int .i64 ses) := fun y hy => by rw [(HK1.out.below hy).cell]; rfl
  have k2 : ∀ y, Below w1.heap.size w1 y → y.cell? ⟨bb, 2, none⟩ = some (.int .i64 kind) := fun y hy => by rw [(HK1.out.below hy).cell]; rfl
  clear hK1 hbb
  have hy1 := (Below.refl w1.heap.size w1).drew
  have hadd : ∀ l m : List UInt8, (⟨l.toArray⟩ : ByteArray) ++ ⟨m.toArray⟩ = ⟨(l ++ m).toArray⟩ := bytes_app
  have hsum : ¬ 9223372036854775807 < ls.length + lk.length := by omega
  refine wp_region_kept [9] (fun y => Below w1.heap.size w1 y) (by kernel_rfl) (by assumption) (fun hH => ?_)
  refine wpK.take (i := 0) (v := _) (by simp only [List.getElem?_toArray, List.getElem?_cons_succ, List.getElem?_cons_zero]; rfl) (by kernel_rfl) (by kernel_rfl) (by kernel_rfl) (by kernel_rfl) (by kernel_rfl) (by exact fun _ _ _ h => h) (by first | exact Or.inl ⟨by rfl, by intro w hSw; go_simp; try with_reducible rfl⟩ | exact Or.inr ⟨by rfl, rfl⟩) hH ?_
  try simp only [Act.put, List.setIfInBounds_toArray, List.set_cons_zero, List.set_cons_succ]
  refine wpK.take (i := 1) (v := _) (by simp only [List.getElem?_toArray, List.getElem?_cons_succ, List.getElem?_cons_zero]; rfl) (by kernel_rfl) (by kernel_rfl) (by kernel_rfl) (by kernel_rfl) (by kernel_rfl) (by exact fun _ _ _ h => h) (by first | exact Or.inl ⟨by rfl, by intro w hSw; go_simp; try with_reducible rfl⟩ | exact Or.inr ⟨by rfl, rfl⟩) hH ?_
  try simp only [Act.put, List.setIfInBounds_toArray, List.set_cons_zero, List.set_cons_succ]
  refine wpK.take (i := 4) (v := _) (by simp only [List.getElem?_toArray, List.getElem?_cons_succ, List.getElem?_cons_zero]; rfl) (by kernel_rfl) (by kernel_rfl) (by kernel_rfl) (by kernel_rfl) (by kernel_rfl) (by exact fun _ _ _ h => h) (by first | exact Or.inl ⟨by rfl, by intro w hSw; go_simp; try with_reducible rfl⟩ | exact Or.inr ⟨by rfl, rfl⟩) hH ?_
  try simp only [Act.put, List.setIfInBounds_toArray, List.set_cons_zero, List.set_cons_succ]
  refine wpK.take (i := 5) (v := _) (by simp only [List.getElem?_toArray, List.getElem?_cons_succ, List.getElem?_cons_zero]; rfl) (by kernel_rfl) (by kernel_rfl) (by kernel_rfl) (by kernel_rfl) (by kernel_rfl) (by exact fun _ _ _ h => h) (by first | exact Or.inl ⟨by rfl, by intro w hSw; go_simp; try with_reducible rfl⟩ | exact Or.inr ⟨by rfl, rfl⟩) hH ?_
  try simp only [Act.put, List.setIfInBounds_toArray, List.set_cons_zero, List.set_cons_succ]
  refine wpK.inv (le := fun w w' => Below w.heap.size w w') (fun w => Below.refl _ w) (fun _ _ _ h k => Below.next h k) (m := 1) [2, 3, 6, 7, 8] (fun i => match i with | 3 => [2] | 7 => [6] | 8 => [3, 7] | _ => []) (fun i => match i with | 2 => fun u w => ∃ a c, u 2 = .slice a ls.length c ∧ SlB w (.slice a ls.length c) ls | 3 => fun u w => u 3 = .string ⟨ls.toArray⟩ | 6 => fun u w => ∃ a c, u 6 = .slice a lk.length c ∧ SlB w (.slice a lk.length c) lk | 7 => fun u w => u 7 = .string ⟨lk.toArray⟩ | 8 => fun u w => u 8 = .string ⟨(ls ++ lk).toArray⟩ | _ => fun _ _ => True) (by kernel_rfl) ⟨(fun u w w' hb h => by obtain ⟨a, c, h1, h2⟩ := h; exact ⟨a, c, h1, h2.below hb⟩), (fun _ _ _ _ h => h), (fun u w w' hb h => by obtain ⟨a, c, h1, h2⟩ := h; exact ⟨a, c, h1, h2.below hb⟩), (fun _ _ _ _ h => h), (fun _ _ _ _ h => h), trivial⟩ ⟨(by dsimp only; intro u j v w h1 h2 h; have e0 := upd_ne u v (Ne.symm h1); simp only [e0]; exact h), (by dsimp only; intro u j v w h1 h2 h; simp only [List.mem_cons, List.not_mem_nil, or_false, not_or] at h2; have e0 := upd_ne u v (Ne.symm h1); have e1 := upd_ne u v (Ne.symm h2); simp only [e0, e1]; exact h), (by dsimp only; intro u j v w h1 h2 h; have e0 := upd_ne u v (Ne.symm h1); simp only [e0]; exact h), (by dsimp only; intro u j v w h1 h2 h; simp only [List.mem_cons, List.not_mem_nil, or_false, not_or] at h2; have e0 := upd_ne u v (Ne.symm h1); have e1 := upd_ne u v (Ne.symm h2); simp only [e0, e1]; exact h), (by dsimp only; intro u j v w h1 h2 h; simp only [List.mem_cons, List.not_mem_nil, or_false, not_or] at h2; have e0 := upd_ne u v (Ne.symm h1); have e1 := upd_ne u v (Ne.symm h2.1); have e2 := upd_ne u v (Ne.symm h2.2); simp only [e0, e1, e2]; exact h), trivial⟩ (fun _ h => Below.next hH h) (fun u => ?_)
  generalize hacts : acts _ _ u _ = A_
  simp only [acts, dstOf, List.getElem?_toArray, List.getElem?_cons_succ, List.getElem?_cons_zero, Option.bind_some, Act.put, List.setIfInBounds_toArray, List.set_cons_succ, List.set_cons_zero] at hacts
  subst hacts
  refine ⟨⟨?_, ?_, ?_, ?_, ?_, trivial⟩, ?_⟩
  · intro wx hw h_
    clear h_
    apply wpOp_stepI (i := 2) (le := fun w w' => Below w.heap.size w w') (φ := fun v w' => (fun u w => ∃ a c, u 2 = .slice a ls.length c ∧ SlB w (.slice a ls.length c) ls) (upd u 2 v) w')
    · simp only [List.getElem?_toArray, List.getElem?_cons_succ, List.getElem?_cons_zero]; rfl
    · rfl
    intro K hK
    go_simp
    refine (ref_Int ses HS.out.1 HS.out.2 _).mono ?_
    rintro e wk ⟨v2, rfl, ho2, hb2⟩
    rw [← HLS.out] at ho2
    have hs2 := ownsRow.slb ho2 (by omega)
    obtain ⟨a2, c2, rfl, -⟩ := ownsRow.slb ho2 (by omega)
    go_simp
    exact hK.out _ _ hb2 ⟨a2, c2, rfl, hs2⟩
  · intro wx hw h_
    have h_2 : (fun u w => ∃ a c, u 2 = .slice a ls.length c ∧ SlB w (.slice a ls.length c) ls) u wx := h_.1
    try dsimp only at h_2
    clear h_
    apply wpOp_stepI (i := 3) (le := fun w w' => Below w.heap.size w w') (φ := fun v w' => (fun u w => u 3 = .string ⟨ls.toArray⟩) (upd u 3 v) w')
    · simp only [List.getElem?_toArray, List.getElem?_cons_succ, List.getElem?_cons_zero]; rfl
    · rfl
    intro K hK
    obtain ⟨a2, c2, e2, hs2⟩ := h_2
    simp only [e2] at hK ⊢
    have hst := hs2.str wx (Below.refl _ _)
    go_simp
    exact hK.out (.string ⟨ls.toArray⟩) _ (Below.refl _ _) rfl
  · intro wx hw h_
    clear h_
    apply wpOp_stepI (i := 6) (le := fun w w' => Below w.heap.size w w') (φ := fun v w' => (fun u w => ∃ a c, u 6 = .slice a lk.length c ∧ SlB w (.slice a lk.length c) lk) (upd u 6 v) w')
    · simp only [List.getElem?_toArray, List.getElem?_cons_succ, List.getElem?_cons_zero]; rfl
    · rfl
    intro K hK
    go_simp
    refine (ref_Int kind HK.out.1 HK.out.2 _).mono ?_
    rintro e wk ⟨v2, rfl, ho2, hb2⟩
    rw [← HLK.out] at ho2
    have hs2 := ownsRow.slb ho2 (by omega)
    obtain ⟨a2, c2, rfl, -⟩ := ownsRow.slb ho2 (by omega)
    go_simp
    exact hK.out _ _ hb2 ⟨a2, c2, rfl, hs2⟩
  · intro wx hw h_
    have h_6 : (fun u w => ∃ a c, u 6 = .slice a lk.length c ∧ SlB w (.slice a lk.length c) lk) u wx := h_.1
    try dsimp only at h_6
    clear h_
    apply wpOp_stepI (i := 7) (le := fun w w' => Below w.heap.size w w') (φ := fun v w' => (fun u w => u 7 = .string ⟨lk.toArray⟩) (upd u 7 v) w')
    · simp only [List.getElem?_toArray, List.getElem?_cons_succ, List.getElem?_cons_zero]; rfl
    · rfl
    intro K hK
    obtain ⟨a2, c2, e2, hs2⟩ := h_6
    simp only [e2] at hK ⊢
    have hst := hs2.str wx (Below.refl _ _)
    go_simp
    exact hK.out (.string ⟨lk.toArray⟩) _ (Below.refl _ _) rfl
  · intro wx hw h_
    have h_3 : (fun u w => u 3 = .string ⟨ls.toArray⟩) u wx := h_.1
    try dsimp only at h_3
    have h_7 : (fun u w => u 7 = .string ⟨lk.toArray⟩) u wx := h_.2.1
    try dsimp only at h_7
    clear h_
    apply wpOp_stepI (i := 8) (le := fun w w' => Below w.heap.size w w') (φ := fun v w' => (fun u w => u 8 = .string ⟨(ls ++ lk).toArray⟩) (upd u 8 v) w')
    · simp only [List.getElem?_toArray, List.getElem?_cons_succ, List.getElem?_cons_zero]; rfl
    · rfl
    intro K hK
    try simp only [h_3, h_7] at hK ⊢
    go_simp
    exact hK.out (.string ⟨(ls ++ lk).toArray⟩) _ (Below.refl _ _) rfl
  · intro wx hw h_
    have h_2 : (fun u w => ∃ a c, u 2 = .slice a ls.length c ∧ SlB w (.slice a ls.length c) ls) u wx := h_.1
    try dsimp only at h_2
    have h_3 : (fun u w => u 3 = .string ⟨ls.toArray⟩) u wx := h_.2.1
    try dsimp only at h_3
    have h_6 : (fun u w => ∃ a c, u 6 = .slice a lk.length c ∧ SlB w (.slice a lk.length c) lk) u wx := h_.2.2.1
    try dsimp only at h_6
    have h_7 : (fun u w => u 7 = .string ⟨lk.toArray⟩) u wx := h_.2.2.2.1
    try dsimp only at h_7
    have h_8 : (fun u w => u 8 = .string ⟨(ls ++ lk).toArray⟩) u wx := h_.2.2.2.2.1
    try dsimp only at h_8
    clear h_
    refine wpK.late (i := 9) (by kernel_rfl) (by simp only [List.getElem?_toArray, List.getElem?_cons_succ, List.getElem?_cons_zero]; rfl) (by kernel_rfl) (fun K hK => ?_)
    go_simp
    refine hK.out _ _ ?_
    clear hK K
    try simp only [Act.put, List.setIfInBounds_toArray, List.set_cons_zero, List.set_cons_succ]
    refine wpK.done (by kernel_rfl) ?_ _
    have HBx := hid (Below.next HB1.out (Below.next hy1 hw))
    have HKx := hid (HK1.out.below (Below.next hy1 hw))
    clear h_2 h_3 h_6 h_7 h_8 hw hH hy1 hsum hadd k0 k2
    obtain ⟨m5, hm5⟩ : ∃ m, m = ls ++ lk := ⟨_, rfl⟩
    rw [← hm5]
    have hml : m5.length ≤ 20 := by rw [hm5, List.length_append]; omega
    have HM5 : Hid (m5 = enc (zz ses) ++ enc (zz kind)) := hid (by rw [hm5, HLS.out, HLK.out])
    clear hm5 hle hke
    have k2 : wx.cell? ⟨bb, 2, none⟩ = some (.int .i64 kind) := by rw [HKx.out.cell]; rfl
    have k7 : wx.cell? ⟨bb, 7, none⟩ = some (.string ⟨lt.toArray⟩) := by rw [HKx.out.cell]; rfl
    have k8 : wx.cell? ⟨bb, 8, none⟩ = some (.string ⟨lg.toArray⟩) := by rw [HKx.out.cell]; rfl
    go_wp2_with fail
    refine (ref_Uses kind _ n t HN HT).mono ?_
    rintro e w2 ⟨rfl, rfl⟩
    cases h2 : lg.isEmpty with
    | false =>
      have hfin : all = m5 ++ encB lg := by
        rw [← hall.out, HM5.out]
        unfold Cm.bytes cmOf
        simp only [h2]
        rfl
      have HFIN := hid hfin
      have hEB := encB_leX lg (by first | exact HTL.out | exact HLL.out)
      obtain ⟨lb, hlb⟩ : ∃ lb, lb = encB lg := ⟨_, rfl⟩
      rw [← hlb] at hEB
      have HLB := hid hlb
      have hsum : ¬ 9223372036854775807 < m5.length + lb.length := by omega
      clear hfin hlb
      go_wp2_with (with_reducible refine wpList_strB _ rfl (.tmp 27) rfl lg (by first | exact Nat.le_trans HTL.out (by omega) | exact Nat.le_trans HLL.out (by omega)) rfl ?_)
      intro c3 w3 hs3 hb3 hz3
      have HS3 := hid hs3
      have HB3 := hid (Below.next HBx.out hb3)
      clear hs3 hb3 hz3 k2 k7 k8
      go_wp2_with fail
      refine (ref_Bytes lg _ w3 HS3.out (by first | exact Nat.le_trans HTL.out (by omega) | exact Nat.le_trans HLL.out (by omega)) lb (hid (by rw [HLB.out]; rfl))).mono ?_
      rintro e w4 ⟨v4, rfl, ho4, hb4⟩
      have hs4 := ownsRow.slb ho4 (by omega)
      obtain ⟨a4, c4, rfl, -⟩ := ownsRow.slb ho4 (by omega)
      have hst := hs4.str w4 (Below.refl _ _)
      have HB4 := hid (Below.next HB3.out hb4)
      have hadd : (⟨m5.toArray⟩ : ByteArray) ++ ⟨lb.toArray⟩ = ⟨all.toArray⟩ := by rw [bytes_app, HFIN.out, HLB.out]
      clear ho4 hb4 hs4
      go_wp2_with fail
      go_ret
      exact ⟨rfl, HB4.out⟩
    | true =>
      cases t with
      | true =>
        have hT : usesT kind = true := HT.out.symm
        have hfin : all = m5 ++ encB lt := by
          rw [← hall.out, HM5.out]
          unfold Cm.bytes cmOf
          simp only [h2, hT, if_true]
          (try rfl)
        have HFIN := hid hfin
        have hEB := encB_leX lt (by first | exact HTL.out | exact HLL.out)
        obtain ⟨lb, hlb⟩ : ∃ lb, lb = encB lt := ⟨_, rfl⟩
        rw [← hlb] at hEB
        have HLB := hid hlb
        have hsum : ¬ 9223372036854775807 < m5.length + lb.length := by omega
        clear hfin hlb
        go_wp2_with (with_reducible refine wpList_strB _ rfl (.tmp 35) rfl lt (by first | exact Nat.le_trans HTL.out (by omega) | exact Nat.le_trans HLL.out (by omega)) rfl ?_)
        intro c3 w3 hs3 hb3 hz3
        have HS3 := hid hs3
        have HB3 := hid (Below.next HBx.out hb3)
        clear hs3 hb3 hz3 k2 k7 k8
        go_wp2_with fail
        refine (ref_Bytes lt _ w3 HS3.out (by first | exact Nat.le_trans HTL.out (by omega) | exact Nat.le_trans HLL.out (by omega)) lb (hid (by rw [HLB.out]; rfl))).mono ?_
        rintro e w4 ⟨v4, rfl, ho4, hb4⟩
        have hs4 := ownsRow.slb ho4 (by omega)
        obtain ⟨a4, c4, rfl, -⟩ := ownsRow.slb ho4 (by omega)
        have hst := hs4.str w4 (Below.refl _ _)
        have HB4 := hid (Below.next HB3.out hb4)
        have hadd : (⟨m5.toArray⟩ : ByteArray) ++ ⟨lb.toArray⟩ = ⟨all.toArray⟩ := by rw [bytes_app, HFIN.out, HLB.out]
        clear ho4 hb4 hs4
        go_wp2_with fail
        go_ret
        exact ⟨rfl, HB4.out⟩
      | false =>
        have hT : usesT kind = false := HT.out.symm
        have hfin : m5 ++ encs ((([a, b, c, d] : List Int).take n).drop 0) = all := by
          rw [← hall.out, HM5.out, HN.out]
          unfold Cm.bytes cmOf
          simp only [h2, hT, if_true]
          (try rfl)
        have HFIN := hid hfin
        have HU4 : Hid (n ≤ 4) := hid (by rw [HN.out]; exact usesN_le kind)
        have HNB : Hid (∀ j, j < 4 → -9223372036854775808 ≤ num4 a b c d j ∧ num4 a b c d j ≤ 9223372036854775807) := hid (by
          intro j hj
          have hbd := hok.out.bd
          simp only [cmOf] at hbd
          apply hbd
          unfold num4
          match j, hj with
          | 0, _ => simp
          | 1, _ => simp
          | 2, _ => simp
          | 3, _ => simp)
        have HDROP : Hid (∀ j, j < n → (([a, b, c, d] : List Int).take n).drop j = num4 a b c d j :: (([a, b, c, d] : List Int).take n).drop (j + 1)) := hid (by
          intro j hj
          have h4 := HU4.out
          have hl : (([a, b, c, d] : List Int).take n).length = n := by rw [List.length_take]; simp; omega
          rw [List.drop_eq_getElem_cons (by rw [hl]; exact hj)]
          congr 1
          rw [List.getElem_take]
          unfold num4
          rw [List.getD_eq_getElem?_getD, List.getElem?_eq_getElem (by simp; omega)]
          rfl)
        clear hfin
        have n4 := HU4.out
        go_wp2_with fail
        clear k2 k7 k8
        go_loopw [3, 6] (fun v3 v6 wr => SrL n a b c d all w bb (cmA ses who kind a b c d ⟨lt.toArray⟩ ⟨lg.toArray⟩) v3 v6 wr) (fun _ v6 _ => n - (intOf v6).toNat)
        case atStart => exact ⟨0, m5, rfl, rfl, by omega, HBx, HKx, HFIN, hid (by omega)⟩
        case round =>
          obtain ⟨j, m, rfl, rfl, hj, HBr, HKr, HP, HL⟩ := hrel
          by_cases hlt : j < n
          · have j1 : (j : Int) < (n : Int) := by omega
            have j0 : (0 : Int) ≤ (j : Int) := by omega
            have j4 : (j : Int) < 4 := by omega
            have hj4 : j < 4 := by omega
            have hcell : wr.cell? ⟨bb, 3 + j, none⟩ = some (.int .i64 (num4 a b c d j)) := by rw [HKr.out.cell]; exact cm_at _ _ _ _ _ _ _ _ _ _ hj4
            obtain ⟨lx, hlx⟩ : ∃ l, l = enc (zz (num4 a b c d j)) := ⟨_, rfl⟩
            have hx10 : lx.length ≤ 10 := by rw [hlx]; exact enc_len10 (zz (num4 a b c d j)) (zz_lt _ (HNB.out j hj4).1 (HNB.out j hj4).2)
            have HLX := hid hlx
            have hmm : m.length ≤ 60 := by have := HL.out; omega
            have hsum : ¬ 9223372036854775807 < m.length + lx.length := by omega
            have HP2 : Hid ((m ++ lx) ++ encs ((([a, b, c, d] : List Int).take n).drop (j + 1)) = all) := hid (by
              have := HP.out
              rw [HDROP.out j hlt, encs, ← List.append_assoc, ← hlx] at this
              exact this)
            clear hlx
            go_wp2_with fail
            refine (ref_Int (num4 a b c d j) (HNB.out j hj4).1 (HNB.out j hj4).2 wr).mono ?_
            rintro e w9 ⟨v9, rfl, ho9, hb9⟩
            rw [← HLX.out] at ho9
            have hs9 := ownsRow.slb ho9 (by omega)
            obtain ⟨a9, c9, rfl, -⟩ := ownsRow.slb ho9 (by omega)
            have hst := hs9.str w9 (Below.refl _ _)
            have HB9 := hid (Below.next HBr.out hb9)
            have HK9 := hid (HKr.out.below hb9)
            have hadd : (⟨m.toArray⟩ : ByteArray) ++ ⟨lx.toArray⟩ = ⟨(m ++ lx).toArray⟩ := bytes_app m lx
            clear ho9 hb9 hs9 hcell
            go_wp2_with fail
            go_roundw
            case rel => exact ⟨j + 1, m ++ lx, by go_num, rfl, by omega, HB9, HK9, HP2, hid (by rw [List.length_append]; have := HL.out; omega)⟩
            case measure => simp [intOf]; omega
          · have j1 : ¬ (j : Int) < (n : Int) := by omega
            have hjn : j = n := by omega
            have hm : m = all := by
              rw [← HP.out, hjn, List.drop_of_length_le (by rw [List.length_take]; omega), encs, List.append_nil]
            subst hm
            go_wp2_with fail
            go_ret
            exact ⟨rfl, HBr.out⟩
end Go.Proofs.YtcjdlckfbkdibaaDoor
end
section
/- Contracts: slices of numbers: Index, Contains. -/
namespace Go.Proofs.YtcjdlckfbkdibaaDoor
open Go.RowKit
open Go.Lib (hid)
set_option linter.unusedVariables false

/-- the slice reads as the list of numbers -/
def SlI (w : World) (v : Value) (l : List Int) : Prop := ∃ a c, v = .slice a l.length c ∧ Rd w a (l.map (.int .i64)) ∧ l.length ≤ c ∧ c ≤ 9223372036854775807 ∧ (a = none → c = 0)
theorem SlI.nil (w : World) : SlI w (.slice none 0 0) [] := ⟨none, 0, rfl, Rd.nil _ _, by simp, by omega, fun _ => rfl⟩
theorem SlI.below {w w' : World} {v : Value} {l : List Int} (h : SlI w v l) (hb : Below w.heap.size w w') : SlI w' v l := by
  obtain ⟨a, c, rfl, h2, h3⟩ := h
  exact ⟨a, c, rfl, h2.below' hb, h3⟩
theorem SlI.upd {S : Nat → Prop} {w w' : World} {v : Value} {l : List Int} (h : SlI w v l) (hu : Upd S w w') (hn : ∀ k, v.ownBlock = some k → ¬ S k) : SlI w' v l := by
  obtain ⟨a, c, rfl, h2, h3⟩ := h
  exact ⟨a, c, rfl, hu.rd h2 (fun b off e => hn _ (by rw [e]; rfl)), h3⟩
theorem SlI.of_own {w : World} {base : Nat} {e : TypeId} {v : Value} {l : List Int} (h : w.ownsRow base e 1 v l.length (l.map (.int .i64))) : SlI w v l := by
  obtain ⟨a, cap, rfl, h1, h2, hr, h3⟩ := ownsRow.rd h
  exact ⟨a, cap, rfl, hr, h1, by unfold maxLen at h2; omega, h3⟩
/-- an incoming slice of numbers -/
theorem sli_of_row {w : World} {a : Option Addr} {len cap : Nat} {zs : List Int}
    (h : (a = none ∧ len = 0 ∧ cap = 0 ∧ zs = []) ∨
      ∃ x, a = some x ∧ len ≤ cap ∧ cap ≤ maxLen ∧ zs.length = cap ∧ (∀ i, i < zs.length → w.cell? (x.add i) = some (.int .i64 (zs.getD i 0))) ∧ ∀ n ∈ zs, (Lit.int .i64 n).wf = true) :
    ∃ l : List Int, len = l.length ∧ SlI w (.slice a len cap) l ∧ ∀ n ∈ l, (Lit.int .i64 n).wf = true := by
  obtain ⟨ys, rfl, h1, h2, h3, h4, h5, h6⟩ := Rd.of_row h
  exact ⟨ys, rfl, ⟨a, cap, rfl, h2, h4, h5, h6⟩, h3⟩

end Go.Proofs.YtcjdlckfbkdibaaDoor
end
