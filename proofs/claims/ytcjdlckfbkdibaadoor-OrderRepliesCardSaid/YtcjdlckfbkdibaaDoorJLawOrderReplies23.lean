/- Joined texts, in this order: OrdRef. Each one's first remark says what it proves; no condition beyond those that its theorems name. -/
import Derived.Test.YtcjdlckfbkdibaaDoorJLawOrderReplies21
import Derived.Test.YtcjdlckfbkdibaaDoorJLawOrderReplies22
section
/- Contracts of the document's Right and Bytes, and of the law's ref. -/
namespace Go.Proofs.YtcjdlckfbkdibaaDoor
open Go.RowKit
open Go.Lib (hid)
set_option linter.unusedVariables false

set_option maxRecDepth 100000 in
set_option maxHeartbeats 2000000 in
theorem law27_ref (ses who kind a b c d : Int) (text login : ByteArray) (w : World) :
    Calls Tryd.prog 29 #[.agg #[.int .i64 ses, .int .i64 who, .int .i64 kind, .int .i64 a, .int .i64 b, .int .i64 c, .int .i64 d, .string text, .string login]] w fun e w' => e = .returned (.agg #[.int .i64 ses, .int .i64 who, .int .i64 kind, .int .i64 a, .int .i64 b, .int .i64 c, .int .i64 d, .string text, .string login]) ∧ Below w.heap.size w w' := by
  go_enter Tryd.func29, Tryd.ntmps29
  go_wp2_with fail
  (try simp only [Exit.inBlock, Exit.then])
  refine bodyPost_ret (res_cell1 rfl _ _ _ rfl (by go_simp; rfl)) rfl ?_
  exact ⟨rfl, Below.next (Below.next (Below.new _ _) (Below.new _ _)) (Below.new _ _)⟩
/-- what is left to be looked at: the numbers from i on are noughts -/
def RgL (n : Nat) (a b c d : Int) (v : Value) : Prop := ∃ i : Nat, v = .int .i64 (i : Int) ∧ n ≤ i ∧ i ≤ 4 ∧ Hid ((([a, b, c, d] : List Int).drop n).all (fun x => decide (x = 0)) = (([a, b, c, d] : List Int).drop i).all (fun x => decide (x = 0)))
theorem drop4 (a b c d : Int) (i : Nat) (hi : i < 4) : ([a, b, c, d] : List Int).drop i = num4 a b c d i :: ([a, b, c, d] : List Int).drop (i + 1) := by
  match i, hi with
  | 0, _ => rfl
  | 1, _ => rfl
  | 2, _ => rfl
  | 3, _ => rfl
set_option maxRecDepth 100000 in
set_option maxHeartbeats 4000000 in
theorem ref_Right (ses who kind a b c d : Int) (text login : ByteArray) (w : World) (hl : login.size ≤ 9223372036854775807) (ht : text.size ≤ 9223372036854775807) (R : Bool) (hR : Hid ((cmOf ses who kind a b c d text login).right = R)) :
    Calls Tryd.prog 28 #[.agg #[.int .i64 ses, .int .i64 who, .int .i64 kind, .int .i64 a, .int .i64 b, .int .i64 c, .int .i64 d, .string text, .string login]] w fun e w' => e = .returned (.bool R) ∧ Below w.heap.size w w' := by
  have hR2 := hR.out
  clear hR
  have htl : text.data.toList.length = text.size := by show text.data.toList.length = text.data.size; exact Array.length_toList
  unfold Cm.right cmOf at hR2
  simp only [empty_iff, htl] at hR2
  clear htl
  by_cases h0 : ses < 0
  · have : R = false := by rw [← hR2]; simp; omega
    subst this
    go_enter Tryd.func28, Tryd.ntmps28
    go_wp2_with fail
    go_ret
    exact ⟨rfl, Below.new _ _⟩
  by_cases h1 : 1048576 < ses
  · have : R = false := by rw [← hR2]; simp; omega
    subst this
    go_enter Tryd.func28, Tryd.ntmps28
    go_wp2_with fail
    go_ret
    exact ⟨rfl, Below.new _ _⟩
  have h1' : decide (1048576 < ses) = false := by simpa using h1
  by_cases h2 : who = 0
  case neg =>
    have : R = false := by rw [← hR2]; simp [h2]
    subst this
    have h2' : (who != 0) = true := by simp [h2]
    have h2'' : (who == 0) = false := by simp [h2]
    go_enter Tryd.func28, Tryd.ntmps28
    go_wp2_with fail
    go_ret
    exact ⟨rfl, Below.new _ _⟩
  subst h2
  have hs0 : decide (0 ≤ ses) = true := by simp; omega
  have hs1 : decide (ses ≤ 1048576) = true := by simp; omega
  rw [hs0, hs1] at hR2
  simp only [Bool.true_and, decide_true] at hR2
  obtain ⟨n, hn⟩ : ∃ n, n = usesN kind := ⟨_, rfl⟩
  obtain ⟨t, htt⟩ : ∃ t, t = usesT kind := ⟨_, rfl⟩
  have h4 := usesN_le kind
  rw [← hn] at h4
  rw [← hn, ← htt] at hR2
  have HN := hid hn
  have HT := hid htt
  have HR2 := hid hR2
  obtain ⟨bb, hbb⟩ : ∃ bb, bb = w.heap.size := ⟨_, rfl⟩
  clear hR2 hs0 hs1 hn htt
  go_enter Tryd.func28, Tryd.ntmps28
  go_wp2_with fail
  generalize hw1 : World.alloc w _ = w1
  have HB1 : Hid (Below w.heap.size w w1) := hid (by rw [← hw1]; exact Below.new _ _)
  have hK1 : Blk w1 w.heap.size (cmA ses 0 kind a b c d text login) := by rw [← hw1]; exact Blk.new w _ _
  clear hw1
  refine (ref_Uses kind w1 n t HN HT).mono ?_
  rintro e w2 ⟨rfl, rfl⟩
  rw [← hbb] at hK1
  rw [← hbb]
  have HK1 := hid hK1
  have HBB := hid hbb
  unfold cmA at hK1
  obtain ⟨c0, c1, c2, c3, c4, c5, c6, c7, c8⟩ := hK1.cells9
  clear hK1 hbb h1 h1'
  go_wp2_with fail
  go_loop [5] (fun v5 => RgL n a b c d v5) (fun v5 => 4 - (intOf v5).toNat)
  case atStart => exact ⟨n, rfl, by omega, by omega, hid rfl⟩
  case round =>
    obtain ⟨i, rfl, hni, hi4, HA⟩ := hrel
    by_cases hlt : i < 4
    · have i4 : (i : Int) < 4 := by omega
      have i0 : (0 : Int) ≤ (i : Int) := by omega
      have hci : w1.cell? ⟨bb, 3 + i, none⟩ = some (.int .i64 (num4 a b c d i)) := by rw [HK1.out.cell]; exact cm_at _ _ _ _ _ _ _ _ _ _ hlt
      by_cases hz : num4 a b c d i = 0
      · rw [hz] at hci
        have HA2 : Hid ((([a, b, c, d] : List Int).drop n).all (fun x => decide (x = 0)) = (([a, b, c, d] : List Int).drop (i + 1)).all (fun x => decide (x = 0))) := hid (by
          rw [HA.out, drop4 a b c d i hlt]
          simp [hz])
        clear HA hz
        go_wp2_with fail
        go_round
        case rel => exact ⟨i + 1, by go_num, by omega, by omega, HA2⟩
        case measure => simp [intOf]; omega
      · have : R = false := by
          rw [← HR2.out, HA.out, drop4 a b c d i hlt]
          simp [hz]
        subst this
        have hzb : (num4 a b c d i != 0) = true := by simp [hz]
        have hzc : (num4 a b c d i == 0) = false := by simp [hz]
        clear HA
        go_wp2_with fail
        go_ret
        exact ⟨rfl, HB1.out⟩
    · have i4 : ¬ (i : Int) < 4 := by omega
      have hR3 : (if login.toList.isEmpty = true then (t || text.toList.isEmpty) && decide (text.size ≤ 16) && (decide (1 ≤ kind) && decide (kind ≤ 27)) else decide (kind = 0) && text.toList.isEmpty && decide (0 < ses) && nameB login.data.toList) = R := by
        have := HR2.out
        rw [HA.out, show i = 4 by omega] at this
        simpa using this
      clear HA HR2
      cases h5 : login.toList.isEmpty with
      | false =>
        rw [h5] at hR3
        simp only [Bool.false_eq_true, if_false] at hR3
        by_cases k0 : kind = 0
        · have k0b : (kind == 0) = true := by simp [k0]
          cases h6 : text.toList.isEmpty with
          | false =>
            have : R = false := by rw [← hR3, h6]; simp
            subst this
            clear hR3 k0
            go_wp2_with fail
            go_ret
            exact ⟨rfl, HB1.out⟩
          | true =>
            by_cases s0 : 0 < ses
            · have hR4 : Hid (nameB login.data.toList = R) := hid (by rw [← hR3, h6]; simp [k0, s0])
              clear hR3 k0
              go_wp2_with fail
              refine (ref17_Name login _ hl).mono ?_
              rintro e w3 ⟨rfl, rfl⟩
              rw [hR4.out]
              go_wp2_with fail
              go_ret
              exact ⟨rfl, HB1.out⟩
            · have : R = false := by rw [← hR3]; simp [s0]
              subst this
              clear hR3 k0
              go_wp2_with fail
              go_ret
              exact ⟨rfl, HB1.out⟩
        · have k0b : (kind == 0) = false := by simp [k0]
          have : R = false := by rw [← hR3]; simp [k0]
          subst this
          clear hR3 k0
          go_wp2_with fail
          go_ret
          exact ⟨rfl, HB1.out⟩
      | true =>
        rw [h5] at hR3
        simp only [if_true] at hR3
        have HR3 := hid hR3
        clear hR3
        by_cases hz : text.size ≤ 16
        · have z1 : (text.size : Int) ≤ 16 := by omega
          have z2 : ¬ (16 : Int) < (text.size : Int) := by omega
          have hR4 : Hid (((t || text.toList.isEmpty) && (decide (1 ≤ kind) && decide (kind ≤ 27))) = R) := hid (by rw [← HR3.out]; simp [hz])
          cases t with
          | true =>
            by_cases q1 : 1 ≤ kind
            · by_cases q2 : kind ≤ 27
              · have : R = true := by rw [← hR4.out]; simp [q1, q2]
                subst this
                go_wp2_with fail
                go_ret
                exact ⟨rfl, HB1.out⟩
              · have : R = false := by rw [← hR4.out]; simp [q2]
                subst this
                go_wp2_with fail
                go_ret
                exact ⟨rfl, HB1.out⟩
            · have : R = false := by rw [← hR4.out]; simp [q1]
              subst this
              go_wp2_with fail
              go_ret
              exact ⟨rfl, HB1.out⟩
          | false =>
            cases h6 : text.toList.isEmpty with
            | false =>
              have : R = false := by rw [← hR4.out, h6]; simp
              subst this
              go_wp2_with fail
              go_ret
              exact ⟨rfl, HB1.out⟩
            | true =>
              by_cases q1 : 1 ≤ kind
              · by_cases q2 : kind ≤ 27
                · have : R = true := by rw [← hR4.out, h6]; simp [q1, q2]
                  subst this
                  go_wp2_with fail
                  go_ret
                  exact ⟨rfl, HB1.out⟩
                · have : R = false := by rw [← hR4.out]; simp [q2]
                  subst this
                  go_wp2_with fail
                  go_ret
                  exact ⟨rfl, HB1.out⟩
              · have : R = false := by rw [← hR4.out]; simp [q1]
                subst this
                go_wp2_with fail
                go_ret
                exact ⟨rfl, HB1.out⟩
        · have z1 : ¬ (text.size : Int) ≤ 16 := by omega
          have z2 : (16 : Int) < (text.size : Int) := by omega
          have : R = false := by rw [← HR3.out]; simp [hz]
          subst this
          cases t with
          | true =>
            go_wp2_with fail
            go_ret
            exact ⟨rfl, HB1.out⟩
          | false =>
            cases h6 : text.toList.isEmpty with
            | false =>
              go_wp2_with fail
              go_ret
              exact ⟨rfl, HB1.out⟩
            | true =>
              go_wp2_with fail
              go_ret
              exact ⟨rfl, HB1.out⟩
end Go.Proofs.YtcjdlckfbkdibaaDoor
end
