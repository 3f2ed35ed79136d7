/- Joined texts, in this order: Ref17Name. Each one's first remark says what it proves; no condition beyond those that its theorems name. -/
import Derived.Test.YtdoflhiogoefjaaDoorJLawThingFinds08
section
/- Contract of the document's Name. -/
namespace Go.Proofs.YtdoflhiogoefjaaDoor
open Go.RowKit
open Go.Lib (hid)
set_option linter.unusedVariables false

theorem getB (q : ByteArray) (k : Nat) (h : k < q.size) : q.data.toList.drop k = q[k] :: q.data.toList.drop (k + 1) := by
  have hlen : q.data.toList.length = q.size := by show q.data.toList.length = q.data.size; exact Array.length_toList
  have h2 := Lib.data_getElem? q k h
  obtain ⟨h3, h4⟩ := List.getElem?_eq_some_iff.1 h2
  rw [List.drop_eq_getElem_cons h3, h4]
theorem isLetB_nat (c : UInt8) : isLetB c = (decide (97 ≤ c.toNat) && decide (c.toNat ≤ 122) || (decide (48 ≤ c.toNat) && decide (c.toNat ≤ 57)) || decide (c.toNat = 45)) := by
  unfold isLetB isFirstB
  congr 1
  rw [Bool.eq_iff_iff]
  simp [← UInt8.toNat_inj]
def NmL (q : ByteArray) (nb : Bool) (v3 : Value) : Prop := ∃ k : Nat, v3 = .int .i64 k ∧ k ≤ q.size ∧ (q.data.toList.drop k).all isLetB = nb
set_option maxRecDepth 100000 in
set_option maxHeartbeats 4000000 in
theorem ref17_Name (q : ByteArray) (w : World) (hq : q.size ≤ 9223372036854775807) : Calls Tryd.prog 42 #[.string q] w fun e w' => e = .returned (.bool (nameB q.data.toList)) ∧ w = w' := by
  have hlen : q.data.toList.length = q.size := by show q.data.toList.length = q.data.size; exact Array.length_toList
  have hn : nameB q.data.toList = (decide (1 ≤ q.size) && decide (q.size ≤ 16) && isFirstB (q.data.toList.getD 0 0) && q.data.toList.all isLetB) := by unfold nameB; rw [hlen]
  obtain ⟨nb, hnb⟩ : ∃ nb, nb = nameB q.data.toList := ⟨_, rfl⟩
  rw [← hnb] at hn ⊢
  have HN := hid hn
  clear hn hnb hlen
  by_cases h0 : q.size < 1
  · have i0 : (q.size : Int) < 1 := by omega
    have : nb = false := by rw [HN.out]; simp; omega
    subst this
    go_enter Tryd.func42, Tryd.ntmps42
    go_wp2_with fail
    go_ret
    exact ⟨rfl, rfl⟩
  have i0 : ¬ (q.size : Int) < 1 := by omega
  by_cases h1 : 16 < q.size
  · have i1 : (16 : Int) < (q.size : Int) := by omega
    have : nb = false := by rw [HN.out]; simp; omega
    subst this
    go_enter Tryd.func42, Tryd.ntmps42
    go_wp2_with fail
    go_ret
    exact ⟨rfl, rfl⟩
  have i1 : ¬ (16 : Int) < (q.size : Int) := by omega
  have hpos : 0 < q.size := by omega
  have hg : q.data.toList.getD 0 0 = q[0] := by
    rw [List.getD_eq_getElem?_getD, Lib.data_getElem? q 0 hpos]; rfl
  have hN2 : nb = (isFirstB q[0] && q.data.toList.all isLetB) := by
    rw [HN.out, hg]
    have e1 : decide (1 ≤ q.size) = true := by simp; omega
    have e2 : decide (q.size ≤ 16) = true := by simp; omega
    rw [e1, e2]; simp
  have HN2 := hid hN2
  clear hN2 hg
  by_cases h2 : q[0].toNat < 97
  · have i2 : ((q[0].toNat : Nat) : Int) < 97 := by omega
    have : nb = false := by
      rw [HN2.out]
      have : isFirstB q[0] = false := by unfold isFirstB; simp; omega
      rw [this]; rfl
    subst this
    go_enter Tryd.func42, Tryd.ntmps42
    go_wp2_with fail
    go_ret
    exact ⟨rfl, rfl⟩
  have i2 : ¬ ((q[0].toNat : Nat) : Int) < 97 := by omega
  by_cases h3 : 122 < q[0].toNat
  · have i3 : (122 : Int) < ((q[0].toNat : Nat) : Int) := by omega
    have : nb = false := by
      rw [HN2.out]
      have : isFirstB q[0] = false := by unfold isFirstB; simp; omega
      rw [this]; rfl
    subst this
    go_enter Tryd.func42, Tryd.ntmps42
    go_wp2_with fail
    go_ret
    exact ⟨rfl, rfl⟩
  have i3 : ¬ (122 : Int) < ((q[0].toNat : Nat) : Int) := by omega
  have HST : Hid (q.data.toList.all isLetB = nb) := hid (by
    rw [HN2.out]
    have : isFirstB q[0] = true := by unfold isFirstB; simp; omega
    rw [this]; rfl)
  clear h2 h3
  go_enter Tryd.func42, Tryd.ntmps42
  go_wp2_with fail
  clear HN2
  go_loop [3] (fun v3 => NmL q nb v3) (fun v3 => q.size - (intOf v3).toNat)
  case atStart => exact ⟨0, rfl, by omega, HST.out⟩
  case round =>
    obtain ⟨k, rfl, hk, hall⟩ := hrel
    have HA := hid hall
    clear hall
    by_cases hlt : k < q.size
    · have k0 : (0 : Int) ≤ (k : Int) := by omega
      have k1 : (k : Int) < (q.size : Int) := by omega
      have hstep : (isLetB q[k] && (q.data.toList.drop (k + 1)).all isLetB) = nb := by
        rw [← HA.out, getB q k hlt]; rfl
      have HS := hid hstep
      clear hstep
      have hcase : (97 ≤ q[k].toNat ∧ q[k].toNat ≤ 122) ∨ (97 ≤ q[k].toNat ∧ 122 < q[k].toNat) ∨ (q[k].toNat < 97 ∧ 48 ≤ q[k].toNat ∧ q[k].toNat ≤ 57) ∨ (q[k].toNat < 97 ∧ 48 ≤ q[k].toNat ∧ 57 < q[k].toNat) ∨ (q[k].toNat < 48 ∧ q[k].toNat = 45) ∨ (q[k].toNat < 48 ∧ q[k].toNat ≠ 45) := by omega
      rcases hcase with h | h | h | h | h | h
      · have hl : isLetB q[k] = true := by rw [isLetB_nat]; simp; omega
        have HS2 := HS.out
        rw [hl] at HS2
        have fge97 : (97 : Int) ≤ ((q[k].toNat : Nat) : Int) := by omega
        have fle122 : ((q[k].toNat : Nat) : Int) ≤ 122 := by omega
        have HS3 : Hid ((q.data.toList.drop (k + 1)).all isLetB = nb) := hid (by simpa using HS2)
        clear hl HS2 h
        go_wp2_with fail
        go_round
        case rel => exact ⟨k + 1, by go_num, by omega, HS3.out⟩
        case measure => simp [intOf]; omega
      · have hl : isLetB q[k] = false := by rw [isLetB_nat]; simp; omega
        have HS2 := HS.out
        rw [hl] at HS2
        have fge97 : (97 : Int) ≤ ((q[k].toNat : Nat) : Int) := by omega
        have fle122 : ¬ ((q[k].toNat : Nat) : Int) ≤ 122 := by omega
        have fle57 : ¬ ((q[k].toNat : Nat) : Int) ≤ 57 := by omega
        have f45 : ((((q[k].toNat : Nat) : Int)) == 45) = false := by simp; omega
        have hnb : nb = false := by rw [← HS2]; rfl
        subst hnb
        clear hl HS2 h
        go_wp2_with fail
        go_ret
        exact ⟨rfl, rfl⟩
      · have hl : isLetB q[k] = true := by rw [isLetB_nat]; simp; omega
        have HS2 := HS.out
        rw [hl] at HS2
        have fge48 : (48 : Int) ≤ ((q[k].toNat : Nat) : Int) := by omega
        have fle57 : ((q[k].toNat : Nat) : Int) ≤ 57 := by omega
        have fge97 : ¬ (97 : Int) ≤ ((q[k].toNat : Nat) : Int) := by omega
        have HS3 : Hid ((q.data.toList.drop (k + 1)).all isLetB = nb) := hid (by simpa using HS2)
        clear hl HS2 h
        go_wp2_with fail
        go_round
        case rel => exact ⟨k + 1, by go_num, by omega, HS3.out⟩
        case measure => simp [intOf]; omega
      · have hl : isLetB q[k] = false := by rw [isLetB_nat]; simp; omega
        have HS2 := HS.out
        rw [hl] at HS2
        have fge48 : (48 : Int) ≤ ((q[k].toNat : Nat) : Int) := by omega
        have fge97 : ¬ (97 : Int) ≤ ((q[k].toNat : Nat) : Int) := by omega
        have fle57 : ¬ ((q[k].toNat : Nat) : Int) ≤ 57 := by omega
        have f45 : ((((q[k].toNat : Nat) : Int)) == 45) = false := by simp; omega
        have hnb : nb = false := by rw [← HS2]; rfl
        subst hnb
        clear hl HS2 h
        go_wp2_with fail
        go_ret
        exact ⟨rfl, rfl⟩
      · have hl : isLetB q[k] = true := by rw [isLetB_nat]; simp; omega
        have HS2 := HS.out
        rw [hl] at HS2
        have fge97 : ¬ (97 : Int) ≤ ((q[k].toNat : Nat) : Int) := by omega
        have fge48 : ¬ (48 : Int) ≤ ((q[k].toNat : Nat) : Int) := by omega
        have f45 : ((((q[k].toNat : Nat) : Int)) == 45) = true := by simp; omega
        have HS3 : Hid ((q.data.toList.drop (k + 1)).all isLetB = nb) := hid (by simpa using HS2)
        clear hl HS2 h
        go_wp2_with fail
        go_round
        case rel => exact ⟨k + 1, by go_num, by omega, HS3.out⟩
        case measure => simp [intOf]; omega
      · have hl : isLetB q[k] = false := by rw [isLetB_nat]; simp; omega
        have HS2 := HS.out
        rw [hl] at HS2
        have fge97 : ¬ (97 : Int) ≤ ((q[k].toNat : Nat) : Int) := by omega
        have fge48 : ¬ (48 : Int) ≤ ((q[k].toNat : Nat) : Int) := by omega
        have f45 : ((((q[k].toNat : Nat) : Int)) == 45) = false := by simp; omega
        have hnb : nb = false := by rw [← HS2]; rfl
        subst hnb
        clear hl HS2 h
        go_wp2_with fail
        go_ret
        exact ⟨rfl, rfl⟩
    · have k1 : ¬ (k : Int) < (q.size : Int) := by omega
      have : nb = true := by rw [← HA.out, List.drop_of_length_le (by show q.data.toList.length ≤ k; rw [Array.length_toList]; show q.size ≤ k; omega)]; rfl
      subst this
      go_wp2_with fail
      go_ret
      exact ⟨rfl, rfl⟩
end Go.Proofs.YtdoflhiogoefjaaDoor
end
