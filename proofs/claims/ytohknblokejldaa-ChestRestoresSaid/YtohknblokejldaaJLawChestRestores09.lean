/- Joined texts, in this order: ChestRef. Each one's first remark says what it proves; no condition beyond those that its theorems name. -/
import Derived.Test.YtohknblokejldaaJLawChestRestores08
import Derived.Test.YtohknblokejldaaProg
section
/- Contracts of the document's answer for layer 22. -/
namespace Go.Proofs.Ytohknblokejldaa
open Go.RowKit
open Go.Lib (hid)
set_option linter.unusedVariables false

theorem T_refchest : SlT Try.prog 59 71 (.agg #[.int .i64 0, .int .i64 0]) 2 16 := SlT.mk' Try.underlying59 (by kernel_rfl) rfl (by decide) (by decide)

/-- how many a house has, from a count on -/
def lenF : List (Int × Int) → Int → Nat → Nat
  | [], _, n => n
  | p :: X, h, n => if p.1 = h then lenF X h (n + 1) else lenF X h n
theorem lenF_eq (X : List (Int × Int)) (h : Int) : ∀ n, lenF X h n = n + (X.filter fun p => p.1 = h).length := by
  induction X with
  | nil => intro n; rfl
  | cons p X ih =>
    intro n
    by_cases hp : p.1 = h
    · rw [lenF, if_pos hp, ih, List.filter_cons_of_pos (by simpa using hp), List.length_cons]; omega
    · rw [lenF, if_neg hp, ih, List.filter_cons_of_neg (by simpa using hp)]
theorem ref_Len (X : List (Int × Int)) (v : Value) (h : Int) (w : World) (hs : SlP w v X) (hm : X.length ≤ 1000000) (r : Nat) (hr : Hid (lenF X h 0 = r)) :
    Calls Try.prog 73 #[v, .int .i64 h] w fun e w' => e = .returned (.int .i64 (r : Int)) ∧ w = w' := by
  obtain ⟨a, c, rfl, hrd, h3, h4, h5⟩ := hs
  clear h3 h4 h5
  go_enter Try.func73, Try.ntmps73
  go_wp2
  go_loop [5, 6] (fun vn vi => ∃ (k n : Nat), vn = .int .i64 n ∧ vi = .int .i64 k ∧ k ≤ X.length ∧ n ≤ k ∧ Hid (lenF (X.drop k) h n = r)) (fun _ vi => X.length - (intOf vi).toNat)
  case atStart => exact ⟨0, 0, rfl, rfl, by omega, by omega, hr⟩
  case round =>
    obtain ⟨k, n, rfl, rfl, hk, hnk, hlen⟩ := hrel
    by_cases hlt : k < X.length
    · obtain ⟨b, off, x, y, rfl, hc, -, -, hd, -⟩ := hrd.pair k hlt
      have h1 := hlen.out
      rw [hd, lenF] at h1
      by_cases hx : x = h
      · subst hx
        rw [if_pos rfl] at h1
        have H1 := hid h1
        clear hd h1
        go_wp2
        go_round
        case rel => exact ⟨k + 1, n + 1, by go_num, by go_num, by omega, by omega, H1⟩
        case measure => simp [intOf]; omega
      · rw [if_neg hx] at h1
        have H1 := hid h1
        have hx' : (x == h) = false := by simpa using hx
        clear hd h1
        go_wp2
        go_round
        case rel => exact ⟨k + 1, n, rfl, by go_num, by omega, by omega, H1⟩
        case measure => simp [intOf]; omega
    · have h1 := hlen.out
      rw [List.drop_of_length_le (by omega), lenF] at h1
      subst h1
      go_wp2
      go_ret
      exact ⟨rfl, rfl⟩

/-- where the chest n of a house is -/
def placeF : List (Int × Int) → Int → Int → Nat → Option Nat
  | [], _, _, _ => none
  | p :: X, h, n, i => if p.1 = h then (if wrap64 (n - 1) = 0 then some i else placeF X h (wrap64 (n - 1)) (i + 1)) else placeF X h n (i + 1)
def placeV : Option Nat → Int
  | none => -1
  | some i => i
set_option maxRecDepth 100000 in
set_option maxHeartbeats 400000 in
theorem ref_Place (X : List (Int × Int)) (v : Value) (h n : Int) (w : World) (hs : SlP w v X) (hm : X.length ≤ 1000000) (r : Option Nat) (hr : Hid (placeF X h n 0 = r)) :
    Calls Try.prog 75 #[v, .int .i64 h, .int .i64 n] w fun e w' => e = .returned (.int .i64 (placeV r)) ∧ w = w' := by
  obtain ⟨a, c, rfl, hrd, h3, h4, h5⟩ := hs
  clear h3 h4 h5
  go_enter Try.func75, Try.ntmps75
  go_wp2
  go_loop [2, 7] (fun vn vi => ∃ (k : Nat) (n : Int), vn = .int .i64 n ∧ vi = .int .i64 k ∧ k ≤ X.length ∧ Hid (placeF (X.drop k) h n k = r)) (fun _ vi => X.length - (intOf vi).toNat)
  case atStart => exact ⟨0, n, rfl, rfl, by omega, hr⟩
  case round =>
    obtain ⟨k, n, rfl, rfl, hk, hlen⟩ := hrel
    by_cases hlt : k < X.length
    · obtain ⟨b, off, x, y, rfl, hc, -, -, hd, -⟩ := hrd.pair k hlt
      have h1 := hlen.out
      rw [hd, placeF] at h1
      by_cases hx : x = h
      · subst hx
        rw [if_pos rfl] at h1
        by_cases hz : wrap64 (n - 1) = 0
        · rw [if_pos hz] at h1
          subst h1
          clear hd hlen
          go_wp2
          go_ret
          exact ⟨rfl, rfl⟩
        · rw [if_neg hz] at h1
          have H1 := hid h1
          have hz' : (wrap64 (n - 1) == 0) = false := by simpa using hz
          clear hd h1
          go_wp2
          go_round
          case rel => exact ⟨k + 1, _, rfl, by go_num, by omega, H1⟩
          case measure => simp [intOf]; omega
      · rw [if_neg hx] at h1
        have H1 := hid h1
        have hx' : (x == h) = false := by simpa using hx
        clear hd h1
        go_wp2
        go_round
        case rel => exact ⟨k + 1, n, rfl, by go_num, by omega, H1⟩
        case measure => simp [intOf]; omega
    · have h1 := hlen.out
      rw [List.drop_of_length_le (by omega), placeF] at h1
      subst h1
      clear hlen
      go_wp2
      go_ret
      exact ⟨rfl, rfl⟩

def withoutL (X : List (Int × Int)) (h : Int) : List (Int × Int) := X.filter fun p => p.1 ≠ h
theorem without_take (X : List (Int × Int)) (h : Int) (k : Nat) (p : Int × Int) (ht : X.take (k + 1) = X.take k ++ [p]) : withoutL (X.take (k + 1)) h = if p.1 = h then withoutL (X.take k) h else withoutL (X.take k) h ++ [p] := by
  unfold withoutL
  rw [ht, List.filter_append]
  by_cases hp : p.1 = h <;> simp [hp]
theorem without_len (X : List (Int × Int)) (h : Int) (k : Nat) : (withoutL (X.take k) h).length ≤ k := by
  unfold withoutL
  refine Nat.le_trans (List.length_filter_le _ _) ?_
  rw [List.length_take]; omega
set_option maxRecDepth 100000 in
set_option maxHeartbeats 400000 in
theorem ref_Without (X : List (Int × Int)) (v : Value) (h : Int) (w : World) (hs : SlP w v X) (hm : X.length ≤ 1000000) :
    Calls Try.prog 76 #[v, .int .i64 h] w fun e w' => ∃ v', e = .returned v' ∧ w'.ownsRow w.heap.size 71 2 v' (withoutL X h).length (pv (withoutL X h)) ∧ Below w.heap.size w w' := by
  have HS := hid hs
  obtain ⟨a, c, rfl, -⟩ := hs
  go_enter Try.func76, Try.ntmps76
  go_wp2
  go_loopw [5, 6] (fun vo vi wr => ∃ (k : Nat), vi = .int .i64 k ∧ k ≤ X.length ∧ Hid (wr.ownsRow w.heap.size 71 2 vo (withoutL (X.take k) h).length (pv (withoutL (X.take k) h))) ∧ Hid (Below w.heap.size w wr)) (fun _ vi _ => X.length - (intOf vi).toNat)
  case atStart => exact ⟨0, rfl, by omega, hid (by simpa [withoutL, pv] using World.ownsRow_nil _ _ _ _), hid (Below.refl _ _)⟩
  case round =>
    obtain ⟨k, rfl, hk, hown, hb⟩ := hrel
    by_cases hlt : k < X.length
    · obtain ⟨a', c', e, hrd, -⟩ := HS.out.below hb.out
      simp only [Value.slice.injEq] at e
      obtain ⟨rfl, -, rfl⟩ := e
      obtain ⟨b, off, x, y, rfl, hc1, hc2, -, -, ht⟩ := hrd.pair k hlt
      have hw := without_take X h k _ ht
      have hwl := without_len X h k
      clear hrd ht
      by_cases hx : x = h
      · subst hx
        rw [if_pos rfl] at hw
        have HW := hid hw
        clear hw
        go_wp2
        go_roundw
        case rel => exact ⟨k + 1, by go_num, by omega, by rw [HW.out]; exact hown, hb⟩
        case measure => simp [intOf]; omega
      · rw [if_neg hx] at hw
        have HW := hid hw
        have hx' : (x == h) = false := by simpa using hx
        have hsz := hb.out.size
        clear hw
        go_wp2_with (at_builtin; refine wpList_append1w T_refchest _ rfl _ _ #[.int .i64 x, .int .i64 y] rfl w.heap.size _ _ _ rfl hown.out rfl rfl ?c1 ?c2 ?c3 ?_)
        case c1 => exact ⟨rfl, rfl⟩
        case c2 => omega
        case c3 => omega
        intro v' w1 hown' hgrow hne hwh
        have HO : Hid (w1.ownsRow w.heap.size 71 2 v' (withoutL (X.take (k + 1)) h).length (pv (withoutL (X.take (k + 1)) h))) := hid (by
          rw [HW.out, pv_append, List.length_append]; exact hown')
        have HB : Hid (Below w.heap.size w w1) := hid (hb.out.grown hgrow hsz (fun j hj => (hown.out.lt j hj).1))
        clear hown' hgrow hwh hne
        go_wp2
        go_roundw
        case rel => exact ⟨k + 1, by go_num, by omega, HO, HB⟩
        case measure => simp [intOf]; omega
    · have e1 : X.take k = X := List.take_of_length_le (by omega)
      rw [e1] at hown
      go_wp2
      go_ret
      exact ⟨_, rfl, hown.out, hb.out⟩
end Go.Proofs.Ytohknblokejldaa
end
