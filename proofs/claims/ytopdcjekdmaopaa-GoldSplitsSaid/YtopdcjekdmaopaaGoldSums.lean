/- The law GoldSums, walked. -/
import Derived.Test.YtopdcjekdmaopaaGoldSum
namespace Go.Proofs.Ytopdcjekdmaopaa
open Go.RowKit
open Go.Lib (hid)
set_option linter.unusedVariables false

theorem T_ints : SlT Try.prog 30 3 (.int .i64 0) 1 8 := SlT.mk' Try.underlying30 (by kernel_rfl) rfl (by decide) (by decide)

theorem gs_step (zs : List Int) (k : Nat) (x sm s e : Int) (hd : zs.drop k = x :: zs.drop (k + 1)) (hx : goldR x = true) (s0 : 0 ≤ sm) (s1 : sm ≤ 1099511627776) (h : sumF (zs.drop k) sm 0 = (s, e)) :
    (1099511627776 - sm < x → sumF (zs.drop (k + 1)) 0 15 = (s, e)) ∧ (¬ 1099511627776 - sm < x → sumF (zs.drop (k + 1)) (sm + x) 0 = (s, e)) := by
  have hsr : goldR sm = true := goldR_true ⟨s0, s1⟩
  rw [hd, sumF, if_pos hx, if_pos rfl] at h
  constructor
  · intro hv
    have he : addE sm x = 15 := by simp [addE, hsr, hx]; omega
    have hv : addV sm x = 0 := by simp [addV, he]
    rw [← h, he, hv]
  · intro hv
    have he : addE sm x = 0 := by simp [addE, hsr, hx]; omega
    have hv : addV sm x = sm + x := by simp [addV, he]
    rw [← h, he, hv]

theorem gs_stay (zs : List Int) (k : Nat) (x s e : Int) (hd : zs.drop k = x :: zs.drop (k + 1)) (hx : goldR x = true) (h : sumF (zs.drop k) 0 15 = (s, e)) : sumF (zs.drop (k + 1)) 0 15 = (s, e) := by
  rw [hd, sumF, if_pos hx, if_neg (by decide)] at h
  exact h

theorem gs_out (zs : List Int) (k : Nat) (x a b s e : Int) (hd : zs.drop k = x :: zs.drop (k + 1)) (hx : goldR x = false) (h : sumF (zs.drop k) a b = (s, e)) : s = 0 ∧ e = 11 := by
  rw [hd, sumF, hx] at h
  simp at h
  omega

/-- what holds ahead of each round of the law's sum -/
structure GsRel (zs : List Int) (s e : Int) (k : Nat) (sm : Int) (ov : Bool) : Prop where
  all : ∀ x ∈ zs.take k, goldR x = true
  lo : 0 ≤ sm
  hi : sm ≤ 1099511627776
  yes : ov = true → sumF (zs.drop k) 0 15 = (s, e)
  no : ov = false → sumF (zs.drop k) sm 0 = (s, e)
  tot : ov = false → sm = (zs.take k).sum

theorem GoldSums_loop2 (zs : List Int) (h : ∀ x ∈ zs, goldR x = true) (h1 : zs.sum ≤ 1099511627776) : sumF zs.reverse 0 0 = (zs.sum, 0) := by
  rw [sumF_ok zs.reverse (fun x hx => h x (by simpa using hx)) 0 (by omega) (by rw [sum_reverse]; omega), sum_reverse]
  simp

theorem rev_step (zs : List Int) (q : Nat) (x : Int) (hq : q < zs.length) (hd : zs.drop q = x :: zs.drop (q + 1)) : (zs.drop q).reverse = (zs.drop (q + 1)).reverse ++ [x] := by
  rw [hd]; simp

set_option maxHeartbeats 1000000 in
theorem GoldSums_walk (a0 : Option Addr) (len0 cap0 : Nat) (z0 : List Int) (w : World) (w0 : (a0 = none ∧ len0 = 0 ∧ cap0 = 0 ∧ z0 = []) ∨
      ∃ x, a0 = some x ∧ len0 ≤ cap0 ∧ cap0 ≤ maxLen ∧ z0.length = cap0 ∧ (∀ i, i < z0.length → w.cell? (x.add i) = some (.int .i64 (z0.getD i 0))) ∧ ∀ n ∈ z0, (Lit.int .i64 n).wf = true) :
    Calls Try.prog 7 #[.slice a0 len0 cap0] w fun e w' => e = .returned (.bool true) ∧ Below w.heap.size w w' := by
  obtain ⟨zs, rfl, hm, hr, hwf⟩ := Rd.of_row w0
  clear w0
  by_cases h200 : 200 < zs.length
  · go_enter Try.func7, Try.ntmps7
    go_wp2_with (go_at_call 19; (with_reducible refine (gold_awake _).mono ?_); rintro e w' ⟨rfl, rfl⟩)
    go_ret
    exact ⟨rfl, Below.refl _ _⟩
  · obtain ⟨s, e, hse⟩ : ∃ s e, sumF zs 0 0 = (s, e) := ⟨_, _, rfl⟩
    have HSE := hid hse
    clear hse
    go_enter Try.func7, Try.ntmps7
    go_wp2_with (go_at_call 25; (with_reducible refine (gold_Sum zs a0 _ cap0 (hid rfl) hm _ hr s e HSE).mono ?_); rintro e w' ⟨rfl, rfl⟩)
    go_loop [5, 6, 24] (fun v5 v6 v24 => ∃ (k : Nat) (sm : Int) (ov : Bool), v5 = .int .i64 sm ∧ v6 = .bool ov ∧ v24 = .int .i64 k ∧ k ≤ zs.length ∧ GsRel zs s e k sm ov) (fun _ _ vi => zs.length - (intOf vi).toNat)
    case atStart => exact ⟨0, 0, false, rfl, rfl, rfl, by omega, ⟨by simp, by omega, by omega, by simp, fun _ => HSE.out, fun _ => by simp⟩⟩
    case round =>
      obtain ⟨k, sm, ov, rfl, rfl, rfl, hk, R⟩ := hrel
      by_cases hlt : k < zs.length
      · obtain ⟨b, off, x, rfl, hc, -, hd, ht, -⟩ := hr.int k hlt
        have HD := hid hd
        have HT := hid ht
        have hxw := wf64 (hwf x (by rw [← List.take_append_drop k zs, hd]; simp))
        obtain ⟨x0, x1⟩ := hxw
        clear hd ht hwf
        cases hx : goldR x
        · have he : s = 0 ∧ e = 11 := by
            cases ov
            · exact gs_out zs k x _ _ s e HD.out hx (R.no rfl)
            · exact gs_out zs k x _ _ s e HD.out hx (R.yes rfl)
          obtain ⟨rfl, rfl⟩ := he
          go_wp2_with (first | (go_at_call 16; (with_reducible refine (ref_Right _ _).mono ?_); rintro e w' ⟨rfl, rfl⟩) | (go_at_call 19; (with_reducible refine (gold_awake _).mono ?_); rintro e w' ⟨rfl, rfl⟩))
          go_ret
          exact ⟨rfl, Below.refl _ _⟩
        · have hall : ∀ y ∈ zs.take (k + 1), goldR y = true := by
            intro y hy
            rw [HT.out] at hy
            rcases List.mem_append.1 hy with h | h
            · exact R.all y h
            · simp at h; rw [h]; exact hx
          have HALL := hid hall
          clear hall
          have r0 := R.lo
          have r1 := R.hi
          cases ov
          · have hst := gs_step zs k x sm s e HD.out hx R.lo R.hi (R.no rfl)
            by_cases hv : 1099511627776 - sm < x
            · have R' : GsRel zs s e (k + 1) sm true := ⟨HALL.out, r0, r1, fun _ => hst.1 hv, nofun, nofun⟩
              clear hst
              go_wp2_with (first | (go_at_call 16; (with_reducible refine (ref_Right _ _).mono ?_); rintro e w' ⟨rfl, rfl⟩) | (go_at_call 19; (with_reducible refine (gold_awake _).mono ?_); rintro e w' ⟨rfl, rfl⟩))
              go_round
              case rel => exact ⟨k + 1, _, _, rfl, rfl, by go_num, by omega, R'⟩
              case measure => simp [intOf]; omega
            · have hvb : decide (1099511627776 - sm < x) = false := by simpa using hv
              have hxr : 0 ≤ x ∧ x ≤ 1099511627776 := by simpa [goldR] using hx
              have R' : GsRel zs s e (k + 1) (sm + x) false := ⟨HALL.out, by omega, by omega, nofun, fun _ => hst.2 hv, fun _ => by (rw [HT.out, List.sum_append, ← R.tot rfl]; simp)⟩
              clear hst
              go_wp2_with (first | (go_at_call 16; (with_reducible refine (ref_Right _ _).mono ?_); rintro e w' ⟨rfl, rfl⟩) | (go_at_call 19; (with_reducible refine (gold_awake _).mono ?_); rintro e w' ⟨rfl, rfl⟩))
              go_round
              case rel => exact ⟨k + 1, _, _, rfl, rfl, by go_num, by omega, R'⟩
              case measure => simp [intOf]; omega
          · have R' : GsRel zs s e (k + 1) sm true := ⟨HALL.out, r0, r1, fun _ => gs_stay zs k x s e HD.out hx (R.yes rfl), nofun, nofun⟩
            go_wp2_with (first | (go_at_call 16; (with_reducible refine (ref_Right _ _).mono ?_); rintro e w' ⟨rfl, rfl⟩) | (go_at_call 19; (with_reducible refine (gold_awake _).mono ?_); rintro e w' ⟨rfl, rfl⟩))
            go_round
            case rel => exact ⟨k + 1, _, _, rfl, rfl, by go_num, by omega, R'⟩
            case measure => simp [intOf]; omega
      · obtain rfl : k = zs.length := by omega
        have hall : ∀ x ∈ zs, goldR x = true := fun x hx => R.all x (by simpa using hx)
        have HALL := hid hall
        clear hall
        cases ov
        · have hn := R.no rfl
          have ht := R.tot rfl
          simp [sumF] at hn ht
          obtain ⟨rfl, rfl⟩ := hn
          have hsb : sm ≤ 1099511627776 := R.hi
          have HT := hid ht
          have HREV := hid (GoldSums_loop2 zs HALL.out (by omega))
          have HREV2 : Hid (sumF zs.reverse 0 0 = (sm, 0)) := hid (by rw [HT.out]; exact HREV.out)
          clear ht HREV R
          go_wp2
          go_loopw [9, 10] (fun v9 v10 wr => ∃ (m : Nat) (ys : List Int), v10 = .int .i64 ((m : Int) - 1) ∧ m ≤ zs.length ∧ wr.ownsRow w.heap.size 3 1 v9 ys.length (ys.map (.int .i64)) ∧ ys.length ≤ zs.length ∧ Hid (ys = (zs.drop m).reverse) ∧ Below w.heap.size w wr) (fun _ vi _ => (intOf vi + 1).toNat)
          case atStart => exact ⟨zs.length, [], rfl, by omega, World.ownsRow_nil _ _ _ _, by simp, hid (by simp), Below.refl _ _⟩
          case round =>
            obtain ⟨m, ys, rfl, hmz, hown, hyl, hys, hb⟩ := hrel
            rcases m with _ | q
            · obtain ⟨a, cap, rfl, -, -, hrd, -⟩ := ownsRow.rd hown
              have HREV3 : Hid (sumF ys 0 0 = (sm, 0)) := hid (by rw [hys.out]; simpa using HREV2.out)
              clear hown
              go_wp2_with (first | (go_at_call 25; (with_reducible refine (gold_Sum ys a _ cap (hid rfl) (by omega) _ hrd sm 0 HREV3).mono ?_); rintro e w' ⟨rfl, rfl⟩) | (go_at_call 19; (with_reducible refine (gold_awake _).mono ?_); rintro e w' ⟨rfl, rfl⟩))
              go_ret
              exact ⟨rfl, hb⟩
            · obtain ⟨c, hc⟩ : ∃ c : Int, c = ((q + 1 : Nat) : Int) - 1 := ⟨_, rfl⟩
              obtain rfl : c = (q : Int) := by omega
              rw [← hc]
              clear hc
              obtain ⟨b, off, x, rfl, hcell, -, hd, -, -⟩ := (hr.below' hb).int q (by omega)
              have hys2 : ys ++ [x] = (zs.drop q).reverse := by rw [rev_step zs q x (by omega) hd, hys.out]
              have hle : ys.length + 1 ≤ zs.length := by
                have := congrArg List.length hys.out
                simp at this; omega
              have HYS := hid hys2
              clear hd hys2
              go_wp2_with (at_builtin; refine wpList_append1 T_ints _ rfl _ _ #[.int .i64 x] rfl w.heap.size _ _ _ rfl hown rfl rfl ?c1 ?c2 ?c3 ?_)
              case c1 => rfl
              case c2 => omega
              case c3 => exact hb.size
              intro v' w1 hown' hgrow hne
              have hb' : Below w.heap.size w w1 := hb.grown hgrow hb.size (fun k hk => (hown.lt k hk).1)
              have hown2 : w1.ownsRow w.heap.size 3 1 v' (ys ++ [x]).length ((ys ++ [x]).map (.int .i64)) := by simpa using hown'
              clear hown' hown hgrow
              go_wp2
              go_roundw
              case rel => exact ⟨q, ys ++ [x], rfl, by omega, hown2, by simp; omega, HYS, hb'⟩
              case measure => simp [intOf]
        · have hy := R.yes rfl
          simp [sumF] at hy
          obtain ⟨rfl, rfl⟩ := hy
          go_wp2_with (first | (go_at_call 16; (with_reducible refine (ref_Right _ _).mono ?_); rintro e w' ⟨rfl, rfl⟩) | (go_at_call 19; (with_reducible refine (gold_awake _).mono ?_); rintro e w' ⟨rfl, rfl⟩))
          go_ret
          exact ⟨rfl, Below.refl _ _⟩
end Go.Proofs.Ytopdcjekdmaopaa
