/- Joined texts, in this order: Ints, IntsOps, Slots1. Each one's first remark says what it proves; no condition beyond those that its theorems name. -/
import Derived.Test.YtohknblokejldaaJLawSlotsBytes01
import Derived.Test.YtohknblokejldaaJLawSlotsBytes08
import Derived.Test.YtohknblokejldaaProg
import Derived.Test.YtohknblokejldaaJLawSlotsBytes03
import Derived.Test.YtohknblokejldaaJLawSlotsBytes06
section
/- Contracts: slices of numbers: Index, Contains. -/
namespace Go.Proofs.Ytohknblokejldaa
open Go.RowKit
open Go.Lib (hid)
set_option linter.unusedVariables false

/-- the slice reads as the list of numbers -/
def SlI (w : World) (v : Value) (l : List Int) : Prop := ∃ a c, v = .slice a l.length c ∧ Rd w a (l.map (.int .i64)) ∧ l.length ≤ c ∧ c ≤ 9223372036854775807 ∧ (a = none → c = 0)
theorem SlI.nil (w : World) : SlI w (.slice none 0 0) [] := ⟨none, 0, rfl, Rd.nil _ _, by simp, by omega, fun _ => rfl⟩
theorem SlI.below {w w' : World} {v : Value} {l : List Int} (h : SlI w v l) (hb : Below w.heap.size w w') : SlI w' v l := by
  obtain ⟨a, c, rfl, h2, h3⟩ := h
  exact ⟨a, c, rfl, h2.below' hb, h3⟩
theorem SlI.upd {S : Nat → Prop} {w w' : World} {v : Value} {l : List Int} (h : SlI w v l) (hu : Upd S w w') (hn : ∀ k, v.ownBlock = some k → ¬ S k) : SlI w' v l := by
  obtain ⟨a, c, rfl, h2, h3⟩ := h
  exact ⟨a, c, rfl, hu.rd h2 (fun b off e => hn _ (by rw [e]; rfl)), h3⟩
theorem SlI.of_own {w : World} {base : Nat} {e : TypeId} {v : Value} {l : List Int} (h : w.ownsRow base e 1 v l.length (l.map (.int .i64))) : SlI w v l := by
  obtain ⟨a, cap, rfl, h1, h2, hr, h3⟩ := ownsRow.rd h
  exact ⟨a, cap, rfl, hr, h1, by unfold maxLen at h2; omega, h3⟩
/-- an incoming slice of numbers -/
theorem sli_of_row {w : World} {a : Option Addr} {len cap : Nat} {zs : List Int}
    (h : (a = none ∧ len = 0 ∧ cap = 0 ∧ zs = []) ∨
      ∃ x, a = some x ∧ len ≤ cap ∧ cap ≤ maxLen ∧ zs.length = cap ∧ (∀ i, i < zs.length → w.cell? (x.add i) = some (.int .i64 (zs.getD i 0))) ∧ ∀ n ∈ zs, (Lit.int .i64 n).wf = true) :
    ∃ l : List Int, len = l.length ∧ SlI w (.slice a len cap) l ∧ ∀ n ∈ l, (Lit.int .i64 n).wf = true := by
  obtain ⟨ys, rfl, h1, h2, h3, h4, h5, h6⟩ := Rd.of_row h
  exact ⟨ys, rfl, ⟨a, cap, rfl, h2, h4, h5, h6⟩, h3⟩

def idxF : List Int → Int → Nat → Int
  | [], _, _ => -1
  | y :: l, x, k => if x = y then (k : Int) else idxF l x (k + 1)
theorem idxF_mem : ∀ (l : List Int) (x : Int) (k : Nat), (0 ≤ idxF l x k) ↔ x ∈ l
  | [], x, k => by simp [idxF]
  | y :: l, x, k => by
    rw [idxF]
    by_cases h : x = y
    · rw [if_pos h]; simp [h]
    · rw [if_neg h, idxF_mem l x (k + 1)]; simp [h]
theorem sl_Index (l : List Int) (v : Value) (x : Int) (w : World) (hs : SlI w v l) (r : Int) (hr : Hid (idxF l x 0 = r)) :
    Calls Try.prog 104 #[v, .int .i64 x] w fun e w' => e = .returned (.int .i64 r) ∧ w = w' := by
  obtain ⟨a, c, rfl, hrd, h3, h4, h5⟩ := hs
  have h64 : l.length ≤ 9223372036854775807 := by omega
  clear h3 h4 h5
  go_enter Try.func104, Try.ntmps104
  go_wp2
  go_loop [8] (fun v8 => ∃ (k : Nat), v8 = .int .i64 k ∧ k ≤ l.length ∧ Hid (idxF (l.drop k) x k = r)) (fun v8 => l.length - (intOf v8).toNat)
  case atStart => exact ⟨0, rfl, by omega, hr⟩
  case round =>
    obtain ⟨k, rfl, hk, hsum⟩ := hrel
    by_cases hlt : k < l.length
    · obtain ⟨b, off, y, rfl, hc, -, hd, -, -⟩ := hrd.int k hlt
      have h1 := hsum.out
      rw [hd, idxF] at h1
      by_cases hx : x = y
      · rw [if_pos hx] at h1
        subst hx
        subst h1
        clear hd
        go_wp2
        go_ret
        exact ⟨rfl, rfl⟩
      · rw [if_neg hx] at h1
        have H1 := hid h1
        have hxb : (x == y) = false := by simpa using hx
        clear hd h1
        go_wp2
        go_round
        case rel => exact ⟨k + 1, by go_num, by omega, H1⟩
        case measure => simp [intOf]; omega
    · have h1 := hsum.out
      rw [List.drop_of_length_le (by omega), idxF] at h1
      subst h1
      go_wp2
      go_ret
      exact ⟨rfl, rfl⟩
theorem sl_Contains (l : List Int) (v : Value) (x : Int) (w : World) (hs : SlI w v l) (b : Bool) (hb : Hid (decide (x ∈ l) = b)) :
    Calls Try.prog 67 #[v, .int .i64 x] w fun e w' => e = .returned (.bool b) ∧ w = w' := by
  obtain ⟨r, hr⟩ : ∃ r, idxF l x 0 = r := ⟨_, rfl⟩
  have hm := idxF_mem l x 0
  rw [hr] at hm
  have HR := hid hr
  have hb2 : decide (0 ≤ r) = b := by rw [← hb.out]; simp only [hm]
  have HB := hid hb2
  have HS := hid hs
  clear hr hm hs hb2
  go_enter Try.func67, Try.ntmps67
  go_wp2_with (go_at_call 104; (with_reducible refine (sl_Index l v x _ HS.out r HR).mono ?_); rintro e w' ⟨rfl, rfl⟩)
  go_ret
  exact ⟨by rw [← HB.out]; simp, rfl⟩
end Go.Proofs.Ytohknblokejldaa
end
section
/- Contracts: slices of numbers: Clone, BinarySearch of none, Insert at the end. -/
namespace Go.Proofs.Ytohknblokejldaa
open Go.RowKit
open Go.Lib (hid)
set_option linter.unusedVariables false

theorem iv_oneCell (l : List Int) : ∀ u ∈ iv l, u.oneCell' = true := by
  intro u hu
  obtain ⟨_, _, rfl⟩ := List.mem_map.1 hu
  rfl
theorem T_ints18 : SlT Try.prog 22 3 (.int .i64 0) 1 8 := SlT.mk' Try.underlying22 (by kernel_rfl) rfl (by decide) (by decide)
set_option maxRecDepth 100000 in
theorem sl_CloneI (l : List Int) (u : Value) (w : World) (hl : SlI w u l) (hb : l.length ≤ 1000000) : Calls Try.prog 82 #[u] w fun e w' =>
    ∃ v, e = .returned v ∧ w'.ownsRow w.heap.size 3 1 v l.length (iv l) ∧ Below w.heap.size w w' := by
  obtain ⟨a, c, rfl, h1, h2, -⟩ := hl
  have hn := fun (w : World) (a : Option Addr) (n c : Nat) => Lib.run_eql_slice_nil (P := Try.prog) w 22 3 a n c 0 0 Try.underlying22
  cases a with
  | none =>
    have := Rd.nil_of_none h1
    obtain rfl : l = [] := by cases l <;> simp_all
    clear this
    go_enter Try.func82, Try.ntmps82
    go_wp2
    go_ret
    exact ⟨_, rfl, World.ownsRow_nil _ _ _ _, Below.refl _ _⟩
  | some ad =>
    have hr2 : Rd (w.alloc (.cells #[] 3)) (some ad) (iv l) := h1.below' ((Below.refl _ _).alloc (Nat.le_refl _) _)
    have hown : (w.alloc (.cells #[] 3)).ownsRow w.heap.size 3 1 (.slice (some ⟨w.heap.size, 0, none⟩) 0 0) 0 [] := World.ownsRow_made w #[] 0 (Nat.le_refl _) (by omega) (by simp)
    go_enter Try.func82, Try.ntmps82
    go_wp2_with (at_builtin; refine wpList_appendN T_ints18 _ rfl _ _ rfl w.heap.size _ _ _ rfl hown _ _ _ (iv l) rfl ?c1 (fun _ h => nomatch h) hr2 (iv_oneCell l) ?c2 ?c3 ?_)
    case c1 => simp [iv]
    case c2 => omega
    case c3 => simp
    intro v' w' hown' hg hnil
    have hb' : Below w.heap.size w w' := ((Below.refl _ _).alloc (Nat.le_refl _) _).grown hg (by simp) (fun k hk => by simp [Value.ownBlock] at hk; omega)
    clear hg hnil hown
    go_wp2
    go_ret
    exact ⟨_, rfl, hown', hb'⟩
end Go.Proofs.Ytohknblokejldaa
end
section
/- Contracts of the package slots: Right. -/
namespace Go.Proofs.Ytohknblokejldaa
open Go.RowKit
open Go.Lib (hid)
set_option linter.unusedVariables false

def badN (n : Int) : Bool := decide (n < 0) || decide (4096 ≤ n)
theorem slots_wrong (n : Int) (w : World) (b : Bool) (hb : Hid (badN n = b)) : Calls Try.prog 49 #[.int .i64 n] w fun e w' => e = .returned (.bool b) ∧ w = w' := by
  have h := hb.out
  unfold badN at h
  by_cases h1 : n < 0
  · simp only [h1, decide_true, Bool.true_or] at h
    subst h
    go_enter Try.func49, Try.ntmps49
    go_wp2
    go_ret
    exact ⟨rfl, rfl⟩
  · by_cases h2 : 4096 ≤ n
    · simp only [h1, h2, decide_true, decide_false, Bool.or_true] at h
      subst h
      go_enter Try.func49, Try.ntmps49
      go_wp2
      go_ret
      exact ⟨rfl, rfl⟩
    · simp only [h1, h2, decide_false, Bool.or_self] at h
      subst h
      have h3 : decide (4096 ≤ n) = false := decide_eq_false h2
      go_enter Try.func49, Try.ntmps49
      go_wp2
      go_ret
      exact ⟨rfl, rfl⟩
def idxBad : List Int → Nat → Int
  | [], _ => -1
  | y :: l, k => if badN y = true then (k : Int) else idxBad l (k + 1)
theorem idxBad_iff : ∀ (l : List Int) (k : Nat), (0 ≤ idxBad l k) ↔ l.any badN = true
  | [], k => by simp [idxBad]
  | y :: l, k => by
    rw [idxBad]
    by_cases h : badN y = true
    · rw [if_pos h]; simp [h]
    · rw [if_neg h, idxBad_iff l (k + 1)]; simp [h]
theorem slots_IndexFunc (l : List Int) (v : Value) (w : World) (hs : SlI w v l) (r : Int) (hr : Hid (idxBad l 0 = r)) :
    Calls Try.prog 95 #[v, .func (.func 49) #[] #[]] w fun e w' => e = .returned (.int .i64 r) ∧ w = w' := by
  obtain ⟨a, c, rfl, hrd, h3, h4, h5⟩ := hs
  have h64 : l.length ≤ 9223372036854775807 := by omega
  clear h3 h4 h5
  go_enter Try.func95, Try.ntmps95
  go_wp2
  go_loop [8] (fun v8 => ∃ (k : Nat), v8 = .int .i64 k ∧ k ≤ l.length ∧ Hid (idxBad (l.drop k) k = r)) (fun v8 => l.length - (intOf v8).toNat)
  case atStart => exact ⟨0, rfl, by omega, hr⟩
  case round =>
    obtain ⟨k, rfl, hk, hsum⟩ := hrel
    by_cases hlt : k < l.length
    · obtain ⟨b, off, y, rfl, hc, -, hd, -, -⟩ := hrd.int k hlt
      have h1 := hsum.out
      rw [hd, idxBad] at h1
      obtain ⟨bb, hbb⟩ : ∃ bb, badN y = bb := ⟨_, rfl⟩
      rw [hbb] at h1
      have HB := hid hbb
      have H1 := hid h1
      clear hd hbb h1
      go_wp2_with fail
      refine (slots_wrong y _ bb HB).mono ?_
      rintro e w' ⟨rfl, rfl⟩
      cases bb with
      | true =>
        have h2 := H1.out
        rw [if_pos rfl] at h2
        subst h2
        go_wp2_with fail
        go_ret
        exact ⟨rfl, rfl⟩
      | false =>
        have h2 := H1.out
        rw [if_neg (by simp)] at h2
        have H2 := hid h2
        clear h2
        go_wp2_with fail
        go_round
        case rel => exact ⟨k + 1, by go_num, by omega, H2⟩
        case measure => simp [intOf]; omega
    · have h1 := hsum.out
      rw [List.drop_of_length_le (by omega), idxBad] at h1
      subst h1
      go_wp2_with fail
      go_ret
      exact ⟨rfl, rfl⟩
theorem slots_ContainsFunc (l : List Int) (v : Value) (w : World) (hs : SlI w v l) (b : Bool) (hb : Hid (l.any badN = b)) :
    Calls Try.prog 50 #[v, .func (.func 49) #[] #[]] w fun e w' => e = .returned (.bool b) ∧ w = w' := by
  obtain ⟨r, hr⟩ : ∃ r, idxBad l 0 = r := ⟨_, rfl⟩
  have hm := idxBad_iff l 0
  rw [hr] at hm
  have HR := hid hr
  have hb2 : decide (0 ≤ r) = b := by
    rw [← hb.out]
    cases h : l.any badN with
    | true => exact decide_eq_true (hm.2 h)
    | false => exact decide_eq_false (fun q => by have := hm.1 q; rw [h] at this; cases this)
  have HB := hid hb2
  have HS := hid hs
  clear hr hm hs hb2
  go_enter Try.func50, Try.ntmps50
  go_wp2_with (go_at_call 95; (with_reducible refine (slots_IndexFunc l v _ HS.out r HR).mono ?_); rintro e w' ⟨rfl, rfl⟩)
  go_ret
  exact ⟨by rw [← HB.out]; rfl, rfl⟩
def rightR (e : Int) (l : List Int) : Bool := decide (1 ≤ e) && decide (e ≤ 1099511627776) && decide (l.length ≤ 64) && !l.any badN
set_option maxRecDepth 100000 in
theorem slots_Right (e : Int) (l : List Int) (v : Value) (w : World) (hs : SlI w v l) (b : Bool) (hb : Hid (rightR e l = b)) :
    Calls Try.prog 16 #[.agg #[.int .i64 e, v]] w fun e w' => e = .returned (.bool b) ∧ Below w.heap.size w w' := by
  have HK : Hid (∀ x, Below w.heap.size w (w.alloc x)) := hid fun x => Below.new w x
  have HS : Hid (∀ x, SlI (w.alloc x) v l) := hid fun x => hs.below (Below.new w x)
  obtain ⟨a, c, rfl, -, g1, g2, -⟩ := hs
  have h64 : l.length ≤ 9223372036854775807 := by omega
  have h := hb.out
  unfold rightR at h
  clear g1 g2
  by_cases h1 : 1 ≤ e
  · by_cases h2 : e ≤ 1099511627776
    · by_cases h3 : l.length ≤ 64
      · simp only [h1, h2, h3, decide_true, Bool.true_and, Bool.and_self] at h
        obtain ⟨q, hq⟩ : ∃ q, l.any badN = q := ⟨_, rfl⟩
        rw [hq] at h
        have HQ := hid hq
        have H := hid h
        clear hq h
        go_enter Try.func16, Try.ntmps16
        go_wp2_with fail
        refine (slots_ContainsFunc l _ _ (HS.out _) q HQ).mono ?_
        rintro e w' ⟨rfl, rfl⟩
        go_wp2_with fail
        go_ret
        exact ⟨by rw [← H.out]; rfl, HK.out _⟩
      · have d3 : decide (l.length ≤ 64) = false := decide_eq_false h3
        simp only [h1, h2, d3, decide_true, Bool.true_and, Bool.and_false, Bool.false_and] at h
        subst h
        go_enter Try.func16, Try.ntmps16
        go_wp2_with fail
        go_ret
        exact ⟨rfl, HK.out _⟩
    · have d2 : decide (e ≤ 1099511627776) = false := decide_eq_false h2
      simp only [h1, d2, decide_true, Bool.true_and, Bool.and_false, Bool.false_and] at h
      subst h
      go_enter Try.func16, Try.ntmps16
      go_wp2_with fail
      go_ret
      exact ⟨rfl, HK.out _⟩
  · have d1 : decide (1 ≤ e) = false := decide_eq_false h1
    simp only [d1, Bool.false_and] at h
    subst h
    go_enter Try.func16, Try.ntmps16
    go_wp2_with fail
    go_ret
    exact ⟨rfl, HK.out _⟩
end Go.Proofs.Ytohknblokejldaa
end
