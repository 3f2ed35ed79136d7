/- Joined texts, in this order: Chest. Each one's first remark says what it proves; no condition beyond those that its theorems name. -/
import Derived.Test.YtohknblokejldaaJLawChestPlays03
import Derived.Test.YtohknblokejldaaJLawChestPlays04
import Derived.Test.YtohknblokejldaaProg
import Derived.Maps.OwnOps
import Derived.Maps.OwnSet
import Derived.StillTailTactics
section
/- Contracts of the package chest: New, Len, need, Need, May, Room. -/
namespace Go.Proofs.Ytohknblokejldaa
open Go.RowKit
open Go.Lib (hid)
set_option linter.unusedVariables false

theorem Below.new' (w : World) (o : Obj) : Below w.heap.size w (w.alloc o) := (Below.refl _ _).alloc (Nat.le_refl _) o
theorem T_ints : SlT Try.prog 22 3 (.int .i64 0) 1 8 := SlT.mk' Try.underlying22 (by kernel_rfl) rfl (by decide) (by decide)
theorem zero_ints (w : World) : (zeroValue 22).run Try.prog w = .ok (.slice none 0 0) w := by kernel_rfl

/-- the chests behind pointer g: what the map says, house by house; F: the blocks that are theirs -/
structure ChParts (w : World) (g : Nat) (F : Nat → Prop) (m : List (Int × List Int)) (b : Nat) (M : List (Int × Value × List Int)) : Prop where
  eq : M.map (fun p => (p.1, p.2.2)) = m
  blk : Blk w g #[.map (some b)]
  fg : F g
  fb : F b
  map : MapE w b (M.map fun p => (p.1, p.2.1))
  own : ∀ p ∈ M, w.ownsRow 0 3 1 p.2.1 p.2.2.length (p.2.2.map (.int .i64)) ∧ ∀ k, p.2.1.ownBlock = some k → F k ∧ k ≠ g ∧ k ≠ b
  far : ∀ p ∈ M, ∀ q ∈ M, p.1 ≠ q.1 → ∀ k, p.2.1.ownBlock = some k → q.2.1.ownBlock ≠ some k
  ne : g ≠ b
def ChestIs (w : World) (g : Nat) (F : Nat → Prop) (m : List (Int × List Int)) : Prop := ∃ b M, ChParts w g F m b M

theorem ChParts.upd {S : Nat → Prop} {w w' : World} {g : Nat} {F : Nat → Prop} {m : List (Int × List Int)} {b : Nat} {M : List (Int × Value × List Int)} (h : ChParts w g F m b M) (hu : Upd S w w') (hS : ∀ k, S k → ¬ F k) : ChParts w' g F m b M :=
  ⟨h.eq, h.blk.upd hu (fun s => hS _ s h.fg), h.fg, h.fb, h.map.upd hu (fun s => hS _ s h.fb), fun p hp => ⟨hu.owns (h.own p hp).1 (fun k hk s => hS k s ((h.own p hp).2 k hk).1), (h.own p hp).2⟩, h.far, h.ne⟩
theorem ChestIs.upd {S : Nat → Prop} {w w' : World} {g : Nat} {F : Nat → Prop} {m : List (Int × List Int)} (h : ChestIs w g F m) (hu : Upd S w w') (hS : ∀ k, S k → ¬ F k) : ChestIs w' g F m := by
  obtain ⟨b, M, h⟩ := h; exact ⟨b, M, h.upd hu hS⟩
theorem ChestIs.below {w w' : World} {g : Nat} {F : Nat → Prop} {m : List (Int × List Int)} (h : ChestIs w g F m) (hu : Below w.heap.size w w') : ChestIs w' g F m :=
  h.upd (S := fun _ => False) (Upd.of_below hu) (fun _ x => x.elim)
theorem ChestIs.weaken {w : World} {g : Nat} {F F' : Nat → Prop} {m : List (Int × List Int)} (h : ChestIs w g F m) (hF : ∀ k, F k → F' k) : ChestIs w g F' m := by
  obtain ⟨b, M, h⟩ := h
  exact ⟨b, M, h.eq, h.blk, hF _ h.fg, hF _ h.fb, h.map, fun p hp => ⟨(h.own p hp).1, fun k hk => ⟨hF _ ((h.own p hp).2 k hk).1, ((h.own p hp).2 k hk).2⟩⟩, h.far, h.ne⟩

/-- what a house's chests need -/
def chOf (m : List (Int × List Int)) (house : Int) : List Int := (m.lookup house).getD []

/-- what is sought of a house: a row of the call's own, or nil -/
theorem ChParts.look {w : World} {g : Nat} {F : Nat → Prop} {m : List (Int × List Int)} {b : Nat} {M : List (Int × Value × List Int)} (h : ChParts w g F m b M) (house : Int) :
    ∃ v, ((M.map fun p => (p.1, p.2.1)).lookup house).getD (.slice none 0 0) = v ∧ w.ownsRow 0 3 1 v (chOf m house).length ((chOf m house).map (.int .i64)) ∧ (∃ a c, v = .slice a (chOf m house).length c) ∧
      (∀ k, v.ownBlock = some k → F k ∧ k ≠ g ∧ k ≠ b ∧ k < w.heap.size) ∧ (∀ q ∈ M, q.1 ≠ house → ∀ k, v.ownBlock = some k → q.2.1.ownBlock ≠ some k) ∧ (m.lookup house ≠ none → (M.map fun p => (p.1, p.2.1)).lookup house = some v) := by
  have hl : (M.map fun p => (p.1, p.2.1)).lookup house = (M.lookup house).map (·.1) := lookup_map (fun q : Value × List Int => q.1) M house
  have hm : m.lookup house = (M.lookup house).map (·.2) := by rw [← h.eq]; exact lookup_map (fun q : Value × List Int => q.2) M house
  cases hM : M.lookup house with
  | none =>
    rw [hM] at hl hm
    have e : chOf m house = [] := by unfold chOf; rw [hm]; rfl
    rw [e]
    refine ⟨.slice none 0 0, by rw [hl]; rfl, World.ownsRow_nil _ _ _ _, ⟨none, 0, rfl⟩, fun k hk => by simp [Value.ownBlock] at hk, fun q _ _ k hk => by simp [Value.ownBlock] at hk, fun hne => absurd hm hne⟩
  | some q =>
    obtain ⟨v, l⟩ := q
    rw [hM] at hl hm
    have e : chOf m house = l := by unfold chOf; rw [hm]; rfl
    have hin := lookup_mem hM
    have ho := h.own _ hin
    rw [e]
    refine ⟨v, by rw [hl]; rfl, ho.1, ?_, fun k hk => ⟨(ho.2 k hk).1, (ho.2 k hk).2.1, (ho.2 k hk).2.2, ownBlock_lt ho.1 hk⟩, fun q hq hne k hk => h.far _ hin q hq (fun e => hne e.symm) k hk, fun _ => hl⟩
    rcases ho.1.2 with ⟨hv, hx⟩ | ⟨g', cap, cur, hv, -⟩
    · have : l = [] := by simpa using hx
      subst this
      exact ⟨_, _, hv⟩
    · exact ⟨_, _, hv⟩
theorem ChestIs.look {w : World} {g : Nat} {F : Nat → Prop} {m : List (Int × List Int)} (h : ChestIs w g F m) (house : Int) :
    ∃ (b : Nat) (vs : List (Int × Value)) (v : Value), w.cell? ⟨g, 0, none⟩ = some (.map (some b)) ∧ MapE w b vs ∧ (vs.lookup house).getD (.slice none 0 0) = v ∧ w.ownsRow 0 3 1 v (chOf m house).length ((chOf m house).map (.int .i64)) ∧
      (∃ a c, v = .slice a (chOf m house).length c) := by
  obtain ⟨b, M, h⟩ := h
  obtain ⟨v, h1, h2, h3, -⟩ := h.look house
  exact ⟨b, _, v, by rw [h.blk.cell]; rfl, h.map, h1, h2, h3⟩
/-- a house's row is laid anew -/
theorem ChParts.put {w w2 : World} {g : Nat} {F : Nat → Prop} {m : List (Int × List Int)} {b : Nat} {M : List (Int × Value × List Int)} (h : ChParts w g F m b M) (house : Int) {v v' : Value} {l' : List Int} (hv : ((M.map fun p => (p.1, p.2.1)).lookup house).getD (.slice none 0 0) = v)
    (hu : Upd (fun k => k = b ∨ v.ownBlock = some k) w w2) (hmap : MapE w2 b (aput (M.map fun p => (p.1, p.2.1)) house v')) (hown : w2.ownsRow 0 3 1 v' l'.length (l'.map (.int .i64)))
    (hwh : ∀ k, v'.ownBlock = some k → v.ownBlock = some k ∨ w.heap.size ≤ k) : ChestIs w2 g (fun k => F k ∨ w.heap.size ≤ k) (aput m house l') := by
  obtain ⟨v0, e0, -, -, hF, hfar, -⟩ := h.look house
  obtain rfl : v0 = v := e0.symm.trans hv
  refine ⟨b, aput M house (v', l'), ?_, ?_, .inl h.fg, .inl h.fb, ?_, ?_, ?_, h.ne⟩
  · rw [← h.eq]; exact aput_map (fun q : Value × List Int => q.2) M house (v', l')
  · exact h.blk.upd hu (fun s => by rcases s with s | s; exact h.ne s; exact (hF _ s).2.1 rfl)
  · rw [aput_map (fun q : Value × List Int => q.1) M house (v', l')]; exact hmap
  · intro p hp
    rcases mem_aput hp with rfl | ⟨hp, hne⟩
    · refine ⟨hown, fun k hk => ?_⟩
      rcases hwh k hk with hk | hk
      · exact ⟨.inl (hF k hk).1, (hF k hk).2.1, (hF k hk).2.2.1⟩
      · exact ⟨.inr hk, by have := h.blk.lt; omega, by have := h.map.lt; omega⟩
    · refine ⟨hu.owns (h.own p hp).1 (fun k hk s => ?_), fun k hk => ⟨.inl ((h.own p hp).2 k hk).1, ((h.own p hp).2 k hk).2⟩⟩
      rcases s with s | s
      · exact ((h.own p hp).2 k hk).2.2 s
      · exact hfar p hp hne k s hk
  · intro p hp q hq hne k hk
    rcases mem_aput hp with rfl | ⟨hp, hpn⟩
    · rcases mem_aput hq with rfl | ⟨hq, hqn⟩
      · exact absurd rfl hne
      · rcases hwh k hk with hk | hk
        · exact hfar q hq hqn k hk
        · intro h'; have := ownBlock_lt (h.own q hq).1 h'; omega
    · rcases mem_aput hq with rfl | ⟨hq, hqn⟩
      · intro h'
        rcases hwh k h' with h' | h'
        · exact hfar p hp hpn k h' hk
        · have := ownBlock_lt (h.own p hp).1 hk; omega
      · exact h.far p hp q hq hne k hk
theorem ChParts.del {w w2 : World} {g : Nat} {F : Nat → Prop} {m : List (Int × List Int)} {b : Nat} {M : List (Int × Value × List Int)} (h : ChParts w g F m b M) (house : Int)
    (hu : Upd (fun k => k = b) w w2) (hmap : MapE w2 b (adel (M.map fun p => (p.1, p.2.1)) house)) : ChestIs w2 g F (adel m house) := by
  have hs : ∀ p ∈ adel M house, p ∈ M := fun p hp => (List.mem_filter.1 hp).1
  refine ⟨b, adel M house, ?_, h.blk.upd hu (fun s => h.ne s), h.fg, h.fb, ?_, fun p hp => ⟨hu.owns (h.own p (hs p hp)).1 (fun k hk s => ((h.own p (hs p hp)).2 k hk).2.2 s), (h.own p (hs p hp)).2⟩, fun p hp q hq => h.far p (hs p hp) q (hs q hq), h.ne⟩
  · rw [← h.eq]; exact adel_map (fun q : Value × List Int => q.2) M house
  · rw [adel_map (fun q : Value × List Int => q.1) M house]; exact hmap

theorem chest_New (w : World) : Calls Try.prog 26 #[] w fun e w' => ∃ g, e = .returned (.pointer (some ⟨g, 0, none⟩)) ∧ ChestIs w' g (fun k => w.heap.size ≤ k) [] ∧ Below w.heap.size w w' := by
  have hmm := @run_makeMap Try.prog
  go_enter Try.func26, Try.ntmps26
  go_wp2
  go_ret
  refine ⟨_, rfl, ?_, ((Below.refl _ _).alloc (Nat.le_refl _) _).alloc (by simp) _⟩
  exact ⟨w.heap.size, [], rfl, by simpa using Blk.new (w.alloc (.map #[] 0)) #[.map (some w.heap.size)] 125, by simp, by simp, (MapE.new w).below (Below.new' _ _), by simp, by simp, by simp⟩

theorem chest_need (n : Int) (w : World) : Calls Try.prog 106 #[.int .i64 n] w fun e w' => e = .returned (.bool (decide (2 ≤ n) && decide (n ≤ 4))) ∧ w = w' := by
  go_enter Try.func106, Try.ntmps106
  go_wp2
  all_goals
    go_ret
    refine ⟨?_, rfl⟩
    simp_all <;> omega

theorem chest_Len (house : Int) (g : Nat) (F : Nat → Prop) (m : List (Int × List Int)) (w : World) (h : ChestIs w g F m) (l : List Int) (hl : Hid (chOf m house = l)) :
    Calls Try.prog 71 #[.pointer (some ⟨g, 0, none⟩), .int .i64 house] w fun e w' => e = .returned (.int .i64 (l.length : Int)) ∧ w = w' := by
  obtain ⟨b, vs, v, hc, hM, hv, ho, ⟨a, c, rfl⟩⟩ := h.look house
  rw [hl.out] at hv
  have HV := hid hv
  clear hv h ho
  go_enter Try.func71, Try.ntmps71
  go_wp2_with (at_lookup; refine wpList_look1 _ rfl _ _ rfl Try.underlying123 Try.underlying3 (.slice none 0 0) zero_ints rfl hM house rfl _ HV ?_)
  go_ret
  exact ⟨rfl, rfl⟩

/-- what the chest n of a house needs -/
def chNeed (m : List (Int × List Int)) (house n : Int) : Option Int := if n < 1 then none else (chOf m house)[(n - 1).toNat]?
theorem chest_Need (house n : Int) (g : Nat) (F : Nat → Prop) (m : List (Int × List Int)) (w : World) (h : ChestIs w g F m) (hn : n ≤ 9223372036854775807) (r : Option Int) (hr : Hid (chNeed m house n = r)) :
    Calls Try.prog 78 #[.pointer (some ⟨g, 0, none⟩), .int .i64 house, .int .i64 n] w fun e w' => e = .returned (.tuple #[.int .i64 (r.getD 0), .int .i64 (if r.isSome then 0 else 14)]) ∧ w = w' := by
  have HC := hid h
  by_cases h1 : n < 1
  · obtain rfl : r = none := by rw [← hr.out]; unfold chNeed; rw [if_pos h1]
    go_enter Try.func78, Try.ntmps78
    go_wp2
    go_ret2
    exact ⟨rfl, rfl⟩
  obtain ⟨b, vs, v, hc, hM, hv, ho, ⟨a, c, rfl⟩⟩ := h.look house
  have HV := hid hv
  obtain ⟨l, hl⟩ : ∃ l, chOf m house = l := ⟨_, rfl⟩
  have hr2 := hr.out
  unfold chNeed at hr2
  rw [if_neg h1, hl] at hr2
  rw [hl] at HV ho
  have HL := hid hl
  by_cases h2 : (l.length : Int) < n
  · obtain rfl : r = none := by rw [← hr2, List.getElem?_eq_none (by omega)]
    clear hr2 hv h hl
    go_enter Try.func78, Try.ntmps78
    go_wp2_with (go_at_call 71; (with_reducible refine (chest_Len _ g F m _ HC.out l HL).mono ?_); rintro e w' ⟨rfl, rfl⟩)
    go_ret2
    exact ⟨rfl, rfl⟩
  · obtain ⟨k, hk⟩ : ∃ k : Nat, n - 1 = (k : Int) := Int.eq_ofNat_of_zero_le (by omega)
    have hkl : k < l.length := by omega
    obtain ⟨x, hx⟩ : ∃ x, l[k]? = some x := ⟨_, List.getElem?_eq_getElem hkl⟩
    obtain rfl : r = some x := by rw [← hr2, hk]; exact hx
    obtain ⟨gr, c', e⟩ := Joins.ownsRow_form ho (by omega)
    simp only [Value.slice.injEq, true_and] at e
    obtain ⟨rfl, rfl⟩ := e
    have hcell : w.cell? ⟨gr, k, none⟩ = some (.int .i64 x) := by rw [ho.cellAt k (by omega), List.getElem?_map, hx]; rfl
    have e1 : (n - 1).toNat = k := by omega
    have e2 : 0 ≤ n - 1 := by omega
    have e3 : n - 1 < (l.length : Int) := by omega
    have e4 : ¬ (l.length : Int) < n := by omega
    have e5 : ¬ n < 1 := h1
    have HX := hid hx
    clear h1 h2 hkl
    clear hr2 hv h hl hk hx ho
    go_enter Try.func78, Try.ntmps78
    go_wp2_with (first | (go_at_call 71; (with_reducible refine (chest_Len _ g F m _ HC.out l HL).mono ?_); rintro e w' ⟨rfl, rfl⟩) | (at_lookup; refine wpList_look1 _ rfl _ _ rfl Try.underlying123 Try.underlying3 (.slice none 0 0) zero_ints rfl hM house rfl _ HV ?_))
    go_ret2
    exact ⟨rfl, rfl⟩

/-- may somebody take? the error's number -/
def chMay (m : List (Int × List Int)) (house n level : Int) : Int := match chNeed m house n with
  | none => 14
  | some x => if level < x then 31 else 0
theorem chest_May (house n level : Int) (g : Nat) (F : Nat → Prop) (m : List (Int × List Int)) (w : World) (h : ChestIs w g F m) (hn : n ≤ 9223372036854775807) (r : Int) (hr : Hid (chMay m house n level = r)) :
    Calls Try.prog 70 #[.pointer (some ⟨g, 0, none⟩), .int .i64 house, .int .i64 n, .int .i64 level] w fun e w' => e = .returned (.int .i64 r) ∧ w = w' := by
  have HC := hid h
  clear h
  have hr2 := hr.out
  unfold chMay at hr2
  cases hx : chNeed m house n with
  | none =>
    rw [hx] at hr2
    subst hr2
    have HX := hid hx
    clear hx hr
    go_enter Try.func70, Try.ntmps70
    go_wp2_with (go_at_call 78; (with_reducible refine (chest_Need _ _ g F m _ HC.out (by assumption) none HX).mono ?_); rintro e w' ⟨rfl, rfl⟩)
    go_ret
    exact ⟨rfl, rfl⟩
  | some x =>
    rw [hx] at hr2
    subst hr2
    have HX := hid hx
    clear hx hr
    by_cases hlt : level < x
    · simp only [hlt, if_true]
      go_enter Try.func70, Try.ntmps70
      go_wp2_with (go_at_call 78; (with_reducible refine (chest_Need _ _ g F m _ HC.out (by assumption) (some x) HX).mono ?_); rintro e w' ⟨rfl, rfl⟩)
      go_ret
      exact ⟨rfl, rfl⟩
    · simp only [hlt, if_false]
      go_enter Try.func70, Try.ntmps70
      go_wp2_with (go_at_call 78; (with_reducible refine (chest_Need _ _ g F m _ HC.out (by assumption) (some x) HX).mono ?_); rintro e w' ⟨rfl, rfl⟩)
      go_ret
      exact ⟨rfl, rfl⟩

theorem chest_Room (n : Int) (w : World) : Calls Try.prog 72 #[.int .i64 n] w fun e w' => e = .returned (.int .i64 (if 0 ≤ n ∧ n < 16 then 0 else 12)) ∧ w = w' := by
  by_cases h0 : n < 0
  · rw [if_neg (by omega)]
    go_enter Try.func72, Try.ntmps72
    go_wp2
    go_ret
    exact ⟨rfl, rfl⟩
  · by_cases h1 : 16 ≤ n
    · rw [if_neg (by omega)]
      go_enter Try.func72, Try.ntmps72
      go_wp2
      go_ret
      exact ⟨rfl, rfl⟩
    · rw [if_pos (by omega)]
      go_enter Try.func72, Try.ntmps72
      go_wp2
      go_ret
      exact ⟨rfl, rfl⟩
end Go.Proofs.Ytohknblokejldaa
end
