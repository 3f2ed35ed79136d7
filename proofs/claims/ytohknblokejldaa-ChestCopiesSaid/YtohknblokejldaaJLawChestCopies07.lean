/- Joined texts, in this order: Chest2. Each one's first remark says what it proves; no condition beyond those that its theorems name. -/
import Derived.Test.YtohknblokejldaaJLawChestCopies05
import Derived.Test.YtohknblokejldaaJLawChestCopies06
section
/- Contracts of the package chest: Build, Alter, Clear. -/
namespace Go.Proofs.Ytohknblokejldaa
open Go.RowKit
open Go.Lib (hid)
set_option linter.unusedVariables false

/-- what building answers, and leaves -/
def chBuild (m : List (Int × List Int)) (house n : Int) : Int × Int × List (Int × List Int) :=
  if house < 1 then (0, 10, m) else if ¬ (2 ≤ n ∧ n ≤ 4) then (0, 11, m) else if 4 ≤ (chOf m house).length then (0, 12, m) else ((chOf m house).length + 1, 0, aput m house (chOf m house ++ [n]))

theorem chOf_aput (m : List (Int × List Int)) (k : Int) (l : List Int) (j : Int) : chOf (aput m k l) j = if j = k then l else chOf m j := by
  unfold chOf; rw [lookup_aput]; split <;> rfl
theorem chOf_adel (m : List (Int × List Int)) (k : Int) (j : Int) : chOf (adel m k) j = if j = k then [] else chOf m j := by
  unfold chOf; rw [lookup_adel]; split <;> rfl

set_option maxRecDepth 100000 in
set_option maxHeartbeats 800000 in
theorem chest_Build (house n : Int) (g : Nat) (F : Nat → Prop) (m : List (Int × List Int)) (w : World) (h : ChestIs w g F m) (r e0 : Int) (m' : List (Int × List Int)) (hr : Hid (chBuild m house n = (r, e0, m'))) :
    Calls Try.prog 69 #[.pointer (some ⟨g, 0, none⟩), .int .i64 house, .int .i64 n] w fun e w' => e = .returned (.tuple #[.int .i64 r, .int .i64 e0]) ∧ ChestIs w' g (fun k => F k ∨ w.heap.size ≤ k) m' ∧ Upd F w w' := by
  have hr2 := hr.out
  unfold chBuild at hr2
  have HC := hid h
  have HCW := hid (h.weaken (F' := fun k => F k ∨ w.heap.size ≤ k) (fun k => .inl))
  by_cases h1 : house < 1
  · rw [if_pos h1] at hr2
    obtain ⟨rfl, rfl, rfl⟩ := by simpa using hr2
    clear h hr
    go_enter Try.func69, Try.ntmps69
    go_wp2
    go_ret2
    exact ⟨rfl, HCW.out, Upd.refl _ _⟩
  rw [if_neg h1] at hr2
  by_cases h2 : 2 ≤ n ∧ n ≤ 4
  case neg =>
    rw [if_pos h2] at hr2
    obtain ⟨rfl, rfl, rfl⟩ := by simpa using hr2
    have hb : (decide (2 ≤ n) && decide (n ≤ 4)) = false := by simpa using h2
    obtain ⟨bb, hbb⟩ : ∃ bb, bb = (decide (2 ≤ n) && decide (n ≤ 4)) := ⟨_, rfl⟩
    rw [hb] at hbb
    subst hbb
    have HB := hid hb
    clear h hr hb h2
    go_enter Try.func69, Try.ntmps69
    go_wp2_with (go_at_call 106; (with_reducible refine (chest_need _ _).mono ?_); rintro e w' ⟨rfl, rfl⟩; rw [HB.out])
    go_ret2
    exact ⟨rfl, HCW.out, Upd.refl _ _⟩
  rw [if_neg (fun q => q h2)] at hr2
  have HB : Hid ((decide (2 ≤ n) && decide (n ≤ 4)) = true) := hid (by simpa using h2)
  obtain ⟨l, hl⟩ : ∃ l, chOf m house = l := ⟨_, rfl⟩
  rw [hl] at hr2
  have HL := hid hl
  by_cases h3 : 4 ≤ l.length
  · rw [if_pos h3] at hr2
    obtain ⟨rfl, rfl, rfl⟩ := by simpa using hr2
    have h3' : (4 : Int) ≤ (l.length : Int) := by omega
    clear h hr h3 h2 hl
    go_enter Try.func69, Try.ntmps69
    go_wp2_with (first | (go_at_call 106; (with_reducible refine (chest_need _ _).mono ?_); rintro e w' ⟨rfl, rfl⟩; rw [HB.out]) | (go_at_call 71; (with_reducible refine (chest_Len _ g F m _ HC.out l HL).mono ?_); rintro e w' ⟨rfl, rfl⟩))
    go_ret2
    exact ⟨rfl, HCW.out, Upd.refl _ _⟩
  rw [if_neg h3] at hr2
  simp only [Prod.mk.injEq] at hr2
  obtain ⟨rfl, rfl, rfl⟩ := hr2
  obtain ⟨b, M, hp⟩ := h
  obtain ⟨v, hv, hown, ⟨a, c, rfl⟩, hF, hfar, -⟩ := hp.look house
  rw [hl] at hown hv hF hfar
  have HV := hid hv
  have HP := hid hp
  have HOWN := hid hown
  have HF := hid hF
  obtain ⟨vs, hvs⟩ : ∃ vs, vs = (M.map fun p => (p.1, p.2.1)) := ⟨_, rfl⟩
  have HVS := hid hvs
  rw [← hvs] at HV
  have hcell : ∀ w', Upd (fun k => (Value.slice a l.length c).ownBlock = some k) w w' → w'.cell? ⟨g, 0, none⟩ = some (.map (some b)) := by
    intro w' hu
    rw [(hp.blk.upd hu (fun s => (hF _ s).2.1 rfl)).cell]; rfl
  have hmap : ∀ w', Upd (fun k => (Value.slice a l.length c).ownBlock = some k) w w' → MapE w' b vs := by
    intro w' hu
    rw [hvs]; exact hp.map.upd hu (fun s => (hF _ s).2.2.1 rfl)
  have HMAP := hid hmap
  have hlk : ∀ w', Upd (fun k => (Value.slice a l.length c).ownBlock = some k) w w' → (Instr.lookup 123 (.map (some b)) (.int .i64 house) false).run Try.prog w' = .ok (.slice a l.length c) w' := by
    intro w' hu
    have := (HMAP.out w' hu).run_lookup (P := Try.prog) Try.underlying123 Try.underlying3 (.slice none 0 0) (zero_ints w') house false
    rw [HV.out] at this
    exact this
  have h3' : ¬ (4 : Int) ≤ (l.length : Int) := by omega
  clear hr h3 h2 hl hp hv hown hF hfar hvs hmap
  go_enter Try.func69, Try.ntmps69
  go_wp2_with (first | (go_at_call 106; (with_reducible refine (chest_need _ _).mono ?_); rintro e w' ⟨rfl, rfl⟩; rw [HB.out]) | (go_at_call 71; (with_reducible refine (chest_Len _ g F m _ HC.out l HL).mono ?_); rintro e w' ⟨rfl, rfl⟩))
  have hu0 : Upd (fun k => (Value.slice a l.length c).ownBlock = some k) w w.drew := (Upd.refl _ _).drew
  refine wp_region_kept [14] (fun w' => Upd (fun k => (Value.slice a l.length c).ownBlock = some k) w w') (by kernel_rfl) (by first | exact hu0 | exact hu2 | exact (hH.new _)) (fun hH => ?_)
  refine wpK.take (i := 0) (v := _) (by simp only [List.getElem?_toArray, List.getElem?_cons_succ, List.getElem?_cons_zero]; rfl) (by kernel_rfl) (by kernel_rfl) (by kernel_rfl) (by kernel_rfl) (by kernel_rfl) (by exact fun _ _ _ h => h) (by first | exact Or.inl ⟨by rfl, by intro w hSw; go_simp; try with_reducible rfl⟩ | exact Or.inr ⟨by rfl, rfl⟩) hH ?_
  try simp only [Act.put, List.setIfInBounds_toArray, List.set_cons_zero, List.set_cons_succ]
  refine wpK.take (i := 1) (v := _) (by simp only [List.getElem?_toArray, List.getElem?_cons_succ, List.getElem?_cons_zero]; rfl) (by kernel_rfl) (by kernel_rfl) (by kernel_rfl) (by kernel_rfl) (by kernel_rfl) (by exact fun _ _ _ h => h) (by first | exact Or.inl ⟨by rfl, by intro w hSw; go_simp; try with_reducible rfl⟩ | exact Or.inr ⟨by rfl, rfl⟩) hH ?_
  try simp only [Act.put, List.setIfInBounds_toArray, List.set_cons_zero, List.set_cons_succ]
  refine wpK.take (i := 2) (v := _) (by simp only [List.getElem?_toArray, List.getElem?_cons_succ, List.getElem?_cons_zero]; rfl) (by kernel_rfl) (by kernel_rfl) (by kernel_rfl) (by kernel_rfl) (by kernel_rfl) (by exact fun _ _ _ h => h) (by first | exact Or.inl ⟨by rfl, by intro w hSw; go_simp; try with_reducible rfl⟩ | exact Or.inr ⟨by rfl, rfl⟩) hH ?_
  try simp only [Act.put, List.setIfInBounds_toArray, List.set_cons_zero, List.set_cons_succ]
  refine wpK.take (i := 3) (v := _) (by simp only [List.getElem?_toArray, List.getElem?_cons_succ, List.getElem?_cons_zero]; rfl) (by kernel_rfl) (by kernel_rfl) (by kernel_rfl) (by kernel_rfl) (by kernel_rfl) (by exact fun _ _ _ h => h) (by first | exact Or.inl ⟨by rfl, by intro w hSw; go_simp; try with_reducible rfl⟩ | exact Or.inr ⟨by rfl, rfl⟩) hH ?_
  try simp only [Act.put, List.setIfInBounds_toArray, List.set_cons_zero, List.set_cons_succ]
  refine wpK.take (i := 4) (v := _) (by simp only [List.getElem?_toArray, List.getElem?_cons_succ, List.getElem?_cons_zero]; rfl) (by kernel_rfl) (by kernel_rfl) (by kernel_rfl) (by kernel_rfl) (by kernel_rfl) (by exact fun _ _ _ h => h) (by first | exact Or.inl ⟨by rfl, by intro w hSw; go_simp; try with_reducible rfl⟩ | exact Or.inr ⟨by rfl, rfl⟩) hH ?_
  try simp only [Act.put, List.setIfInBounds_toArray, List.set_cons_zero, List.set_cons_succ]
  refine wpK.take (i := 5) (v := _) (by simp only [List.getElem?_toArray, List.getElem?_cons_succ, List.getElem?_cons_zero]; rfl) (by kernel_rfl) (by kernel_rfl) (by kernel_rfl) (by kernel_rfl) (by kernel_rfl) (by exact fun _ _ _ h => h) (by first | exact Or.inl ⟨by rfl, by intro w hSw; go_simp; try with_reducible rfl⟩ | exact Or.inr ⟨by rfl, rfl⟩) hH ?_
  try simp only [Act.put, List.setIfInBounds_toArray, List.set_cons_zero, List.set_cons_succ]
  refine wpK.take (i := 6) (v := _) (by simp only [List.getElem?_toArray, List.getElem?_cons_succ, List.getElem?_cons_zero]; rfl) (by kernel_rfl) (by kernel_rfl) (by kernel_rfl) (by kernel_rfl) (by kernel_rfl) (by exact fun _ _ _ h => h) (by first | exact Or.inl ⟨by rfl, by intro w hSw; go_simp; try with_reducible rfl⟩ | exact Or.inr ⟨by rfl, rfl⟩) hH ?_
  try simp only [Act.put, List.setIfInBounds_toArray, List.set_cons_zero, List.set_cons_succ]
  refine wpK.take (i := 7) (v := _) (by simp only [List.getElem?_toArray, List.getElem?_cons_succ, List.getElem?_cons_zero]; rfl) (by kernel_rfl) (by kernel_rfl) (by kernel_rfl) (by kernel_rfl) (by kernel_rfl) (by exact fun _ _ _ h => h) (by first | exact Or.inl ⟨by rfl, by intro w hSw; go_simp; try with_reducible rfl⟩ | exact Or.inr ⟨by rfl, rfl⟩) hH ?_
  try simp only [Act.put, List.setIfInBounds_toArray, List.set_cons_zero, List.set_cons_succ]
  refine wpK.take (i := 8) (v := _) (by simp only [List.getElem?_toArray, List.getElem?_cons_succ, List.getElem?_cons_zero]; rfl) (by kernel_rfl) (by kernel_rfl) (by kernel_rfl) (by kernel_rfl) (by kernel_rfl) (by exact fun _ _ _ h => h) (by first | exact Or.inl ⟨by rfl, by intro w hSw; go_simp; try with_reducible rfl⟩ | exact Or.inr ⟨by rfl, rfl⟩) hH ?_
  try simp only [Act.put, List.setIfInBounds_toArray, List.set_cons_zero, List.set_cons_succ]
  refine wpK.take (i := 9) (v := _) (by simp only [List.getElem?_toArray, List.getElem?_cons_succ, List.getElem?_cons_zero]; rfl) (by kernel_rfl) (by kernel_rfl) (by kernel_rfl) (by kernel_rfl) (by kernel_rfl) (by exact fun _ _ _ h => h) (by first | exact Or.inl ⟨by rfl, by intro w hSw; go_simp; try with_reducible rfl⟩ | exact Or.inr ⟨by rfl, rfl⟩) hH ?_
  try simp only [Act.put, List.setIfInBounds_toArray, List.set_cons_zero, List.set_cons_succ]
  refine wpK.take (i := 10) (v := _) (by simp only [List.getElem?_toArray, List.getElem?_cons_succ, List.getElem?_cons_zero]; rfl) (by kernel_rfl) (by kernel_rfl) (by kernel_rfl) (by kernel_rfl) (by kernel_rfl) (by exact fun _ _ _ h => h) (by first | exact Or.inl ⟨by rfl, by intro w hSw; go_simp; try with_reducible rfl⟩ | exact Or.inr ⟨by rfl, rfl⟩) hH ?_
  try simp only [Act.put, List.setIfInBounds_toArray, List.set_cons_zero, List.set_cons_succ]
  refine wpK.take (i := 11) (v := _) (by simp only [List.getElem?_toArray, List.getElem?_cons_succ, List.getElem?_cons_zero]; rfl) (by kernel_rfl) (by kernel_rfl) (by kernel_rfl) (by kernel_rfl) (by kernel_rfl) (by exact fun _ _ _ h => h) (by first | exact Or.inl ⟨by rfl, by intro w hSw; go_simp; try with_reducible rfl⟩ | exact Or.inr ⟨by rfl, rfl⟩) hH ?_
  try simp only [Act.put, List.setIfInBounds_toArray, List.set_cons_zero, List.set_cons_succ]
  refine wpK.step (i := 12) (by kernel_rfl) (by simp only [List.getElem?_toArray, List.getElem?_cons_succ, List.getElem?_cons_zero]; rfl) (fun K hK => ?_)
  go_simp
  refine hK.out _ _ (by first | exact hu0 | exact hu2 | exact (hH.new _)) (fun hH => ?_)
  clear hK K
  try simp only [Act.put, List.setIfInBounds_toArray, List.set_cons_zero, List.set_cons_succ]
  refine wpK.step (i := 13) (by kernel_rfl) (by simp only [List.getElem?_toArray, List.getElem?_cons_succ, List.getElem?_cons_zero]; rfl) (fun K hK => ?_)
  refine step_app1 T_ints w.drew rfl rfl _ _ rfl 0 (.slice a l.length c) _ _ rfl HOWN.out rfl rfl (by intro u hu; simp at hu; subst hu; rfl) (by omega) (Nat.zero_le _) ?_; intro v2 w2 hown2 hg2 hnn2 hwh2; have hu2 := hu0.trans (Upd.of_grown hg2) (fun _ _ x => x)
  refine hK.out _ _ (by first | exact hu0 | exact hu2 | exact (hH.new _)) (fun hH => ?_)
  clear hK K
  try simp only [Act.put, List.setIfInBounds_toArray, List.set_cons_zero, List.set_cons_succ]
  refine wpK.late (i := 14) (by kernel_rfl) (by simp only [List.getElem?_toArray, List.getElem?_cons_succ, List.getElem?_cons_zero]; rfl) (by kernel_rfl) (fun K hK => ?_)
  refine step_putE _ rfl _ _ _ rfl Try.underlying123 Try.underlying3 rfl (HMAP.out _ hu2) house rfl v2 rfl ?_; intro w3 hmap3 hu3 hs3
  refine hK.out _ _ ?_
  clear hK K
  try simp only [Act.put, List.setIfInBounds_toArray, List.set_cons_zero, List.set_cons_succ]
  refine wpK.done (by kernel_rfl) ?_ _
  have hu4 : Upd (fun k => k = b ∨ (Value.slice a l.length c).ownBlock = some k) w w3 := (hu2.mono (fun k _ s => Or.inr s)).trans hu3 (fun k _ s => Or.inl s)
  have hown3 : w3.ownsRow 0 3 1 v2 (l ++ [n]).length ((l ++ [n]).map (.int .i64)) := by
    have := hu3.owns hown2 (fun k hk s => by
      subst s
      rcases hwh2 _ hk with s | s
      · exact (HF.out _ s).2.2.1 rfl
      · have := HP.out.map.lt; have e : w.drew.heap.size = w.heap.size := rfl; omega)
    simpa using this
  have hci := HP.out.put house (v := .slice a l.length c) (v' := v2) (l' := l ++ [n]) (by rw [← HVS.out]; exact HV.out) hu4 (by rw [← HVS.out]; exact hmap3) hown3 hwh2
  have HCI := hid hci
  have HCO : Hid (chOf (aput m house (l ++ [n])) house = l ++ [n]) := hid (by rw [chOf_aput, if_pos rfl])
  have HU : Hid (Upd F w w3) := hid (hu4.mono (fun k hk s => by rcases s with s | s; exact s ▸ HP.out.fb; exact (HF.out k s).1))
  clear hu0 hown2 hg2 hnn2 hwh2 hu2 hH hmap3 hu3 hs3 hu4 hown3 hci hcell hlk
  go_wp2_with (go_at_call 71; (with_reducible refine (chest_Len _ g _ _ _ HCI.out _ HCO).mono ?_); rintro e w' ⟨rfl, rfl⟩)
  go_ret2
  exact ⟨by simp, HCI.out, HU.out⟩

/-- what altering answers, and leaves -/
def chAlter (m : List (Int × List Int)) (house n level : Int) : Int × List (Int × List Int) :=
  if (chNeed m house n).isSome = false then (14, m) else if ¬ (2 ≤ level ∧ level ≤ 4) then (11, m) else (0, aput m house ((chOf m house).set (n - 1).toNat level))
theorem aput_same {α : Type} {m : List (Int × α)} {k : Int} {v : α} (hn : (m.map (·.1)).Nodup) (h : m.lookup k = some v) : aput m k v = m := by
  unfold aput
  rw [h, Option.isSome_some, if_pos rfl]
  conv => rhs; rw [← List.map_id m]
  apply List.map_congr_left
  intro p hp
  by_cases hk : p.1 = k
  · rw [if_pos hk]
    have : (p.1, p.2) ∈ m := hp
    rw [hk, ← lookup_mem_iff hn, h] at this
    obtain ⟨a, b⟩ := p
    simp at hk this ⊢
    exact ⟨hk.symm, this⟩
  · rw [if_neg hk]; rfl

set_option maxRecDepth 100000 in
set_option maxHeartbeats 800000 in
theorem chest_Alter (house n level : Int) (g : Nat) (F : Nat → Prop) (m : List (Int × List Int)) (w : World) (h : ChestIs w g F m) (hn : n ≤ 9223372036854775807) (e0 : Int) (m' : List (Int × List Int)) (hr : Hid (chAlter m house n level = (e0, m'))) :
    Calls Try.prog 74 #[.pointer (some ⟨g, 0, none⟩), .int .i64 house, .int .i64 n, .int .i64 level] w fun e w' => e = .returned (.int .i64 e0) ∧ ChestIs w' g (fun k => F k ∨ w.heap.size ≤ k) m' ∧ Upd F w w' := by
  have hr2 := hr.out
  unfold chAlter at hr2
  have HC := hid h
  have HCW := hid (h.weaken (F' := fun k => F k ∨ w.heap.size ≤ k) (fun k => .inl))
  obtain ⟨q, hq⟩ : ∃ q, chNeed m house n = q := ⟨_, rfl⟩
  rw [hq] at hr2
  have HQ := hid hq
  cases q with
  | none =>
    obtain ⟨rfl, rfl⟩ := by simpa using hr2
    clear h hr hq
    go_enter Try.func74, Try.ntmps74
    go_wp2_with (go_at_call 78; (with_reducible refine (chest_Need _ _ g F m _ HC.out (by assumption) none HQ).mono ?_); rintro e w' ⟨rfl, rfl⟩)
    go_ret
    exact ⟨rfl, HCW.out, Upd.refl _ _⟩
  | some x =>
    rw [if_neg (by simp)] at hr2
    by_cases h2 : 2 ≤ level ∧ level ≤ 4
    case neg =>
      rw [if_pos h2] at hr2
      obtain ⟨rfl, rfl⟩ := by simpa using hr2
      have HB : Hid ((decide (2 ≤ level) && decide (level ≤ 4)) = false) := hid (by simpa using h2)
      clear h hr hq h2
      go_enter Try.func74, Try.ntmps74
      go_wp2_with (first | (go_at_call 78; (with_reducible refine (chest_Need _ _ g F m _ HC.out (by assumption) (some x) HQ).mono ?_); rintro e w' ⟨rfl, rfl⟩) | (go_at_call 106; (with_reducible refine (chest_need _ _).mono ?_); rintro e w' ⟨rfl, rfl⟩; rw [HB.out]))
      go_ret
      exact ⟨rfl, HCW.out, Upd.refl _ _⟩
    rw [if_neg (fun k => k h2)] at hr2
    simp only [Prod.mk.injEq] at hr2
    obtain ⟨rfl, rfl⟩ := hr2
    have HB : Hid ((decide (2 ≤ level) && decide (level ≤ 4)) = true) := hid (by simpa using h2)
    obtain ⟨l, hl⟩ : ∃ l, chOf m house = l := ⟨_, rfl⟩
    have h1 : ¬ n < 1 := by
      intro hlt
      unfold chNeed at hq; rw [if_pos hlt] at hq; simp at hq
    have hk0 : l[(n - 1).toNat]? = some x := by unfold chNeed at hq; rw [if_neg h1, hl] at hq; exact hq
    obtain ⟨k, hk⟩ : ∃ k : Nat, n - 1 = (k : Int) := Int.eq_ofNat_of_zero_le (by omega)
    have e1 : (n - 1).toNat = k := by omega
    rw [e1] at hk0
    have hkl : k < l.length := (List.getElem?_eq_some_iff.1 hk0).1
    obtain ⟨b, M, hp⟩ := h
    obtain ⟨v, hv, hown, -, hF, hfar, hsome⟩ := hp.look house
    rw [hl] at hown
    obtain ⟨gr, c, rfl⟩ := Joins.ownsRow_form hown (by omega)
    have HLK := hid (hsome (fun hno => by unfold chOf at hl; rw [hno] at hl; simp at hl; subst hl; simp at hkl))
    have HV := hid hv
    have HP := hid hp
    have hmap := hp.map
    obtain ⟨vs, hvs⟩ : ∃ vs, vs = (M.map fun p => (p.1, p.2.1)) := ⟨_, rfl⟩
    have HVS := hid hvs
    rw [← hvs] at HV HLK hmap
    have hcell : w.cell? ⟨g, 0, none⟩ = some (.map (some b)) := by rw [hp.blk.cell]; rfl
    have hf0 : w.frozen? ⟨gr, k, none⟩ = false := hown.frozenAt k
    have hstore := hown.stored k (.int .i64 level)
    have hgr := hF gr rfl
    have hu1 : Upd (fun k => k = b ∨ (Value.slice (some ⟨gr, 0, none⟩) l.length c).ownBlock = some k) w (w.setCell ⟨gr, k, none⟩ (.int .i64 level)) := (Upd.setCell w gr k _).mono (fun j _ s => .inr (by subst s; rfl))
    have hci := HP.out.put house (v := .slice (some ⟨gr, 0, none⟩) l.length c) (v' := .slice (some ⟨gr, 0, none⟩) l.length c) (l' := l.set k level) hv hu1 (by rw [aput_same hp.map.nodup (by rw [← hvs]; exact HLK.out)]; exact hp.map.upd (Upd.setCell w gr k _) (fun s => hgr.2.2.1 s.symm)) (by have := hstore.1; simpa [List.map_set] using this) (fun j hj => .inl hj)
    have HCI := hid hci
    have HE1 := hid e1
    have HL := hid hl
    have hc0 : w.cell? ⟨gr, k, none⟩ = some (.int .i64 x) := by rw [hown.cellAt k (by omega), List.getElem?_map, hk0]; rfl
    have HU : Hid (Upd F w (w.setCell ⟨gr, k, none⟩ (.int .i64 level))) := hid (hu1.mono (fun j hj s => by
      rcases s with s | s
      · exact s ▸ HP.out.fb
      · simp only [Value.ownBlock, Option.some.injEq] at s; exact s ▸ hgr.1))
    have e2 : 0 ≤ n - 1 := by omega
    have e3 : n - 1 < (l.length : Int) := by omega
    have HGR := hid hgr
    clear hr h2 hl h1 hk0 hk hkl hp hv hown hF hfar hsome hvs hstore hgr hu1 hci hq
    go_enter Try.func74, Try.ntmps74
    go_wp2_with (first | (go_at_call 78; (with_reducible refine (chest_Need _ _ g F m _ HC.out (by assumption) (some x) HQ).mono ?_); rintro e w' ⟨rfl, rfl⟩) | (go_at_call 106; (with_reducible refine (chest_need _ _).mono ?_); rintro e w' ⟨rfl, rfl⟩; rw [HB.out]) | (at_lookup; refine wpList_look1 _ rfl _ _ rfl Try.underlying123 Try.underlying3 (.slice none 0 0) zero_ints rfl hmap house rfl _ HV ?_))
    go_ret
    exact ⟨rfl, by rw [HL.out, HE1.out]; exact HCI.out, HU.out⟩

theorem chest_Clear (house : Int) (g : Nat) (F : Nat → Prop) (m : List (Int × List Int)) (w : World) (h : ChestIs w g F m) (l : List Int) (hl : Hid (chOf m house = l)) :
    Calls Try.prog 77 #[.pointer (some ⟨g, 0, none⟩), .int .i64 house] w fun e w' => e = .returned (.int .i64 (l.length : Int)) ∧ ChestIs w' g F (adel m house) ∧ Upd F w w' := by
  have HC := hid h
  obtain ⟨b, M, hp⟩ := h
  have HP := hid hp
  have hcell : w.cell? ⟨g, 0, none⟩ = some (.map (some b)) := by rw [hp.blk.cell]; rfl
  have hmap := hp.map
  have HMAP := hid hmap
  clear hp hmap
  go_enter Try.func77, Try.ntmps77
  go_wp2_with (first | (go_at_call 71; (with_reducible refine (chest_Len _ g F m _ HC.out l hl).mono ?_); rintro e w' ⟨rfl, rfl⟩) | (at_delete; refine wpList_delE _ rfl _ _ rfl Try.underlying123 Try.underlying3 rfl HMAP.out house rfl ?_; intro w2 hm2 hu2 hs2))
  go_ret
  exact ⟨rfl, HP.out.del house hu2 hm2, hu2.mono (fun k _ s => by subst s; exact HP.out.fb)⟩
end Go.Proofs.Ytohknblokejldaa
end
