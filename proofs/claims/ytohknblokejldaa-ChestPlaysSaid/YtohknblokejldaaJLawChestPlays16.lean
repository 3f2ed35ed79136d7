/- Joined texts, in this order: ChestSum. Each one's first remark says what it proves; no condition beyond those that its theorems name. -/
import Derived.Test.YtohknblokejldaaJLawChestPlays12
import Derived.Test.YtohknblokejldaaJLawChestPlays13
import Derived.Test.YtohknblokejldaaJLawChestPlays15
section
/- Plain: what all chests have together; and the contract of chest.Total. -/
namespace Go.Proofs.Ytohknblokejldaa
open Go.RowKit
open Go.Lib (hid)
set_option linter.unusedVariables false

/-- how many all have -/
def sumL (m : List (Int × List Int)) : Nat := (m.map fun p => p.2.length).sum
theorem chOf_cons (k : Int) (l : List Int) (m : List (Int × List Int)) (h : Int) : chOf ((k, l) :: m) h = if h = k then l else chOf m h := by
  unfold chOf
  rw [List.lookup_cons]
  by_cases e : h = k
  · subst e; simp
  · have : (h == k) = false := by simpa using e
    rw [this, if_neg e]
theorem liOf_drop (X : List (Int × Int)) (k h : Int) : liOf (X.filter fun p => !decide (p.1 = k)) h = if h = k then [] else liOf X h := by
  unfold liOf
  rw [List.filter_filter]
  by_cases e : h = k
  · subst e
    rw [if_pos rfl]
    simp
  · rw [if_neg e]
    congr 1
    apply List.filter_congr
    intro p _
    by_cases hp : p.1 = h
    · simp [hp, e]
    · simp [hp]
theorem filter_two {α : Type} (f : α → Bool) : ∀ (l : List α), l.length = (l.filter f).length + (l.filter fun x => !f x).length
  | [] => rfl
  | a :: l => by
    have := filter_two f l
    cases h : f a <;> simp [h] <;> omega
theorem rel_sum : ∀ (m : List (Int × List Int)) (X : List (Int × Int)), (m.map (·.1)).Nodup → ChRel m X → sumL m = X.length
  | [], X, _, hr => by
    have : X = [] := by
      cases X with
      | nil => rfl
      | cons p X =>
        have := hr p.1
        simp [chOf, liOf] at this
    subst this
    rfl
  | (k, l) :: m, X, hn, hr => by
    simp only [List.map_cons, List.nodup_cons] at hn
    have hk : chOf m k = [] := by
      unfold chOf
      rw [lookup_none (fun (p : Int × List Int) hp (e : p.1 = k) => hn.1 (by rw [← e]; exact List.mem_map_of_mem (f := fun x : Int × List Int => x.1) hp))]
      rfl
    have h1 := rel_sum m (X.filter fun p => !decide (p.1 = k)) hn.2 (fun h => by
      rw [liOf_drop, ← hr h, chOf_cons]
      by_cases e : h = k
      · subst e; rw [if_pos rfl, hk]
      · rw [if_neg e, if_neg e])
    have h2 : l.length = (X.filter fun p => decide (p.1 = k)).length := by
      have := hr k
      rw [chOf_cons, if_pos rfl] at this
      rw [this]; unfold liOf; rw [List.length_map]
    have h3 := filter_two (fun p : Int × Int => decide (p.1 = k)) X
    unfold sumL at h1 ⊢
    simp only [List.map_cons, List.sum_cons]
    omega
theorem sum_adel {α : Type} (f : Int → Nat) : ∀ (m : List (Int × α)) (k : Int) (v : α), (m.map (·.1)).Nodup → (k, v) ∈ m → (m.map fun p => f p.1).sum = f k + ((adel m k).map fun p => f p.1).sum
  | [], _, _, _, h => by simp at h
  | (a, b) :: m, k, v, hn, h => by
    simp only [List.map_cons, List.nodup_cons] at hn
    unfold adel
    by_cases hk : a = k
    · subst hk
      rw [List.filter_cons_of_neg (by simp)]
      have : m.filter (fun p => p.1 != a) = m := by
        rw [List.filter_eq_self]
        intro p hp
        have : p.1 ≠ a := fun e => hn.1 (e ▸ List.mem_map_of_mem hp)
        simpa using this
      rw [this]; simp
    · have hm : (k, v) ∈ m := by
        rcases List.mem_cons.1 h with h | h
        · simp at h; exact absurd h.1.symm hk
        · exact h
      have := sum_adel f m k v hn.2 hm
      unfold adel at this
      rw [List.filter_cons_of_pos (by simpa using hk)]
      simp only [List.map_cons, List.sum_cons]
      omega
theorem sum_keys (m : List (Int × List Int)) (hn : (m.map (·.1)).Nodup) : (m.map fun p => (chOf m p.1).length).sum = sumL m := by
  unfold sumL
  congr 1
  apply List.map_congr_left
  intro p hp
  have : chOf m p.1 = p.2 := by unfold chOf; rw [(lookup_mem_iff hn).2 (by exact hp)]; rfl
  rw [this]
theorem sum_le (m : List (Int × List Int)) (hi : ChInv m) : m.length ≤ sumL m := by
  unfold sumL
  induction m with
  | nil => simp
  | cons p m ih =>
    have h1 := ih (fun q hq => hi q (by simp [hq]))
    have h2 : 1 ≤ p.2.length := by
      have := (hi p (by simp)).2.2
      cases h : p.2 with
      | nil => exact absurd h this
      | cons a l => simp
    simp only [List.map_cons, List.sum_cons, List.length_cons]
    omega
theorem ChParts.keys {w : World} {g : Nat} {F : Nat → Prop} {m : List (Int × List Int)} {b : Nat} {M : List (Int × Value × List Int)} (h : ChParts w g F m b M) : (M.map fun p => (p.1, p.2.1)).map (·.1) = m.map (·.1) := by
  rw [← h.eq, List.map_map, List.map_map]; rfl
theorem ChIs.nodup {w : World} {g : Nat} {F : Nat → Prop} {m : List (Int × List Int)} (h : ChestIs w g F m) : (m.map (·.1)).Nodup := by
  obtain ⟨b, M, h⟩ := h
  rw [← h.keys]; exact h.map.nodup
set_option maxRecDepth 100000 in
set_option maxHeartbeats 1000000 in
theorem chest_Total (g : Nat) (F : Nat → Prop) (m : List (Int × List Int)) (w : World) (h : ChestIs w g F m) (hs : sumL m ≤ 1000000) :
    Calls Try.prog 79 #[.pointer (some ⟨g, 0, none⟩)] w fun e w' => e = .returned (.int .i64 (sumL m : Int)) ∧ Below w.heap.size w w' := by
  have hnd := ChIs.nodup h
  obtain ⟨b, M, hp⟩ := h
  have hc := hp.blk.cell 0
  have hc0 : w.cell? ⟨g, 0, none⟩ = some (.map (some b)) := by rw [hc]; rfl
  have hmap := hp.map
  obtain ⟨vs, hvs⟩ : ∃ vs, vs = (M.map fun p => (p.1, p.2.1)) := ⟨_, rfl⟩
  rw [← hvs] at hmap
  have hform : ∀ k v, vs.lookup k = some v → ∃ a c, v = .slice a (chOf m k).length c := by
    intro k v hk
    obtain ⟨v', h1, -, ⟨a, c, h3⟩, -⟩ := hp.look k
    rw [← hvs, hk] at h1
    simp at h1
    exact ⟨a, c, h1.trans h3⟩
  have hkeys : vs.map (·.1) = m.map (·.1) := by rw [hvs]; exact hp.keys
  obtain ⟨f, hf⟩ : ∃ f : Int → Nat, f = fun k => (chOf m k).length := ⟨_, rfl⟩
  have hsum : (vs.map fun p => f p.1).sum = sumL m := by
    rw [← sum_keys m hnd, hf]
    have h1 : (vs.map fun p => (chOf m p.1).length) = (vs.map (·.1)).map (fun k => (chOf m k).length) := by rw [List.map_map]; rfl
    have h2 : (m.map fun p => (chOf m p.1).length) = (m.map (·.1)).map (fun k => (chOf m k).length) := by rw [List.map_map]; rfl
    rw [h1, h2, hkeys]
  obtain ⟨total, ht⟩ : ∃ total, sumL m = total := ⟨_, rfl⟩
  have hform2 : ∀ k v, vs.lookup k = some v → ∃ a c, v = .slice a (f k) c := by intro k v hk; rw [hf]; exact hform k v hk
  rw [ht] at hsum hs
  have HMAP := hid hmap
  have HFORM := hid hform2
  have HSUM := hid hsum
  have HT := hid ht
  rw [ht]
  clear hnd hp hc hmap hvs hform hkeys hf hsum hform2 ht
  go_enter Try.func79, Try.ntmps79
  go_wp2_with (at_range; refine wpList_rangeE _ rfl _ rfl Try.underlying123 rfl HMAP.out ?_; intro w2 hr2 hb2 hs2)
  go_frame
  have HR2 := hid hr2
  have HB2 := hid hb2
  clear hr2 hb2 hs2 hc0
  go_loopw [3, 5] (fun v3 v5 wr => ∃ (left : List (Int × Value)) (n : Nat), v3 = .int .i64 (n : Int) ∧ n ≤ 1000000 ∧ Hid (RangeE wr w.heap.size b vs left) ∧ Hid (n + (left.map fun p => f p.1).sum = total) ∧ Hid (Below w.heap.size w wr)) (fun _ _ wr => rangeN wr w.heap.size b)
  case atStart => exact ⟨vs, 0, rfl, by omega, HR2, hid (by rw [HSUM.out]; omega), HB2⟩
  case round =>
    clear HR2 HB2
    obtain ⟨left, n, rfl, hn, HR, HS, HB⟩ := hrel
    have hlen := HR.out.len
    have HLEN := hid hlen
    clear hlen
    by_cases hl0 : left = []
    · subst hl0
      have hnt : n = total := by have := HS.out; simpa using this
      subst hnt
      go_wp2_with (at_next; refine wpList_nextE _ rfl _ rfl rfl HR.out (fun _ => ?_) (fun k v w' hin => absurd hin (by simp)))
      go_ret
      exact ⟨rfl, HB.out⟩
    · go_wp2_with (at_next; refine wpList_nextE _ rfl _ rfl rfl HR.out (fun h0 => absurd h0 hl0) (fun k v w' hin hlk hr' hu' hs' hen => ?_); (obtain ⟨va, vc, rfl⟩ := HFORM.out k v hlk); (have HIN := hid hin); (have HR3 := hid hr'); (have HU3 := hid hu'); (have HSTEP := hid (sum_adel f left k _ HR.out.sub.2 hin)); (have hbd : n + f k ≤ 1000000 := by have := HSTEP.out; have := HS.out; omega); (have hfl : f k ≤ 1000000 := by omega); clear hin hlk hr' hu' hs')
      go_roundw
      case rel => exact ⟨adel left k, n + f k, by go_num, hbd, HR3, hid (by have := HSTEP.out; have := HS.out; omega), hid (HB.out.trans (HU3.out.below HB.out.size (fun j _ q => by omega)))⟩
      case measure => rw [HR3.out.len, HLEN.out]; exact adel_len HIN.out
end Go.Proofs.Ytohknblokejldaa
end
