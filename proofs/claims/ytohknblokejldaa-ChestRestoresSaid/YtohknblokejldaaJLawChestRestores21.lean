/- Joined texts, in this order: ChestResMath. Each one's first remark says what it proves; no condition beyond those that its theorems name. -/
import Derived.Test.YtohknblokejldaaJLawChestRestores20
section
/- Plain: chests from their rows. -/
namespace Go.Proofs.Ytohknblokejldaa
open Go.RowKit
open Go.Lib (hid)
set_option linter.unusedVariables false

def addNeeds (h : Int) : List Int → List (Int × List Int) → Option (List (Int × List Int))
  | [], m => some m
  | n :: t, m => if (chBuild m h n).2.1 = 0 then addNeeds h t (chBuild m h n).2.2 else none
def restoreF : List (Int × List Int) → Int → List (Int × List Int) → Option (List (Int × List Int))
  | [], _, m => some m
  | p :: t, last, m => if p.1 ≤ last ∨ p.2.length = 0 then none else match addNeeds p.1 p.2 m with
    | none => none
    | some m' => restoreF t p.1 m'
def needB (n : Int) : Bool := decide (2 ≤ n) && decide (n ≤ 4)
def rowB (last : Int) (p : Int × List Int) : Bool := decide (last < p.1) && decide (1 ≤ p.2.length) && decide (p.2.length ≤ 4) && p.2.all needB
def wantF (last : Int) : List (Int × List Int) → Bool
  | [] => true
  | p :: t => rowB last p && wantF p.1 t
def flat (L : List (Int × List Int)) : List (Int × Int) := L.flatMap fun p => p.2.map fun n => (p.1, n)
theorem keys_lookup {m : List (Int × List Int)} {h : Int} (hk : ∀ p ∈ m, p.1 ≠ h) (c : List Int) : (m ++ [(h, c)]).lookup h = some c := by
  rw [List.lookup_append, lookup_none hk]
  simp [List.lookup]
theorem chOf_new {m : List (Int × List Int)} {h : Int} (hk : ∀ p ∈ m, p.1 ≠ h) (c : List Int) : chOf (m ++ [(h, c)]) h = c := by unfold chOf; rw [keys_lookup hk]; rfl
theorem aput_new {m : List (Int × List Int)} {h : Int} (hk : ∀ p ∈ m, p.1 ≠ h) (c c' : List Int) : aput (m ++ [(h, c)]) h c' = m ++ [(h, c')] := by
  unfold aput
  rw [keys_lookup hk, Option.isSome_some, if_pos rfl, List.map_append]
  congr 1
  · conv => rhs; rw [← List.map_id m]
    apply List.map_congr_left
    intro p hp
    rw [if_neg (hk p hp)]; rfl
  · simp
theorem chBuild_need {m : List (Int × List Int)} {h n : Int} (h1 : 1 ≤ h) (hn : ¬ (2 ≤ n ∧ n ≤ 4)) : chBuild m h n = (0, 11, m) := by unfold chBuild; rw [if_neg (by omega), if_pos hn]
theorem chBuild_full {m : List (Int × List Int)} {h n : Int} (h1 : 1 ≤ h) (hn : 2 ≤ n ∧ n ≤ 4) (h4 : 4 ≤ (chOf m h).length) : chBuild m h n = (0, 12, m) := by unfold chBuild; rw [if_neg (by omega), if_neg (fun q => q hn), if_pos h4]
theorem chBuild_ok {m : List (Int × List Int)} {h n : Int} (h1 : 1 ≤ h) (hn : 2 ≤ n ∧ n ≤ 4) (h4 : ¬ 4 ≤ (chOf m h).length) : chBuild m h n = (((chOf m h).length : Int) + 1, 0, aput m h (chOf m h ++ [n])) := by unfold chBuild; rw [if_neg (by omega), if_neg (fun q => q hn), if_neg h4]
theorem addNeeds_new : ∀ (t : List Int) {m : List (Int × List Int)} {h : Int} (c : List Int), (∀ p ∈ m, p.1 ≠ h) → 1 ≤ h → c.length ≤ 4 → addNeeds h t (m ++ [(h, c)]) = if t.all needB = true ∧ c.length + t.length ≤ 4 then some (m ++ [(h, c ++ t)]) else none
  | [], m, h, c, hk, h1, hc => by rw [addNeeds, if_pos ⟨rfl, by simpa using hc⟩, List.append_nil]
  | n :: t, m, h, c, hk, h1, hc => by
    rw [addNeeds]
    by_cases hn : 2 ≤ n ∧ n ≤ 4
    · by_cases h4 : 4 ≤ c.length
      · rw [chBuild_full h1 hn (by rw [chOf_new hk]; exact h4)]
        simp only
        rw [if_neg (by decide), if_neg]
        simp only [List.length_cons]
        omega
      · rw [chBuild_ok h1 hn (by rw [chOf_new hk]; exact h4)]
        simp only
        rw [if_pos trivial, chOf_new hk, aput_new hk, addNeeds_new t (c ++ [n]) hk h1 (by simp; omega)]
        have hb : needB n = true := by unfold needB; simp; exact hn
        simp only [List.all_cons, hb, Bool.true_and, List.length_append, List.length_cons, List.length_nil, List.append_assoc, List.cons_append, List.nil_append]
        by_cases hq : t.all needB = true ∧ c.length + (0 + 1) + t.length ≤ 4
        · rw [if_pos hq, if_pos ⟨hq.1, by omega⟩]
        · rw [if_neg hq, if_neg (fun z => hq ⟨z.1, by omega⟩)]
    · rw [chBuild_need h1 hn]
      simp only
      rw [if_neg (by decide), if_neg]
      have hb : needB n = false := by unfold needB; simp; omega
      simp [hb]
theorem restore_want : ∀ (L : List (Int × List Int)) (last : Int) (m : List (Int × List Int)), 0 ≤ last → (∀ p ∈ m, p.1 ≤ last) → restoreF L last m = if wantF last L = true then some (m ++ L) else none
  | [], last, m, _, _ => by rw [restoreF, wantF, if_pos rfl, List.append_nil]
  | (h, l) :: t, last, m, h0, hm => by
    rw [restoreF, wantF]
    simp only
    by_cases hb : h ≤ last ∨ l.length = 0
    · rw [if_pos hb, if_neg]
      unfold rowB
      simp only [Bool.and_eq_true, decide_eq_true_eq]
      omega
    · rw [if_neg hb]
      cases l with
      | nil => simp at hb
      | cons n t' =>
        have hk : ∀ p ∈ m, p.1 ≠ h := fun p hp e => by have := hm p hp; omega
        have hof : chOf m h = [] := by unfold chOf; rw [lookup_none hk]; rfl
        have hap : aput m h [n] = m ++ [(h, [n])] := by unfold aput; rw [lookup_none hk]; rfl
        have hadd : addNeeds h (n :: t') m = if (n :: t').all needB = true ∧ (n :: t').length ≤ 4 then some (m ++ [(h, n :: t')]) else none := by
          rw [addNeeds]
          by_cases hn : 2 ≤ n ∧ n ≤ 4
          · rw [chBuild_ok (by omega) hn (by rw [hof]; simp), hof]
            simp only [List.nil_append]
            rw [if_pos trivial, hap, addNeeds_new t' [n] hk (by omega) (by simp)]
            have hb : needB n = true := by unfold needB; simp; exact hn
            simp only [List.all_cons, hb, Bool.true_and, List.length_cons, List.length_nil, List.cons_append, List.nil_append]
            by_cases hq : t'.all needB = true ∧ 0 + 1 + t'.length ≤ 4
            · rw [if_pos hq, if_pos ⟨hq.1, by omega⟩]
            · rw [if_neg hq, if_neg (fun z => hq ⟨z.1, by omega⟩)]
          · rw [chBuild_need (by omega) hn]
            simp only
            rw [if_neg (by decide), if_neg]
            have hb : needB n = false := by unfold needB; simp; omega
            simp [hb]
        rw [hadd]
        by_cases hq : (n :: t').all needB = true ∧ (n :: t').length ≤ 4
        · rw [if_pos hq]
          simp only
          rw [restore_want t h (m ++ [(h, n :: t')]) (by omega) (by
            intro p hp
            rcases List.mem_append.1 hp with hp | hp
            · have := hm p hp; omega
            · simp at hp; rw [hp]; exact Int.le_refl _)]
          have hr : rowB last (h, n :: t') = true := by
            unfold rowB
            simp only [hq.1, Bool.and_true, Bool.and_eq_true, decide_eq_true_eq]
            exact ⟨⟨by omega, by simp⟩, hq.2⟩
          rw [hr, Bool.true_and, List.append_assoc]
          rfl
        · rw [if_neg hq]
          simp only
          rw [if_neg]
          unfold rowB
          simp only [Bool.and_eq_true, decide_eq_true_eq]
          intro z
          exact hq ⟨z.1.2, z.1.1.2⟩
theorem want_sorted : ∀ (L : List (Int × List Int)) (last : Int), wantF last L = true → L.Pairwise (fun p q => p.1 < q.1) ∧ ∀ p ∈ L, last < p.1 ∧ 1 ≤ p.2.length ∧ p.2.length ≤ 4
  | [], _, _ => ⟨List.Pairwise.nil, by simp⟩
  | p :: t, last, h => by
    rw [wantF, Bool.and_eq_true] at h
    obtain ⟨h1, h2⟩ := want_sorted t p.1 h.2
    have hr := h.1
    unfold rowB at hr
    simp only [Bool.and_eq_true, decide_eq_true_eq] at hr
    refine ⟨List.pairwise_cons.2 ⟨fun q hq => (h2 q hq).1, h1⟩, fun q hq => ?_⟩
    rcases List.mem_cons.1 hq with rfl | hq
    · exact ⟨hr.1.1.1, hr.1.1.2, hr.1.2⟩
    · have := h2 q hq
      exact ⟨by omega, this.2⟩
theorem want_nodup {L : List (Int × List Int)} {last : Int} (h : wantF last L = true) : (L.map (·.1)).Nodup := by
  have h1 := (want_sorted L last h).1
  unfold List.Nodup
  rw [List.pairwise_map]
  exact h1.imp (fun hab => by omega)
theorem want_rows {L : List (Int × List Int)} (h : wantF 0 L = true) : rowsOf L = L := by
  have h1 := (want_sorted L 0 h).1
  have hn := want_nodup h
  have hk : keysL L = L.map (·.1) := by
    unfold keysL
    apply List.mergeSort_of_pairwise
    rw [List.pairwise_map]
    exact h1.imp (fun hab => by simp; omega)
  unfold rowsOf
  rw [hk, List.map_map]
  conv => rhs; rw [← List.map_id L]
  apply List.map_congr_left
  intro p hp
  show (p.1, chOf L p.1) = p
  have : chOf L p.1 = p.2 := by unfold chOf; rw [(lookup_mem_iff hn).2 (by exact hp)]; rfl
  rw [this]
theorem liOf_flat_ne : ∀ (L : List (Int × List Int)) (h : Int), (∀ p ∈ L, p.1 ≠ h) → liOf (flat L) h = []
  | [], h, _ => rfl
  | p :: t, h, hk => by
    have e : flat (p :: t) = (p.2.map fun n => (p.1, n)) ++ flat t := rfl
    rw [e, liOf_append, liOf_flat_ne t h (fun q hq => hk q (by simp [hq]))]
    have : ¬ p.1 = h := hk p (by simp)
    unfold liOf
    rw [List.filter_eq_nil_iff.2]
    · rfl
    · intro q hq
      obtain ⟨n, -, rfl⟩ := List.mem_map.1 hq
      simpa using this
theorem flat_rel : ∀ (L : List (Int × List Int)), (L.map (·.1)).Nodup → ChRel L (flat L)
  | [], _ => ChRel.nil
  | (k, l) :: t, hn => by
    intro h
    simp only [List.map_cons, List.nodup_cons] at hn
    have e : flat ((k, l) :: t) = (l.map fun n => (k, n)) ++ flat t := rfl
    rw [e, liOf_append, chOf_cons]
    by_cases hk : h = k
    · subst hk
      have h2 : liOf (flat t) h = [] := liOf_flat_ne t h (fun p hp e => hn.1 (by rw [← e]; exact List.mem_map_of_mem (f := fun x : Int × List Int => x.1) hp))
      rw [if_pos rfl, h2, List.append_nil]
      unfold liOf
      rw [List.filter_eq_self.2 (by intro q hq; obtain ⟨n, -, rfl⟩ := List.mem_map.1 hq; simp), List.map_map]
      exact (List.map_id l).symm
    · rw [if_neg hk, flat_rel t hn.2 h]
      have : liOf (l.map fun n => (k, n)) h = [] := by
        unfold liOf
        rw [List.filter_eq_nil_iff.2]
        · rfl
        · intro q hq
          obtain ⟨n, -, rfl⟩ := List.mem_map.1 hq
          simpa using fun e : k = h => hk e.symm
      rw [this, List.nil_append]
theorem want_inv {L : List (Int × List Int)} (h : wantF 0 L = true) (hw : ∀ p ∈ L, p.1 ≤ 9223372036854775807) : ChInv L := fun p hp => by
  have := (want_sorted L 0 h).2 p hp
  exact ⟨by omega, hw p hp, fun e => by rw [e] at this; simp at this⟩
theorem flat_len : ∀ (L : List (Int × List Int)) (B : Nat), (∀ p ∈ L, p.2.length ≤ B) → (flat L).length ≤ L.length * B
  | [], B, _ => by simp [flat]
  | p :: t, B, h => by
    have e : flat (p :: t) = (p.2.map fun n => (p.1, n)) ++ flat t := rfl
    have h1 := flat_len t B (fun q hq => h q (by simp [hq]))
    have h2 := h p (by simp)
    rw [e, List.length_append, List.length_map, List.length_cons, Nat.add_mul]
    omega
end Go.Proofs.Ytohknblokejldaa
end
