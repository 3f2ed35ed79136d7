/- Joined texts, in this order: ChestRows. Each one's first remark says what it proves; no condition beyond those that its theorems name. -/
import Derived.Test.YtohknblokejldaaJLawChestCopies16
import Derived.Test.YtohknblokejldaaJLawChestCopies19
section
/- Contract of chest.Rows. -/
namespace Go.Proofs.Ytohknblokejldaa
open Go.RowKit
open Go.Lib (hid)
set_option linter.unusedVariables false

theorem T_row22 : SlT Try.prog 66 68 (.agg #[.int .i64 0, .slice none 0 0]) 2 32 := SlT.mk' Try.underlying66 (by kernel_rfl) rfl (by decide) (by decide)
/-- the cells of a list of rows -/
def rowC (L : List (Int × Value × List Int)) : List Value := L.flatMap fun p => [Value.int .i64 p.1, p.2.1]
theorem rowC_length (L : List (Int × Value × List Int)) : (rowC L).length = L.length * 2 := by
  unfold rowC
  induction L with
  | nil => rfl
  | cons p X ih => rw [List.flatMap_cons, List.length_append, ih]; simp; omega
theorem rowC_append (X Y : List (Int × Value × List Int)) : rowC (X ++ Y) = rowC X ++ rowC Y := by unfold rowC; rw [List.flatMap_append]
theorem rowC_at : ∀ (X : List (Int × Value × List Int)) (i : Nat) (p : Int × Value × List Int), X[i]? = some p → (rowC X)[i * 2]? = some (.int .i64 p.1) ∧ (rowC X)[i * 2 + 1]? = some p.2.1
  | [], i, p, h => by simp at h
  | q :: X, 0, p, h => by simp at h; subst h; exact ⟨rfl, rfl⟩
  | q :: X, i + 1, p, h => by
    simp at h
    have := rowC_at X i p h
    have e : rowC (q :: X) = .int .i64 q.1 :: q.2.1 :: rowC X := rfl
    rw [e, show (i + 1) * 2 = i * 2 + 1 + 1 by omega]
    simpa using this
/-- rows that are told: a slice of the call's own, with slices of the call's own -/
structure RowsAre (w : World) (B : Nat) (v : Value) (L : List (Int × Value × List Int)) : Prop where
  own : w.ownsRow B 68 2 v L.length (rowC L)
  one : ∀ p ∈ L, w.ownsRow B 3 1 p.2.1 p.2.2.length (iv p.2.2) ∧ ∀ k, p.2.1.ownBlock = some k → v.ownBlock ≠ some k
  far : L.Pairwise (fun p q => ∀ k, p.2.1.ownBlock = some k → q.2.1.ownBlock ≠ some k)
theorem RowsAre.nil (w : World) (B : Nat) : RowsAre w B (.slice none 0 0) [] := ⟨World.ownsRow_nil _ _ _ _, by simp, List.Pairwise.nil⟩
theorem RowsAre.below {w w' : World} {B : Nat} {v : Value} {L : List (Int × Value × List Int)} (h : RowsAre w B v L) (hb : Below w.heap.size w w') : RowsAre w' B v L :=
  ⟨owns_below h.own hb, fun p hp => ⟨owns_below (h.one p hp).1 hb, (h.one p hp).2⟩, h.far⟩
theorem RowsAre.upd {S : Nat → Prop} {w w' : World} {B : Nat} {v : Value} {L : List (Int × Value × List Int)} (h : RowsAre w B v L) (hu : Upd S w w') (hS : ∀ k, B ≤ k → ¬ S k) : RowsAre w' B v L :=
  ⟨hu.owns h.own (fun k hk => hS k (h.own.lt k hk).1), fun p hp => ⟨hu.owns (h.one p hp).1 (fun k hk => hS k ((h.one p hp).1.lt k hk).1), (h.one p hp).2⟩, h.far⟩
/-- one row more -/
theorem RowsAre.snoc {w w2 w9 : World} {B : Nat} {v v9 u : Value} {L : List (Int × Value × List Int)} {h : Int} {l : List Int} (H : RowsAre w B v L) (hb : Below w.heap.size w w2) (hu : w2.ownsRow w.heap.size 3 1 u l.length (iv l)) (hB : B ≤ w.heap.size)
    (ho : w9.ownsRow B 68 2 v9 (L.length + 1) (rowC L ++ [.int .i64 h, u])) (hg : w2.grownBy w9 v.ownBlock) (hw : ∀ k, v9.ownBlock = some k → v.ownBlock = some k ∨ w2.heap.size ≤ k) : RowsAre w9 B v9 (L ++ [(h, u, l)]) := by
  have hg' := Upd.of_grown hg
  have hv : ∀ k, v.ownBlock = some k → k < w.heap.size := fun k hk => ownBlock_lt H.own hk
  have hul : ∀ k, u.ownBlock = some k → w.heap.size ≤ k ∧ k < w2.heap.size := fun k hk => hu.lt k hk
  refine ⟨?_, fun p hp => ?_, ?_⟩
  · rw [List.length_append, rowC_append]; exact ho
  · rcases List.mem_append.1 hp with hp | hp
    · have h1 := H.one p hp
      refine ⟨hg'.owns (owns_below h1.1 hb) (fun k hk q => h1.2 k hk q), fun k hk q => ?_⟩
      rcases hw k q with q | q
      · exact h1.2 k hk q
      · have := ownBlock_lt h1.1 hk; have := hb.size; omega
    · simp at hp
      subst hp
      refine ⟨hg'.owns (ownsRow_base hu hB) (fun k hk q => by have := (hul k hk).1; have := hv k q; omega), fun k hk q => ?_⟩
      have h1 := hul k hk
      rcases hw k q with q | q
      · have := hv k q; omega
      · omega
  · rw [List.pairwise_append]
    refine ⟨H.far, List.pairwise_singleton _ _, ?_⟩
    intro p hp q hq k hk h'
    simp at hq
    subst hq
    have h1 := ownBlock_lt (H.one p hp).1 hk
    have := (hul k h').1
    omega
theorem keysL_perm {α : Type} (m : List (Int × α)) : (keysL m).Perm (m.map (·.1)) := List.mergeSort_perm _ _
theorem keysL_len {α : Type} (m : List (Int × α)) : (keysL m).length = m.length := by rw [(keysL_perm m).length_eq, List.length_map]
theorem keysL_sorted {α : Type} (m : List (Int × α)) (hn : (m.map (·.1)).Nodup) : (keysL m).Pairwise (· < ·) := by
  have h1 : (keysL m).Pairwise (fun a b => decide (a ≤ b) = true) := List.pairwise_mergeSort (fun a b c h1 h2 => by simp at *; omega) (fun a b => by simp; omega) _
  have h2 : (keysL m).Nodup := (keysL_perm m).nodup_iff.2 hn
  exact (h1.and h2).imp (fun ⟨a, b⟩ => by simp at a; omega)
theorem keysL_of {α β : Type} {m : List (Int × α)} {m' : List (Int × β)} (h : m.map (·.1) = m'.map (·.1)) : keysL m = keysL m' := by unfold keysL; rw [h]
/-- what the rows say -/
def rowsOf (m : List (Int × List Int)) : List (Int × List Int) := (keysL m).map fun k => (k, chOf m k)
theorem rowsOf_take {m : List (Int × List Int)} {k : Nat} {house : Int} (h : (keysL m)[k]? = some house) : (rowsOf m).take (k + 1) = (rowsOf m).take k ++ [(house, chOf m house)] := by
  unfold rowsOf
  rw [List.take_add_one, List.getElem?_map, h]
  rfl
def RowsL (w1 : World) (m : List (Int × List Int)) (v3 v13 : Value) (wr : World) : Prop :=
  ∃ (k : Nat) (L : List (Int × Value × List Int)), v13 = .int .i64 k ∧ k ≤ (keysL m).length ∧ RowsAre wr w1.heap.size v3 L ∧ (L.map fun p => (p.1, p.2.2)) = (rowsOf m).take k ∧ Below w1.heap.size w1 wr
set_option maxRecDepth 100000 in
set_option maxHeartbeats 2000000 in
theorem chest_Rows (g : Nat) (F : Nat → Prop) (m : List (Int × List Int)) (w : World) (h : ChestIs w g F m) (hi : ChInv m) (hs : m.length ≤ 1000) (hl : ∀ k, (chOf m k).length ≤ 1000) :
    Calls Try.prog 32 #[.pointer (some ⟨g, 0, none⟩)] w fun e w' => ∃ v L, e = .returned v ∧ RowsAre w' w.heap.size v L ∧ (L.map fun p => (p.1, p.2.2)) = rowsOf m ∧ Below w.heap.size w w' := by
  have HC := hid h
  obtain ⟨b, M, hp⟩ := h
  have hc := hp.blk.cell 0
  have hc0 : w.cell? ⟨g, 0, none⟩ = some (.map (some b)) := by rw [hc]; rfl
  have hmap := hp.map
  obtain ⟨vs, hvs⟩ : ∃ vs, vs = (M.map fun p => (p.1, p.2.1)) := ⟨_, rfl⟩
  have hkeys : vs.map (·.1) = m.map (·.1) := by rw [hvs]; exact hp.keys
  rw [← hvs] at hmap
  have hwf : ∀ p ∈ vs, (Lit.int .i64 p.1).wf = true := by
    intro p hpv
    have : p.1 ∈ m.map (·.1) := by rw [← hkeys]; exact List.mem_map_of_mem hpv
    obtain ⟨q, hq, e⟩ := List.mem_map.1 this
    have := hi q hq
    simp only [Lit.wf, Bool.and_eq_true, decide_eq_true_eq]
    rw [← e]
    exact ⟨by show (-9223372036854775808 : Int) ≤ _; omega, by show _ ≤ (9223372036854775807 : Int); omega⟩
  have hlen : vs.length ≤ 1000000 := by have := congrArg List.length hkeys; simp at this; omega
  have hks : keysL vs = keysL m := keysL_of hkeys
  have hkl : (keysL m).length ≤ 1000 := by rw [keysL_len]; exact hs
  have HKS := hid (sorted_CI b vs w hmap hwf hlen)
  have HKE := hid hks
  have HLE := hid hl
  obtain ⟨ks, hkk⟩ : ∃ ks, keysL m = ks := ⟨_, rfl⟩
  have HKK := hid hkk
  rw [hkk] at hkl
  clear hp hc hmap hvs hkeys hwf hlen hks hkk hi hl hs
  go_enter Try.func32, Try.ntmps32
  go_wp2_with fail
  refine (keys_CI (some b) w).mono ?_
  rintro e w' ⟨rfl, rfl⟩
  go_wp2_with fail
  refine HKS.out.mono ?_
  rintro e w1 ⟨vk, rfl, hown, hb1⟩
  rw [HKE.out, HKK.out] at hown
  have HOWN := hid hown
  have HB1 := hid hb1
  obtain ⟨ak, ck, rfl, -, -, hrdk, -⟩ := ownsRow.rd hown
  have HRD := hid hrdk
  have HC1 := hid (HC.out.below hb1)
  clear hown hb1 hrdk hc0
  go_wp2_with fail
  go_loopw [3, 13] (fun v3 v13 wr => RowsL w1 m v3 v13 wr) (fun _ v13 _ => ks.length - (intOf v13).toNat)
  case atStart => exact ⟨0, [], rfl, by omega, RowsAre.nil _ _, by simp, Below.refl _ _⟩
  case round =>
    obtain ⟨k, L, rfl, hk, hra, hL, hbr⟩ := hrel
    have HRA := hid hra
    have HL := hid hL
    have HBR := hid hbr
    rw [HKK.out] at hk
    clear hra hL hbr
    by_cases hlt : k < ks.length
    · have hrd2 : Rd wr ak (ks.map (.int .i64)) := HRD.out.below' HBR.out
      obtain ⟨bk, ok, house, rfl, hcell, hx, -, -, -⟩ := hrd2.int k hlt
      obtain ⟨lh, hlh⟩ : ∃ lh, chOf m house = lh := ⟨_, rfl⟩
      have hlook := (HC1.out.below HBR.out).look house
      have hcl := HLE.out house
      rw [hlh] at hlook hcl
      obtain ⟨b2, vs2, v2, hcg, hM2, hv2, ho2, ⟨a2, c2, rfl⟩⟩ := hlook
      have HV2 := hid hv2
      have HM2 := hid hM2
      have HS2 := hid (SlI.of_own ho2)
      have HROW : Hid ((rowsOf m).take (k + 1) = (rowsOf m).take k ++ [(house, lh)]) := hid (by rw [← hlh]; exact rowsOf_take (by rw [HKK.out]; exact hx))
      have e0 : (0 : Int) ≤ (k : Int) := by omega
      have e1 : (k : Int) < (ks.length : Int) := by omega
      have hLn : L.length = k := by
        have := congrArg List.length HL.out
        rw [List.length_map, List.length_take] at this
        have h3 : (rowsOf m).length = ks.length := by unfold rowsOf; rw [List.length_map, HKK.out]
        omega
      have HLN := hid hLn
      clear hv2 hM2 ho2 hx hlh hLn hrd2
      go_wp2_with (at_lookup; refine wpList_look1 _ rfl _ _ rfl Try.underlying123 Try.underlying3 (.slice none 0 0) zero_ints rfl HM2.out house rfl _ HV2 ?_)
      refine (sl_CloneI lh _ wr HS2.out (by omega)).mono ?_
      rintro e w2 ⟨v', rfl, hown2, hb2⟩
      obtain ⟨a', c', rfl, -⟩ := ownsRow.rd hown2
      have HO2 := hid hown2
      have HB2 := hid hb2
      have HW2 := hid (owns_below HRA.out.own hb2)
      clear hown2 hb2 hcg
      go_wp2_with (at_builtin; refine wpList_append1w T_row22 w2 rfl _ _ #[.int .i64 house, .slice a' lh.length c'] rfl w1.heap.size _ _ _ rfl HW2.out rfl rfl ?h1 ?h2 ?h3 ?_)
      case h1 => first | exact ⟨rfl, rfl⟩ | (intro u hu; simp at hu; rcases hu with rfl | rfl <;> rfl)
      case h2 => have := HLN.out; omega
      case h3 => have := HBR.out.size; have := HB2.out.size; omega
      intro v9 w9 hown9 hg9 hnn9 hwh9
      have HRA9 := hid (RowsAre.snoc HRA.out HB2.out HO2.out HBR.out.size hown9 hg9 hwh9)
      have HB9 : Hid (Below w1.heap.size w1 w9) := hid ((Below.next HBR.out HB2.out).trans ((Upd.of_grown hg9).below (Nat.le_trans HBR.out.size HB2.out.size) (fun j _ q => (HRA.out.own.lt j q).1)))
      clear hown9 hg9 hnn9 hwh9
      go_wp2_with fail
      go_roundw
      case rel => exact ⟨k + 1, L ++ [(house, .slice a' lh.length c', lh)], by go_num, by rw [HKK.out]; omega, HRA9.out, by rw [List.map_append, HL.out, HROW.out]; rfl, HB9.out⟩
      case measure => simp [intOf]; omega
    · have hkl2 : k = ks.length := by omega
      have HK2 := hid hkl2
      clear hkl2
      go_wp2_with fail
      go_ret
      refine ⟨_, L, rfl, ?_, ?_, Below.next HB1.out HBR.out⟩
      · exact ⟨ownsRow_base HRA.out.own HB1.out.size, fun p hp => ⟨ownsRow_base (HRA.out.one p hp).1 HB1.out.size, (HRA.out.one p hp).2⟩, HRA.out.far⟩
      · rw [HL.out, List.take_of_length_le]
        unfold rowsOf
        rw [List.length_map, HKK.out, HK2.out]
        exact Nat.le_refl _
end Go.Proofs.Ytohknblokejldaa
end
