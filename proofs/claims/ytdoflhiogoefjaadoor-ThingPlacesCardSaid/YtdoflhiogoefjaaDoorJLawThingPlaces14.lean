/- Joined texts, in this order: FolkName. Each one's first remark says what it proves; no condition beyond those that its theorems name. -/
import Derived.Test.YtdoflhiogoefjaaDoorJLawThingPlaces05
import Derived.Test.YtdoflhiogoefjaaDoorJLawThingPlaces13
import Derived.Test.YtdoflhiogoefjaaDoorJLawThingPlaces01
import Derived.Shelf.Strings.SlTrimAscii
import Derived.Shelf.Small.Strs
import Derived.Lib.IndexBytes
section
/- Contract of folk.Name. -/
namespace Go.Proofs.YtdoflhiogoefjaaDoor
open Go.RowKit
open Go.Lib (hid)
set_option linter.unusedVariables false

theorem str_Trim (q : ByteArray) (w : World) (hs : q.size ≤ 9223372036854775807) : Calls Tryd.prog 52 #[.string q, .string ⟨lettersS.toArray⟩] w fun e w' => e = .returned (.string ⟨(Lib.trimS q.data.toList lettersS).toArray⟩) ∧ Below w.heap.size w w' :=
  Any.strings_Trim_laid Tryd.lays_Lays_n160 (by kernel_rfl) q ⟨lettersS.toArray⟩ w hs (by decide) (ascii_of_all (by decide))
theorem str_Index (c : Int) (w : World) : Calls Tryd.prog 53 #[.string ⟨firstS.toArray⟩, .int .u8 c] w fun e w' => e = .returned (.int .i64 (Lib.indexByte firstS c.toNat.toUInt8)) ∧ w' = w :=
  Any.strings_IndexByte Tryd.lays_Lays_n137 ⟨firstS.toArray⟩ c w
set_option maxRecDepth 100000 in
set_option maxHeartbeats 1000000 in
theorem folk_Name (q : ByteArray) (w : World) (hq : q.size ≤ 9223372036854775807) : Calls Tryd.prog 43 #[.string q] w fun e w' => e = .returned (.bool (nameB q.data.toList)) ∧ Below w.heap.size w w' := by
  have hn := nameB_eq q.data.toList
  have hlen : q.data.toList.length = q.size := by show q.data.toList.length = q.data.size; exact Array.length_toList
  rw [hlen] at hn
  obtain ⟨nb, hnb⟩ : ∃ nb, nb = nameB q.data.toList := ⟨_, rfl⟩
  rw [← hnb] at hn ⊢
  have HN := hid hn
  have HT := hid (fun w => str_Trim q w hq)
  clear hn hnb
  by_cases h0 : q.toList.isEmpty = true
  · have : nb = false := by rw [HN.out, ← Lib.toList_data, h0]; rfl
    subst this
    go_enter Tryd.func43, Tryd.ntmps43
    go_wp2_with fail
    go_ret
    exact ⟨rfl, Below.refl _ _⟩
  have h0' : q.toList.isEmpty = false := by simpa using h0
  by_cases h1 : 16 < q.size
  · have h1' : ¬ (q.size : Int) ≤ 16 := by omega
    have : nb = false := by rw [HN.out]; simp; omega
    subst this
    go_enter Tryd.func43, Tryd.ntmps43
    go_wp2_with fail
    go_ret
    exact ⟨rfl, Below.refl _ _⟩
  have h1' : (q.size : Int) ≤ 16 := by omega
  have hpos : 0 < q.size := by
    rcases Nat.eq_zero_or_pos q.size with h | h
    · exfalso
      apply h0
      rw [Lib.toList_data]
      have : q.data.toList.length = 0 := by rw [hlen]; exact h
      rw [List.eq_nil_of_length_eq_zero this]; rfl
    · exact h
  obtain ⟨r, hr⟩ : ∃ r : ByteArray, r = ⟨(Lib.trimS q.data.toList lettersS).toArray⟩ := ⟨_, rfl⟩
  have hre : r.toList.isEmpty = (Lib.trimS q.data.toList lettersS).isEmpty := by rw [hr, Lib.toList_data]
  have HRE := hid hre
  have HR := hid hr
  clear hre hr h0 h1
  go_enter Tryd.func43, Tryd.ntmps43
  go_wp2_with fail
  refine (HT.out w).mono ?_
  rintro e w1 ⟨rfl, hb1⟩
  rw [← HR.out]
  have HB1 := hid hb1
  clear hb1
  cases h2 : r.toList.isEmpty
  · have hnb : nb = false := by rw [HN.out, ← HRE.out, h2]; simp
    subst hnb
    go_wp2_with fail
    go_ret
    exact ⟨rfl, HB1.out⟩
  · have hfin : nb = decide (0 ≤ Lib.indexByte firstS q[0]) := by
      have hg : q.data.toList.getD 0 0 = q[0] := by
        rw [List.getD_eq_getElem?_getD, Lib.data_getElem? q 0 hpos]; rfl
      rw [HN.out, ← HRE.out, h2, hg, ← Lib.toList_data, h0']
      have : decide (q.size ≤ 16) = true := by simp; omega
      rw [this]
      simp
    have HFIN := hid hfin
    clear hfin
    go_wp2_with fail
    refine (str_Index _ w1).mono ?_
    rintro e w2 ⟨rfl, rfl⟩
    go_wp2_with fail
    go_ret
    refine ⟨?_, HB1.out⟩
    rw [HFIN.out]
    rfl
end Go.Proofs.YtdoflhiogoefjaaDoor
end
