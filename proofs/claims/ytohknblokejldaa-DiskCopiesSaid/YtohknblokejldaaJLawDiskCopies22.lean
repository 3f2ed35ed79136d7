/- Joined texts, in this order: Ref05b. Each one's first remark says what it proves; no condition beyond those that its theorems name. -/
import Derived.Test.YtohknblokejldaaJLawDiskCopies21
section
/- Contracts of the document's disk: Read, Flush. -/
namespace Go.Proofs.Ytohknblokejldaa
open Go.RowKit
open Go.Lib (hid)
set_option linter.unusedVariables false

theorem strE (l : List UInt8) : (⟨l.toArray⟩ : ByteArray).toList.isEmpty = l.isEmpty := by rw [Lib.toList_data]
theorem emptyT {l : List UInt8} (h : l = []) : l.isEmpty = true := by rw [h]; rfl
theorem emptyF {l : List UInt8} (h : ¬ l = []) : l.isEmpty = false := by cases l with
  | nil => exact absurd rfl h
  | cons a l => rfl
set_option maxRecDepth 100000 in
set_option maxHeartbeats 1000000 in
theorem rf_Read (p : RfP) (x : Rf) (hx : x.C.length = x.D.length) (i : Int) (w : World) (h : RfIs w p x) (l : List UInt8) (e0 : Int) (hs : Hid (rfRead x i = (l, e0))) :
    Calls Try.prog 88 #[.pointer (some ⟨p.g, 0, none⟩), .int .i64 i] w fun e w' => e = .returned (.tuple #[.string ⟨l.toArray⟩, .int .i64 e0]) ∧ w = w' := by
  obtain ⟨hc0, hc1, -, -, hc4, -, -⟩ := h.cells
  have HH := hid h
  have hs2 := hs.out
  unfold rfRead at hs2
  clear h hs
  by_cases hc : rfCheck x i = 0
  · rw [if_neg (by simpa using hc)] at hs2
    obtain ⟨hd, h0, h1⟩ := rfCheck_ok hc
    rw [hd] at hc4
    have h0' : ¬ i < 0 := by omega
    have h1' : ¬ (x.D.length : Int) ≤ i := by omega
    obtain ⟨k, rfl⟩ : ∃ k : Nat, i = (k : Int) := ⟨i.toNat, by omega⟩
    simp only [Int.toNat_natCast, Prod.mk.injEq] at hs2
    obtain ⟨hs3, rfl⟩ := hs2
    unfold rfSector at hs3
    have HD := hid hd
    obtain ⟨hkc, -⟩ := HH.out.atC k (by omega)
    obtain ⟨hkd, -⟩ := HH.out.atD k (by omega)
    have hkl : (k : Int) < (x.C.length : Int) := by omega
    have hE := strE (x.C.getD k [])
    obtain ⟨q, hq⟩ : ∃ q : ByteArray, q = ⟨(x.C.getD k []).toArray⟩ := ⟨_, rfl⟩
    obtain ⟨qd, hqd⟩ : ∃ q : ByteArray, q = ⟨(x.D.getD k []).toArray⟩ := ⟨_, rfl⟩
    rw [← hq] at hkc hE
    rw [← hqd] at hkd
    have HQ := hid hq
    have HQD := hid hqd
    clear hd hc hq hqd
    by_cases hz : x.C.getD k [] = []
    · rw [if_pos hz] at hs3
      rw [emptyT hz] at hE
      have H3 := hid hs3
      clear hz hs3
      go_enter Try.func88, Try.ntmps88
      go_wp2_with fail
      go_ret2
      exact ⟨by rw [HQD.out, H3.out]; rfl, rfl⟩
    · rw [if_neg hz] at hs3
      rw [emptyF hz] at hE
      have H3 := hid hs3
      clear hz hs3
      go_enter Try.func88, Try.ntmps88
      go_wp2_with fail
      go_ret2
      exact ⟨by rw [HQ.out, H3.out]; rfl, rfl⟩
  · rw [if_pos hc] at hs2
    simp only [Prod.mk.injEq] at hs2
    obtain ⟨rfl, hs3⟩ := hs2
    rcases rfCheck_bad hc with ⟨h1, h2⟩ | ⟨h1, h2, h3⟩ | ⟨h1, h2, h3, h4⟩
    · rw [h1] at hc4
      rw [h2] at hs3
      subst hs3
      clear h1 h2 hc
      go_enter Try.func88, Try.ntmps88
      go_wp2_with fail
      go_ret2
      exact ⟨rfl, rfl⟩
    · rw [h1] at hc4
      rw [h3] at hs3
      subst hs3
      clear h1 h3 hc
      go_enter Try.func88, Try.ntmps88
      go_wp2_with fail
      go_ret2
      exact ⟨rfl, rfl⟩
    · rw [h1] at hc4
      rw [h4] at hs3
      subst hs3
      clear h1 h4 hc
      go_enter Try.func88, Try.ntmps88
      go_wp2_with fail
      go_ret2
      exact ⟨rfl, rfl⟩
/-- the first k sectors have been treated -/
def mixP (f : Int → List UInt8 → List UInt8 → List UInt8) (D C : List (List UInt8)) (k : Nat) : List (List UInt8) := D.mapIdx fun i d => if i < k then (if C.getD i [] = [] then d else f (i : Int) (C.getD i []) d) else d
def clrP (C : List (List UInt8)) (k : Nat) : List (List UInt8) := C.mapIdx fun i c => if i < k then [] else c
theorem mixP_len (f : Int → List UInt8 → List UInt8 → List UInt8) (D C : List (List UInt8)) (k : Nat) : (mixP f D C k).length = D.length := by simp [mixP]
theorem clrP_len (C : List (List UInt8)) (k : Nat) : (clrP C k).length = C.length := by simp [clrP]
theorem mixP_zero (f : Int → List UInt8 → List UInt8 → List UInt8) (D C : List (List UInt8)) : mixP f D C 0 = D := by
  apply List.ext_getElem?
  intro i
  simp [mixP, List.getElem?_mapIdx]
theorem clrP_zero (C : List (List UInt8)) : clrP C 0 = C := by
  apply List.ext_getElem?
  intro i
  simp [clrP, List.getElem?_mapIdx]
theorem mixP_all (f : Int → List UInt8 → List UInt8 → List UInt8) (D C : List (List UInt8)) : mixP f D C D.length = mixR f D C := by
  apply List.ext_getElem?
  intro i
  unfold mixP mixR
  rw [List.getElem?_mapIdx, List.getElem?_mapIdx]
  cases h : D[i]? with
  | none => rfl
  | some d => rw [Option.map_some, Option.map_some, if_pos (List.getElem?_eq_some_iff.1 h).1]
theorem clrP_all (C : List (List UInt8)) : clrP C C.length = List.replicate C.length [] := by
  apply List.ext_getElem?
  intro i
  unfold clrP
  rw [List.getElem?_mapIdx, List.getElem?_replicate]
  by_cases h : i < C.length
  · rw [List.getElem?_eq_getElem h, Option.map_some, if_pos h, if_pos h]
  · rw [List.getElem?_eq_none (by omega), if_neg h]; rfl
theorem getD_at {L : List (List UInt8)} {k : Nat} (h : k < L.length) : L[k]? = some (L.getD k []) := by rw [List.getD_eq_getElem?_getD, List.getElem?_eq_getElem h]; rfl
theorem clrP_at (C : List (List UInt8)) (k : Nat) : (clrP C k).getD k [] = C.getD k [] := by
  rw [List.getD_eq_getElem?_getD, List.getD_eq_getElem?_getD]
  unfold clrP
  rw [List.getElem?_mapIdx]
  cases C[k]? with
  | none => rfl
  | some c => rw [Option.map_some, if_neg (by omega)]
theorem mixP_at (f : Int → List UInt8 → List UInt8 → List UInt8) (D C : List (List UInt8)) (k : Nat) : (mixP f D C k).getD k [] = D.getD k [] := by
  rw [List.getD_eq_getElem?_getD, List.getD_eq_getElem?_getD]
  unfold mixP
  rw [List.getElem?_mapIdx]
  cases D[k]? with
  | none => rfl
  | some c => rw [Option.map_some, if_neg (by omega)]
theorem clrP_step (C : List (List UInt8)) (k : Nat) : clrP C (k + 1) = (clrP C k).set k [] := by
  apply List.ext_getElem?
  intro i
  rw [List.getElem?_set, clrP_len]
  unfold clrP
  rw [List.getElem?_mapIdx, List.getElem?_mapIdx]
  by_cases h : k = i
  · subst h
    rw [if_pos rfl]
    by_cases hk : k < C.length
    · rw [if_pos hk, List.getElem?_eq_getElem hk, Option.map_some, if_pos (by omega)]
    · rw [if_neg hk, List.getElem?_eq_none (by omega)]; rfl
  · rw [if_neg h]
    cases C[i]? with
    | none => rfl
    | some c =>
      rw [Option.map_some, Option.map_some]
      by_cases hi : i < k
      · rw [if_pos hi, if_pos (by omega)]
      · rw [if_neg hi, if_neg (by omega)]
theorem mixP_skip (f : Int → List UInt8 → List UInt8 → List UInt8) (D C : List (List UInt8)) (k : Nat) (h : C.getD k [] = [] ∨ f (k : Int) (C.getD k []) (D.getD k []) = D.getD k []) : mixP f D C (k + 1) = mixP f D C k := by
  apply List.ext_getElem?
  intro i
  unfold mixP
  rw [List.getElem?_mapIdx, List.getElem?_mapIdx]
  cases hd : D[i]? with
  | none => rfl
  | some d =>
    rw [Option.map_some, Option.map_some]
    by_cases hi : i < k
    · rw [if_pos hi, if_pos (by omega)]
    · rw [if_neg hi]
      by_cases hk : i = k
      · subst hk
        rw [if_pos (by omega)]
        have hdd : D.getD i [] = d := by rw [List.getD_eq_getElem?_getD, hd]; rfl
        rcases h with h | h
        · rw [if_pos h]
        · rw [hdd] at h
          by_cases hc : C.getD i [] = []
          · rw [if_pos hc]
          · rw [if_neg hc, h]
      · rw [if_neg (by omega)]
theorem mixP_step (f : Int → List UInt8 → List UInt8 → List UInt8) (D C : List (List UInt8)) (k : Nat) (h : ¬ C.getD k [] = []) (hk : k < D.length) : mixP f D C (k + 1) = (mixP f D C k).set k (f (k : Int) (C.getD k []) (D.getD k [])) := by
  apply List.ext_getElem?
  intro i
  rw [List.getElem?_set, mixP_len]
  unfold mixP
  rw [List.getElem?_mapIdx, List.getElem?_mapIdx]
  by_cases hi : k = i
  · subst hi
    rw [if_pos rfl, if_pos hk, getD_at hk, Option.map_some, if_pos (by omega), if_neg h]
  · rw [if_neg hi]
    cases D[i]? with
    | none => rfl
    | some c =>
      rw [Option.map_some, Option.map_some]
      by_cases hj : i < k
      · rw [if_pos hj, if_pos (by omega)]
      · rw [if_neg hj, if_neg (by omega)]
def FlL (p : RfP) (w1 : World) (x1 : Rf) (v3 : Value) (wr : World) : Prop :=
  ∃ k : Nat, v3 = .int .i64 k ∧ k ≤ x1.D.length ∧ RfIs wr p { x1 with D := mixP (fun _ b _ => b) x1.D x1.C k, C := clrP x1.C k } ∧ Upd (RfW p) w1 wr
theorem rfCommand_20 {x x1 : Rf} {e : Int} (h : rfCommand x = (e, x1)) : (e = 0 ∨ e = 20) ∧ x1.D = x.D ∧ x1.C = x.C ∧ x1.size = x.size := by
  unfold rfCommand at h
  split at h
  · split at h
    · obtain ⟨rfl, rfl⟩ := Prod.mk.inj h; exact ⟨.inr rfl, rfl, rfl, rfl⟩
    · obtain ⟨rfl, rfl⟩ := Prod.mk.inj h; exact ⟨.inl rfl, rfl, rfl, rfl⟩
  · obtain ⟨rfl, rfl⟩ := Prod.mk.inj h; exact ⟨.inl rfl, rfl, rfl, rfl⟩
set_option maxRecDepth 100000 in
set_option maxHeartbeats 2000000 in
theorem rf_Flush (p : RfP) (x : Rf) (hx : x.C.length = x.D.length) (hl : x.D.length ≤ 4096) (w : World) (h : RfIs w p x) (e0 : Int) (x' : Rf) (hs : Hid (rfFlush x = (e0, x'))) :
    Calls Try.prog 87 #[.pointer (some ⟨p.g, 0, none⟩)] w fun e w' => e = .returned (.int .i64 e0) ∧ RfIs w' p x' ∧ Upd (RfW p) w w' := by
  obtain ⟨-, -, -, -, hc4, -, -⟩ := h.cells
  have HH := hid h
  have hs2 := hs.out
  unfold rfFlush at hs2
  clear h hs
  cases hd : x.down
  case true =>
    rw [hd] at hs2 hc4
    simp only [if_true, Prod.mk.injEq] at hs2
    obtain ⟨rfl, rfl⟩ := hs2
    clear hd
    go_enter Try.func87, Try.ntmps87
    go_wp2_with fail
    go_ret
    exact ⟨rfl, HH.out, Upd.refl _ _⟩
  rw [hd] at hs2 hc4
  simp only [Bool.false_eq_true, if_false] at hs2
  obtain ⟨e1, x1, hcm⟩ : ∃ e1 x1, rfCommand x = (e1, x1) := ⟨_, _, rfl⟩
  rw [hcm] at hs2
  simp only at hs2
  obtain ⟨h20, hD1, hC1, -⟩ := rfCommand_20 hcm
  have HCM := hid hcm
  clear hcm hd
  rcases h20 with rfl | rfl
  case inr =>
    rw [if_pos (by decide)] at hs2
    simp only [Prod.mk.injEq] at hs2
    obtain ⟨rfl, rfl⟩ := hs2
    clear hD1 hC1
    go_enter Try.func87, Try.ntmps87
    go_wp2_with fail
    refine (rf_Command p x w HH.out 20 x1 HCM).mono ?_
    rintro e w1 ⟨rfl, hi1, hu1⟩
    have HI1 := hid hi1
    have HU1 := hid hu1
    clear hi1 hu1
    go_wp2_with fail
    go_ret
    exact ⟨rfl, HI1.out, HU1.out⟩
  rw [if_neg (by decide)] at hs2
  simp only [Prod.mk.injEq] at hs2
  obtain ⟨rfl, hx'⟩ := hs2
  rw [← hD1, ← hC1] at hx'
  have hlen1 : x1.C.length = x1.D.length := by rw [hD1, hC1]; exact hx
  have hl1 : x1.D.length ≤ 4096 := by rw [hD1]; exact hl
  have HX' := hid hx'
  have HL1 := hid hlen1
  clear hx' hD1 hC1 hx hl hlen1
  go_enter Try.func87, Try.ntmps87
  go_wp2_with fail
  refine (rf_Command p x w HH.out 0 x1 HCM).mono ?_
  rintro e w1 ⟨rfl, hi1, hu1⟩
  have HI1 := hid hi1
  have HU1 := hid hu1
  clear hi1 hu1 hc4
  go_wp2_with fail
  go_loopw [3] (fun v3 wr => FlL p w1 x1 v3 wr) (fun v3 _ => x1.D.length - (intOf v3).toNat)
  case atStart => exact ⟨0, rfl, by omega, by rw [mixP_zero, clrP_zero]; exact HI1.out, Upd.refl _ _⟩
  case round =>
    obtain ⟨k, rfl, hk, hi, hu⟩ := hrel
    have HI := hid hi
    have HU := hid hu
    have hlD : (mixP (fun _ b _ => b) x1.D x1.C k).length = x1.D.length := mixP_len _ _ _ _
    have hlC : (clrP x1.C k).length = x1.D.length := by rw [clrP_len]; exact HL1.out
    obtain ⟨hc0, hc1, -⟩ := hi.cells
    simp only [hlD, hlC] at hc0 hc1
    by_cases hlt : k < x1.D.length
    · obtain ⟨hkc, hkf⟩ := hi.atC k (by show k < (clrP x1.C k).length; omega)
      simp only [clrP_at] at hkc
      have hE := strE (x1.C.getD k [])
      obtain ⟨q, hq⟩ : ∃ q : ByteArray, q = ⟨(x1.C.getD k []).toArray⟩ := ⟨_, rfl⟩
      rw [← hq] at hkc hE
      have HQ := hid hq
      have k0 : (0 : Int) ≤ (k : Int) := by omega
      have k1 : (k : Int) < (x1.D.length : Int) := by omega
      have HLD := hid hlD
      have HLC := hid hlC
      clear hq hi hu hlD hlC
      by_cases hz : x1.C.getD k [] = []
      · rw [emptyT hz] at hE
        have HIN : Hid (RfIs (wr.setCell ⟨p.gC, k, none⟩ (.string ⟨#[]⟩)) p { x1 with D := mixP (fun _ b _ => b) x1.D x1.C (k + 1), C := clrP x1.C (k + 1) }) := hid (by
          rw [mixP_skip _ _ _ _ (.inl hz), clrP_step]
          exact HI.out.setC k [])
        have HUN : Hid (Upd (RfW p) w1 (wr.setCell ⟨p.gC, k, none⟩ (.string ⟨#[]⟩))) := hid (HU.out.trans (Upd.setCell wr p.gC k _) (fun _ _ q => .inr (.inr q)))
        clear hz
        go_wp2_with fail
        go_roundw
        case rel => exact ⟨k + 1, by go_num, by omega, HIN.out, HUN.out⟩
        case measure => simp [intOf]; omega
      · rw [emptyF hz] at hE
        have hdr := (Below.refl wr.heap.size wr).drew
        have HI5 : Hid (RfIs (wr.setCell ⟨p.gD, k, none⟩ (.string q)).drew p { x1 with D := mixP (fun _ b _ => b) x1.D x1.C (k + 1), C := clrP x1.C k }) := hid (by
          rw [mixP_step _ _ _ _ hz hlt, HQ.out]
          exact (HI.out.setD k _).below (Below.refl _ _).drew)
        have HU5 : Hid (Upd (RfW p) w1 (wr.setCell ⟨p.gD, k, none⟩ (.string q)).drew) := hid ((HU.out.trans (Upd.setCell wr p.gD k _) (fun _ _ q => .inr (.inl q))).drew)
        have HDALL : Hid (∀ y, Below wr.heap.size wr y → RfIs y p { x1 with D := mixP (fun _ b _ => b) x1.D x1.C k, C := clrP x1.C k }) := hid (fun y hy => HI.out.below hy)
        have hd0 : ∀ y, Below wr.heap.size wr y → y.cell? ⟨p.g, 0, none⟩ = some (.slice (some ⟨p.gD, 0, none⟩) x1.D.length p.cD) := fun y hy => by have := (HDALL.out y hy).cells.1; simp only [HLD.out] at this; exact this
        have hd1 : ∀ y, Below wr.heap.size wr y → y.cell? ⟨p.g, 1, none⟩ = some (.slice (some ⟨p.gC, 0, none⟩) x1.D.length p.cC) := fun y hy => by have := (HDALL.out y hy).cells.2.1; simp only [HLC.out] at this; exact this
        have hd2 : ∀ y, Below wr.heap.size wr y → y.cell? ⟨p.gC, k, none⟩ = some (.string q) := fun y hy => by
          have h1 := ((HDALL.out y hy).atC k (by show k < (clrP x1.C k).length; have := HLC.out; omega)).1
          simp only [clrP_at] at h1
          rw [HQ.out]; exact h1
        obtain ⟨qd, hqd⟩ : ∃ qd : ByteArray, (⟨(x1.D.getD k []).toArray⟩ : ByteArray) = qd := ⟨_, rfl⟩
        have HQD := hid hqd
        have hd4 : ∀ y, Below wr.heap.size wr y → y.cell? ⟨p.gD, k, none⟩ = some (.string qd) := fun y hy => by
          have h1 := ((HDALL.out y hy).atD k (by show k < (mixP (fun _ b _ => b) x1.D x1.C k).length; have := HLD.out; omega)).1
          simp only [mixP_at, HQD.out] at h1
          exact h1
        have hd5 : ∀ y, Below wr.heap.size wr y → y.frozen? ⟨p.gD, k, none⟩ = false := fun y hy => ((HDALL.out y hy).atD k (by show k < (mixP (fun _ b _ => b) x1.D x1.C k).length; have := HLD.out; omega)).2
        clear hz hqd
        go_wp2_with fail
        refine wp_region_kept [13] (fun y => Below wr.heap.size wr y) (by kernel_rfl) (by assumption) (fun hH => ?_)
        refine wpK.take (i := 0) (v := _) (by simp only [List.getElem?_toArray, List.getElem?_cons_succ, List.getElem?_cons_zero]; rfl) (by kernel_rfl) (by kernel_rfl) (by kernel_rfl) (by kernel_rfl) (by kernel_rfl) (by exact fun _ _ _ h => h) (by first | exact Or.inl ⟨by rfl, by intro w hSw; go_simp; try with_reducible rfl⟩ | exact Or.inr ⟨by rfl, rfl⟩) hH ?_
        try simp only [Act.put, List.setIfInBounds_toArray, List.set_cons_zero, List.set_cons_succ]
        refine wpK.take (i := 1) (v := _) (by simp only [List.getElem?_toArray, List.getElem?_cons_succ, List.getElem?_cons_zero]; rfl) (by kernel_rfl) (by kernel_rfl) (by kernel_rfl) (by kernel_rfl) (by kernel_rfl) (by exact fun _ _ _ h => h) (by first | exact Or.inl ⟨by rfl, by intro w hSw; go_simp; try with_reducible rfl⟩ | exact Or.inr ⟨by rfl, rfl⟩) hH ?_
        try simp only [Act.put, List.setIfInBounds_toArray, List.set_cons_zero, List.set_cons_succ]
        refine wpK.take (i := 2) (v := _) (by simp only [List.getElem?_toArray, List.getElem?_cons_succ, List.getElem?_cons_zero]; rfl) (by kernel_rfl) (by kernel_rfl) (by kernel_rfl) (by kernel_rfl) (by kernel_rfl) (by exact fun _ _ _ h => h) (by first | exact Or.inl ⟨by rfl, by intro w hSw; go_simp; try with_reducible rfl⟩ | exact Or.inr ⟨by rfl, rfl⟩) hH ?_
        try simp only [Act.put, List.setIfInBounds_toArray, List.set_cons_zero, List.set_cons_succ]
        refine wpK.take (i := 3) (v := _) (by simp only [List.getElem?_toArray, List.getElem?_cons_succ, List.getElem?_cons_zero]; rfl) (by kernel_rfl) (by kernel_rfl) (by kernel_rfl) (by kernel_rfl) (by kernel_rfl) (by exact fun _ _ _ h => h) (by first | exact Or.inl ⟨by rfl, by intro w hSw; go_simp; try with_reducible rfl⟩ | exact Or.inr ⟨by rfl, rfl⟩) hH ?_
        try simp only [Act.put, List.setIfInBounds_toArray, List.set_cons_zero, List.set_cons_succ]
        refine wpK.take (i := 4) (v := _) (by simp only [List.getElem?_toArray, List.getElem?_cons_succ, List.getElem?_cons_zero]; rfl) (by kernel_rfl) (by kernel_rfl) (by kernel_rfl) (by kernel_rfl) (by kernel_rfl) (by exact fun _ _ _ h => h) (by first | exact Or.inl ⟨by rfl, by intro w hSw; go_simp; try with_reducible rfl⟩ | exact Or.inr ⟨by rfl, rfl⟩) hH ?_
        try simp only [Act.put, List.setIfInBounds_toArray, List.set_cons_zero, List.set_cons_succ]
        refine wpK.take (i := 5) (v := _) (by simp only [List.getElem?_toArray, List.getElem?_cons_succ, List.getElem?_cons_zero]; rfl) (by kernel_rfl) (by kernel_rfl) (by kernel_rfl) (by kernel_rfl) (by kernel_rfl) (by exact fun _ _ _ h => h) (by first | exact Or.inl ⟨by rfl, by intro w hSw; go_simp; try with_reducible rfl⟩ | exact Or.inr ⟨by rfl, rfl⟩) hH ?_
        try simp only [Act.put, List.setIfInBounds_toArray, List.set_cons_zero, List.set_cons_succ]
        refine wpK.take (i := 6) (v := _) (by simp only [List.getElem?_toArray, List.getElem?_cons_succ, List.getElem?_cons_zero]; rfl) (by kernel_rfl) (by kernel_rfl) (by kernel_rfl) (by kernel_rfl) (by kernel_rfl) (by exact fun _ _ _ h => h) (by first | exact Or.inl ⟨by rfl, by intro w hSw; go_simp; try with_reducible rfl⟩ | exact Or.inr ⟨by rfl, rfl⟩) hH ?_
        try simp only [Act.put, List.setIfInBounds_toArray, List.set_cons_zero, List.set_cons_succ]
        refine wpK.take (i := 7) (v := _) (by simp only [List.getElem?_toArray, List.getElem?_cons_succ, List.getElem?_cons_zero]; rfl) (by kernel_rfl) (by kernel_rfl) (by kernel_rfl) (by kernel_rfl) (by kernel_rfl) (by exact fun _ _ _ h => h) (by first | exact Or.inl ⟨by rfl, by intro w hSw; go_simp; try with_reducible rfl⟩ | exact Or.inr ⟨by rfl, rfl⟩) hH ?_
        try simp only [Act.put, List.setIfInBounds_toArray, List.set_cons_zero, List.set_cons_succ]
        refine wpK.take (i := 8) (v := _) (by simp only [List.getElem?_toArray, List.getElem?_cons_succ, List.getElem?_cons_zero]; rfl) (by kernel_rfl) (by kernel_rfl) (by kernel_rfl) (by kernel_rfl) (by kernel_rfl) (by exact fun _ _ _ h => h) (by first | exact Or.inl ⟨by rfl, by intro w hSw; go_simp; try with_reducible rfl⟩ | exact Or.inr ⟨by rfl, rfl⟩) hH ?_
        try simp only [Act.put, List.setIfInBounds_toArray, List.set_cons_zero, List.set_cons_succ]
        refine wpK.take (i := 9) (v := _) (by simp only [List.getElem?_toArray, List.getElem?_cons_succ, List.getElem?_cons_zero]; rfl) (by kernel_rfl) (by kernel_rfl) (by kernel_rfl) (by kernel_rfl) (by kernel_rfl) (by exact fun _ _ _ h => h) (by first | exact Or.inl ⟨by rfl, by intro w hSw; go_simp; try with_reducible rfl⟩ | exact Or.inr ⟨by rfl, rfl⟩) hH ?_
        try simp only [Act.put, List.setIfInBounds_toArray, List.set_cons_zero, List.set_cons_succ]
        refine wpK.take (i := 10) (v := _) (by simp only [List.getElem?_toArray, List.getElem?_cons_succ, List.getElem?_cons_zero]; rfl) (by kernel_rfl) (by kernel_rfl) (by kernel_rfl) (by kernel_rfl) (by kernel_rfl) (by exact fun _ _ _ h => h) (by first | exact Or.inl ⟨by rfl, by intro w hSw; go_simp; try with_reducible rfl⟩ | exact Or.inr ⟨by rfl, rfl⟩) hH ?_
        try simp only [Act.put, List.setIfInBounds_toArray, List.set_cons_zero, List.set_cons_succ]
        refine wpK.take (i := 11) (v := _) (by simp only [List.getElem?_toArray, List.getElem?_cons_succ, List.getElem?_cons_zero]; rfl) (by kernel_rfl) (by kernel_rfl) (by kernel_rfl) (by kernel_rfl) (by kernel_rfl) (by exact fun _ _ _ h => h) (by first | exact Or.inl ⟨by rfl, by intro w hSw; go_simp; try with_reducible rfl⟩ | exact Or.inr ⟨by rfl, rfl⟩) hH ?_
        try simp only [Act.put, List.setIfInBounds_toArray, List.set_cons_zero, List.set_cons_succ]
        refine wpK.take (i := 12) (v := _) (by simp only [List.getElem?_toArray, List.getElem?_cons_succ, List.getElem?_cons_zero]; rfl) (by kernel_rfl) (by kernel_rfl) (by kernel_rfl) (by kernel_rfl) (by kernel_rfl) (by exact fun _ _ _ h => h) (by first | exact Or.inl ⟨by rfl, by intro w hSw; go_simp; try with_reducible rfl⟩ | exact Or.inr ⟨by rfl, rfl⟩) hH ?_
        try simp only [Act.put, List.setIfInBounds_toArray, List.set_cons_zero, List.set_cons_succ]
        refine wpK.late (i := 13) (by kernel_rfl) (by simp only [List.getElem?_toArray, List.getElem?_cons_succ, List.getElem?_cons_zero]; rfl) (by kernel_rfl) (fun K hK => ?_)
        go_simp
        refine hK.out _ _ ?_
        clear hK K
        try simp only [Act.put, List.setIfInBounds_toArray, List.set_cons_zero, List.set_cons_succ]
        refine wpK.done (by kernel_rfl) ?_ _
        obtain ⟨w5, hw5⟩ : ∃ w5, w5 = (wr.setCell ⟨p.gD, k, none⟩ (.string q)).drew := ⟨_, rfl⟩
        rw [← hw5] at HI5 HU5 ⊢
        have HI6 : Hid (RfIs (w5.setCell ⟨p.gC, k, none⟩ (.string ⟨#[]⟩)) p { x1 with D := mixP (fun _ b _ => b) x1.D x1.C (k + 1), C := clrP x1.C (k + 1) }) := hid (by
          rw [clrP_step]
          exact HI5.out.setC k [])
        have HU6 : Hid (Upd (RfW p) w1 (w5.setCell ⟨p.gC, k, none⟩ (.string ⟨#[]⟩))) := hid (HU5.out.trans (Upd.setCell w5 p.gC k _) (fun _ _ q => .inr (.inr q)))
        obtain ⟨-, hz1, -⟩ := HI5.out.cells
        simp only [HLC.out] at hz1
        obtain ⟨hz2, hz3⟩ := HI5.out.atC k (by show k < (clrP x1.C k).length; have := HLC.out; omega)
        simp only [clrP_at, ← HQ.out] at hz2
        clear hd0 hd1 hd2 hd4 hd5 hdr hw5 hc0 hc1 hkc hkf
        go_wp2_with fail
        go_roundw
        case rel => exact ⟨k + 1, by go_num, by omega, HI6.out, HU6.out⟩
        case measure => simp [intOf]; omega
    · have hkk : k = x1.D.length := by omega
      subst hkk
      have HF : Hid (RfIs wr p x') := hid (by
        rw [← HX'.out]
        have h1 := HI.out
        rw [mixP_all, ← HL1.out, clrP_all] at h1
        exact h1)
      clear hlD hlC hi hu
      go_wp2_with fail
      go_ret
      exact ⟨rfl, HF.out, HU1.out.trans HU.out (fun _ _ q => q)⟩
end Go.Proofs.Ytohknblokejldaa
end
