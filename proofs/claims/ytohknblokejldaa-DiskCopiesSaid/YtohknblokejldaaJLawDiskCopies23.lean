/- Joined texts, in this order: Ref05c, OpenE, OpenI. Each one's first remark says what it proves; no condition beyond those that its theorems name. -/
import Derived.Test.YtohknblokejldaaJLawDiskCopies22
import Derived.Test.YtohknblokejldaaJLawDiskCopies01
import Derived.Deep.Slices
import Derived.Deep.Fields
import Derived.ChangeSame
import Derived.OpenShut
import Derived.Test.YtohknblokejldaaJLawDiskCopies06
section
/- Contract of the document's disk: Crash. -/
namespace Go.Proofs.Ytohknblokejldaa
open Go.RowKit
open Go.Lib (hid)
set_option linter.unusedVariables false

def CrL (p : RfP) (w : World) (x : Rf) (f : Int → List UInt8 → List UInt8 → List UInt8) (v8 : Value) (wr : World) : Prop :=
  ∃ k : Nat, v8 = .int .i64 k ∧ k ≤ x.D.length ∧ RfIs wr p { x with D := mixP f x.D x.C k, C := clrP x.C k } ∧ Upd (RfW p) w wr
def CrI (k : Nat) (keep : List Int) (v9 v10 : Value) : Prop := ∃ j : Nat, v10 = .int .i64 j ∧ j ≤ keep.length ∧ v9 = .bool (decide ((k : Int) ∈ keep.take j))
def CrS (n sz : Nat) (b d : List UInt8) (v11 v12 : Value) : Prop := ∃ (j : Nat) (q : ByteArray), v12 = .int .i64 j ∧ v11 = .string q ∧ j ≤ sz ∧ q.data.toList = (b.take n ++ d.drop n).take j
theorem mix_at (b d : List UInt8) (n j : Nat) (hb : j < b.length) (hd : b.length = d.length) : (b.take n ++ d.drop n)[j]? = if j < n then b[j]? else d[j]? := by
  rw [List.getElem?_append, List.length_take]
  by_cases h : j < n
  · rw [if_pos h, if_pos (by omega), List.getElem?_take, if_pos h]
  · rw [if_neg h, if_neg (by omega), List.getElem?_drop]
    by_cases hn : n ≤ b.length
    · rw [show n + (j - min n b.length) = j by omega]
    · omega
theorem extract_one (q : ByteArray) (j : Nat) (l : List UInt8) (h : q.data.toList = l) (x : UInt8) (hx : l[j]? = some x) : (q.extract j (j + 1)).data.toList = [x] := by
  rw [Lib.extract_data, h]
  have hj : j < l.length := (List.getElem?_eq_some_iff.1 hx).1
  rw [List.drop_eq_getElem_cons hj]
  have : l[j] = x := (List.getElem?_eq_some_iff.1 hx).2
  simp [this]
theorem mem_snocB (l : List Int) (z k : Int) : decide (k ∈ l ++ [z]) = (decide (k ∈ l) || (z == k)) := by
  rw [Bool.eq_iff_iff]
  simp only [decide_eq_true_eq, List.mem_append, List.mem_singleton, Bool.or_eq_true, beq_iff_eq]
  exact ⟨fun h => h.imp id Eq.symm, fun h => h.imp id Eq.symm⟩
theorem rf_len {p : RfP} {x : Rf} (f : Int → List UInt8 → List UInt8 → List UInt8) (k : Nat) (hx : x.C.length = x.D.length) : (mixP f x.D x.C k).length = x.D.length ∧ (clrP x.C k).length = x.D.length := ⟨mixP_len _ _ _ _, by rw [clrP_len]; exact hx⟩
set_option maxRecDepth 100000 in
set_option maxHeartbeats 8000000 in
theorem rf_Crash (p : RfP) (x : Rf) (hx : x.C.length = x.D.length) (hl : x.D.length ≤ 4096) (hsz : x.size ≤ 4096) (hDs : ∀ k, k < x.D.length → (x.D.getD k []).length = x.size) (hCs : ∀ k, k < x.D.length → x.C.getD k [] = [] ∨ (x.C.getD k []).length = x.size)
    (keep : List Int) (torn cut : Int) (kv : Value) (w : World) (h : RfIs w p x) (hk : SlI w kv keep) (hkW : ∀ j, kv.ownBlock = some j → keep = [] ∨ ¬ RfW p j) :
    Calls Try.prog 43 #[.pointer (some ⟨p.g, 0, none⟩), kv, .int .i64 torn, .int .i64 cut] w fun e w' => e = .returned (.tuple #[]) ∧ RfIs w' p (rfCrash x keep torn cut) ∧ Upd (RfW p) w w' := by
  obtain ⟨n, hn⟩ : ∃ n, n = cutN cut x.size := ⟨_, rfl⟩
  obtain ⟨f, hf⟩ : ∃ f, f = crashF keep torn n := ⟨_, rfl⟩
  have HN := hid hn
  have HF := hid hf
  have HX := hid hx
  have HH := hid h
  have HK := hid hk
  have HKW := hid hkW
  have HDS := hid hDs
  have HCS := hid hCs
  obtain ⟨ka, kc, rfl, -, k1, k2, -⟩ := hk
  have hk63 : keep.length ≤ 9223372036854775807 := by omega
  have hcut : ∀ j : Nat, j < x.size → (decide ((j : Int) < cut) = decide (j < n)) := by
    intro j hj
    rw [hn]
    unfold cutN
    by_cases hc : (j : Int) < cut
    · have : j < (max (min cut (x.size : Int)) 0).toNat := by omega
      simp [hc, this]
    · have : ¬ j < (max (min cut (x.size : Int)) 0).toNat := by omega
      simp [hc, this]
  have HCUT := hid hcut
  clear h hn hf hx hDs hCs hkW k1 k2 hcut
  go_enter Try.func43, Try.ntmps43
  go_wp2_with fail
  go_loopw [8] (fun v8 wr => CrL p w x f v8 wr) (fun v8 _ => x.D.length - (intOf v8).toNat)
  case atStart => exact ⟨0, rfl, by omega, by rw [mixP_zero, clrP_zero]; exact HH.out, Upd.refl _ _⟩
  case round =>
    obtain ⟨k, rfl, hk, hi, hu⟩ := hrel
    have HI := hid hi
    have HU := hid hu
    obtain ⟨hlD, hlC⟩ := rf_len (p := p) f k HX.out
    have HLD := hid hlD
    have HLC := hid hlC
    obtain ⟨hc0, hc1, hc2, hc3, hc4, -⟩ := hi.cells
    simp only [hlD, hlC] at hc0 hc1
    clear hu hlD hlC
    by_cases hlt : k < x.D.length
    · have hdl := HDS.out k hlt
      have hcl := HCS.out k hlt
      obtain ⟨hkc, hkf⟩ := hi.atC k (by show k < (clrP x.C k).length; have := HLC.out; omega)
      simp only [clrP_at] at hkc
      obtain ⟨hkd, hkg⟩ := hi.atD k (by show k < (mixP f x.D x.C k).length; have := HLD.out; omega)
      simp only [mixP_at] at hkd
      obtain ⟨b, hb⟩ : ∃ b, x.C.getD k [] = b := ⟨_, rfl⟩
      obtain ⟨d, hd⟩ : ∃ d, x.D.getD k [] = d := ⟨_, rfl⟩
      rw [hb] at hkc hcl
      rw [hd] at hkd hdl
      have hE := strE b
      obtain ⟨q, hq⟩ : ∃ q : ByteArray, q = ⟨b.toArray⟩ := ⟨_, rfl⟩
      obtain ⟨qd, hqd⟩ : ∃ q : ByteArray, q = ⟨d.toArray⟩ := ⟨_, rfl⟩
      rw [← hq] at hkc hE
      rw [← hqd] at hkd
      have HQ := hid hq
      have HQD := hid hqd
      have HBE := hid hb
      have HDE := hid hd
      have hdn := hdl
      have k0 : (0 : Int) ≤ (k : Int) := by omega
      have kd1 : (k : Int) < (x.D.length : Int) := by omega
      have HSL := hid (HK.out.updE HU.out HKW.out)
      -- what the round leaves, from a world in which sector k is laid
      have HEND : Hid (∀ y, RfIs y p { x with D := mixP f x.D x.C (k + 1), C := clrP x.C k } → Upd (RfW p) w y → RfIs (y.setCell ⟨p.gC, k, none⟩ (.string ⟨#[]⟩)) p { x with D := mixP f x.D x.C (k + 1), C := clrP x.C (k + 1) } ∧ Upd (RfW p) w (y.setCell ⟨p.gC, k, none⟩ (.string ⟨#[]⟩))) := hid (fun y hy hu => by
        rw [clrP_step]
        exact ⟨hy.setC k [], hu.trans (Upd.setCell y p.gC k _) (fun _ _ q => .inr (.inr q))⟩)
      clear hi hb hd hq hqd
      go_wp2_with fail
      go_loop [9, 10] (fun v9 v10 => CrI k keep v9 v10) (fun _ v10 => keep.length - (intOf v10).toNat)
      case atStart => exact ⟨0, rfl, by omega, by simp⟩
      case round =>
        obtain ⟨j, rfl, hj, rfl⟩ := hrel
        by_cases hjl : j < keep.length
        · obtain ⟨aa, cc, ee, hrd, -⟩ := HSL.out
          simp only [Value.slice.injEq, true_and] at ee
          obtain ⟨rfl, rfl⟩ := ee
          obtain ⟨bu, ou, z, rfl, hcz, -, -, htk, -⟩ := hrd.int j hjl
          have hmem : decide ((k : Int) ∈ keep.take (j + 1)) = (decide ((k : Int) ∈ keep.take j) || (z == (k : Int))) := by
            rw [htk]; exact mem_snocB _ _ _
          have HM := hid hmem
          have j0 : (0 : Int) ≤ (j : Int) := by omega
          have j1 : (j : Int) < (keep.length : Int) := by omega
          obtain ⟨kb, hkb⟩ : ∃ kb, decide ((k : Int) ∈ keep.take j) = kb := ⟨_, rfl⟩
          rw [hkb] at HM ⊢
          clear hrd htk hmem hkb
          cases kb with
          | true =>
            go_wp2_with fail
            go_round
            case rel => exact ⟨j + 1, by go_num, by omega, by rw [HM.out]; rfl⟩
            case measure => simp [intOf]; omega
          | false =>
            obtain ⟨kz, hkz⟩ : ∃ kz, (z == (k : Int)) = kz := ⟨_, rfl⟩
            have HKZ := hid hkz
            go_wp2_with fail
            go_round
            case rel => exact ⟨j + 1, by go_num, by omega, by rw [HM.out, HKZ.out]; rfl⟩
            case measure => simp [intOf]; omega
        · have hje : keep.take j = keep := List.take_of_length_le (by omega)
          rw [hje]
          obtain ⟨kb, hkb⟩ : ∃ kb, decide ((k : Int) ∈ keep) = kb := ⟨_, rfl⟩
          rw [hkb]
          have HKB := hid hkb
          have hj3 : ¬ (j : Int) < (keep.length : Int) := by omega
          clear hje hkb hj
          have HLE : Hid ((mixP f x.D x.C (k + 1)).length = x.D.length) := hid (mixP_len _ _ _ _)
          by_cases hz : b = []
          · rw [emptyT hz] at hE
            have HI5 : Hid (RfIs wr p { x with D := mixP f x.D x.C (k + 1), C := clrP x.C k }) := hid (by rw [mixP_skip _ _ _ _ (.inl (HBE.out.trans hz))]; exact HI.out)
            have HR5 := hid (HEND.out wr HI5.out HU.out)
            clear hz
            go_wp2_with fail
            go_roundw
            case rel => exact ⟨k + 1, by go_num, by omega, HR5.out.1, HR5.out.2⟩
            case measure => simp [intOf]; omega
          · rw [emptyF hz] at hE
            have HZN := hid hz
            have hstep : mixP f x.D x.C (k + 1) = (mixP f x.D x.C k).set k (f (k : Int) b d) := by rw [mixP_step _ _ _ _ (by rw [HBE.out]; exact hz) hlt, HBE.out, HDE.out]
            have HSTEP := hid hstep
            clear hz hstep
            cases kb with
            | true =>
              have hfk : f (k : Int) b d = b := by rw [HF.out]; unfold crashF; rw [if_pos (by simpa using HKB.out)]
              have hdr := (Below.refl wr.heap.size wr).drew
              have HI5 : Hid (RfIs (wr.setCell ⟨p.gD, k, none⟩ (.string q)).drew p { x with D := mixP f x.D x.C (k + 1), C := clrP x.C k }) := hid (by
                rw [HSTEP.out, hfk, HQ.out]
                exact (HI.out.setD k _).below (Below.refl _ _).drew)
              have HU5 : Hid (Upd (RfW p) w (wr.setCell ⟨p.gD, k, none⟩ (.string q)).drew) := hid ((HU.out.trans (Upd.setCell wr p.gD k _) (fun _ _ q => .inr (.inl q))).drew)
              have HDALL : Hid (∀ y, Below wr.heap.size wr y → RfIs y p { x with D := mixP f x.D x.C k, C := clrP x.C k }) := hid (fun y hy => HI.out.below hy)
              have hd0 : ∀ y, Below wr.heap.size wr y → y.cell? ⟨p.g, 0, none⟩ = some (.slice (some ⟨p.gD, 0, none⟩) x.D.length p.cD) := fun y hy => by have := (HDALL.out y hy).cells.1; simp only [HLD.out] at this; exact this
              have hd1 : ∀ y, Below wr.heap.size wr y → y.cell? ⟨p.g, 1, none⟩ = some (.slice (some ⟨p.gC, 0, none⟩) x.D.length p.cC) := fun y hy => by have := (HDALL.out y hy).cells.2.1; simp only [HLC.out] at this; exact this
              have hd2 : ∀ y, Below wr.heap.size wr y → y.cell? ⟨p.gC, k, none⟩ = some (.string q) := fun y hy => by
                have h1 := ((HDALL.out y hy).atC k (by show k < (clrP x.C k).length; have := HLC.out; omega)).1
                simp only [clrP_at, HBE.out, ← HQ.out] at h1
                exact h1
              have hd4 : ∀ y, Below wr.heap.size wr y → y.cell? ⟨p.gD, k, none⟩ = some (.string qd) := fun y hy => by
                have h1 := ((HDALL.out y hy).atD k (by show k < (mixP f x.D x.C k).length; have := HLD.out; omega)).1
                simp only [mixP_at, HDE.out, ← HQD.out] at h1
                exact h1
              have hd5 : ∀ y, Below wr.heap.size wr y → y.frozen? ⟨p.gD, k, none⟩ = false := fun y hy => ((HDALL.out y hy).atD k (by show k < (mixP f x.D x.C k).length; have := HLD.out; omega)).2
              clear hfk
              go_wp2_with fail
              refine wp_region_kept [13] (fun y => Below wr.heap.size wr y) (by kernel_rfl) (by assumption) (fun hH => ?_)
              refine wpK.take (i := 0) (v := _) (by simp only [List.getElem?_toArray, List.getElem?_cons_succ, List.getElem?_cons_zero]; rfl) (by kernel_rfl) (by kernel_rfl) (by kernel_rfl) (by kernel_rfl) (by kernel_rfl) (by exact fun _ _ _ h => h) (by first | exact Or.inl ⟨by rfl, by intro w hSw; go_simp; try with_reducible rfl⟩ | exact Or.inr ⟨by rfl, rfl⟩) hH ?_
              try simp only [Act.put, List.setIfInBounds_toArray, List.set_cons_zero, List.set_cons_succ]
              refine wpK.take (i := 1) (v := _) (by simp only [List.getElem?_toArray, List.getElem?_cons_succ, List.getElem?_cons_zero]; rfl) (by kernel_rfl) (by kernel_rfl) (by kernel_rfl) (by kernel_rfl) (by kernel_rfl) (by exact fun _ _ _ h => h) (by first | exact Or.inl ⟨by rfl, by intro w hSw; go_simp; try with_reducible rfl⟩ | exact Or.inr ⟨by rfl, rfl⟩) hH ?_
              try simp only [Act.put, List.setIfInBounds_toArray, List.set_cons_zero, List.set_cons_succ]
              refine wpK.take (i := 2) (v := _) (by simp only [List.getElem?_toArray, List.getElem?_cons_succ, List.getElem?_cons_zero]; rfl) (by kernel_rfl) (by kernel_rfl) (by kernel_rfl) (by kernel_rfl) (by kernel_rfl) (by exact fun _ _ _ h => h) (by first | exact Or.inl ⟨by rfl, by intro w hSw; go_simp; try with_reducible rfl⟩ | exact Or.inr ⟨by rfl, rfl⟩) hH ?_
              try simp only [Act.put, List.setIfInBounds_toArray, List.set_cons_zero, List.set_cons_succ]
              refine wpK.take (i := 3) (v := _) (by simp only [List.getElem?_toArray, List.getElem?_cons_succ, List.getElem?_cons_zero]; rfl) (by kernel_rfl) (by kernel_rfl) (by kernel_rfl) (by kernel_rfl) (by kernel_rfl) (by exact fun _ _ _ h => h) (by first | exact Or.inl ⟨by rfl, by intro w hSw; go_simp; try with_reducible rfl⟩ | exact Or.inr ⟨by rfl, rfl⟩) hH ?_
              try simp only [Act.put, List.setIfInBounds_toArray, List.set_cons_zero, List.set_cons_succ]
              refine wpK.take (i := 4) (v := _) (by simp only [List.getElem?_toArray, List.getElem?_cons_succ, List.getElem?_cons_zero]; rfl) (by kernel_rfl) (by kernel_rfl) (by kernel_rfl) (by kernel_rfl) (by kernel_rfl) (by exact fun _ _ _ h => h) (by first | exact Or.inl ⟨by rfl, by intro w hSw; go_simp; try with_reducible rfl⟩ | exact Or.inr ⟨by rfl, rfl⟩) hH ?_
              try simp only [Act.put, List.setIfInBounds_toArray, List.set_cons_zero, List.set_cons_succ]
              refine wpK.take (i := 5) (v := _) (by simp only [List.getElem?_toArray, List.getElem?_cons_succ, List.getElem?_cons_zero]; rfl) (by kernel_rfl) (by kernel_rfl) (by kernel_rfl) (by kernel_rfl) (by kernel_rfl) (by exact fun _ _ _ h => h) (by first | exact Or.inl ⟨by rfl, by intro w hSw; go_simp; try with_reducible rfl⟩ | exact Or.inr ⟨by rfl, rfl⟩) hH ?_
              try simp only [Act.put, List.setIfInBounds_toArray, List.set_cons_zero, List.set_cons_succ]
              refine wpK.take (i := 6) (v := _) (by simp only [List.getElem?_toArray, List.getElem?_cons_succ, List.getElem?_cons_zero]; rfl) (by kernel_rfl) (by kernel_rfl) (by kernel_rfl) (by kernel_rfl) (by kernel_rfl) (by exact fun _ _ _ h => h) (by first | exact Or.inl ⟨by rfl, by intro w hSw; go_simp; try with_reducible rfl⟩ | exact Or.inr ⟨by rfl, rfl⟩) hH ?_
              try simp only [Act.put, List.setIfInBounds_toArray, List.set_cons_zero, List.set_cons_succ]
              refine wpK.take (i := 7) (v := _) (by simp only [List.getElem?_toArray, List.getElem?_cons_succ, List.getElem?_cons_zero]; rfl) (by kernel_rfl) (by kernel_rfl) (by kernel_rfl) (by kernel_rfl) (by kernel_rfl) (by exact fun _ _ _ h => h) (by first | exact Or.inl ⟨by rfl, by intro w hSw; go_simp; try with_reducible rfl⟩ | exact Or.inr ⟨by rfl, rfl⟩) hH ?_
              try simp only [Act.put, List.setIfInBounds_toArray, List.set_cons_zero, List.set_cons_succ]
              refine wpK.take (i := 8) (v := _) (by simp only [List.getElem?_toArray, List.getElem?_cons_succ, List.getElem?_cons_zero]; rfl) (by kernel_rfl) (by kernel_rfl) (by kernel_rfl) (by kernel_rfl) (by kernel_rfl) (by exact fun _ _ _ h => h) (by first | exact Or.inl ⟨by rfl, by intro w hSw; go_simp; try with_reducible rfl⟩ | exact Or.inr ⟨by rfl, rfl⟩) hH ?_
              try simp only [Act.put, List.setIfInBounds_toArray, List.set_cons_zero, List.set_cons_succ]
              refine wpK.take (i := 9) (v := _) (by simp only [List.getElem?_toArray, List.getElem?_cons_succ, List.getElem?_cons_zero]; rfl) (by kernel_rfl) (by kernel_rfl) (by kernel_rfl) (by kernel_rfl) (by kernel_rfl) (by exact fun _ _ _ h => h) (by first | exact Or.inl ⟨by rfl, by intro w hSw; go_simp; try with_reducible rfl⟩ | exact Or.inr ⟨by rfl, rfl⟩) hH ?_
              try simp only [Act.put, List.setIfInBounds_toArray, List.set_cons_zero, List.set_cons_succ]
              refine wpK.take (i := 10) (v := _) (by simp only [List.getElem?_toArray, List.getElem?_cons_succ, List.getElem?_cons_zero]; rfl) (by kernel_rfl) (by kernel_rfl) (by kernel_rfl) (by kernel_rfl) (by kernel_rfl) (by exact fun _ _ _ h => h) (by first | exact Or.inl ⟨by rfl, by intro w hSw; go_simp; try with_reducible rfl⟩ | exact Or.inr ⟨by rfl, rfl⟩) hH ?_
              try simp only [Act.put, List.setIfInBounds_toArray, List.set_cons_zero, List.set_cons_succ]
              refine wpK.take (i := 11) (v := _) (by simp only [List.getElem?_toArray, List.getElem?_cons_succ, List.getElem?_cons_zero]; rfl) (by kernel_rfl) (by kernel_rfl) (by kernel_rfl) (by kernel_rfl) (by kernel_rfl) (by exact fun _ _ _ h => h) (by first | exact Or.inl ⟨by rfl, by intro w hSw; go_simp; try with_reducible rfl⟩ | exact Or.inr ⟨by rfl, rfl⟩) hH ?_
              try simp only [Act.put, List.setIfInBounds_toArray, List.set_cons_zero, List.set_cons_succ]
              refine wpK.take (i := 12) (v := _) (by simp only [List.getElem?_toArray, List.getElem?_cons_succ, List.getElem?_cons_zero]; rfl) (by kernel_rfl) (by kernel_rfl) (by kernel_rfl) (by kernel_rfl) (by kernel_rfl) (by exact fun _ _ _ h => h) (by first | exact Or.inl ⟨by rfl, by intro w hSw; go_simp; try with_reducible rfl⟩ | exact Or.inr ⟨by rfl, rfl⟩) hH ?_
              try simp only [Act.put, List.setIfInBounds_toArray, List.set_cons_zero, List.set_cons_succ]
              refine wpK.late (i := 13) (by kernel_rfl) (by simp only [List.getElem?_toArray, List.getElem?_cons_succ, List.getElem?_cons_zero]; rfl) (by kernel_rfl) (fun K hK => ?_)
              go_simp
              refine hK.out _ _ ?_
              clear hK K
              try simp only [Act.put, List.setIfInBounds_toArray, List.set_cons_zero, List.set_cons_succ]
              refine wpK.done (by kernel_rfl) ?_ _
              obtain ⟨w5, hw5⟩ : ∃ w5, w5 = (wr.setCell ⟨p.gD, k, none⟩ (.string q)).drew := ⟨_, rfl⟩
              rw [← hw5] at HI5 HU5 ⊢
              clear hd0 hd1 hd2 hd4 hd5 hdr hw5 hc0 hc1 hc2 hc3 hc4 hkc hkf hkd hkg
              obtain ⟨hz0, hz1, hz2, -⟩ := HI5.out.cells
              simp only [HLE.out, HLC.out] at hz0 hz1
              obtain ⟨hz3, hz4⟩ := HI5.out.atC k (by show k < (clrP x.C k).length; have := HLC.out; omega)
              simp only [clrP_at, HBE.out, ← HQ.out] at hz3
              have HR5 := hid (HEND.out w5 HI5.out HU5.out)
              go_wp2_with fail
              go_roundw
              case rel => exact ⟨k + 1, by go_num, by omega, HR5.out.1, HR5.out.2⟩
              case measure => simp [intOf]; omega
            | false =>
              have hnk : ¬ (k : Int) ∈ keep := by simpa using HKB.out
              by_cases htn : (k : Int) = torn
              · have htb : ((k : Int) == torn) = true := by simpa using htn
                have hfk : f (k : Int) b d = b.take n ++ d.drop n := by rw [HF.out]; unfold crashF; rw [if_neg hnk, if_pos htn]
                have hbl : b.length = x.size := by
                  rcases hcl with h | h
                  · exact absurd h HZN.out
                  · exact h
                have HBL := hid hbl
                have HDL := hid hdl
                have HFK := hid hfk
                have hqs : q.size = x.size := by rw [HQ.out]; exact hbl
                have hqds : qd.size = x.size := by rw [HQD.out]; exact hdl
                have HQS := hid hqs
                have HQDS := hid hqds
                have HTB := hid htb
                clear htn hfk hbl hqs hqds hnk hcl hdl hdn
                go_wp2_with fail
                go_loop [11, 12] (fun v11 v12 => CrS n x.size b d v11 v12) (fun _ v12 => x.size - (intOf v12).toNat)
                case atStart => exact ⟨0, ⟨#[]⟩, rfl, rfl, by omega, rfl⟩
                case round =>
                  obtain ⟨j, qa, rfl, rfl, hj, hqa⟩ := hrel
                  have HQA := hid hqa
                  clear hqa
                  by_cases hjs : j < x.size
                  · have hji : (j : Int) < (x.size : Int) := by omega
                    have hj0 : (0 : Int) ≤ (j : Int) := by omega
                    have hb1 : (j : Int) + 1 ≤ (q.size : Int) := by have := HQS.out; omega
                    have hb2 : (j : Int) + 1 ≤ (qd.size : Int) := by have := HQDS.out; omega
                    have hma := mix_at b d n j (by have := HBL.out; omega) (by have h1 := HBL.out; have h2 := HDL.out; omega)
                    have HMA := hid hma
                    clear hma
                    have hqas : qa.size ≤ 4096 := by
                      have h1 := congrArg List.length HQA.out
                      rw [List.length_take] at h1
                      have h2 : qa.data.toList.length = qa.size := by show qa.data.toList.length = qa.data.size; exact Array.length_toList
                      omega
                    have hx1 : ∀ z : ByteArray, (z.extract j (j + 1)).size ≤ 1 := fun z => by rw [ByteArray.size_extract]; omega
                    have hx2 := hx1 q
                    have hx3 := hx1 qd
                    have hs1 : qa.size + (q.extract j (j + 1)).size ≤ 9223372036854775807 := by omega
                    have hs2 : qa.size + (qd.extract j (j + 1)).size ≤ 9223372036854775807 := by omega
                    have hs3 : qa.size + (min (j + 1) q.size - j) ≤ 9223372036854775807 := by omega
                    have hs4 : qa.size + (min (j + 1) qd.size - j) ≤ 9223372036854775807 := by omega
                    clear hx1
                    by_cases hjc : (j : Int) < cut
                    · have hjn : j < n := by have := HCUT.out j hjs; simpa [hjc] using this
                      obtain ⟨z, hz⟩ : ∃ z, b[j]? = some z := ⟨_, List.getElem?_eq_getElem (by have := HBL.out; omega)⟩
                      have HNX : Hid ((qa ++ q.extract j (j + 1)).data.toList = (b.take n ++ d.drop n).take (j + 1)) := hid (by
                        have h1 := HMA.out
                        rw [if_pos hjn, hz] at h1
                        rw [List.take_add_one, h1]
                        have h2 := extract_one q j b (by rw [HQ.out]) z hz
                        simp only [ByteArray.data_append, Array.toList_append, h2, HQA.out]
                        rfl)
                      clear hjn hz
                      go_wp2_with fail
                      go_round
                      case rel => exact ⟨j + 1, _, by go_num, rfl, by omega, HNX.out⟩
                      case measure => simp [intOf]; omega
                    · have hjn : ¬ j < n := by have := HCUT.out j hjs; simpa [hjc] using this
                      obtain ⟨z, hz⟩ : ∃ z, d[j]? = some z := ⟨_, List.getElem?_eq_getElem (by have := HDL.out; omega)⟩
                      have HNX : Hid ((qa ++ qd.extract j (j + 1)).data.toList = (b.take n ++ d.drop n).take (j + 1)) := hid (by
                        have h1 := HMA.out
                        rw [if_neg hjn, hz] at h1
                        rw [List.take_add_one, h1]
                        have h2 := extract_one qd j d (by rw [HQD.out]) z hz
                        simp only [ByteArray.data_append, Array.toList_append, h2, HQA.out]
                        rfl)
                      clear hjn hz
                      go_wp2_with fail
                      go_round
                      case rel => exact ⟨j + 1, _, by go_num, rfl, by omega, HNX.out⟩
                      case measure => simp [intOf]; omega
                  · have hqe : qa = ⟨(b.take n ++ d.drop n).toArray⟩ := by
                      have h1 := HQA.out
                      rw [List.take_of_length_le (by
                        have h1 := HBL.out; have h2 := HDL.out
                        rw [List.length_append, List.length_take, List.length_drop]; omega)] at h1
                      apply ByteArray.ext
                      rw [← h1]
                    have HI5 : Hid (RfIs (wr.setCell ⟨p.gD, k, none⟩ (.string qa)) p { x with D := mixP f x.D x.C (k + 1), C := clrP x.C k }) := hid (by
                      rw [HSTEP.out, HFK.out, hqe]
                      exact HI.out.setD k _)
                    have HU5 : Hid (Upd (RfW p) w (wr.setCell ⟨p.gD, k, none⟩ (.string qa))) := hid (HU.out.trans (Upd.setCell wr p.gD k _) (fun _ _ q => .inr (.inl q)))
                    clear hqe
                    go_upto_region 19 with fail
                    obtain ⟨w5, hw5⟩ : ∃ w5, w5 = wr.setCell ⟨p.gD, k, none⟩ (.string qa) := ⟨_, rfl⟩
                    rw [← hw5] at HI5 HU5 ⊢
                    clear hw5 hc0 hc1 hc2 hc3 hc4 hkc hkf hkd hkg
                    obtain ⟨hz0, hz1, hz2, -⟩ := HI5.out.cells
                    simp only [HLE.out, HLC.out] at hz0 hz1
                    obtain ⟨hz3, hz4⟩ := HI5.out.atC k (by show k < (clrP x.C k).length; have := HLC.out; omega)
                    simp only [clrP_at, HBE.out, ← HQ.out] at hz3
                    have HR5 := hid (HEND.out w5 HI5.out HU5.out)
                    go_wp2_with fail
                    go_roundw
                    case rel => exact ⟨k + 1, by go_num, by omega, HR5.out.1, HR5.out.2⟩
                    case measure => simp [intOf]; omega
              · have htb : ((k : Int) == torn) = false := by simpa using htn
                have hfk : f (k : Int) b d = d := by rw [HF.out]; unfold crashF; rw [if_neg hnk, if_neg htn]
                have HI5 : Hid (RfIs wr p { x with D := mixP f x.D x.C (k + 1), C := clrP x.C k }) := hid (by rw [mixP_skip _ _ _ _ (.inr (by rw [HBE.out, HDE.out]; exact hfk))]; exact HI.out)
                have HR5 := hid (HEND.out wr HI5.out HU.out)
                clear htn hfk hnk
                go_wp2_with fail
                go_roundw
                case rel => exact ⟨k + 1, by go_num, by omega, HR5.out.1, HR5.out.2⟩
                case measure => simp [intOf]; omega
    · have hkk : k = x.D.length := by omega
      subst hkk
      have HI5 : Hid (RfIs wr p { x with D := mixR f x.D x.C, C := List.replicate x.C.length [] }) := hid (by
        have h1 := HI.out
        have h2 : clrP x.C x.D.length = List.replicate x.C.length [] := by rw [← HX.out, clrP_all]
        rw [mixP_all, h2] at h1
        exact h1)
      have hf3 := HI5.out.blk.unfrozen 3
      have hf4 := HI5.out.blk.unfrozen 4
      have hu5 := (Upd.setCell wr p.g 4 (.bool false)).trans (Upd.setCell _ p.g 3 (.bool false)) (fun _ _ q => q)
      have HPOST : Hid (RfIs ((wr.setCell ⟨p.g, 4, none⟩ (.bool false)).setCell ⟨p.g, 3, none⟩ (.bool false)) p (rfCrash x keep torn cut) ∧ Upd (RfW p) w ((wr.setCell ⟨p.g, 4, none⟩ (.bool false)).setCell ⟨p.g, 3, none⟩ (.bool false))) := hid
        ⟨by
          unfold rfCrash
          rw [← HN.out, ← HF.out]
          exact HI5.out.reblk hu5 (by simpa using (HI5.out.blk.set 4 (.bool false)).set 3 (.bool false)) rfl rfl, HU.out.trans hu5 (fun _ _ q => .inl q)⟩
      clear hu5 hi hk
      go_wp2_with fail
      go_end0
      exact ⟨rfl, HPOST.out.1, HPOST.out.2⟩
end Go.Proofs.Ytohknblokejldaa
end
section
/- What comes in, opened: a slice of elements of k cells, each of which reads as E says. No program in sight. -/
namespace Go.Proofs.Ytohknblokejldaa
open Go.RowKit Go.ChangeShapes Go.WideShapes Go.Deep
open Go.Lib (hid)
set_option linter.unusedVariables false

/-- a slice whose elements of k cells read as E says -/
def SlE {α : Type} (E : World → (Nat → Option Value) → α → Prop) (k : Nat) (w : World) (v : Value) (L : List α) : Prop :=
  ∃ a c, v = .slice a L.length c ∧ L.length ≤ c ∧ c ≤ 9223372036854775807 ∧ (a = none → c = 0) ∧
    ∀ i x, L[i]? = some x → ∃ b off, a = some ⟨b, off, none⟩ ∧ b < w.heap.size ∧ E w (fun j => w.cell? ⟨b, off + i * k + j, none⟩) x
/-- what a reading of an element keeps -/
structure Kept {α : Type} (E : World → (Nat → Option Value) → α → Prop) (k : Nat) : Prop where
  keep : ∀ {w w' : World} {f g : Nat → Option Value} {x : α}, Below w.heap.size w w' → (∀ j u, j < k → f j = some u → g j = some u) → E w f x → E w' g x
  zero : ∀ {w : World} {f : Nat → Option Value} {x : α}, E w f x → ∃ u, f 0 = some u
theorem SlE.below {α : Type} {E : World → (Nat → Option Value) → α → Prop} {k : Nat} (K : Kept E k) {w w' : World} {v : Value} {L : List α} (h : SlE E k w v L) (hb : Below w.heap.size w w') : SlE E k w' v L := by
  obtain ⟨a, c, h1, h2, h3, h4, h5⟩ := h
  refine ⟨a, c, h1, h2, h3, h4, fun i x hx => ?_⟩
  obtain ⟨b, off, k1, k2, k3⟩ := h5 i x hx
  exact ⟨b, off, k1, Nat.lt_of_lt_of_le k2 hb.size, K.keep hb (fun j u _ hu => by rw [← hu]; exact World.cell?_of_block (hb.block b k2)) k3⟩
theorem open_slE {α : Type} [Inhabited α] {E : World → (Nat → Option Value) → α → Prop} {k : Nat} (K : Kept E k) {H : Type} {enc : TypeId × Value → H} {P : Program} {t e : TypeId} {w : World} {r0 : Reach} {b0 : Nat} {v : Value} {d : DataW H} {p : List MemPlace}
    (ht : P.underlying t = some (.slice e)) (hk : P.cellsOf e = k) (elem : ∀ (n : Nat) (cs : List Value) (x : DataW H × List MemPlace), DataW.trod enc P w 0 (fun _ => true) true n e cs = some x → ∃ t, E w (fun j => cs[j]?) t)
    (hok : Value.okWide P w r0 b0 t v) (h : DataW.Trod enc P w 0 (fun _ => true) true t v d p) : ∃ L, SlE E k w v L := by
  obtain ⟨a0, len0, cap0, rfl⟩ := okWide_slice ht hok
  obtain ⟨fuel, hf⟩ := h
  rcases open_slice ht hf with ⟨hcs, -⟩ | ⟨a, len, cap, m, n, D, Pl, hcs, hb, hl, hm, hmm, hx, hi⟩
  · simp [Value.cells] at hcs
    obtain ⟨rfl, rfl, rfl⟩ := hcs
    exact ⟨[], none, 0, rfl, by simp, by omega, fun _ => rfl, fun i r hr => by simp at hr⟩
  · simp [Value.cells] at hcs
    obtain ⟨rfl, rfl, rfl⟩ := hcs
    simp only [if_true] at hmm
    obtain rfl : cap0 = m := hmm.symm
    have key : ∀ i, i < cap0 → ∃ q : α, E w (fun j => w.cell? (a.add (i * k + j))) q := by
      intro i hic
      obtain ⟨cs', hc, ht'⟩ := hi i hic
      rw [hk] at hc
      obtain ⟨t, ht⟩ := elem _ _ _ ht'
      obtain ⟨-, hcl, hat⟩ := World.cells?_some hc
      exact ⟨t, K.keep (Below.refl _ _) (fun j u hj hu => by rw [← Go.Deep.add_add, hat j hj]; exact hu) ht⟩
    obtain ⟨f, hfun⟩ := choose_lt key
    have hlen : ((List.range len0).map f).length = len0 := by simp
    refine ⟨(List.range len0).map f, some a, cap0, by rw [hlen], by rw [hlen]; exact hl, by unfold maxLen at hm; omega, nofun, ?_⟩
    intro i r hr
    rw [List.getElem?_map] at hr
    by_cases hil : i < len0
    · rw [List.getElem?_range hil] at hr
      simp at hr
      subst hr
      have q := hfun i (by omega)
      obtain ⟨b, off, spot⟩ := a
      obtain ⟨u0, p0⟩ := K.zero (hfun 0 (by omega))
      have hspot : spot = none := by simpa [Addr.add] using World.cell?_spot p0
      subst hspot
      obtain ⟨u1, q0⟩ := K.zero q
      simp only [Addr.add_lit] at q0
      refine ⟨b, off, rfl, World.block_lt_of_cell? w _ q0, K.keep (Below.refl _ _) (fun j u hj hu => ?_) q⟩
      rw [Addr.add_lit] at hu
      rw [Nat.add_assoc]; exact hu
    · rw [List.getElem?_eq_none (by simp; omega)] at hr; simp at hr
theorem structE_fields {H : Type} {enc : TypeId × Value → H} {P : Program} {w : World} {base : Nat} {spare : Nat → Bool} {held : Bool} {t : TypeId} {fs : Array Field} {n : Nat} {cs : List Value} {x : DataW H × List MemPlace} (ht : P.underlying t = some (.struct fs)) (hone : oneCellFields P fs = true)
    (h : DataW.trod enc P w base spare held n t cs = some x) : cs.length = P.cellsOf t ∧ ∃ (ys : List (DataW H × List MemPlace)) (n' : Nat), ys.length = fs.size ∧ ∀ (j : Nat) (f : Field), fs[j]? = some f → DataW.trod enc P w base spare held n' f.type ((cs.drop j).take 1) = ys[j]? := by
  obtain ⟨ys, n', hn', hy, hlen, hyl, hf⟩ := DataW.trod_struct ht h
  refine ⟨hlen, ys, n', hyl, fun j f hj => ?_⟩
  obtain ⟨ho, hk⟩ := hone_of hone j f hj
  have := hf j f hj
  rwa [ho, hk] at this
theorem listOf2 {α : Type} : ∀ {l : List α}, l.length = 2 → ∃ a b, l = [a, b]
  | [a, b], _ => ⟨a, b, rfl⟩
theorem listOf3 {α : Type} : ∀ {l : List α}, l.length = 3 → ∃ a b c, l = [a, b, c]
  | [a, b, c], _ => ⟨a, b, c, rfl⟩
theorem listOf4 {α : Type} : ∀ {l : List α}, l.length = 4 → ∃ a b c d, l = [a, b, c, d]
  | [a, b, c, d], _ => ⟨a, b, c, d, rfl⟩
theorem listOf5 {α : Type} : ∀ {l : List α}, l.length = 5 → ∃ a b c d e, l = [a, b, c, d, e]
  | [a, b, c, d, e], _ => ⟨a, b, c, d, e, rfl⟩
theorem listOf6 {α : Type} : ∀ {l : List α}, l.length = 6 → ∃ a b c d e f, l = [a, b, c, d, e, f]
  | [a, b, c, d, e, f], _ => ⟨a, b, c, d, e, f, rfl⟩
end Go.Proofs.Ytohknblokejldaa
end
section
/- What comes in, opened: a field that is a slice of numbers. -/
namespace Go.Proofs.Ytohknblokejldaa
open Go.RowKit Go.ChangeShapes Go.WideShapes Go.Deep Go.Joins
open Go.Lib (hid)
set_option linter.unusedVariables false

set_option maxRecDepth 100000 in
theorem open_sliF {H : Type} {enc : TypeId × Value → H} {w : World} {n : Nat} {v : Value} {y : DataW H × List MemPlace} (t4 : DataW.trod enc Try.prog w 0 (fun _ => true) true n 22 [v] = some y) : ∃ l : List Int, SlI w v l ∧ ∀ x ∈ l, (Lit.int .i64 x).wf = true := by
  have hrow : ∃ (a : Option Addr) (len cap : Nat) (zs : List Int), v = .slice a len cap ∧ ((a = none ∧ len = 0 ∧ cap = 0 ∧ zs = []) ∨
      ∃ x, a = some x ∧ len ≤ cap ∧ cap ≤ maxLen ∧ zs.length = cap ∧ (∀ i, i < zs.length → w.cell? (x.add i) = some (.int .i64 (zs.getD i 0))) ∧ ∀ n ∈ zs, (Lit.int .i64 n).wf = true) := by
    rcases open_ints Try.underlying22 Try.underlying3 (by kernel_rfl) t4 with ⟨hcs, _⟩ | ⟨x, l, c, zs, hcs, _, hl, hm, hz, _, hcell, hwz⟩
    · simp at hcs
      exact ⟨none, 0, 0, [], hcs, .inl ⟨rfl, rfl, rfl, rfl⟩⟩
    · simp at hcs
      exact ⟨some x, l, c, zs, hcs, .inr ⟨_, rfl, hl, hm, by simpa using hz, hcell, hwz⟩⟩
  obtain ⟨la, len, lc, zs, rfl, hr⟩ := hrow
  obtain ⟨l, -, h, hw⟩ := sli_of_row hr
  exact ⟨l, h, hw⟩
end Go.Proofs.Ytohknblokejldaa
end
