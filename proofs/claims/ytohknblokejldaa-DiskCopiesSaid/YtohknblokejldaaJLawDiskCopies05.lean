/- Joined texts, in this order: DiskIo, DiskMix, DiskFl. Each one's first remark says what it proves; no condition beyond those that its theorems name. -/
import Derived.Test.YtohknblokejldaaJLawDiskCopies04
import Derived.Maps.OwnOps
section
/- Contracts: disk.Write, disk.Read. -/
namespace Go.Proofs.Ytohknblokejldaa
open Go.RowKit
open Go.Lib (hid)
set_option linter.unusedVariables false

theorem zero_bytes (w : World) : (zeroValue 27).run Try.prog w = .ok (.slice none 0 0) w := by kernel_rfl

/-- a sector is laid into the cache -/
theorem DkIs.putC {W R : Nat → Prop} {w w1 w2 : World} {g : Nat} {s : Dk} {b : Nat} {dv : Value} {V : List Value} {M : List (Int × Value × List UInt8)} (h : DkIs w g W R s b dv V M) (i : Int) {v : Value} {l : List UInt8}
    (hb : Below w.heap.size w w1) (hown : w1.ownsRow w.heap.size 5 1 v l.length (bv l)) (hl : l.length ≤ 9223372036854775807) (hm : MapE w2 b (aput (M.map fun p => (p.1, p.2.1)) i v)) (hu : Upd (fun k => k = b) w1 w2) :
    DkIs w2 g W (fun k => R k ∨ (w.heap.size ≤ k ∧ k < w2.heap.size)) { s with C := aput s.C i l } b dv V (aput M i (v, l)) := by
  have s1 := hb.size
  have s2 := hu.size
  have h1 := h.below hb
  have bl := h.map.lt
  refine ⟨h1.blk.upd hu (fun q => h.ne q), hu.owns h1.own (fun k hk q => (h.wd k hk).2.2 q), fun j lj hj => ?_, ?_, ?_, fun p hp => ?_, h.wg, h.wb, h.wd, h.ne, fun k hk hr => ?_, fun k hk => by have := h.wlt k hk; omega, fun k hk => ?_⟩
  · obtain ⟨u, hu1, hu2⟩ := h1.sec j lj hj
    exact ⟨u, hu1, hu2.upd hu (fun k hr q => h.wr _ h.wb (q ▸ hr)) (fun _ => .inl)⟩
  · rw [aput_map (fun q : Value × List UInt8 => q.1) M i (v, l)]; exact hm
  · rw [← h.eqC]; exact aput_map (fun q : Value × List UInt8 => q.2) M i (v, l)
  · rcases mem_aput hp with rfl | ⟨hp, -⟩
    · have ho := hu.owns hown (fun k hk q => by have := (hown.lt k hk).1; omega)
      exact ⟨ownsRow.slb ho hl, fun k hk => .inr ⟨(ho.lt k hk).1, (ho.lt k hk).2⟩⟩
    · exact (h1.msec p hp).upd hu (fun k hr q => h.wr _ h.wb (q ▸ hr)) (fun _ => .inl)
  · rcases hr with hr | hr
    · exact h.wr k hk hr
    · have := h.wlt k hk; omega
  · rcases hk with hk | hk
    · have := h.rlt k hk; omega
    · exact hk.2

def dkWrite (s : Dk) (i : Int) (l : List UInt8) : Int × Dk :=
  if dkCheck s i ≠ 0 then (dkCheck s i, s) else if l.length ≠ s.size then (10, s) else dkCommand { s with C := aput s.C i l }
set_option maxRecDepth 100000 in
set_option maxHeartbeats 1000000 in
theorem disk_Write (s : Dk) (i : Int) (l : List UInt8) (u : Value) (g : Nat) (W R : Nat → Prop) (w : World) (h : DiskIs w g W R s) (hl : SlB w u l) (hlen : l.length ≤ 1000000) (e0 : Int) (s' : Dk) (hs : Hid (dkWrite s i l = (e0, s'))) :
    Calls Try.prog 21 #[.pointer (some ⟨g, 0, none⟩), .int .i64 i, u] w fun e w' => ∃ R', e = .returned (.int .i64 e0) ∧ DiskIs w' g W R' s' ∧ (∀ k, R' k → R k ∨ w.heap.size ≤ k) ∧ Upd W w w' := by
  have HI := hid h
  have HL := hid hl
  obtain ⟨ck, hck⟩ : ∃ ck, dkCheck s i = ck := ⟨_, rfl⟩
  have HCK := hid hck
  have hs2 := hs.out
  unfold dkWrite at hs2
  rw [hck] at hs2
  obtain ⟨ua, uc, rfl, -⟩ := hl
  clear hck hs
  by_cases h0 : ck = 0
  case neg =>
    rw [if_pos h0] at hs2
    simp only [Prod.mk.injEq] at hs2
    obtain ⟨rfl, rfl⟩ := hs2
    have hb : (ck != 0) = true := by simpa using h0
    clear h
    go_enter Try.func21, Try.ntmps21
    go_wp2_with (go_at_call 61; (with_reducible refine (disk_check s i g W R _ HI.out _ HCK).mono ?_); rintro e w' ⟨rfl, rfl⟩)
    go_ret
    exact ⟨R, rfl, HI.out, fun k => .inl, Upd.refl _ _⟩
  subst h0
  rw [if_neg (by simp)] at hs2
  obtain ⟨b, dv, V, M, hd⟩ := h
  have hc0 : w.cell? ⟨g, 0, none⟩ = some (.int .i64 (s.size : Int)) := by rw [hd.blk.cell]; rfl
  by_cases h1 : l.length = s.size
  case neg =>
    rw [if_pos h1] at hs2
    simp only [Prod.mk.injEq] at hs2
    obtain ⟨rfl, rfl⟩ := hs2
    have hb : ((l.length : Int) != (s.size : Int)) = true := by simp; omega
    clear hd h1
    go_enter Try.func21, Try.ntmps21
    go_wp2_with (go_at_call 61; (with_reducible refine (disk_check s i g W R _ HI.out _ HCK).mono ?_); rintro e w' ⟨rfl, rfl⟩)
    go_ret
    exact ⟨R, rfl, HI.out, fun k => .inl, Upd.refl _ _⟩
  rw [if_neg (fun q => q h1)] at hs2
  have HS2 := hid hs2
  have hb : ((l.length : Int) != (s.size : Int)) = false := by simp; omega
  have HD := hid hd
  have hc2 : ∀ w', Below w.heap.size w w' → w'.cell? ⟨g, 2, none⟩ = some (.map (some b)) := fun w' hb => by rw [(hd.blk.below hb).cell]; rfl
  have hk0 := (Below.refl w.heap.size w).drew
  have HLD := hid (HL.out.below hk0)
  clear hd h1 hs2
  go_enter Try.func21, Try.ntmps21
  go_wp2_with (go_at_call 61; (with_reducible refine (disk_check s i g W R _ HI.out _ HCK).mono ?_); rintro e w' ⟨rfl, rfl⟩)
  refine wp_region_kept [7] (fun w' => Below w.heap.size w w') (by kernel_rfl) (by assumption) (fun hH => ?_)
  refine wpK.take (i := 0) (v := _) (by simp only [List.getElem?_toArray, List.getElem?_cons_succ, List.getElem?_cons_zero]; rfl) (by kernel_rfl) (by kernel_rfl) (by kernel_rfl) (by kernel_rfl) (by kernel_rfl) (by exact fun _ _ _ h => h) (by first | exact Or.inl ⟨by rfl, by intro w hSw; go_simp; try with_reducible rfl⟩ | exact Or.inr ⟨by rfl, rfl⟩) hH ?_
  try simp only [Act.put, List.setIfInBounds_toArray, List.set_cons_zero, List.set_cons_succ]
  refine wpK.take (i := 1) (v := _) (by simp only [List.getElem?_toArray, List.getElem?_cons_succ, List.getElem?_cons_zero]; rfl) (by kernel_rfl) (by kernel_rfl) (by kernel_rfl) (by kernel_rfl) (by kernel_rfl) (by exact fun _ _ _ h => h) (by first | exact Or.inl ⟨by rfl, by intro w hSw; go_simp; try with_reducible rfl⟩ | exact Or.inr ⟨by rfl, rfl⟩) hH ?_
  try simp only [Act.put, List.setIfInBounds_toArray, List.set_cons_zero, List.set_cons_succ]
  refine wpK.take (i := 2) (v := _) (by simp only [List.getElem?_toArray, List.getElem?_cons_succ, List.getElem?_cons_zero]; rfl) (by kernel_rfl) (by kernel_rfl) (by kernel_rfl) (by kernel_rfl) (by kernel_rfl) (by exact fun _ _ _ h => h) (by first | exact Or.inl ⟨by rfl, by intro w hSw; go_simp; try with_reducible rfl⟩ | exact Or.inr ⟨by rfl, rfl⟩) hH ?_
  try simp only [Act.put, List.setIfInBounds_toArray, List.set_cons_zero, List.set_cons_succ]
  refine wpK.take (i := 3) (v := _) (by simp only [List.getElem?_toArray, List.getElem?_cons_succ, List.getElem?_cons_zero]; rfl) (by kernel_rfl) (by kernel_rfl) (by kernel_rfl) (by kernel_rfl) (by kernel_rfl) (by exact fun _ _ _ h => h) (by first | exact Or.inl ⟨by rfl, by intro w hSw; go_simp; try with_reducible rfl⟩ | exact Or.inr ⟨by rfl, rfl⟩) hH ?_
  try simp only [Act.put, List.setIfInBounds_toArray, List.set_cons_zero, List.set_cons_succ]
  refine wpK.take (i := 4) (v := _) (by simp only [List.getElem?_toArray, List.getElem?_cons_succ, List.getElem?_cons_zero]; rfl) (by kernel_rfl) (by kernel_rfl) (by kernel_rfl) (by kernel_rfl) (by kernel_rfl) (by exact fun _ _ _ h => h) (by first | exact Or.inl ⟨by rfl, by intro w hSw; go_simp; try with_reducible rfl⟩ | exact Or.inr ⟨by rfl, rfl⟩) hH ?_
  try simp only [Act.put, List.setIfInBounds_toArray, List.set_cons_zero, List.set_cons_succ]
  refine wpK.take (i := 5) (v := _) (by simp only [List.getElem?_toArray, List.getElem?_cons_succ, List.getElem?_cons_zero]; rfl) (by kernel_rfl) (by kernel_rfl) (by kernel_rfl) (by kernel_rfl) (by kernel_rfl) (by exact fun _ _ _ h => h) (by first | exact Or.inl ⟨by rfl, by intro w hSw; go_simp; try with_reducible rfl⟩ | exact Or.inr ⟨by rfl, rfl⟩) hH ?_
  try simp only [Act.put, List.setIfInBounds_toArray, List.set_cons_zero, List.set_cons_succ]
  refine wpK.step (i := 6) (by kernel_rfl) (by simp only [List.getElem?_toArray, List.getElem?_cons_succ, List.getElem?_cons_zero]; rfl) (fun K hK => ?_)
  go_simp
  (refine (bytes_Clone l _ _ HLD.out (by omega)).mono ?_); rintro e w1 ⟨v1, rfl, hown1, hb1⟩; (have hk1 := Below.next hH hb1); (have hmap1 := (HD.out.below hk1).map); go_simp
  refine hK.out _ _ (by assumption) (fun hH => ?_)
  clear hK K
  try simp only [Act.put, List.setIfInBounds_toArray, List.set_cons_zero, List.set_cons_succ]
  refine wpK.late (i := 7) (by kernel_rfl) (by simp only [List.getElem?_toArray, List.getElem?_cons_succ, List.getElem?_cons_zero]; rfl) (by kernel_rfl) (fun K hK => ?_)
  refine step_putE _ rfl _ _ _ rfl Try.underlying115 Try.underlying3 rfl hmap1 i rfl v1 rfl ?_; intro w2 hm2 hu2 hs2
  refine hK.out _ _ ?_
  clear hK K
  try simp only [Act.put, List.setIfInBounds_toArray, List.set_cons_zero, List.set_cons_succ]
  refine wpK.done (by kernel_rfl) ?_ _
  have hp := HD.out.putC i hk1 (show w1.ownsRow w.heap.size 5 1 v1 l.length (bv l) from hown1) (by omega) hm2 hu2
  have HP : Hid (DiskIs w2 g W (fun k => R k ∨ (w.heap.size ≤ k ∧ k < w2.heap.size)) { s with C := aput s.C i l }) := hid ⟨_, _, _, _, hp⟩
  have HU : Hid (Upd W w w2) := hid ((Upd.of_below (S := W) hk1).trans hu2 (fun k _ q => q ▸ HD.out.wb))
  clear hp hown1 hb1 hk1 hmap1 hm2 hu2 hs2 hH hc2 hk0
  go_wp2_with fail
  refine (disk_command _ g W _ w2 HP.out e0 s' HS2).mono ?_
  rintro e w3 ⟨rfl, hi3, hu3⟩
  have HPOST : Hid (DiskIs w3 g W (fun k => R k ∨ (w.heap.size ≤ k ∧ k < w2.heap.size)) s' ∧ Upd W w w3) := hid ⟨hi3, HU.out.trans hu3 (fun _ _ x => x)⟩
  clear hi3 hu3
  go_wp2_with fail
  go_ret
  exact ⟨_, rfl, HPOST.out.1, fun k hk => hk.imp id (fun q => q.1), HPOST.out.2⟩

/-- what is read, and an error's number -/
def dkSector (s : Dk) (i : Int) : List UInt8 := (s.C.lookup i).getD (s.D.getD i.toNat [])
def dkRead (s : Dk) (i : Int) : List UInt8 × Int := if dkCheck s i ≠ 0 then ([], dkCheck s i) else (dkSector s i, 0)
set_option maxRecDepth 100000 in
set_option maxHeartbeats 1000000 in
theorem disk_Read (s : Dk) (i : Int) (g : Nat) (W R : Nat → Prop) (w : World) (h : DiskIs w g W R s) (l : List UInt8) (e0 : Int) (hs : Hid (dkRead s i = (l, e0))) (hlen : l.length ≤ 1000000) :
    Calls Try.prog 38 #[.pointer (some ⟨g, 0, none⟩), .int .i64 i] w fun e w' => ∃ v, e = .returned (.tuple #[v, .int .i64 e0]) ∧ w'.ownsRow w.heap.size 5 1 v l.length (bv l) ∧ Below w.heap.size w w' := by
  have HI := hid h
  obtain ⟨ck, hck⟩ : ∃ ck, dkCheck s i = ck := ⟨_, rfl⟩
  have HCK := hid hck
  have hs2 := hs.out
  unfold dkRead at hs2
  rw [hck] at hs2
  clear hs
  by_cases h0 : ck = 0
  case neg =>
    rw [if_pos h0] at hs2
    simp only [Prod.mk.injEq] at hs2
    obtain ⟨rfl, rfl⟩ := hs2
    have hb : (ck != 0) = true := by simpa using h0
    clear h hck
    go_enter Try.func38, Try.ntmps38
    go_wp2_with (go_at_call 61; (with_reducible refine (disk_check s i g W R _ HI.out _ HCK).mono ?_); rintro e w' ⟨rfl, rfl⟩)
    go_ret2
    exact ⟨_, rfl, World.ownsRow_nil _ _ _ _, Below.refl _ _⟩
  subst h0
  rw [if_neg (by simp)] at hs2
  simp only [Prod.mk.injEq] at hs2
  obtain ⟨hl, rfl⟩ := hs2
  obtain ⟨b, dv, V, M, hd⟩ := h
  have hc2 : w.cell? ⟨g, 2, none⟩ = some (.map (some b)) := by rw [hd.blk.cell]; rfl
  have HMAP := hid hd.map
  have hlk : (M.map fun p => (p.1, p.2.1)).lookup i = (M.lookup i).map (·.1) := lookup_map (fun q : Value × List UInt8 => q.1) M i
  have hlc : s.C.lookup i = (M.lookup i).map (·.2) := by rw [← hd.eqC]; exact lookup_map (fun q : Value × List UInt8 => q.2) M i
  unfold dkSector at hl
  rw [hlc] at hl
  cases hM : M.lookup i with
  | some q =>
    obtain ⟨v, l'⟩ := q
    rw [hM] at hlk hl
    simp only [Option.map_some, Option.getD_some] at hl hlk
    subst hl
    have HSEC := hid (hd.msec _ (lookup_mem hM)).1
    have HR : Hid (((M.map fun p => (p.1, p.2.1)).lookup i).getD (.slice none 0 0) = v) := hid (by rw [hlk]; rfl)
    have HK : Hid (((M.map fun p => (p.1, p.2.1)).lookup i).isSome = true) := hid (by rw [hlk]; rfl)
    clear hd hlk hlc hM hck
    go_enter Try.func38, Try.ntmps38
    go_wp2_with (first | (go_at_call 61; (with_reducible refine (disk_check s i g W R _ HI.out _ HCK).mono ?_); rintro e w' ⟨rfl, rfl⟩) | (at_lookup; refine wpList_look2 _ rfl _ _ rfl Try.underlying115 Try.underlying3 (.slice none 0 0) zero_bytes rfl HMAP.out i rfl _ HR _ HK ?_) | (go_at_call 62; (with_reducible refine (bytes_Clone l' v _ HSEC.out (by omega)).mono ?_); rintro e w1 ⟨v1, rfl, hown1, hb1⟩))
    go_ret2
    exact ⟨_, rfl, hown1, hb1⟩
  | none =>
    rw [hM] at hlk hl
    simp only [Option.map_none, Option.getD_none] at hl hlk
    have hin : 0 ≤ i ∧ i < (s.D.length : Int) := by
      unfold dkCheck at hck
      split at hck
      · omega
      · split at hck
        · omega
        · omega
    obtain ⟨k, rfl⟩ := Int.eq_ofNat_of_zero_le hin.1
    have hk : k < s.D.length := by omega
    have hD : s.D[k]? = some l := by
      rw [← hl, Int.toNat_natCast, List.getD_eq_getElem?_getD, List.getElem?_eq_getElem hk]; rfl
    obtain ⟨v, hv, hsec⟩ := hd.sec k l hD
    have HSEC := hid hsec.1
    have HR : Hid (((M.map fun p => (p.1, p.2.1)).lookup (k : Int)).getD (.slice none 0 0) = .slice none 0 0) := hid (by rw [hlk]; rfl)
    have HK : Hid (((M.map fun p => (p.1, p.2.1)).lookup (k : Int)).isSome = false) := hid (by rw [hlk]; rfl)
    obtain ⟨gd, cd, e⟩ := Joins.ownsRow_form hd.own (by omega)
    subst e
    have hc1 : w.cell? ⟨g, 1, none⟩ = some (.slice (some ⟨gd, 0, none⟩) s.D.length cd) := by rw [hd.blk.cell]; rfl
    have hcv : w.cell? ⟨gd, k, none⟩ = some v := by rw [hd.own.cellAt k (by omega), hv]
    have hk0 : (0 : Int) ≤ (k : Int) := by omega
    have hk1 : (k : Int) < (s.D.length : Int) := by omega
    obtain ⟨va, vc, rfl, -⟩ := hsec.1
    clear hd hlk hlc hM hck hl hin hD hv hsec
    go_enter Try.func38, Try.ntmps38
    go_wp2_with (first | (go_at_call 61; (with_reducible refine (disk_check s _ g W R _ HI.out _ HCK).mono ?_); rintro e w' ⟨rfl, rfl⟩) | (at_lookup; refine wpList_look2 _ rfl _ _ rfl Try.underlying115 Try.underlying3 (.slice none 0 0) zero_bytes rfl HMAP.out (k : Int) rfl _ HR _ HK ?_) | (go_at_call 62; (with_reducible refine (bytes_Clone l _ _ HSEC.out (by omega)).mono ?_); rintro e w1 ⟨v1, rfl, hown1, hb1⟩))
    go_ret2
    exact ⟨_, rfl, hown1, hb1⟩
end Go.Proofs.Ytohknblokejldaa
end
section
/- Plain and state: a disk's sectors while its cache is gone through. -/
namespace Go.Proofs.Ytohknblokejldaa
open Go.RowKit
open Go.Lib (hid)
set_option linter.unusedVariables false

/-- the sectors of which those of the cache that are no more left have been treated by f -/
def mixF (f : Int → List UInt8 → List UInt8 → List UInt8) (D : List (List UInt8)) (C : List (Int × List UInt8)) (left : List Int) : List (List UInt8) :=
  D.mapIdx fun i d => if (i : Int) ∈ left then d else match C.lookup (i : Int) with
    | none => d
    | some b => f i b d
theorem mixF_len (f : Int → List UInt8 → List UInt8 → List UInt8) (D : List (List UInt8)) (C : List (Int × List UInt8)) (left : List Int) : (mixF f D C left).length = D.length := by simp [mixF]
theorem mixF_at (f : Int → List UInt8 → List UInt8 → List UInt8) (D : List (List UInt8)) (C : List (Int × List UInt8)) (left : List Int) (i : Nat) : (mixF f D C left)[i]? = (D[i]?).map fun d => if (i : Int) ∈ left then d else match C.lookup (i : Int) with
    | none => d
    | some b => f i b d := by simp [mixF, List.getElem?_mapIdx]
theorem mixF_all (f : Int → List UInt8 → List UInt8 → List UInt8) (D : List (List UInt8)) (C : List (Int × List UInt8)) (left : List Int) (h : ∀ p ∈ C, p.1 ∈ left) : mixF f D C left = D := by
  apply List.ext_getElem?
  intro i
  rw [mixF_at]
  cases hd : D[i]? with
  | none => rfl
  | some d =>
    rw [Option.map_some]
    by_cases hi : (i : Int) ∈ left
    · rw [if_pos hi]
    · rw [if_neg hi]
      cases hc : C.lookup (i : Int) with
      | none => rfl
      | some b => exact absurd (h _ (lookup_mem hc)) hi
theorem mixF_step (f : Int → List UInt8 → List UInt8 → List UInt8) (D : List (List UInt8)) (C : List (Int × List UInt8)) (left left' : List Int) (k : Nat) (l d : List UInt8) (hd : D[k]? = some d) (hl : C.lookup (k : Int) = some l) (hk : (k : Int) ∈ left) (h' : ∀ j : Int, j ∈ left' ↔ j ∈ left ∧ j ≠ (k : Int)) :
    (mixF f D C left)[k]? = some d ∧ mixF f D C left' = (mixF f D C left).set k (f (k : Int) l d) := by
  refine ⟨by rw [mixF_at, hd, Option.map_some, if_pos hk], ?_⟩
  apply List.ext_getElem?
  intro i
  rw [mixF_at, List.getElem?_set, mixF_len]
  by_cases hik : k = i
  · subst hik
    have hlt := (List.getElem?_eq_some_iff.1 hd).1
    rw [if_pos rfl, if_pos hlt, hd, Option.map_some, if_neg (fun q => ((h' _).1 q).2 rfl), hl]
  · rw [if_neg hik, mixF_at]
    cases D[i]? with
    | none => rfl
    | some d' =>
      rw [Option.map_some, Option.map_some]
      have : ((i : Int) ∈ left') = ((i : Int) ∈ left) := by
        rw [eq_iff_iff, h']
        exact ⟨fun q => q.1, fun q => ⟨q, by omega⟩⟩
      simp only [this]

/-- a sector is laid into its place -/
theorem DkIs.setD {W R : Nat → Prop} {w : World} {g : Nat} {s : Dk} {b : Nat} {gd cd : Nat} {V : List Value} {M : List (Int × Value × List UInt8)} (h : DkIs w g W R s b (.slice (some ⟨gd, 0, none⟩) s.D.length cd) V M) (k : Nat) {v : Value} {l : List UInt8} (hs : Sec w R v l) (hk : k < s.D.length) :
    DkIs (w.setCell ⟨gd, k, none⟩ v) g W R { s with D := s.D.set k l } b (.slice (some ⟨gd, 0, none⟩) (s.D.set k l).length cd) (V.set k v) M := by
  have hu := Upd.setCell w gd k v
  have hgd := h.wd gd rfl
  have hne : ∀ j, R j → ¬ j = gd := fun j hr q => h.wr _ hgd.1 (q ▸ hr)
  have hst := (h.own.stored k v).1
  refine ⟨h.blk.upd hu (fun q => hgd.2.1 q.symm) |> fun q => by simpa using q, by simpa using hst, ?_, h.map.upd hu (fun q => hgd.2.2 q.symm), h.eqC, fun p hp => (h.msec p hp).upd hu hne (fun _ => id), h.wg, h.wb, h.wd, h.ne, h.wr, fun j hj => by simpa using h.wlt j hj, fun j hj => by simpa using h.rlt j hj⟩
  intro i li hi
  simp only [List.getElem?_set] at hi
  have hVl : V.length = s.D.length := by have := h.own.1; omega
  by_cases hik : k = i
  · subst hik
    rw [if_pos rfl, if_pos hk] at hi
    obtain rfl := Option.some.inj hi
    exact ⟨v, by rw [List.getElem?_set, if_pos rfl, if_pos (by omega)], hs.upd hu hne (fun _ => id)⟩
  · rw [if_neg hik] at hi
    obtain ⟨u, h1, h2⟩ := h.sec i li hi
    exact ⟨u, by rw [List.getElem?_set, if_neg hik]; exact h1, h2.upd hu hne (fun _ => id)⟩
/-- the cache is empty -/
theorem DkIs.clearC {W R : Nat → Prop} {w w2 : World} {g : Nat} {s : Dk} {b : Nat} {dv : Value} {V : List Value} {M : List (Int × Value × List UInt8)} (h : DkIs w g W R s b dv V M) (hm : MapE w2 b []) (hu : Upd (fun k => k = b) w w2) : DkIs w2 g W R { s with C := [] } b dv V [] :=
  ⟨h.blk.upd hu (fun q => h.ne q), hu.owns h.own (fun k hk q => (h.wd k hk).2.2 q), fun i l hl => by obtain ⟨v, h1, h2⟩ := h.sec i l hl; exact ⟨v, h1, h2.upd hu (fun k hr q => h.wr _ h.wb (q ▸ hr)) (fun _ => id)⟩,
   hm, rfl, by simp, h.wg, h.wb, h.wd, h.ne, h.wr, fun k hk => Nat.lt_of_lt_of_le (h.wlt k hk) hu.size, fun k hk => Nat.lt_of_lt_of_le (h.rlt k hk) hu.size⟩
theorem DkIs.weaken {W R R' : Nat → Prop} {w : World} {g : Nat} {s : Dk} {b : Nat} {dv : Value} {V : List Value} {M : List (Int × Value × List UInt8)} (h : DkIs w g W R s b dv V M) (hR : ∀ k, R k → R' k) (hW : ∀ k, W k → ¬ R' k) (hl : ∀ k, R' k → k < w.heap.size) : DkIs w g W R' s b dv V M :=
  ⟨h.blk, h.own, fun i l hl => by obtain ⟨v, h1, h2⟩ := h.sec i l hl; exact ⟨v, h1, h2.1, fun k hk => hR k (h2.2 k hk)⟩, h.map, h.eqC, fun p hp => ⟨(h.msec p hp).1, fun k hk => hR k ((h.msec p hp).2 k hk)⟩, h.wg, h.wb, h.wd, h.ne, hW, h.wlt, hl⟩
/-- a state that makes sense -/
structure Dk.Ok (s : Dk) : Prop where
  key : ∀ p ∈ s.C, 0 ≤ p.1 ∧ p.1 < (s.D.length : Int) ∧ p.2.length = s.size
  sec : ∀ d ∈ s.D, d.length = s.size
  pos : 0 < s.D.length
  le : s.D.length ≤ 4096
  sz : s.size ≤ 4096
  sz0 : 16 ≤ s.size
end Go.Proofs.Ytohknblokejldaa
end
section
/- Contract: disk.Flush. -/
namespace Go.Proofs.Ytohknblokejldaa
open Go.RowKit
open Go.Lib (hid)
set_option linter.unusedVariables false

theorem dkCommand_same (s : Dk) : (dkCommand s).2.D = s.D ∧ (dkCommand s).2.C = s.C ∧ (dkCommand s).2.size = s.size := by
  unfold dkCommand
  split
  · split <;> exact ⟨rfl, rfl, rfl⟩
  · exact ⟨rfl, rfl, rfl⟩
theorem Dk.Ok.of_same {s s' : Dk} (h : s.Ok) (hD : s'.D = s.D) (hC : s'.C = s.C) (hs : s'.size = s.size) : s'.Ok :=
  ⟨by rw [hC, hD, hs]; exact h.key, by rw [hD, hs]; exact h.sec, by rw [hD]; exact h.pos, by rw [hD]; exact h.le, by rw [hs]; exact h.sz, by rw [hs]; exact h.sz0⟩
/-- what an entry of the cache says, while the sectors turn -/
theorem entry_facts {W R : Nat → Prop} {w : World} {g b gd cd : Nat} {s : Dk} {D' : List (List UInt8)} {V' : List Value} {M : List (Int × Value × List UInt8)} {vs : List (Int × Value)} (hvs : vs = (M.map fun p => (p.1, p.2.1))) (hok : s.Ok)
    (h : DkIs w g W R { s with D := D' } b (.slice (some ⟨gd, 0, none⟩) s.D.length cd) V' M) (hl : D'.length = s.D.length) {k : Int} {v : Value} (hlk : vs.lookup k = some v) :
    ∃ (kk : Nat) (l d : List UInt8) (u : Value) (a : Option Addr) (c : Nat), k = (kk : Int) ∧ kk < s.D.length ∧ s.C.lookup k = some l ∧ s.D[kk]? = some d ∧ Sec w R v l ∧ V'[kk]? = some u ∧ w.cell? ⟨gd, kk, none⟩ = some u ∧ w.frozen? ⟨gd, kk, none⟩ = false ∧ v = .slice a l.length c ∧ l.length = s.size ∧ d.length = s.size ∧ (∃ d', D'[kk]? = some d' ∧ Sec w R u d') := by
  have h1 : vs.lookup k = (M.lookup k).map (·.1) := by rw [hvs]; exact lookup_map (fun q : Value × List UInt8 => q.1) M k
  rw [hlk] at h1
  cases hM : M.lookup k with
  | none => rw [hM] at h1; simp at h1
  | some q =>
    obtain ⟨v', l⟩ := q
    rw [hM] at h1
    simp at h1
    subst h1
    have hin := lookup_mem hM
    have h2 : s.C.lookup k = some l := by
      have := h.eqC
      simp only at this
      rw [← this]
      have h3 : (M.map fun p => (p.1, p.2.2)).lookup k = (M.lookup k).map (·.2) := lookup_map (fun q : Value × List UInt8 => q.2) M k
      rw [h3, hM]; rfl
    have h4 := hok.key _ (lookup_mem h2)
    obtain ⟨kk, hkk⟩ := Int.eq_ofNat_of_zero_le h4.1
    have hlt : kk < s.D.length := by have := h4.2.1; simp only at hkk; omega
    have hVl : V'.length = s.D.length := by have := h.own.1; simp only at this; omega
    have hu : V'[kk]? = some (V'[kk]'(by omega)) := List.getElem?_eq_getElem (by omega)
    have hown : w.ownsRow 0 27 1 (.slice (some ⟨gd, 0, none⟩) s.D.length cd) s.D.length V' := by have := h.own; simp only [hl] at this; exact this
    have hd' : D'[kk]? = some (D'[kk]'(by omega)) := List.getElem?_eq_getElem (by omega)
    obtain ⟨u, hu1, hu2⟩ := h.sec kk _ hd'
    rw [hu] at hu1
    obtain rfl := Option.some.inj hu1
    have hd : s.D[kk]? = some (s.D[kk]'hlt) := List.getElem?_eq_getElem hlt
    have hms := h.msec _ hin
    obtain ⟨a, c, hv, -⟩ := hms.1
    exact ⟨kk, l, _, _, a, c, hkk, hlt, h2, hd, hms, hu, by rw [hown.cellAt kk (by omega), hu], hown.frozenAt kk, hv, h4.2.2, hok.sec _ (List.mem_of_getElem? hd), _, hd', hu2⟩
/-- the sectors, behind a flush -/
def flushD (s : Dk) : List (List UInt8) := mixF (fun _ b _ => b) s.D s.C []
def dkFlush (s : Dk) : Int × Dk := if s.down then (20, s) else if (dkCommand s).1 ≠ 0 then dkCommand s else (0, { (dkCommand s).2 with D := flushD (dkCommand s).2, C := [] })

set_option maxRecDepth 100000 in
set_option maxHeartbeats 2000000 in
theorem disk_Flush (s : Dk) (hok : s.Ok) (g : Nat) (W R : Nat → Prop) (w : World) (h : DiskIs w g W R s) (e0 : Int) (s' : Dk) (hs : Hid (dkFlush s = (e0, s'))) :
    Calls Try.prog 37 #[.pointer (some ⟨g, 0, none⟩)] w fun e w' => e = .returned (.int .i64 e0) ∧ DiskIs w' g W R s' ∧ Upd W w w' := by
  have HI := hid h
  have hs2 := hs.out
  unfold dkFlush at hs2
  obtain ⟨b0, dv0, V0, M0, hd0⟩ := h
  have hc5 : w.cell? ⟨g, 5, none⟩ = some (.bool s.down) := by rw [hd0.blk.cell]; rfl
  clear hs hd0
  cases hdn : s.down
  case true =>
    rw [hdn] at hs2 hc5
    simp only [if_true, Prod.mk.injEq] at hs2
    obtain ⟨rfl, rfl⟩ := hs2
    clear hdn
    go_enter Try.func37, Try.ntmps37
    go_wp2_with fail
    go_ret
    exact ⟨rfl, HI.out, Upd.refl _ _⟩
  rw [hdn] at hs2 hc5
  simp only [Bool.false_eq_true, if_false] at hs2
  obtain ⟨e1, s1, hcm⟩ : ∃ e1 s1, dkCommand s = (e1, s1) := ⟨_, _, rfl⟩
  rw [hcm] at hs2
  simp only at hs2
  have hsame := dkCommand_same s
  rw [hcm] at hsame
  have hok1 := hok.of_same hsame.1 hsame.2.1 hsame.2.2
  have HCM := hid hcm
  have HOK := hid hok1
  clear hcm hsame hdn hok hok1
  by_cases h1 : e1 = 0
  case neg =>
    rw [if_pos h1] at hs2
    simp only [Prod.mk.injEq] at hs2
    obtain ⟨rfl, rfl⟩ := hs2
    have hb : (e1 != 0) = true := by simpa using h1
    go_enter Try.func37, Try.ntmps37
    go_wp2_with (go_at_call 63; (with_reducible refine (disk_command s g W R _ HI.out e1 s1 HCM).mono ?_); rintro e w1 ⟨rfl, hi1, hu1⟩)
    go_ret
    exact ⟨rfl, hi1, hu1⟩
  subst h1
  rw [if_neg (by simp)] at hs2
  simp only [Prod.mk.injEq] at hs2
  obtain ⟨rfl, rfl⟩ := hs2
  go_enter Try.func37, Try.ntmps37
  go_wp2_with fail
  refine (disk_command s g W R _ HI.out 0 s1 HCM).mono ?_
  rintro e w1 ⟨rfl, ⟨b, dv, V, M, hd⟩, hu1⟩
  obtain ⟨gd, cd, rfl⟩ := Joins.ownsRow_form hd.own HOK.out.pos
  have hc2 : w1.cell? ⟨g, 2, none⟩ = some (.map (some b)) := by rw [hd.blk.cell]; rfl
  have HD := hid hd
  have HU1 := hid hu1
  obtain ⟨vs, hvs⟩ : ∃ vs, vs = (M.map fun p => (p.1, p.2.1)) := ⟨_, rfl⟩
  have HVS := hid hvs
  have hmap := hd.map
  rw [← hvs] at hmap
  have HMAP := hid hmap
  clear hd hu1 hvs hmap
  go_wp2_with (at_range; refine wpList_rangeE _ rfl _ rfl Try.underlying115 rfl HMAP.out ?_; intro w2 hr2 hb2 hs2)
  go_frame
  have HR2 := hid hr2
  have HB2 := hid hb2
  have HS2 := hid hs2
  have HM1 : Hid (mixF (fun _ b _ => b) s1.D s1.C (vs.map (·.1)) = s1.D) := hid (mixF_all _ _ _ _ (fun p hp => by
    rw [← HD.out.eqC] at hp
    obtain ⟨q, hq, rfl⟩ := List.mem_map.1 hp
    rw [HVS.out, List.map_map]
    exact List.mem_map.2 ⟨q, hq, rfl⟩))
  clear hr2 hb2 hs2
  go_loopw [4, 5] (fun v4 v5 wr => ∃ (left : List (Int × Value)) (V' : List Value), Hid (RangeE wr w1.heap.size b vs left) ∧ Hid (DkIs wr g W R { s1 with D := mixF (fun _ b _ => b) s1.D s1.C (left.map (·.1)) } b (.slice (some ⟨gd, 0, none⟩) s1.D.length cd) V' M) ∧ Hid (Upd W w1 wr)) (fun _ _ wr => rangeN wr w1.heap.size b)
  case atStart => exact ⟨vs, V, HR2, hid (by rw [HM1.out]; exact HD.out.below HB2.out), hid (Upd.of_below HB2.out)⟩
  case round =>
    clear HR2 HB2 HS2
    obtain ⟨left, V', HR, HDr, HU⟩ := hrel
    have hlen := HR.out.len
    have HLEN := hid hlen
    have hlenD : (mixF (fun _ b _ => b) s1.D s1.C (left.map (·.1))).length = s1.D.length := mixF_len _ _ _ _
    clear hlen
    have hc2r : wr.cell? ⟨g, 2, none⟩ = some (.map (some b)) := by rw [HDr.out.blk.cell]; rfl
    by_cases hl0 : left = []
    · subst hl0
      have hm := HDr.out.map
      have HM := hid hm
      clear hm hlenD
      go_wp2_with (first | (at_next; refine wpList_nextE _ rfl _ rfl rfl HR.out (fun _ => ?_) (fun k v w' hin => absurd hin (by simp))) | (with_reducible refine wpList_clearE _ rfl (.tmp 35) rfl Try.underlying115 rfl HM.out ?_))
      intro w3 hm3 hu3 hs3
      have hfin := HDr.out.clearC hm3 hu3
      have HPOST : Hid (DiskIs w3 g W R { s1 with D := flushD s1, C := [] } ∧ Upd W w w3) := hid ⟨⟨_, _, _, _, hfin⟩, (HU1.out.trans HU.out (fun _ _ x => x)).trans (hu3.mono (fun k _ q => q ▸ HD.out.wb)) (fun _ _ x => x)⟩
      clear hfin hm3 hu3 hs3
      go_wp2_with fail
      go_ret
      exact ⟨rfl, HPOST.out.1, HPOST.out.2⟩
    · have hc1r : ∀ w', Upd (fun j => j = w1.heap.size) wr w' → w'.cell? ⟨g, 1, none⟩ = some (.slice (some ⟨gd, 0, none⟩) s1.D.length cd) := fun w' hu => by
        have hg := HD.out.blk.lt
        rw [(HDr.out.blk.upd hu (fun q => by omega)).cell]; rfl
      have HC1 := hid hc1r
      clear hc1r
      have hrW : ∀ j, j = w1.heap.size → ¬ W j := fun j hj q => by have := HD.out.wlt j q; omega
      have hrR : ∀ j, j = w1.heap.size → ¬ R j := fun j hj q => by have := HD.out.rlt j q; omega
      have HRW := hid hrW
      have HRR := hid hrR
      clear hrW hrR
      go_wp2_with (at_next; refine wpList_nextE _ rfl _ rfl rfl HR.out (fun h0 => absurd h0 hl0) (fun k v w' hin hlk hr' hu' hs' hen => ?_); (have hd' := HDr.out.upd hu' HRW.out HRR.out); (obtain ⟨kk, l, d, u, va, vc, rfl, hkk, hcl, hdk, hsec, hVk, hck, hfk, rfl, hll, hdl, -⟩ := entry_facts HVS.out HOK.out hd' hlenD hlk); (have hc1' := HC1.out _ hu'); (have e0 : (0 : Int) ≤ (kk : Int) := by omega); (have e1 : (kk : Int) < (s1.D.length : Int) := by omega); (have HD2 := hid hd'); (have HSEC := hid hsec); (have HCL := hid hcl); (have HDK := hid hdk); (have HIN := hid hin); (have HR2 := hid hr'); (have HU2 := hid hu'); (have HL2 := hid hll); clear hin hlk hr' hu' hs' hd' hcl hdk hsec hVk hll hdl)
      have hgd := HD.out.wd gd rfl
      have hgl := HD.out.wlt gd hgd.1
      have hstep := mixF_step (fun _ b _ => b) s1.D s1.C (left.map (·.1)) ((adel left (kk : Int)).map (·.1)) kk l d HDK.out HCL.out (List.mem_map.2 ⟨_, HIN.out, rfl⟩) (keys_adel (kk : Int))
      have hD3 : DkIs w' g W R { s1 with D := mixF (fun _ b _ => b) s1.D s1.C (left.map (·.1)) } b (.slice (some ⟨gd, 0, none⟩) (mixF (fun _ b _ => b) s1.D s1.C (left.map (·.1))).length cd) V' M := by rw [hlenD]; exact HD2.out
      have hD4 := hD3.setD kk HSEC.out (by rw [hlenD]; exact hkk)
      have hD5 : DkIs (w'.setCell ⟨gd, kk, none⟩ (.slice va l.length vc)) g W R { s1 with D := mixF (fun _ b _ => b) s1.D s1.C ((adel left (kk : Int)).map (·.1)) } b (.slice (some ⟨gd, 0, none⟩) s1.D.length cd) (V'.set kk (.slice va l.length vc)) M := by
        rw [hstep.2]
        have e : ((mixF (fun _ b _ => b) s1.D s1.C (left.map (·.1))).set kk l).length = s1.D.length := by rw [List.length_set, hlenD]
        simp only [e] at hD4
        exact hD4
      have hR5 := HR2.out.upd (Upd.setCell w' gd kk (.slice va l.length vc)) (fun q => by omega) (fun q => hgd.2.2 q.symm)
      refine ⟨⟨adel left (kk : Int), V'.set kk (.slice va l.length vc), hid hR5, hid hD5, hid ((HU.out.trans HU2.out (fun j hj q => by omega)).trans (Upd.setCell w' gd kk _) (fun j _ q => q ▸ hgd.1))⟩, ?_⟩
      rw [hR5.len, HLEN.out]
      exact adel_len HIN.out
end Go.Proofs.Ytohknblokejldaa
end
