/- Joined texts, in this order: Ref19c. Each one's first remark says what it proves; no condition beyond those that its theorems name. -/
import Derived.Test.YtjbnfppnmljbmaaGreatJLawLandFinds24
section
/- The document's land: contracts of Free, Claim. -/
namespace Go.Proofs.YtjbnfppnmljbmaaGreat
open Go.RowKit Go.Deep
open Go.Lib (hid)
set_option linter.unusedVariables false
attribute [local go_sem] Oper.semAt_some

theorem T_plot : SlT Tryz.prog 30 45 (.agg #[.int .i64 0, .int .i64 0, .int .i64 0, .int .i64 0, .int .i64 0]) 5 40 := SlT.mk' Tryz.underlying30 (by kernel_rfl) rfl (by decide) (by decide)
def XPost (w : World) (S : Int) (vs vp : Value) (P' : List Pl) (E : Int) (e : Ending) (w' : World) : Prop :=
  ∃ vp', e = .returned (.tuple #[xV S vs vp', .int .i64 E]) ∧ SlPl w' vp' P' ∧ (vp' = vp ∨ ∀ b, vp'.ownBlock = some b → w.heap.size ≤ b ∧ b < w'.heap.size) ∧ Below w.heap.size w w'
theorem XPost.same {w w' : World} {S : Int} {vs vp : Value} {P : List Pl} (h : SlPl w vp P) (hb : Below w.heap.size w w') (E : Int) : XPost w S vs vp P E (.returned (.tuple #[xV S vs vp, .int .i64 E])) w' := ⟨vp, rfl, h.below hb, .inl rfl, hb⟩
theorem freeP_snoc (P : List Pl) (p : Pl) (id : Int) : freeP (P ++ [p]) id = freeP P id ++ (if p.1 = id then [] else [p]) := by
  unfold freeP
  rw [List.filter_append]
  by_cases h : p.1 = id <;> simp [h]
def FrR (w1 : World) (P : List Pl) (id : Int) (np : Nat) (v7 v8 : Value) (wr : World) : Prop := ∃ (j : Nat) (vo : Value), vo = v7 ∧ v8 = .int .i64 (j : Int) ∧ j ≤ np ∧ Hid (wr.ownsRow w1.heap.size 45 5 v7 (freeP (P.take j) id).length (svP (freeP (P.take j) id))) ∧ Hid (Below w1.heap.size w1 wr)
set_option maxRecDepth 100000 in
set_option maxHeartbeats 4000000 in
theorem ref19_Free (S : Int) (sa ap : Option Addr) (nb cb np cp : Nat) (P : List Pl) (id : Int) (w : World) (hp : SlPl w (.slice ap np cp) P) (hl : P.length ≤ 1000) (hnd : (P.map (·.1)).Nodup) : Calls Tryz.prog 40 #[.agg #[.int .i64 S, .slice sa nb cb, .slice ap np cp], .int .i64 id] w (XPost w S (.slice sa nb cb) (.slice ap np cp) (freeP P id) (freeE P id)) := by
  have hnp : P.length = np := by obtain ⟨a, c, e, -⟩ := hp; simp only [Value.slice.injEq] at e; exact e.2.1.symm
  have HP := hid hp
  have HN := hid hnp
  have HND := hid hnd
  have HL := hid hl
  rw [hnp] at hl
  clear hp hnp hnd
  go_enter Tryz.func40, Tryz.ntmps40
  go_upto_region 1 with fail
  generalize hW : World.alloc (World.alloc w _) _ = w1
  obtain ⟨g, hg⟩ : ∃ g, g = w.heap.size := ⟨_, rfl⟩
  obtain ⟨gr, hgr⟩ : ∃ go, go = w.heap.size + 1 := ⟨_, rfl⟩
  have hz : (World.alloc w (.cells #[.int .i64 S, .slice sa nb cb, .slice ap np cp] 32)).heap.size = w.heap.size + 1 := by simp
  try rw [hz]
  try rw [← hgr]
  try rw [← hg]
  have hb1 : Below w.heap.size w w1 := by rw [← hW]; exact Below.next (Below.new _ _) (Below.new _ _)
  have HX1 : Hid (Blk w1 g #[.int .i64 S, .slice sa nb cb, .slice ap np cp]) := hid (by rw [← hW, hg]; exact (Blk.new w _ _).below (Below.new _ _))
  have HR1 : Hid (Blk w1 gr #[.int .i64 0, .slice none 0 0, .slice none 0 0]) := hid (by rw [← hW, hgr, ← hz]; exact Blk.new _ _ _)
  have HB1 := hid hb1
  have HG : Hid (g = w.heap.size ∧ gr = w.heap.size + 1) := hid ⟨hg, hgr⟩
  clear hW hg hgr hz hb1
  obtain ⟨l0, l1, l2⟩ := HX1.out.c3v
  go_wp2_with fail
  refine (ref19_Find S sa ap nb cb np cp P id w1 (HP.out.below HB1.out) HL.out).mono ?_
  rintro e w2 ⟨r, rfl, hfr, hb⟩
  have HFR := hid hfr
  have HB2 := hid (Below.next HB1.out hb)
  have HX2 := hid (HX1.out.below hb)
  have HR2 := hid (HR1.out.below hb)
  clear hb hfr l0 l1 l2
  rcases HFR.out with ⟨i, hri, p, hpi, hpid⟩ | ⟨hrm, hno⟩
  case inr =>
    subst hrm
    have HE : Hid (freeE P id = 14 ∧ freeP P id = P) := hid (by
      refine ⟨by unfold freeE; rw [lookup_none_iff.2 hno]; rfl, ?_⟩
      unfold freeP
      rw [List.filter_eq_self]
      intro p hp
      simpa using hno p hp)
    clear hno
    obtain ⟨l0, l1, l2⟩ := HX2.out.c3v
    obtain ⟨q0, q1, q2⟩ := HR2.out.c3v
    have f0 : w2.frozen? ⟨gr, 0, none⟩ = false := HR2.out.unfrozen 0
    have f1 : w2.frozen? ⟨gr, 1, none⟩ = false := HR2.out.unfrozen 1
    have f2 : w2.frozen? ⟨gr, 2, none⟩ = false := HR2.out.unfrozen 2
    obtain ⟨wz, hwz, hkz, huz⟩ := set3v HR2.out (.int .i64 S) (.slice sa nb cb) (.slice ap np cp)
    have HWZ := hid hwz
    have HKZ := hid hkz
    have HBZ := hid (HB2.out.trans (huz.below HB2.out.size (fun b _ e => by have := HG.out; omega)))
    clear hwz hkz huz
    go_wp2_with fail
    try rw [← HWZ.out]
    obtain ⟨z0, z1, z2⟩ := HKZ.out.c3v
    refine bodyPost_ret (results_cell_tmp rfl _ _ _ rfl (by go_simp; rfl)) rfl ?_
    rw [HE.out.1, HE.out.2]
    exact XPost.same HP.out HBZ.out 14
  subst hri
  have i0 : ¬ (i : Int) < 0 := by omega
  have HAT := hid (And.intro hpi hpid)
  have HE : Hid (freeE P id = 0) := hid (by
    unfold freeE
    have : P.lookup id = some p.2 := (lookup_mem_iff HND.out).2 (by rw [← hpid]; exact List.mem_of_getElem? hpi)
    rw [this]; rfl)
  clear hpi hpid
  go_wp2_with fail
  go_loopw [7, 8] (fun v7 v8 wr => FrR w2 P id np v7 v8 wr) (fun _ v8 _ => np - (intOf v8).toNat)
  case atStart => exact ⟨0, _, rfl, rfl, by omega, hid (by simpa [freeP, svP] using World.ownsRow_nil _ _ _ _), hid (Below.refl _ _)⟩
  case round =>
    obtain ⟨j, vo, hvo, rfl, hj, HO, HB⟩ := hrel
    subst hvo
    obtain ⟨l0, l1, l2⟩ := (HX2.out.below HB.out).c3v
    by_cases hlt : j < np
    · have j1 : (j : Int) < (np : Int) := by omega
      have j0 : (0 : Int) ≤ (j : Int) := by omega
      have j9 : (j : Int) < 1000 := by omega
      obtain ⟨a', c', e', hrd, -⟩ := (HP.out.below HB2.out).below HB.out
      simp only [Value.slice.injEq] at e'
      obtain ⟨rfl, -, rfl⟩ := e'
      obtain ⟨b0, off, x, rfl, d0, d1, d2, d3, d4, hat, -, htk⟩ := hrd.fiveP j (by rw [HN.out]; exact hlt)
      have HTK := hid htk
      have HJI : Hid (j = i ↔ x.1 = id) := hid (by
        have h1 := HAT.out.1
        have h2 := HAT.out.2
        constructor
        · intro e; subst e; rw [hat] at h1; cases h1; exact h2
        · intro e
          have hxm := List.mem_of_getElem? hat
          have hpm := List.mem_of_getElem? h1
          have e1 : (P.map (·.1))[j]? = some id := by rw [List.getElem?_map, hat]; simp [e]
          have e2 : (P.map (·.1))[i]? = some id := by rw [List.getElem?_map, h1]; simp [h2]
          exact (List.getElem?_inj (by rw [List.length_map, HN.out]; exact hlt) HND.out).1 (by rw [e1, e2]))
      obtain ⟨pi, x1, x2, x3, x4⟩ := x
      simp only at d0 d1 d2 d3 d4
      have hle : (freeP (P.take j) id).length ≤ 1000 := by
        have : (freeP (P.take j) id).length ≤ (P.take j).length := List.length_filter_le _ _
        rw [List.length_take] at this; omega
      have hsz := HB.out.size
      clear hrd hat htk l0 l1
      by_cases he : j = i
      · have HF : Hid (freeP (P.take (j + 1)) id = freeP (P.take j) id) := hid (by rw [HTK.out, freeP_snoc, if_pos (HJI.out.1 he), List.append_nil])
        have hbe : ((j : Int) != (i : Int)) = false := by subst he; simp
        clear he d0 d1 d2 d3 d4
        go_wp2
        go_roundw
        case rel => exact ⟨j + 1, _, rfl, by go_num, by omega, hid (by rw [HF.out]; exact HO.out), HB⟩
        case measure => simp [intOf]; omega
      · have HF : Hid (freeP (P.take (j + 1)) id = freeP (P.take j) id ++ [(pi, x1, x2, x3, x4)]) := hid (by rw [HTK.out, freeP_snoc, if_neg (fun z => he (HJI.out.2 z))])
        have hbe : ((j : Int) != (i : Int)) = true := by simp; omega
        clear he
        go_wp2_with (at_builtin; refine wpList_append1w T_plot _ rfl _ _ #[.int .i64 pi, .int .i64 x1, .int .i64 x2, .int .i64 x3, .int .i64 x4] rfl w2.heap.size _ _ _ rfl HO.out rfl rfl (by intro u hu; simp at hu; rcases hu with rfl | rfl | rfl | rfl | rfl <;> rfl) ?c2 ?c3 ?_)
        case c2 => omega
        try (case c3 => omega)
        intro v' w4 hown' hgrow hne hwh
        have HO4 : Hid (w4.ownsRow w2.heap.size 45 5 v' (freeP (P.take (j + 1)) id).length (svP (freeP (P.take (j + 1)) id))) := hid (by
          rw [HF.out, svP_append, List.length_append]; exact hown')
        have HB4 : Hid (Below w2.heap.size w2 w4) := hid (HB.out.grown hgrow hsz (fun k hk => (HO.out.lt k hk).1))
        clear hown' hgrow hwh hne d0 d1 d2 d3 d4
        go_wp2
        go_roundw
        case rel => exact ⟨j + 1, _, rfl, by go_num, by omega, HO4, HB4⟩
        case measure => simp [intOf]; omega
    · obtain ⟨wo, hwo⟩ : ∃ wo, wo = wr := ⟨_, rfl⟩
      subst hwo
      have j1 : ¬ (j : Int) < (np : Int) := by omega
      have HOF : Hid (wo.ownsRow w2.heap.size 45 5 vo (freeP P id).length (svP (freeP P id))) := hid (by
        have h1 := HO.out
        rw [List.take_of_length_le (by rw [HN.out]; omega)] at h1
        exact h1)
      obtain ⟨av, cv, hv, -⟩ := ownsRow.rd HOF.out
      obtain ⟨m, hm⟩ : ∃ m, (freeP P id).length = m := ⟨_, rfl⟩
      rw [hm] at hv
      subst hv
      have HG2 : Hid (g < w2.heap.size ∧ gr < w2.heap.size) := hid ⟨HX2.out.lt, HR2.out.lt⟩
      have hfl : wo.frozen? ⟨g, 2, none⟩ = false := (HX2.out.below HB.out).unfrozen 2
      clear hm
      go_upto_region 11 with fail
      obtain ⟨wA, hwA⟩ : ∃ wA, wA = wo.setCell ⟨g, 2, none⟩ (.slice av m cv) := ⟨_, rfl⟩
      rw [← hwA]
      have huA : Upd (fun b => b = g) wo wA := by rw [hwA]; exact Upd.setCell wo g 2 _
      have hkA : Blk wA g #[.int .i64 S, .slice sa nb cb, .slice av m cv] := by rw [hwA]; simpa using (HX2.out.below HB.out).set 2 (.slice av m cv)
      have hrA : Blk wA gr #[.int .i64 0, .slice none 0 0, .slice none 0 0] := (HR2.out.below HB.out).upd huA (by have := HG.out; omega)
      have HUA := hid huA
      have HRA := hid hrA
      clear l0 l1 l2 hfl hwA huA
      obtain ⟨l0, l1, l2⟩ := hkA.c3v
      obtain ⟨q0, q1, q2⟩ := hrA.c3v
      have f0 : wA.frozen? ⟨gr, 0, none⟩ = false := hrA.unfrozen 0
      have f1 : wA.frozen? ⟨gr, 1, none⟩ = false := hrA.unfrozen 1
      have f2 : wA.frozen? ⟨gr, 2, none⟩ = false := hrA.unfrozen 2
      obtain ⟨wz, hwz, hkz, huz⟩ := set3v hrA (.int .i64 S) (.slice sa nb cb) (.slice av m cv)
      have HWZ := hid hwz
      have HKZ := hid hkz
      have HUZ := hid huz
      clear hwz hkz huz hkA hrA
      go_wp2_with fail
      try rw [← HWZ.out]
      obtain ⟨z0, z1, z2⟩ := HKZ.out.c3v
      refine bodyPost_ret (results_cell_tmp rfl _ _ _ rfl (by go_simp; rfl)) rfl ?_
      rw [HE.out]
      have hu : Upd (fun b => b = g ∨ b = gr) wo wz := (HUA.out.mono (fun _ _ q => .inl q)).trans HUZ.out (fun _ _ q => .inr q)
      have hoz := Upd.owns hu HOF.out (fun b hb q => by have h1 := (HOF.out.lt b hb).1; have h2 := HG2.out; omega)
      have hbb := Below.next HB2.out HB.out
      have hbz : Below w.heap.size w wz := hbb.trans (hu.below hbb.size (fun b _ q => by have := HG.out; omega))
      exact ⟨_, rfl, SlPl.of_own hoz, .inr (fun b hb => ⟨by have h1 := (hoz.lt b hb).1; have h2 := HB2.out.size; omega, (hoz.lt b hb).2⟩), hbz⟩

theorem insK_endC {x : Pl} : ∀ (P : List Pl), (∀ p ∈ P, keyP p < keyP x) → insK keyP P x = P ++ [x]
  | [], _ => rfl
  | p :: P, h => by
    rw [insK_cons, if_pos (h p (by simp)), insK_endC P (fun q hq => h q (List.mem_cons_of_mem _ hq))]
    rfl
theorem insK_snoc_done {x p : Pl} : ∀ (A : List Pl), (∃ q ∈ A, ¬ keyP q < keyP x) → insK keyP (A ++ [p]) x = insK keyP A x ++ [p]
  | [], h => by obtain ⟨q, hq, -⟩ := h; simp at hq
  | a :: A, h => by
    rw [List.cons_append, insK_cons, insK_cons]
    by_cases e : keyP a < keyP x
    · rw [if_pos e, if_pos e, insK_snoc_done A (by
        obtain ⟨q, hq, hn⟩ := h
        rcases List.mem_cons.1 hq with rfl | hq
        · exact absurd e hn
        · exact ⟨q, hq, hn⟩)]
      rfl
    · rw [if_neg e, if_neg e]; rfl
theorem insK_snoc_here {x p : Pl} (hp : ¬ keyP p < keyP x) : ∀ (A : List Pl), (∀ q ∈ A, keyP q < keyP x) → insK keyP (A ++ [p]) x = A ++ [x] ++ [p]
  | [], _ => by rw [List.nil_append, insK_cons, if_neg hp]; rfl
  | a :: A, h => by
    rw [List.cons_append, insK_cons, if_pos (h a (by simp)), insK_snoc_here hp A (fun q hq => h q (List.mem_cons_of_mem _ hq))]
    rfl
/-- what lies in 'out' -/
def outC (A : List Pl) (x : Pl) (dn : Bool) : List Pl := if dn then insK keyP A x else A
/-- has the new one been laid already? -/
def DoneP (A : List Pl) (id : Int) (dn : Bool) : Prop := (dn = true → ∃ q ∈ A, ¬ keyP q < id) ∧ (dn = false → ∀ q ∈ A, keyP q < id)
def ClR (w1 : World) (P : List Pl) (id : Int) (r : R4) (np g gr g5 : Nat) (S : Int) (vs vp : Value) (v9 v10 v11 : Value) (wr : World) : Prop := ∃ (j : Nat) (vo : Value) (dn : Bool), vo = v9 ∧ v10 = .bool dn ∧ v11 = .int .i64 (j : Int) ∧ j ≤ np ∧ Hid (DoneP (P.take j) id dn) ∧ Hid (wr.ownsRow w1.heap.size 45 5 v9 (outC (P.take j) (id, r) dn).length (svP (outC (P.take j) (id, r) dn))) ∧ Hid (Below w1.heap.size w1 wr)
theorem outC_len (A : List Pl) (x : Pl) (dn : Bool) : (outC A x dn).length ≤ A.length + 1 := by
  unfold outC; split
  · rw [insK_len]; omega
  · omega
set_option maxRecDepth 100000 in
set_option maxHeartbeats 8000000 in
theorem ref19_Claim (S : Int) (sa ap : Option Addr) (nb cb np cp : Nat) (B : List R4) (P : List Pl) (id rx ry ra rb : Int) (w : World) (hs : SlR w (.slice sa nb cb) B) (hp : SlPl w (.slice ap np cp) P) (hlB : B.length ≤ 1000) (hl : P.length ≤ 1000) : Calls Tryz.prog 39 #[.agg #[.int .i64 S, .slice sa nb cb, .slice ap np cp], .int .i64 id, .agg #[.int .i64 rx, .int .i64 ry, .int .i64 ra, .int .i64 rb]] w (XPost w S (.slice sa nb cb) (.slice ap np cp) (claimP S B P id (rx, ry, ra, rb)) (claimE S B P id (rx, ry, ra, rb))) := by
  have hnp : P.length = np := by obtain ⟨a, c, e, -⟩ := hp; simp only [Value.slice.injEq] at e; exact e.2.1.symm
  have HS := hid hs
  have HP := hid hp
  have HN := hid hnp
  have HL := hid (And.intro hlB hl)
  rw [hnp] at hl
  clear hs hp hnp hlB
  go_enter Tryz.func39, Tryz.ntmps39
  go_upto_region 1 with fail
  generalize hW : World.alloc (World.alloc (World.alloc w _) _) _ = w1
  obtain ⟨g, hg⟩ : ∃ g, g = w.heap.size := ⟨_, rfl⟩
  obtain ⟨g5, hg5⟩ : ∃ go, go = w.heap.size + 1 := ⟨_, rfl⟩
  obtain ⟨gr, hgr⟩ : ∃ go, go = w.heap.size + 1 + 1 := ⟨_, rfl⟩
  have hz : (World.alloc w (.cells #[.int .i64 S, .slice sa nb cb, .slice ap np cp] 32)).heap.size = w.heap.size + 1 := by simp
  have hz2 : (World.alloc (World.alloc w (.cells #[.int .i64 S, .slice sa nb cb, .slice ap np cp] 32)) (.cells #[.int .i64 rx, .int .i64 ry, .int .i64 ra, .int .i64 rb] 38)).heap.size = w.heap.size + 1 + 1 := by simp
  try rw [hz2]
  try rw [hz]
  try rw [← hgr]
  try rw [← hg5]
  try rw [← hg]
  have hb1 : Below w.heap.size w w1 := by rw [← hW]; exact Below.next (Below.next (Below.new _ _) (Below.new _ _)) (Below.new _ _)
  have HX1 : Hid (Blk w1 g #[.int .i64 S, .slice sa nb cb, .slice ap np cp]) := hid (by rw [← hW, hg]; exact ((Blk.new w _ _).below (Below.new _ _)).below (Below.new _ _))
  have HQ1 : Hid (Blk w1 g5 #[.int .i64 rx, .int .i64 ry, .int .i64 ra, .int .i64 rb]) := hid (by rw [← hW, hg5, ← hz]; exact (Blk.new _ _ _).below (Below.new _ _))
  have HR1 : Hid (Blk w1 gr #[.int .i64 0, .slice none 0 0, .slice none 0 0]) := hid (by rw [← hW, hgr, ← hz2]; exact Blk.new _ _ _)
  have HB1 := hid hb1
  have HG : Hid (g = w.heap.size ∧ g5 = w.heap.size + 1 ∧ gr = w.heap.size + 2) := hid ⟨hg, hg5, by omega⟩
  clear hW hg hg5 hgr hz hz2 hb1
  by_cases hid1 : id < 1
  · have HE : Hid (claimE S B P id (rx, ry, ra, rb) = 10 ∧ claimP S B P id (rx, ry, ra, rb) = P) := hid (by
      have e : claimE S B P id (rx, ry, ra, rb) = 10 := by unfold claimE; rw [if_pos hid1]
      exact ⟨e, by unfold claimP; rw [e]; rfl⟩)
    obtain ⟨l0, l1, l2⟩ := HX1.out.c3v
    obtain ⟨q0, q1, q2⟩ := HR1.out.c3v
    have f0 : w1.frozen? ⟨gr, 0, none⟩ = false := HR1.out.unfrozen 0
    have f1 : w1.frozen? ⟨gr, 1, none⟩ = false := HR1.out.unfrozen 1
    have f2 : w1.frozen? ⟨gr, 2, none⟩ = false := HR1.out.unfrozen 2
    obtain ⟨wz, hwz, hkz, huz⟩ := set3v HR1.out (.int .i64 S) (.slice sa nb cb) (.slice ap np cp)
    have HWZ := hid hwz
    have HKZ := hid hkz
    have HBZ := hid (HB1.out.trans (huz.below HB1.out.size (fun b _ e => by have := HG.out; omega)))
    clear hwz hkz huz
    go_wp2_with fail
    try rw [← HWZ.out]
    obtain ⟨z0, z1, z2⟩ := HKZ.out.c3v
    refine bodyPost_ret (results_cell_tmp rfl _ _ _ rfl (by go_simp; rfl)) rfl ?_
    rw [HE.out.1, HE.out.2]
    exact XPost.same HP.out HBZ.out 10
  have HID := hid hid1
  obtain ⟨l0, l1, l2⟩ := HX1.out.c3v
  go_wp2_with fail
  refine (ref19_Find S sa ap nb cb np cp P id w1 (HP.out.below HB1.out) HL.out.2).mono ?_
  rintro e w2 ⟨r, rfl, hfr, hb⟩
  have HB2 := hid (Below.next HB1.out hb)
  have HX2 := hid (HX1.out.below hb)
  have HQ2 := hid (HQ1.out.below hb)
  have HR2 := hid (HR1.out.below hb)
  clear hb l0 l1 l2
  rcases hfr with ⟨i, rfl, p, hpi, hpid⟩ | ⟨rfl, hno⟩
  · have i0 : (0 : Int) ≤ (i : Int) := by omega
    have HE : Hid (claimE S B P id (rx, ry, ra, rb) = 13 ∧ claimP S B P id (rx, ry, ra, rb) = P) := hid (by
      have e : claimE S B P id (rx, ry, ra, rb) = 13 := by
        unfold claimE
        rw [if_neg (by have := HID.out; omega), if_pos]
        cases hq : P.lookup id with
        | none => exact absurd hpid (lookup_none_iff.1 hq p (List.mem_of_getElem? hpi))
        | some v => rfl
      exact ⟨e, by unfold claimP; rw [e]; rfl⟩)
    clear hpi hpid
    obtain ⟨l0, l1, l2⟩ := HX2.out.c3v
    obtain ⟨q0, q1, q2⟩ := HR2.out.c3v
    have f0 : w2.frozen? ⟨gr, 0, none⟩ = false := HR2.out.unfrozen 0
    have f1 : w2.frozen? ⟨gr, 1, none⟩ = false := HR2.out.unfrozen 1
    have f2 : w2.frozen? ⟨gr, 2, none⟩ = false := HR2.out.unfrozen 2
    obtain ⟨wz, hwz, hkz, huz⟩ := set3v HR2.out (.int .i64 S) (.slice sa nb cb) (.slice ap np cp)
    have HWZ := hid hwz
    have HKZ := hid hkz
    have HBZ := hid (HB2.out.trans (huz.below HB2.out.size (fun b _ e => by have := HG.out; omega)))
    clear hwz hkz huz
    go_wp2_with fail
    try rw [← HWZ.out]
    obtain ⟨z0, z1, z2⟩ := HKZ.out.c3v
    refine bodyPost_ret (results_cell_tmp rfl _ _ _ rfl (by go_simp; rfl)) rfl ?_
    rw [HE.out.1, HE.out.2]
    exact XPost.same HP.out HBZ.out 13
  have HNO := hid hno
  have HCE : Hid (claimE S B P id (rx, ry, ra, rb) = mayX S B P (rx, ry, ra, rb)) := hid (by unfold claimE; rw [if_neg (by have := HID.out; omega), lookup_none_iff.2 hno]; rfl)
  obtain ⟨E, hE⟩ : ∃ E, mayX S B P (rx, ry, ra, rb) = E := ⟨_, rfl⟩
  have hmay := fun z (hz : Below w.heap.size w z) => ref19_May S sa ap nb cb np cp B P rx ry ra rb z (HS.out.below hz) (HP.out.below hz) HL.out.1 HL.out.2
  rw [hE] at hmay HCE
  have HMY := hid hmay
  clear hmay hE hno
  obtain ⟨l0, l1, l2⟩ := HX2.out.c3v
  obtain ⟨r0, r1, r2, r3⟩ := HQ2.out.c4r
  go_wp2_with fail
  refine (HMY.out w2 HB2.out).mono ?_
  rintro e w3 ⟨rfl, hb⟩
  have HB3 := hid (Below.next HB2.out hb)
  have HX3 := hid (HX2.out.below hb)
  have HQ3 := hid (HQ2.out.below hb)
  have HR3 := hid (HR2.out.below hb)
  clear hb l0 l1 l2 r0 r1 r2 r3
  by_cases hE0 : E = 0
  case neg =>
    have HE : Hid (claimE S B P id (rx, ry, ra, rb) = E ∧ claimP S B P id (rx, ry, ra, rb) = P) := hid ⟨HCE.out, by unfold claimP; rw [HCE.out, if_neg hE0]⟩
    have hbe : (E != 0) = true := by simpa using hE0
    have hbe2 : (E == 0) = false := by simpa using hE0
    clear hE0
    obtain ⟨l0, l1, l2⟩ := HX3.out.c3v
    obtain ⟨q0, q1, q2⟩ := HR3.out.c3v
    have f0 : w3.frozen? ⟨gr, 0, none⟩ = false := HR3.out.unfrozen 0
    have f1 : w3.frozen? ⟨gr, 1, none⟩ = false := HR3.out.unfrozen 1
    have f2 : w3.frozen? ⟨gr, 2, none⟩ = false := HR3.out.unfrozen 2
    obtain ⟨wz, hwz, hkz, huz⟩ := set3v HR3.out (.int .i64 S) (.slice sa nb cb) (.slice ap np cp)
    have HWZ := hid hwz
    have HKZ := hid hkz
    have HBZ := hid (HB3.out.trans (huz.below HB3.out.size (fun b _ e => by have := HG.out; omega)))
    clear hwz hkz huz
    go_wp2_with fail
    try rw [← HWZ.out]
    obtain ⟨z0, z1, z2⟩ := HKZ.out.c3v
    refine bodyPost_ret (results_cell_tmp rfl _ _ _ rfl (by go_simp; rfl)) rfl ?_
    rw [HE.out.1, HE.out.2]
    exact XPost.same HP.out HBZ.out E
  subst hE0
  have HCP : Hid (claimP S B P id (rx, ry, ra, rb) = insK keyP P (id, (rx, ry, ra, rb))) := hid (by unfold claimP; rw [if_pos HCE.out])
  go_wp2_with fail
  go_loopw [9, 10, 11] (fun v9 v10 v11 wr => ClR w3 P id (rx, ry, ra, rb) np g gr g5 S (.slice sa nb cb) (.slice ap np cp) v9 v10 v11 wr) (fun _ _ v11 _ => np - (intOf v11).toNat)
  case atStart => exact ⟨0, _, false, rfl, rfl, rfl, by omega, hid ⟨by simp, by simp⟩, hid (by simpa [outC, svP] using World.ownsRow_nil _ _ _ _), hid (Below.refl _ _)⟩
  case round =>
    obtain ⟨j, vo, dn, hvo, rfl, rfl, hj, HD, HO, HB⟩ := hrel
    subst hvo
    obtain ⟨l0, l1, l2⟩ := (HX3.out.below HB.out).c3v
    by_cases hlt : j < np
    · have j1 : (j : Int) < (np : Int) := by omega
      have j0 : (0 : Int) ≤ (j : Int) := by omega
      have j9 : (j : Int) < 1000 := by omega
      obtain ⟨a', c', e', hrd, -⟩ := (HP.out.below HB3.out).below HB.out
      simp only [Value.slice.injEq] at e'
      obtain ⟨rfl, -, rfl⟩ := e'
      obtain ⟨b0, off, x, rfl, d0, d1, d2, d3, d4, hat, -, htk⟩ := hrd.fiveP j (by rw [HN.out]; exact hlt)
      have HTK := hid htk
      have HXN : Hid (x.1 ≠ id) := hid (HNO.out x (List.mem_of_getElem? hat))
      obtain ⟨pi, x1, x2, x3, x4⟩ := x
      simp only at d0 d1 d2 d3 d4
      have hle : (outC (P.take j) (id, (rx, ry, ra, rb)) dn).length ≤ 1001 := by
        have := outC_len (P.take j) (id, (rx, ry, ra, rb)) dn
        rw [List.length_take] at this; omega
      have hsz := HB.out.size
      have HB0 : Hid (b0 < w3.heap.size) := hid (by
        obtain ⟨a3, c3, e3, hrd3, -⟩ := HP.out.below HB3.out
        simp only [Value.slice.injEq] at e3
        obtain ⟨rfl, -, rfl⟩ := e3
        obtain ⟨b3, off3, t3, e4, hc3, -⟩ := hrd3.fiveP j (by rw [HN.out]; exact hlt)
        simp only [Option.some.injEq, Addr.mk.injEq] at e4
        obtain ⟨rfl, -⟩ := e4
        exact World.block_lt_of_cell? _ _ hc3)
      clear hrd hat htk l0 l1
      cases dn with
      | true =>
        have HF : Hid (outC (P.take (j + 1)) (id, (rx, ry, ra, rb)) true = outC (P.take j) (id, (rx, ry, ra, rb)) true ++ [(pi, x1, x2, x3, x4)]) := hid (by
          rw [HTK.out]; unfold outC; rw [if_pos rfl, if_pos rfl]
          exact insK_snoc_done _ (HD.out.1 rfl))
        have HD2 : Hid (DoneP (P.take (j + 1)) id true) := hid ⟨fun _ => by
          obtain ⟨q, hq, hn⟩ := HD.out.1 rfl
          exact ⟨q, by rw [HTK.out]; exact List.mem_append_left _ hq, hn⟩, fun e => by cases e⟩
        go_wp2_with (at_builtin; refine wpList_append1w T_plot _ rfl _ _ #[.int .i64 pi, .int .i64 x1, .int .i64 x2, .int .i64 x3, .int .i64 x4] rfl w3.heap.size _ _ _ rfl HO.out rfl rfl (by intro u hu; simp at hu; rcases hu with rfl | rfl | rfl | rfl | rfl <;> rfl) ?c2 ?c3 ?_)
        case c2 => omega
        try (case c3 => omega)
        intro v' w4 hown' hgrow hne hwh
        have HO4 : Hid (w4.ownsRow w3.heap.size 45 5 v' (outC (P.take (j + 1)) (id, (rx, ry, ra, rb)) true).length (svP (outC (P.take (j + 1)) (id, (rx, ry, ra, rb)) true))) := hid (by
          rw [HF.out, svP_append, List.length_append]; exact hown')
        have HB4 : Hid (Below w3.heap.size w3 w4) := hid (HB.out.grown hgrow hsz (fun k hk => (HO.out.lt k hk).1))
        clear hown' hgrow hwh hne d0 d1 d2 d3 d4
        go_wp2
        go_roundw
        case rel => exact ⟨j + 1, _, true, rfl, rfl, by go_num, by omega, HD2, HO4, HB4⟩
        case measure => simp [intOf]; omega
      | false =>
        by_cases hgt : id < pi
        · have HF : Hid (outC (P.take (j + 1)) (id, (rx, ry, ra, rb)) true = (outC (P.take j) (id, (rx, ry, ra, rb)) false ++ [(id, (rx, ry, ra, rb))]) ++ [(pi, x1, x2, x3, x4)]) := hid (by
            rw [HTK.out]; unfold outC; rw [if_pos rfl, if_neg (by simp)]
            exact insK_snoc_here (by show ¬ pi < id; omega) _ (HD.out.2 rfl))
          have HD2 : Hid (DoneP (P.take (j + 1)) id true) := hid ⟨fun _ => ⟨(pi, x1, x2, x3, x4), by rw [HTK.out]; simp, by show ¬ pi < id; omega⟩, fun e => by cases e⟩
          obtain ⟨r0, r1, r2, r3⟩ := (HQ3.out.below HB.out).c4r
          have HDD := hid (And.intro d0 (And.intro d1 (And.intro d2 (And.intro d3 d4))))
          have HL2 := hid l2
          go_wp2_with (at_builtin; refine wpList_append1w T_plot _ rfl _ _ #[.int .i64 id, .int .i64 rx, .int .i64 ry, .int .i64 ra, .int .i64 rb] rfl w3.heap.size _ _ _ rfl HO.out rfl rfl (by intro u hu; simp at hu; rcases hu with rfl | rfl | rfl | rfl | rfl <;> rfl) ?c2 ?c3 ?_)
          case c2 => omega
          try (case c3 => omega)
          intro v' w4 hown' hgrow hne hwh
          have HO4 := hid hown'
          have HB4 : Hid (Below w3.heap.size w3 w4) := hid (HB.out.grown hgrow hsz (fun k hk => (HO.out.lt k hk).1))
          have huG : Upd (fun k => Value.ownBlock vo = some k) wr w4 := Upd.of_grown hgrow
          have hnb : ¬ (Value.ownBlock vo = some b0) := fun q => by have h1 := (HO.out.lt b0 q).1; have h2 := HB0.out; omega
          have hng : ¬ (Value.ownBlock vo = some g) := fun q => by have h1 := (HO.out.lt g q).1; have h2 := HX3.out.lt; omega
          clear d0 d1 d2 d3 d4 l2 r0 r1 r2 r3
          obtain ⟨d0, d1, d2, d3, d4⟩ := HDD.out
          replace d0 := huG.cell d0 hnb
          replace d1 := huG.cell d1 hnb
          replace d2 := huG.cell d2 hnb
          replace d3 := huG.cell d3 hnb
          replace d4 := huG.cell d4 hnb
          have l2 := huG.cell HL2.out hng
          have hsz4 := HB4.out.size
          clear hown' hgrow hwh hne huG hnb hng
          go_wp2_with (at_builtin; refine wpList_append1w T_plot _ rfl _ _ #[.int .i64 pi, .int .i64 x1, .int .i64 x2, .int .i64 x3, .int .i64 x4] rfl w3.heap.size _ _ _ rfl HO4.out rfl rfl (by intro u hu; simp at hu; rcases hu with rfl | rfl | rfl | rfl | rfl <;> rfl) ?d2 ?d3 ?_)
          case d2 => omega
          try (case d3 => omega)
          intro v5 w5 hown' hgrow hne hwh
          have HO5 : Hid (w5.ownsRow w3.heap.size 45 5 v5 (outC (P.take (j + 1)) (id, (rx, ry, ra, rb)) true).length (svP (outC (P.take (j + 1)) (id, (rx, ry, ra, rb)) true))) := hid (by
            rw [HF.out]; simpa [svP, List.append_assoc] using hown')
          have HB5 : Hid (Below w3.heap.size w3 w5) := hid (HB4.out.grown hgrow hsz4 (fun k hk => (HO4.out.lt k hk).1))
          clear hown' hgrow hwh hne d0 d1 d2 d3 d4
          go_wp2
          go_roundw
          case rel => exact ⟨j + 1, _, true, rfl, rfl, by go_num, by omega, HD2, HO5, HB5⟩
          case measure => simp [intOf]; omega
        · have HF : Hid (outC (P.take (j + 1)) (id, (rx, ry, ra, rb)) false = outC (P.take j) (id, (rx, ry, ra, rb)) false ++ [(pi, x1, x2, x3, x4)]) := hid (by
            rw [HTK.out]; rfl)
          have HD2 : Hid (DoneP (P.take (j + 1)) id false) := hid ⟨fun e => (by cases e), fun _ q hq => by
            rw [HTK.out] at hq
            rcases List.mem_append.1 hq with hq | hq
            · exact HD.out.2 rfl q hq
            · simp only [List.mem_singleton] at hq
              subst hq
              have := HXN.out
              show pi < id
              simp only at this
              omega⟩
          go_wp2_with (at_builtin; refine wpList_append1w T_plot _ rfl _ _ #[.int .i64 pi, .int .i64 x1, .int .i64 x2, .int .i64 x3, .int .i64 x4] rfl w3.heap.size _ _ _ rfl HO.out rfl rfl (by intro u hu; simp at hu; rcases hu with rfl | rfl | rfl | rfl | rfl <;> rfl) ?c2 ?c3 ?_)
          case c2 => omega
          try (case c3 => omega)
          intro v' w4 hown' hgrow hne hwh
          have HO4 : Hid (w4.ownsRow w3.heap.size 45 5 v' (outC (P.take (j + 1)) (id, (rx, ry, ra, rb)) false).length (svP (outC (P.take (j + 1)) (id, (rx, ry, ra, rb)) false))) := hid (by
            rw [HF.out, svP_append, List.length_append]; exact hown')
          have HB4 : Hid (Below w3.heap.size w3 w4) := hid (HB.out.grown hgrow hsz (fun k hk => (HO.out.lt k hk).1))
          clear hown' hgrow hwh hne d0 d1 d2 d3 d4
          go_wp2
          go_roundw
          case rel => exact ⟨j + 1, _, false, rfl, rfl, by go_num, by omega, HD2, HO4, HB4⟩
          case measure => simp [intOf]; omega
    · obtain ⟨wo, hwo⟩ : ∃ wo, wo = wr := ⟨_, rfl⟩
      subst hwo
      have j1 : ¬ (j : Int) < (np : Int) := by omega
      have HTA : Hid (P.take j = P) := hid (List.take_of_length_le (by rw [HN.out]; omega))
      have hle : (outC (P.take j) (id, (rx, ry, ra, rb)) dn).length ≤ 1001 := by
        have := outC_len (P.take j) (id, (rx, ry, ra, rb)) dn
        rw [List.length_take] at this; omega
      have hsz := HB.out.size
      clear l0 l1 l2
      cases dn with
      | true =>
        have HOF : Hid (wo.ownsRow w3.heap.size 45 5 vo (insK keyP P (id, (rx, ry, ra, rb))).length (svP (insK keyP P (id, (rx, ry, ra, rb))))) := hid (by
          have h1 := HO.out
          rw [HTA.out] at h1
          exact h1)
        obtain ⟨av, cv, hv, -⟩ := ownsRow.rd HOF.out
        obtain ⟨m, hm⟩ : ∃ m, (insK keyP P (id, (rx, ry, ra, rb))).length = m := ⟨_, rfl⟩
        rw [hm] at hv
        subst hv
        have HBE := HB
        clear hm
        have HG3 : Hid (g < w3.heap.size ∧ gr < w3.heap.size ∧ g5 < w3.heap.size) := hid ⟨HX3.out.lt, HR3.out.lt, HQ3.out.lt⟩
        have hXo := HX3.out.below HBE.out
        have hRo := HR3.out.below HBE.out
        have hfl : wo.frozen? ⟨g, 2, none⟩ = false := hXo.unfrozen 2
        obtain ⟨l0, l1, l2⟩ := hXo.c3v
        go_upto_region 20 with fail
        obtain ⟨wA, hwA⟩ : ∃ wA, wA = wo.setCell ⟨g, 2, none⟩ (.slice av m cv) := ⟨_, rfl⟩
        rw [← hwA]
        have huA : Upd (fun b => b = g) wo wA := by rw [hwA]; exact Upd.setCell wo g 2 _
        have hkA : Blk wA g #[.int .i64 S, .slice sa nb cb, .slice av m cv] := by rw [hwA]; simpa using hXo.set 2 (.slice av m cv)
        have hrA : Blk wA gr #[.int .i64 0, .slice none 0 0, .slice none 0 0] := hRo.upd huA (by have := HG.out; omega)
        have HUA := hid huA
        clear l0 l1 l2 hfl hwA huA hXo hRo
        obtain ⟨l0, l1, l2⟩ := hkA.c3v
        obtain ⟨q0, q1, q2⟩ := hrA.c3v
        have f0 : wA.frozen? ⟨gr, 0, none⟩ = false := hrA.unfrozen 0
        have f1 : wA.frozen? ⟨gr, 1, none⟩ = false := hrA.unfrozen 1
        have f2 : wA.frozen? ⟨gr, 2, none⟩ = false := hrA.unfrozen 2
        obtain ⟨wz, hwz, hkz, huz⟩ := set3v hrA (.int .i64 S) (.slice sa nb cb) (.slice av m cv)
        have HWZ := hid hwz
        have HKZ := hid hkz
        have HUZ := hid huz
        clear hwz hkz huz hkA hrA
        go_wp2_with fail
        try rw [← HWZ.out]
        obtain ⟨z0, z1, z2⟩ := HKZ.out.c3v
        refine bodyPost_ret (results_cell_tmp rfl _ _ _ rfl (by go_simp; rfl)) rfl ?_
        rw [HCE.out, HCP.out]
        have hu : Upd (fun b => b = g ∨ b = gr) wo wz := (HUA.out.mono (fun _ _ q => .inl q)).trans HUZ.out (fun _ _ q => .inr q)
        have hoz := Upd.owns hu HOF.out (fun b hb q => by have h1 := (HOF.out.lt b hb).1; have h2 := HG3.out; omega)
        have hbb := Below.next HB3.out HBE.out
        have hbz : Below w.heap.size w wz := hbb.trans (hu.below hbb.size (fun b _ q => by have := HG.out; omega))
        exact ⟨_, rfl, SlPl.of_own hoz, .inr (fun b hb => ⟨by have h1 := (hoz.lt b hb).1; have h2 := HB3.out.size; omega, (hoz.lt b hb).2⟩), hbz⟩
      | false =>
        obtain ⟨l0, l1, l2⟩ := (HX3.out.below HB.out).c3v
        obtain ⟨r0, r1, r2, r3⟩ := (HQ3.out.below HB.out).c4r
        go_upto_region 19 with (at_builtin; refine wpList_append1w T_plot _ rfl _ _ #[.int .i64 id, .int .i64 rx, .int .i64 ry, .int .i64 ra, .int .i64 rb] rfl w3.heap.size _ _ _ rfl HO.out rfl rfl (by intro u hu; simp at hu; rcases hu with rfl | rfl | rfl | rfl | rfl <;> rfl) (by omega) (by omega) ?_; intro v' w4 hown' hgrow hne hwh)
        have HOF : Hid (w4.ownsRow w3.heap.size 45 5 v' (insK keyP P (id, (rx, ry, ra, rb))).length (svP (insK keyP P (id, (rx, ry, ra, rb))))) := hid (by
          have h1 := HD.out.2 rfl
          rw [HTA.out] at h1
          rw [insK_endC (x := (id, (rx, ry, ra, rb))) P h1, svP_append, List.length_append]
          have h2 := hown'
          simp only [HTA.out, outC] at h2
          exact h2)
        have HBE : Hid (Below w3.heap.size w3 w4) := hid (HB.out.grown hgrow hsz (fun k hk => (HO.out.lt k hk).1))
        obtain ⟨av, cv, hv, -⟩ := ownsRow.rd HOF.out
        obtain ⟨m, hm⟩ : ∃ m, (insK keyP P (id, (rx, ry, ra, rb))).length = m := ⟨_, rfl⟩
        rw [hm] at hv
        subst hv
        clear hown' hgrow hwh hne l0 l1 l2 r0 r1 r2 r3 hm
        have HG3 : Hid (g < w3.heap.size ∧ gr < w3.heap.size ∧ g5 < w3.heap.size) := hid ⟨HX3.out.lt, HR3.out.lt, HQ3.out.lt⟩
        have hXo := HX3.out.below HBE.out
        have hRo := HR3.out.below HBE.out
        have hfl : w4.frozen? ⟨g, 2, none⟩ = false := hXo.unfrozen 2
        obtain ⟨l0, l1, l2⟩ := hXo.c3v
        go_upto_region 20 with fail
        obtain ⟨wA, hwA⟩ : ∃ wA, wA = w4.setCell ⟨g, 2, none⟩ (.slice av m cv) := ⟨_, rfl⟩
        rw [← hwA]
        have huA : Upd (fun b => b = g) w4 wA := by rw [hwA]; exact Upd.setCell w4 g 2 _
        have hkA : Blk wA g #[.int .i64 S, .slice sa nb cb, .slice av m cv] := by rw [hwA]; simpa using hXo.set 2 (.slice av m cv)
        have hrA : Blk wA gr #[.int .i64 0, .slice none 0 0, .slice none 0 0] := hRo.upd huA (by have := HG.out; omega)
        have HUA := hid huA
        clear l0 l1 l2 hfl hwA huA hXo hRo
        obtain ⟨l0, l1, l2⟩ := hkA.c3v
        obtain ⟨q0, q1, q2⟩ := hrA.c3v
        have f0 : wA.frozen? ⟨gr, 0, none⟩ = false := hrA.unfrozen 0
        have f1 : wA.frozen? ⟨gr, 1, none⟩ = false := hrA.unfrozen 1
        have f2 : wA.frozen? ⟨gr, 2, none⟩ = false := hrA.unfrozen 2
        obtain ⟨wz, hwz, hkz, huz⟩ := set3v hrA (.int .i64 S) (.slice sa nb cb) (.slice av m cv)
        have HWZ := hid hwz
        have HKZ := hid hkz
        have HUZ := hid huz
        clear hwz hkz huz hkA hrA
        go_wp2_with fail
        try rw [← HWZ.out]
        obtain ⟨z0, z1, z2⟩ := HKZ.out.c3v
        refine bodyPost_ret (results_cell_tmp rfl _ _ _ rfl (by go_simp; rfl)) rfl ?_
        rw [HCE.out, HCP.out]
        have hu : Upd (fun b => b = g ∨ b = gr) w4 wz := (HUA.out.mono (fun _ _ q => .inl q)).trans HUZ.out (fun _ _ q => .inr q)
        have hoz := Upd.owns hu HOF.out (fun b hb q => by have h1 := (HOF.out.lt b hb).1; have h2 := HG3.out; omega)
        have hbb := Below.next HB3.out HBE.out
        have hbz : Below w.heap.size w wz := hbb.trans (hu.below hbb.size (fun b _ q => by have := HG.out; omega))
        exact ⟨_, rfl, SlPl.of_own hoz, .inr (fun b hb => ⟨by have h1 := (hoz.lt b hb).1; have h2 := HB3.out.size; omega, (hoz.lt b hb).2⟩), hbz⟩
end Go.Proofs.YtjbnfppnmljbmaaGreat
end
