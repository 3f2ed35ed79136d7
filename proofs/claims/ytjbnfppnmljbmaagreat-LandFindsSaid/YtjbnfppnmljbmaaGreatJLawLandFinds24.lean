/- Joined texts, in this order: Ref19, Ref19b. Each one's first remark says what it proves; no condition beyond those that its theorems name. -/
import Derived.Test.YtjbnfppnmljbmaaGreatJLawLandFinds22
import Derived.Test.YtjbnfppnmljbmaaGreatJLawLandFinds23
section
/- The document's land: contracts of Within, Find, Near, Blocked, May. -/
namespace Go.Proofs.YtjbnfppnmljbmaaGreat
open Go.RowKit Go.Deep
open Go.Lib (hid)
set_option linter.unusedVariables false
attribute [local go_sem] Oper.semAt_some

def svP (X : List Pl) : List Value := X.flatMap fun p => [Value.int .i64 p.1, .int .i64 p.2.1, .int .i64 p.2.2.1, .int .i64 p.2.2.2.1, .int .i64 p.2.2.2.2]
theorem svP_length (X : List Pl) : (svP X).length = X.length * 5 := by
  unfold svP
  induction X with
  | nil => rfl
  | cons p X ih => rw [List.flatMap_cons, List.length_append, ih]; simp; omega
theorem svP_append (X Y : List Pl) : svP (X ++ Y) = svP X ++ svP Y := by unfold svP; rw [List.flatMap_append]
theorem svP_at : ∀ (X : List Pl) (i : Nat) (t : Pl), X[i]? = some t → (svP X)[i * 5]? = some (.int .i64 t.1) ∧ (svP X)[i * 5 + 1]? = some (.int .i64 t.2.1) ∧ (svP X)[i * 5 + 2]? = some (.int .i64 t.2.2.1) ∧ (svP X)[i * 5 + 3]? = some (.int .i64 t.2.2.2.1) ∧ (svP X)[i * 5 + 4]? = some (.int .i64 t.2.2.2.2)
  | [], i, x, h => by simp at h
  | q :: X, 0, x, h => by simp at h; subst h; exact ⟨rfl, rfl, rfl, rfl, rfl⟩
  | q :: X, i + 1, x, h => by
    simp at h
    have := svP_at X i x h
    have e : svP (q :: X) = .int .i64 q.1 :: .int .i64 q.2.1 :: .int .i64 q.2.2.1 :: .int .i64 q.2.2.2.1 :: .int .i64 q.2.2.2.2 :: svP X := rfl
    rw [e, show (i + 1) * 5 = i * 5 + 1 + 1 + 1 + 1 + 1 by omega]
    simpa using this
def SlPl (w : World) (v : Value) (X : List Pl) : Prop := ∃ a cap, v = .slice a X.length cap ∧ Rd w a (svP X) ∧ X.length ≤ cap ∧ cap ≤ 9223372036854775807 ∧ (a = none → cap = 0)
theorem SlPl.nil (w : World) : SlPl w (.slice none 0 0) [] := ⟨none, 0, rfl, Rd.nil _ _, by simp, by omega, fun _ => rfl⟩
theorem SlPl.below {w w' : World} {v : Value} {X : List Pl} (h : SlPl w v X) (hb : Below w.heap.size w w') : SlPl w' v X := by
  obtain ⟨a, c, e, h1, h2⟩ := h
  exact ⟨a, c, e, h1.below' hb, h2⟩
theorem SlPl.upd {S : Nat → Prop} {w w' : World} {v : Value} {X : List Pl} (h : SlPl w v X) (hu : Upd S w w') (hn : ∀ k, v.ownBlock = some k → ¬ S k) : SlPl w' v X := by
  obtain ⟨a, c, rfl, h1, h2⟩ := h
  exact ⟨a, c, rfl, hu.rd h1 (fun b off e => hn b (by rw [e]; rfl)), h2⟩
theorem SlPl.of_own {w : World} {base : Nat} {e : TypeId} {v : Value} {X : List Pl} (h : w.ownsRow base e 5 v X.length (svP X)) : SlPl w v X := by
  obtain ⟨a, c, rfl, h1, h2, h3, h4⟩ := ownsRow.rd h
  exact ⟨a, c, rfl, h3, h1, by unfold maxLen at h2; omega, h4⟩
theorem Rd.fiveP {w : World} {a : Option Addr} {X : List Pl} (h : Rd w a (svP X)) (i : Nat) (hi : i < X.length) :
    ∃ b off t, a = some ⟨b, off, none⟩ ∧ w.cell? ⟨b, off + i * 5, none⟩ = some (.int .i64 t.1) ∧ w.cell? ⟨b, off + i * 5 + 1, none⟩ = some (.int .i64 t.2.1) ∧ w.cell? ⟨b, off + i * 5 + 2, none⟩ = some (.int .i64 t.2.2.1) ∧ w.cell? ⟨b, off + i * 5 + 3, none⟩ = some (.int .i64 t.2.2.2.1) ∧ w.cell? ⟨b, off + i * 5 + 4, none⟩ = some (.int .i64 t.2.2.2.2) ∧
      X[i]? = some t ∧ X.drop i = t :: X.drop (i + 1) ∧ X.take (i + 1) = X.take i ++ [t] := by
  have hx : X[i]? = some X[i] := List.getElem?_eq_getElem hi
  obtain ⟨h0, h1, h2, h3, h4⟩ := svP_at X i _ hx
  obtain ⟨b, off, ha, hc⟩ := h (i * 5) (by rw [svP_length]; omega)
  have key : ∀ j, j < 5 → w.cell? ⟨b, off + i * 5 + j, none⟩ = (svP X)[i * 5 + j]? := fun j hj => by
    obtain ⟨b', off', ha', hc'⟩ := h (i * 5 + j) (by rw [svP_length]; omega)
    rw [ha] at ha'
    simp at ha'
    obtain ⟨rfl, rfl⟩ := ha'
    rw [Nat.add_assoc]; exact hc'
  exact ⟨b, off, X[i], ha, by rw [hc, h0], by rw [key 1 (by omega), h1], by rw [key 2 (by omega), h2], by rw [key 3 (by omega), h3], by rw [key 4 (by omega), h4], hx, List.drop_eq_getElem_cons hi, by rw [List.take_add_one, hx]; rfl⟩
set_option maxRecDepth 100000 in
theorem ref19_Within (rx ry ra rb S : Int) (w : World) (q : Bool) (hq : Hid (decide (WithinR (rx, ry, ra, rb) S) = q)) : Calls Tryz.prog 24 #[.agg #[.int .i64 rx, .int .i64 ry, .int .i64 ra, .int .i64 rb], .int .i64 S] w fun e w' => e = .returned (.bool q) ∧ Below w.heap.size w w' := by
  obtain ⟨qr, hqr⟩ : ∃ b, rightR (rx, ry, ra, rb) = b := ⟨_, rfl⟩
  have HQR := hid hqr
  clear hqr
  go_enter Tryz.func24, Tryz.ntmps24
  go_upto_region 1 with fail
  obtain ⟨w1, hw1⟩ : ∃ w1, w1 = w.alloc (.cells #[.int .i64 rx, .int .i64 ry, .int .i64 ra, .int .i64 rb] 38) := ⟨_, rfl⟩
  rw [← hw1]
  have hb1 : Below w.heap.size w w1 := by rw [hw1]; exact Below.new _ _
  obtain ⟨g, hg⟩ : ∃ g, g = w.heap.size := ⟨_, rfl⟩
  rw [← hg]
  have HX : Hid (Blk w1 g #[.int .i64 rx, .int .i64 ry, .int .i64 ra, .int .i64 rb]) := hid (by rw [hw1, hg]; exact Blk.new _ _ _)
  have HB1 := hid hb1
  obtain ⟨e0, e1, e2, e3⟩ := HX.out.c4r
  clear hw1 hg hb1
  go_wp2_with fail
  refine (ref02_Right4 rx ry ra rb qr HQR w1).mono ?_
  rintro e w2 ⟨rfl, hb⟩
  have HX2 := hid (HX.out.below hb)
  have HB2 := hid (Below.next HB1.out hb)
  clear hb e0 e1 e2 e3
  obtain ⟨e0, e1, e2, e3⟩ := HX2.out.c4r
  cases qr with
  | false =>
    have HF : Hid (q = false) := hid (by
      rw [← hq.out]
      refine decide_eq_false (fun z => ?_)
      have := (rightR_iff _).2 z.1
      rw [HQR.out] at this; cases this)
    go_wp2_with fail
    go_ret
    exact ⟨by rw [HF.out]; rfl, HB2.out⟩
  | true =>
    have hr := (rightR_iff _).1 HQR.out
    have HR := hid hr
    unfold RightR at hr
    obtain ⟨r1, r2, r3, r4, r5, r6, r7, r8⟩ := hr
    simp only at r1 r2 r3 r4 r5 r6 r7 r8
    by_cases h1 : rx + ra ≤ S
    · by_cases h2 : ry + rb ≤ S
      · have HF : Hid (q = true) := hid (by rw [← hq.out]; exact decide_eq_true ⟨HR.out, h1, h2⟩)
        have hd2 : decide (ry + rb ≤ S) = true := decide_eq_true h2
        go_wp2_with fail
        go_ret
        exact ⟨by rw [HF.out]; rfl, HB2.out⟩
      · have HF : Hid (q = false) := hid (by rw [← hq.out]; exact decide_eq_false (fun z => h2 z.2.2))
        have hd2 : decide (ry + rb ≤ S) = false := decide_eq_false h2
        go_wp2_with fail
        go_ret
        exact ⟨by rw [HF.out]; rfl, HB2.out⟩
    · have HF : Hid (q = false) := hid (by rw [← hq.out]; exact decide_eq_false (fun z => h1 z.2.1))
      have hd2 : decide (rx + ra ≤ S) = false := decide_eq_false h1
      go_wp2_with fail
      go_ret
      exact ⟨by rw [HF.out]; rfl, HB2.out⟩
def FindP (P : List Pl) (id : Int) (r : Int) : Prop := (∃ i : Nat, r = (i : Int) ∧ ∃ p, P[i]? = some p ∧ p.1 = id) ∨ (r = -1 ∧ ∀ p ∈ P, p.1 ≠ id)
set_option maxRecDepth 100000 in
set_option maxHeartbeats 4000000 in
theorem ref19_Find (S : Int) (sa ap : Option Addr) (nb cb np cp : Nat) (P : List Pl) (id : Int) (w : World) (hp : SlPl w (.slice ap np cp) P) (hl : P.length ≤ 1000) : Calls Tryz.prog 18 #[.agg #[.int .i64 S, .slice sa nb cb, .slice ap np cp], .int .i64 id] w fun e w' => ∃ r, e = .returned (.int .i64 r) ∧ FindP P id r ∧ Below w.heap.size w w' := by
  have hnp : P.length = np := by obtain ⟨a, c, e, -⟩ := hp; simp only [Value.slice.injEq] at e; exact e.2.1.symm
  have HP := hid hp
  have HN := hid hnp
  rw [hnp] at hl
  clear hp hnp
  go_enter Tryz.func18, Tryz.ntmps18
  go_upto_region 1 with fail
  obtain ⟨w1, hw1⟩ : ∃ w1, w1 = w.alloc (.cells #[.int .i64 S, .slice sa nb cb, .slice ap np cp] 32) := ⟨_, rfl⟩
  rw [← hw1]
  have hb1 : Below w.heap.size w w1 := by rw [hw1]; exact Below.new _ _
  obtain ⟨g, hg⟩ : ∃ g, g = w.heap.size := ⟨_, rfl⟩
  rw [← hg]
  have hX : Blk w1 g #[.int .i64 S, .slice sa nb cb, .slice ap np cp] := by rw [hw1, hg]; exact Blk.new _ _ _
  have HB1 := hid hb1
  have HP1 := hid (HP.out.below hb1)
  obtain ⟨e0, e1, e2⟩ := hX.c3v
  clear hw1 hg hb1 hX e0 e1
  go_wp2_with fail
  go_loop [5] (fun v5 => ∃ j : Nat, v5 = .int .i64 (j : Int) ∧ j ≤ np ∧ Hid (∀ p ∈ P.take j, p.1 ≠ id)) (fun v5 => np - (intOf v5).toNat)
  case atStart => exact ⟨0, rfl, by omega, hid (by simp)⟩
  case round =>
    obtain ⟨j, rfl, hj, HJ⟩ := hrel
    by_cases hlt : j < np
    · have j1 : (j : Int) < (np : Int) := by omega
      have j0 : (0 : Int) ≤ (j : Int) := by omega
      have j9 : (j : Int) < 1000 := by omega
      obtain ⟨a', c', e', hrd, -⟩ := HP1.out
      simp only [Value.slice.injEq] at e'
      obtain ⟨rfl, -, rfl⟩ := e'
      obtain ⟨b0, off, p, rfl, d0, d1, d2, d3, d4, hat, -, htk⟩ := hrd.fiveP j (by rw [HN.out]; exact hlt)
      have HAT := hid (And.intro hat htk)
      obtain ⟨pi, p1, p2, p3, p4⟩ := p
      simp only at d0
      clear hrd hat htk d1 d2 d3 d4
      by_cases he : pi = id
      · subst he
        go_wp2_with fail
        go_ret
        exact ⟨(j : Int), rfl, .inl ⟨j, rfl, _, HAT.out.1, rfl⟩, HB1.out⟩
      · have HE := hid he
        have hbe : (pi == id) = false := by simpa using he
        clear he
        go_wp2_with fail
        go_round
        case rel => exact ⟨j + 1, by go_num, by omega, hid (fun p hp => by
          rw [HAT.out.2] at hp
          rcases List.mem_append.1 hp with hp | hp
          · exact HJ.out p hp
          · simp only [List.mem_singleton] at hp; subst hp; exact HE.out)⟩
        case measure => simp [intOf]; omega
    · have j1 : ¬ (j : Int) < (np : Int) := by omega
      have e1 : P.take j = P := List.take_of_length_le (by rw [HN.out]; omega)
      have HJ2 := HJ
      rw [e1] at HJ2
      clear e1
      go_wp2_with fail
      go_ret
      exact ⟨-1, rfl, .inr ⟨rfl, HJ2.out⟩, HB1.out⟩
set_option maxRecDepth 100000 in
set_option maxHeartbeats 4000000 in
theorem ref19_Blocked (S : Int) (sa ap : Option Addr) (nb cb np cp : Nat) (B : List R4) (rx ry ra rb : Int) (w : World) (hp : SlR w (.slice sa nb cb) B) (hl : B.length ≤ 1000) : Calls Tryz.prog 13 #[.agg #[.int .i64 S, .slice sa nb cb, .slice ap np cp], .agg #[.int .i64 rx, .int .i64 ry, .int .i64 ra, .int .i64 rb]] w fun e w' => e = .returned (.bool (blkX B (rx, ry, ra, rb))) ∧ Below w.heap.size w w' := by
  have hnp : B.length = nb := by obtain ⟨a, c, e, -⟩ := hp; simp only [Value.slice.injEq] at e; exact e.2.1.symm
  have HP := hid hp
  have HN := hid hnp
  rw [hnp] at hl
  obtain ⟨bl, hbl⟩ : ∃ b, blkX B (rx, ry, ra, rb) = b := ⟨_, rfl⟩
  have HBL := hid hbl
  rw [hbl]
  clear hp hnp hbl
  go_enter Tryz.func13, Tryz.ntmps13
  go_upto_region 1 with fail
  generalize hW : World.alloc (World.alloc w _) _ = w1
  obtain ⟨g, hg⟩ : ∃ g, g = w.heap.size := ⟨_, rfl⟩
  obtain ⟨gr, hgr⟩ : ∃ go, go = w.heap.size + 1 := ⟨_, rfl⟩
  have hz : (World.alloc w (.cells #[.int .i64 S, .slice sa nb cb, .slice ap np cp] 32)).heap.size = w.heap.size + 1 := by simp
  try rw [hz]
  try rw [← hgr]
  try rw [← hg]
  have hb1 : Below w.heap.size w w1 := by rw [← hW]; exact Below.next (Below.new _ _) (Below.new _ _)
  have HX1 : Hid (Blk w1 g #[.int .i64 S, .slice sa nb cb, .slice ap np cp]) := hid (by rw [← hW, hg]; exact (Blk.new w _ _).below (Below.new _ _))
  have HR1 : Hid (Blk w1 gr #[.int .i64 rx, .int .i64 ry, .int .i64 ra, .int .i64 rb]) := hid (by rw [← hW, hgr, ← hz]; exact Blk.new _ _ _)
  have HB1 := hid hb1
  have HP1 := hid (HP.out.below hb1)
  clear hW hg hgr hz hb1
  go_wp2_with fail
  go_loopw [5] (fun v5 wr => ∃ j : Nat, v5 = .int .i64 (j : Int) ∧ j ≤ nb ∧ Hid (∀ b ∈ B.take j, ¬ MeetsR b (rx, ry, ra, rb)) ∧ Hid (Below w1.heap.size w1 wr)) (fun v5 _ => nb - (intOf v5).toNat)
  case atStart => exact ⟨0, rfl, by omega, hid (by simp), hid (Below.refl _ _)⟩
  case round =>
    obtain ⟨j, rfl, hj, HJ, HB⟩ := hrel
    obtain ⟨e0, e1, e2⟩ := (HX1.out.below HB.out).c3v
    clear e0 e2
    by_cases hlt : j < nb
    · have j1 : (j : Int) < (nb : Int) := by omega
      have j0 : (0 : Int) ≤ (j : Int) := by omega
      have j9 : (j : Int) < 1000 := by omega
      obtain ⟨a', c', e', hrd, -⟩ := HP1.out.below HB.out
      simp only [Value.slice.injEq] at e'
      obtain ⟨rfl, -, rfl⟩ := e'
      obtain ⟨b0, off, p, rfl, d0, d1, d2, d3, hat, -, htk⟩ := hrd.four j (by rw [HN.out]; exact hlt)
      have HAT := hid (And.intro hat htk)
      obtain ⟨x1, x2, x3, x4⟩ := p
      simp only at d0 d1 d2 d3
      obtain ⟨r0, r1, r2, r3⟩ := (HR1.out.below HB.out).c4r
      obtain ⟨qm, hqm⟩ : ∃ b, tMeets (rx, ry, ra, rb) (x1, x2, x3, x4) = b := ⟨_, rfl⟩
      have HQM := hid hqm
      have hmt := fun (z : World) => ref02_Meets4 x1 x2 x3 x4 rx ry ra rb z
      rw [hqm] at hmt
      have HMT := hid hmt
      clear hrd hat htk hqm hmt
      go_upto_region 4 with fail
      replace e1 := fun (z : World) (hz : Below wr.heap.size wr z) => cellOf_belowR hz e1
      replace d0 := fun (z : World) (hz : Below wr.heap.size wr z) => cellOf_belowR hz d0
      replace d1 := fun (z : World) (hz : Below wr.heap.size wr z) => cellOf_belowR hz d1
      replace d2 := fun (z : World) (hz : Below wr.heap.size wr z) => cellOf_belowR hz d2
      replace d3 := fun (z : World) (hz : Below wr.heap.size wr z) => cellOf_belowR hz d3
      replace r0 := fun (z : World) (hz : Below wr.heap.size wr z) => cellOf_belowR hz r0
      replace r1 := fun (z : World) (hz : Below wr.heap.size wr z) => cellOf_belowR hz r1
      replace r2 := fun (z : World) (hz : Below wr.heap.size wr z) => cellOf_belowR hz r2
      replace r3 := fun (z : World) (hz : Below wr.heap.size wr z) => cellOf_belowR hz r3
      have hyd := (Below.refl wr.heap.size wr).drew
      refine wp_region_kept [] (fun z => Below wr.heap.size wr z) (by kernel_rfl) (by assumption) (fun hH => ?_)
      refine wpK.take (i := 0) (v := _) (by simp only [List.getElem?_toArray, List.getElem?_cons_succ, List.getElem?_cons_zero]; rfl) (by kernel_rfl) (by kernel_rfl) (by kernel_rfl) (by kernel_rfl) (by kernel_rfl) (by exact fun _ _ _ h => h) (by first | exact Or.inl ⟨by rfl, by intro w hSw; go_simp; try with_reducible rfl⟩ | exact Or.inr ⟨by rfl, rfl⟩) hH ?_
      try simp only [Act.put, List.setIfInBounds_toArray, List.set_cons_zero, List.set_cons_succ]
      refine wpK.take (i := 1) (v := _) (by simp only [List.getElem?_toArray, List.getElem?_cons_succ, List.getElem?_cons_zero]; rfl) (by kernel_rfl) (by kernel_rfl) (by kernel_rfl) (by kernel_rfl) (by kernel_rfl) (by exact fun _ _ _ h => h) (by first | exact Or.inl ⟨by rfl, by intro w hSw; go_simp; try with_reducible rfl⟩ | exact Or.inr ⟨by rfl, rfl⟩) hH ?_
      try simp only [Act.put, List.setIfInBounds_toArray, List.set_cons_zero, List.set_cons_succ]
      refine wpK.take (i := 2) (v := _) (by simp only [List.getElem?_toArray, List.getElem?_cons_succ, List.getElem?_cons_zero]; rfl) (by kernel_rfl) (by kernel_rfl) (by kernel_rfl) (by kernel_rfl) (by kernel_rfl) (by exact fun _ _ _ h => h) (by first | exact Or.inl ⟨by rfl, by intro w hSw; go_simp; try with_reducible rfl⟩ | exact Or.inr ⟨by rfl, rfl⟩) hH ?_
      try simp only [Act.put, List.setIfInBounds_toArray, List.set_cons_zero, List.set_cons_succ]
      refine wpK.take (i := 3) (v := _) (by simp only [List.getElem?_toArray, List.getElem?_cons_succ, List.getElem?_cons_zero]; rfl) (by kernel_rfl) (by kernel_rfl) (by kernel_rfl) (by kernel_rfl) (by kernel_rfl) (by exact fun _ _ _ h => h) (by first | exact Or.inl ⟨by rfl, by intro w hSw; go_simp; try with_reducible rfl⟩ | exact Or.inr ⟨by rfl, rfl⟩) hH ?_
      try simp only [Act.put, List.setIfInBounds_toArray, List.set_cons_zero, List.set_cons_succ]
      refine wpK.take (i := 4) (v := _) (by simp only [List.getElem?_toArray, List.getElem?_cons_succ, List.getElem?_cons_zero]; rfl) (by kernel_rfl) (by kernel_rfl) (by kernel_rfl) (by kernel_rfl) (by kernel_rfl) (by exact fun _ _ _ h => h) (by first | exact Or.inl ⟨by rfl, by intro w hSw; go_simp; try with_reducible rfl⟩ | exact Or.inr ⟨by rfl, rfl⟩) hH ?_
      try simp only [Act.put, List.setIfInBounds_toArray, List.set_cons_zero, List.set_cons_succ]
      refine wpK.take (i := 5) (v := _) (by simp only [List.getElem?_toArray, List.getElem?_cons_succ, List.getElem?_cons_zero]; rfl) (by kernel_rfl) (by kernel_rfl) (by kernel_rfl) (by kernel_rfl) (by kernel_rfl) (by exact fun _ _ _ h => h) (by first | exact Or.inl ⟨by rfl, by intro w hSw; go_simp; try with_reducible rfl⟩ | exact Or.inr ⟨by rfl, rfl⟩) hH ?_
      try simp only [Act.put, List.setIfInBounds_toArray, List.set_cons_zero, List.set_cons_succ]
      refine wpK.step (i := 6) (by kernel_rfl) (by simp only [List.getElem?_toArray, List.getElem?_cons_succ, List.getElem?_cons_zero]; rfl) (fun K hK => ?_)
      go_simp
      (refine (HMT.out _).mono ?_); rintro e w3 ⟨rfl, hb3⟩; (have hk3 := Below.next hyd hb3); go_simp
      refine hK.out _ _ (by assumption) (fun hH => ?_)
      clear hK K
      try simp only [Act.put, List.setIfInBounds_toArray, List.set_cons_zero, List.set_cons_succ]
      refine wpK.done (by kernel_rfl) ?_ _
      have HB3 := hid (Below.next HB.out hk3)
      clear e1 d0 d1 d2 d3 r0 r1 r2 r3 hyd hH hk3 hb3
      cases qm with
      | true =>
        have HF : Hid (bl = true) := hid (by
          rw [← HBL.out]
          unfold blkX
          rw [List.any_eq_true]
          exact ⟨_, List.mem_of_getElem? HAT.out.1, decide_eq_true (meetsR_symm.1 (of_decide_eq_true HQM.out))⟩)
        go_wp2_with fail
        go_ret
        exact ⟨by rw [HF.out]; rfl, Below.next HB1.out HB3.out⟩
      | false =>
        go_wp2_with fail
        go_roundw
        case rel => exact ⟨j + 1, by go_num, by omega, hid (fun p hp => by
          rw [HAT.out.2] at hp
          rcases List.mem_append.1 hp with hp | hp
          · exact HJ.out p hp
          · simp only [List.mem_singleton] at hp; subst hp; exact fun z => of_decide_eq_false HQM.out (meetsR_symm.1 z)), HB3⟩
        case measure => simp [intOf]; omega
    · have j1 : ¬ (j : Int) < (nb : Int) := by omega
      have HF : Hid (bl = false) := hid (by
        rw [← HBL.out]
        unfold blkX
        rw [List.any_eq_false]
        intro b hb z
        have h1 := HJ.out
        rw [List.take_of_length_le (by rw [HN.out]; omega)] at h1
        exact h1 b hb (of_decide_eq_true z))
      go_wp2_with fail
      go_ret
      exact ⟨by rw [HF.out]; rfl, Below.next HB1.out HB.out⟩
end Go.Proofs.YtjbnfppnmljbmaaGreat
end
section
/- The document's land: contracts of Near, May. -/
namespace Go.Proofs.YtjbnfppnmljbmaaGreat
open Go.RowKit Go.Deep
open Go.Lib (hid)
set_option linter.unusedVariables false
attribute [local go_sem] Oper.semAt_some

theorem T_int19 : SlT Tryz.prog 35 3 (.int .i64 0) 1 8 := SlT.mk' Tryz.underlying35 (by kernel_rfl) rfl (by decide) (by decide)
def NearPost (w : World) (l : List Int) (e : Ending) (w' : World) : Prop := ∃ v, e = .returned v ∧ w'.ownsRow w.heap.size 3 1 v l.length (l.map (.int .i64)) ∧ Below w.heap.size w w'
theorem nearX_snoc (P : List Pl) (p : Pl) (r : R4) : nearX (P ++ [p]) r = nearX P r ++ (if MeetsR p.2 r then [p.1] else []) := by
  unfold nearX
  rw [List.filter_append, List.map_append]
  by_cases h : MeetsR p.2 r <;> simp [h]
theorem nearX_len (P : List Pl) (r : R4) : (nearX P r).length ≤ P.length := by unfold nearX; rw [List.length_map]; exact List.length_filter_le _ _
def NrR (w w1 : World) (P : List Pl) (r : R4) (np : Nat) (v5 v6 : Value) (wr : World) : Prop := ∃ (j : Nat) (vo : Value), vo = v5 ∧ v6 = .int .i64 (j : Int) ∧ j ≤ np ∧ Hid (wr.ownsRow w1.heap.size 3 1 v5 (nearX (P.take j) r).length ((nearX (P.take j) r).map (.int .i64))) ∧ Hid (Below w1.heap.size w1 wr)
set_option maxRecDepth 100000 in
set_option maxHeartbeats 4000000 in
theorem ref19_Near (S : Int) (sa ap : Option Addr) (nb cb np cp : Nat) (P : List Pl) (rx ry ra rb : Int) (w : World) (hp : SlPl w (.slice ap np cp) P) (hl : P.length ≤ 1000) : Calls Tryz.prog 10 #[.agg #[.int .i64 S, .slice sa nb cb, .slice ap np cp], .agg #[.int .i64 rx, .int .i64 ry, .int .i64 ra, .int .i64 rb]] w (NearPost w (nearX P (rx, ry, ra, rb))) := by
  have hnp : P.length = np := by obtain ⟨a, c, e, -⟩ := hp; simp only [Value.slice.injEq] at e; exact e.2.1.symm
  have HP := hid hp
  have HN := hid hnp
  rw [hnp] at hl
  clear hp hnp
  go_enter Tryz.func10, Tryz.ntmps10
  go_upto_region 1 with fail
  generalize hW : World.alloc (World.alloc w _) _ = w1
  obtain ⟨g, hg⟩ : ∃ g, g = w.heap.size := ⟨_, rfl⟩
  obtain ⟨gr, hgr⟩ : ∃ go, go = w.heap.size + 1 := ⟨_, rfl⟩
  have hz : (World.alloc w (.cells #[.int .i64 S, .slice sa nb cb, .slice ap np cp] 32)).heap.size = w.heap.size + 1 := by simp
  try rw [hz]
  try rw [← hgr]
  try rw [← hg]
  have hb1 : Below w.heap.size w w1 := by rw [← hW]; exact Below.next (Below.new _ _) (Below.new _ _)
  have HX1 : Hid (Blk w1 g #[.int .i64 S, .slice sa nb cb, .slice ap np cp]) := hid (by rw [← hW, hg]; exact (Blk.new w _ _).below (Below.new _ _))
  have HR1 : Hid (Blk w1 gr #[.int .i64 rx, .int .i64 ry, .int .i64 ra, .int .i64 rb]) := hid (by rw [← hW, hgr, ← hz]; exact Blk.new _ _ _)
  have HB1 := hid hb1
  have HP1 := hid (HP.out.below hb1)
  clear hW hg hgr hz hb1
  go_wp2_with fail
  go_loopw [5, 6] (fun v5 v6 wr => NrR w w1 P (rx, ry, ra, rb) np v5 v6 wr) (fun _ v6 _ => np - (intOf v6).toNat)
  case atStart => exact ⟨0, _, rfl, rfl, by omega, hid (by simpa [nearX] using World.ownsRow_nil _ _ _ _), hid (Below.refl _ _)⟩
  case round =>
    obtain ⟨j, vo, hvo, rfl, hj, HO, HB⟩ := hrel
    subst hvo
    obtain ⟨e0, e1, e2⟩ := (HX1.out.below HB.out).c3v
    clear e0 e1
    by_cases hlt : j < np
    · have j1 : (j : Int) < (np : Int) := by omega
      have j0 : (0 : Int) ≤ (j : Int) := by omega
      have j9 : (j : Int) < 1000 := by omega
      obtain ⟨a', c', e', hrd, -⟩ := HP1.out.below HB.out
      simp only [Value.slice.injEq] at e'
      obtain ⟨rfl, -, rfl⟩ := e'
      obtain ⟨b0, off, p, rfl, d0, d1, d2, d3, d4, hat, -, htk⟩ := hrd.fiveP j (by rw [HN.out]; exact hlt)
      have HTK := hid htk
      obtain ⟨pi, x1, x2, x3, x4⟩ := p
      simp only at d0 d1 d2 d3 d4
      obtain ⟨r0, r1, r2, r3⟩ := (HR1.out.below HB.out).c4r
      obtain ⟨qm, hqm⟩ : ∃ b, tMeets (rx, ry, ra, rb) (x1, x2, x3, x4) = b := ⟨_, rfl⟩
      have HQM := hid hqm
      have hmt := fun (z : World) => ref02_Meets4 x1 x2 x3 x4 rx ry ra rb z
      rw [hqm] at hmt
      have HMT := hid hmt
      have HLE : Hid ((nearX (P.take j) (rx, ry, ra, rb)).length ≤ 1000) := hid (by have := nearX_len (P.take j) (rx, ry, ra, rb); rw [List.length_take] at this; omega)
      have HD0 := hid d0
      have HE2 := hid e2
      clear hrd hat htk hqm hmt
      go_upto_region 5 with fail
      replace e2 := fun (z : World) (hz : Below wr.heap.size wr z) => cellOf_belowR hz e2
      replace d1 := fun (z : World) (hz : Below wr.heap.size wr z) => cellOf_belowR hz d1
      replace d2 := fun (z : World) (hz : Below wr.heap.size wr z) => cellOf_belowR hz d2
      replace d3 := fun (z : World) (hz : Below wr.heap.size wr z) => cellOf_belowR hz d3
      replace d4 := fun (z : World) (hz : Below wr.heap.size wr z) => cellOf_belowR hz d4
      replace r0 := fun (z : World) (hz : Below wr.heap.size wr z) => cellOf_belowR hz r0
      replace r1 := fun (z : World) (hz : Below wr.heap.size wr z) => cellOf_belowR hz r1
      replace r2 := fun (z : World) (hz : Below wr.heap.size wr z) => cellOf_belowR hz r2
      replace r3 := fun (z : World) (hz : Below wr.heap.size wr z) => cellOf_belowR hz r3
      have hyd := (Below.refl wr.heap.size wr).drew
      refine wp_region_kept [] (fun z => Below wr.heap.size wr z) (by kernel_rfl) (by assumption) (fun hH => ?_)
      refine wpK.take (i := 0) (v := _) (by simp only [List.getElem?_toArray, List.getElem?_cons_succ, List.getElem?_cons_zero]; rfl) (by kernel_rfl) (by kernel_rfl) (by kernel_rfl) (by kernel_rfl) (by kernel_rfl) (by exact fun _ _ _ h => h) (by first | exact Or.inl ⟨by rfl, by intro w hSw; go_simp; try with_reducible rfl⟩ | exact Or.inr ⟨by rfl, rfl⟩) hH ?_
      try simp only [Act.put, List.setIfInBounds_toArray, List.set_cons_zero, List.set_cons_succ]
      refine wpK.take (i := 1) (v := _) (by simp only [List.getElem?_toArray, List.getElem?_cons_succ, List.getElem?_cons_zero]; rfl) (by kernel_rfl) (by kernel_rfl) (by kernel_rfl) (by kernel_rfl) (by kernel_rfl) (by exact fun _ _ _ h => h) (by first | exact Or.inl ⟨by rfl, by intro w hSw; go_simp; try with_reducible rfl⟩ | exact Or.inr ⟨by rfl, rfl⟩) hH ?_
      try simp only [Act.put, List.setIfInBounds_toArray, List.set_cons_zero, List.set_cons_succ]
      refine wpK.take (i := 2) (v := _) (by simp only [List.getElem?_toArray, List.getElem?_cons_succ, List.getElem?_cons_zero]; rfl) (by kernel_rfl) (by kernel_rfl) (by kernel_rfl) (by kernel_rfl) (by kernel_rfl) (by exact fun _ _ _ h => h) (by first | exact Or.inl ⟨by rfl, by intro w hSw; go_simp; try with_reducible rfl⟩ | exact Or.inr ⟨by rfl, rfl⟩) hH ?_
      try simp only [Act.put, List.setIfInBounds_toArray, List.set_cons_zero, List.set_cons_succ]
      refine wpK.take (i := 3) (v := _) (by simp only [List.getElem?_toArray, List.getElem?_cons_succ, List.getElem?_cons_zero]; rfl) (by kernel_rfl) (by kernel_rfl) (by kernel_rfl) (by kernel_rfl) (by kernel_rfl) (by exact fun _ _ _ h => h) (by first | exact Or.inl ⟨by rfl, by intro w hSw; go_simp; try with_reducible rfl⟩ | exact Or.inr ⟨by rfl, rfl⟩) hH ?_
      try simp only [Act.put, List.setIfInBounds_toArray, List.set_cons_zero, List.set_cons_succ]
      refine wpK.take (i := 4) (v := _) (by simp only [List.getElem?_toArray, List.getElem?_cons_succ, List.getElem?_cons_zero]; rfl) (by kernel_rfl) (by kernel_rfl) (by kernel_rfl) (by kernel_rfl) (by kernel_rfl) (by exact fun _ _ _ h => h) (by first | exact Or.inl ⟨by rfl, by intro w hSw; go_simp; try with_reducible rfl⟩ | exact Or.inr ⟨by rfl, rfl⟩) hH ?_
      try simp only [Act.put, List.setIfInBounds_toArray, List.set_cons_zero, List.set_cons_succ]
      refine wpK.take (i := 5) (v := _) (by simp only [List.getElem?_toArray, List.getElem?_cons_succ, List.getElem?_cons_zero]; rfl) (by kernel_rfl) (by kernel_rfl) (by kernel_rfl) (by kernel_rfl) (by kernel_rfl) (by exact fun _ _ _ h => h) (by first | exact Or.inl ⟨by rfl, by intro w hSw; go_simp; try with_reducible rfl⟩ | exact Or.inr ⟨by rfl, rfl⟩) hH ?_
      try simp only [Act.put, List.setIfInBounds_toArray, List.set_cons_zero, List.set_cons_succ]
      refine wpK.take (i := 6) (v := _) (by simp only [List.getElem?_toArray, List.getElem?_cons_succ, List.getElem?_cons_zero]; rfl) (by kernel_rfl) (by kernel_rfl) (by kernel_rfl) (by kernel_rfl) (by kernel_rfl) (by exact fun _ _ _ h => h) (by first | exact Or.inl ⟨by rfl, by intro w hSw; go_simp; try with_reducible rfl⟩ | exact Or.inr ⟨by rfl, rfl⟩) hH ?_
      try simp only [Act.put, List.setIfInBounds_toArray, List.set_cons_zero, List.set_cons_succ]
      refine wpK.step (i := 7) (by kernel_rfl) (by simp only [List.getElem?_toArray, List.getElem?_cons_succ, List.getElem?_cons_zero]; rfl) (fun K hK => ?_)
      go_simp
      (refine (HMT.out _).mono ?_); rintro e w3 ⟨rfl, hb3⟩; (have hk3 := Below.next hyd hb3); go_simp
      refine hK.out _ _ (by assumption) (fun hH => ?_)
      clear hK K
      try simp only [Act.put, List.setIfInBounds_toArray, List.set_cons_zero, List.set_cons_succ]
      refine wpK.done (by kernel_rfl) ?_ _
      have HK3 := hid hk3
      have HB3 := hid (Below.next HB.out hk3)
      have HO3 := hid (owns_below HO.out hk3)
      clear d0 e2 d1 d2 d3 d4 r0 r1 r2 r3 hyd hH hk3 hb3
      cases qm with
      | true =>
        have HF : Hid (nearX (P.take (j + 1)) (rx, ry, ra, rb) = nearX (P.take j) (rx, ry, ra, rb) ++ [pi]) := hid (by rw [HTK.out, nearX_snoc, if_pos (meetsR_symm.1 (of_decide_eq_true HQM.out))])
        have d0 := cellOf_belowR HK3.out HD0.out
        have e2 := cellOf_belowR HK3.out HE2.out
        have hle := HLE.out
        have hsz := HB3.out.size
        go_wp2_with (at_builtin; refine wpList_append1w T_int19 _ rfl _ _ #[.int .i64 pi] rfl w1.heap.size _ _ _ rfl HO3.out rfl rfl (by intro u hu; simp at hu; subst hu; rfl) ?c2 ?c3 ?_)
        case c2 => omega
        try (case c3 => omega)
        intro v' w4 hown' hgrow hne hwh
        have HO4 : Hid (w4.ownsRow w1.heap.size 3 1 v' (nearX (P.take (j + 1)) (rx, ry, ra, rb)).length ((nearX (P.take (j + 1)) (rx, ry, ra, rb)).map (.int .i64))) := hid (by
          rw [HF.out, List.map_append, List.length_append]; exact hown')
        have HB4 : Hid (Below w1.heap.size w1 w4) := hid (HB3.out.grown hgrow hsz (fun k hk => (HO3.out.lt k hk).1))
        clear hown' hgrow hwh hne d0 e2
        go_wp2
        go_roundw
        case rel => exact ⟨j + 1, _, rfl, by go_num, by omega, HO4, HB4⟩
        case measure => simp [intOf]; omega
      | false =>
        have HF : Hid (nearX (P.take (j + 1)) (rx, ry, ra, rb) = nearX (P.take j) (rx, ry, ra, rb)) := hid (by rw [HTK.out, nearX_snoc, if_neg (fun z => of_decide_eq_false HQM.out (meetsR_symm.1 z)), List.append_nil])
        go_wp2_with fail
        go_roundw
        case rel => exact ⟨j + 1, _, rfl, by go_num, by omega, hid (by rw [HF.out]; exact HO3.out), HB3⟩
        case measure => simp [intOf]; omega
    · have j1 : ¬ (j : Int) < (np : Int) := by omega
      have HOF : Hid (wr.ownsRow w1.heap.size 3 1 vo (nearX P (rx, ry, ra, rb)).length ((nearX P (rx, ry, ra, rb)).map (.int .i64))) := hid (by
        have h1 := HO.out
        rw [List.take_of_length_le (by rw [HN.out]; omega)] at h1
        exact h1)
      go_wp2_with fail
      go_ret
      exact ⟨_, rfl, ownsRow_base HOF.out HB1.out.size, Below.next HB1.out HB.out⟩
set_option maxRecDepth 100000 in
set_option maxHeartbeats 4000000 in
theorem ref19_May (S : Int) (sa ap : Option Addr) (nb cb np cp : Nat) (B : List R4) (P : List Pl) (rx ry ra rb : Int) (w : World) (hs : SlR w (.slice sa nb cb) B) (hp : SlPl w (.slice ap np cp) P) (hlB : B.length ≤ 1000) (hl : P.length ≤ 1000) : Calls Tryz.prog 21 #[.agg #[.int .i64 S, .slice sa nb cb, .slice ap np cp], .agg #[.int .i64 rx, .int .i64 ry, .int .i64 ra, .int .i64 rb]] w fun e w' => e = .returned (.int .i64 (mayX S B P (rx, ry, ra, rb))) ∧ Below w.heap.size w w' := by
  have hnp : P.length = np := by obtain ⟨a, c, e, -⟩ := hp; simp only [Value.slice.injEq] at e; exact e.2.1.symm
  have HS := hid hs
  have HP := hid hp
  have HN := hid hnp
  have HLB := hid (And.intro hlB hl)
  clear hs hp hnp hlB hl
  obtain ⟨qw, hqw⟩ : ∃ b, decide (WithinR (rx, ry, ra, rb) S) = b := ⟨_, rfl⟩
  have HQW := hid hqw
  clear hqw
  go_enter Tryz.func21, Tryz.ntmps21
  go_upto_region 1 with fail
  generalize hW : World.alloc (World.alloc w _) _ = w1
  obtain ⟨g, hg⟩ : ∃ g, g = w.heap.size := ⟨_, rfl⟩
  obtain ⟨gr, hgr⟩ : ∃ go, go = w.heap.size + 1 := ⟨_, rfl⟩
  have hz : (World.alloc w (.cells #[.int .i64 S, .slice sa nb cb, .slice ap np cp] 32)).heap.size = w.heap.size + 1 := by simp
  try rw [hz]
  try rw [← hgr]
  try rw [← hg]
  have hb1 : Below w.heap.size w w1 := by rw [← hW]; exact Below.next (Below.new _ _) (Below.new _ _)
  have HX1 : Hid (Blk w1 g #[.int .i64 S, .slice sa nb cb, .slice ap np cp]) := hid (by rw [← hW, hg]; exact (Blk.new w _ _).below (Below.new _ _))
  have HR1 : Hid (Blk w1 gr #[.int .i64 rx, .int .i64 ry, .int .i64 ra, .int .i64 rb]) := hid (by rw [← hW, hgr, ← hz]; exact Blk.new _ _ _)
  have HB1 := hid hb1
  clear hW hg hgr hz hb1
  obtain ⟨l0, l1, l2⟩ := HX1.out.c3v
  obtain ⟨r0, r1, r2, r3⟩ := HR1.out.c4r
  go_wp2_with fail
  refine (ref19_Within rx ry ra rb S w1 qw HQW).mono ?_
  rintro e w2 ⟨rfl, hb⟩
  have HB2 := hid (Below.next HB1.out hb)
  have HX2 := hid (HX1.out.below hb)
  have HR2 := hid (HR1.out.below hb)
  clear hb l0 l1 l2 r0 r1 r2 r3
  obtain ⟨l0, l1, l2⟩ := HX2.out.c3v
  obtain ⟨r0, r1, r2, r3⟩ := HR2.out.c4r
  cases qw with
  | false =>
    have HM : Hid (mayX S B P (rx, ry, ra, rb) = 11) := hid (by unfold mayX; rw [if_pos]; exact .inl (of_decide_eq_false HQW.out))
    go_wp2_with fail
    go_ret
    exact ⟨by rw [HM.out]; rfl, HB2.out⟩
  | true =>
    by_cases ha : 16 < ra
    · have HM : Hid (mayX S B P (rx, ry, ra, rb) = 11) := hid (by unfold mayX; rw [if_pos]; exact .inr (.inl ha))
      go_wp2_with fail
      go_ret
      exact ⟨by rw [HM.out]; rfl, HB2.out⟩
    by_cases hbb : 16 < rb
    · have HM : Hid (mayX S B P (rx, ry, ra, rb) = 11) := hid (by unfold mayX; rw [if_pos]; exact .inr (.inr hbb))
      go_wp2_with fail
      go_ret
      exact ⟨by rw [HM.out]; rfl, HB2.out⟩
    have HIF : Hid (¬ (¬ WithinR (rx, ry, ra, rb) S ∨ 16 < ra ∨ 16 < rb)) := hid (by
      rintro (z | z | z)
      · exact z (of_decide_eq_true HQW.out)
      · exact ha z
      · exact hbb z)
    go_wp2_with fail
    refine (ref19_Blocked S sa ap nb cb np cp B rx ry ra rb w2 (HS.out.below HB2.out) HLB.out.1).mono ?_
    rintro e w3 ⟨rfl, hb⟩
    have HB3 := hid (Below.next HB2.out hb)
    have HX3 := hid (HX2.out.below hb)
    have HR3 := hid (HR2.out.below hb)
    clear hb l0 l1 l2 r0 r1 r2 r3
    obtain ⟨l0, l1, l2⟩ := HX3.out.c3v
    obtain ⟨r0, r1, r2, r3⟩ := HR3.out.c4r
    obtain ⟨bl, hbl⟩ : ∃ b, blkX B (rx, ry, ra, rb) = b := ⟨_, rfl⟩
    rw [hbl]
    have HBL := hid hbl
    clear hbl
    cases bl with
    | true =>
      have HM : Hid (mayX S B P (rx, ry, ra, rb) = 33) := hid (by unfold mayX; rw [if_neg HIF.out, if_pos HBL.out])
      go_wp2_with fail
      go_ret
      exact ⟨by rw [HM.out]; rfl, HB3.out⟩
    | false =>
      go_wp2_with fail
      refine (ref19_Near S sa ap nb cb np cp P rx ry ra rb w3 (HP.out.below HB3.out) HLB.out.2).mono ?_
      rintro e w4 ⟨v, rfl, ho, hb⟩
      have HB4 := hid (Below.next HB3.out hb)
      have HX4 := hid (HX3.out.below hb)
      obtain ⟨av, cv, hv, -⟩ := ownsRow.rd ho
      obtain ⟨m, hm⟩ : ∃ m, (nearX P (rx, ry, ra, rb)).length = m := ⟨_, rfl⟩
      rw [hm] at hv
      subst hv
      have HM0 := hid hm
      clear hb l0 l1 l2 r0 r1 r2 r3 ho hm
      obtain ⟨l0, l1, l2⟩ := HX4.out.c3v
      by_cases hm0 : 0 < m
      · have HM : Hid (mayX S B P (rx, ry, ra, rb) = 32) := hid (by
          unfold mayX
          rw [if_neg HIF.out, if_neg (by rw [HBL.out]; simp), if_pos]
          intro e; have := HM0.out; rw [e] at this; simp at this; omega)
        go_wp2_with fail
        go_ret
        exact ⟨by rw [HM.out]; rfl, HB4.out⟩
      · have HNE : Hid (nearX P (rx, ry, ra, rb) = []) := hid (List.eq_nil_of_length_eq_zero (by have := HM0.out; omega))
        by_cases h256 : 256 ≤ np
        · have HM : Hid (mayX S B P (rx, ry, ra, rb) = 12) := hid (by
            unfold mayX
            rw [if_neg HIF.out, if_neg (by rw [HBL.out]; simp), if_neg (by rw [HNE.out]; simp), if_pos (by rw [HN.out]; exact h256)])
          have h257 : (256 : Int) ≤ (np : Int) := by omega
          go_wp2_with fail
          go_ret
          exact ⟨by rw [HM.out]; rfl, HB4.out⟩
        · have HM : Hid (mayX S B P (rx, ry, ra, rb) = 0) := hid (by
            unfold mayX
            rw [if_neg HIF.out, if_neg (by rw [HBL.out]; simp), if_neg (by rw [HNE.out]; simp), if_neg (by rw [HN.out]; exact h256)])
          have h257 : ¬ (256 : Int) ≤ (np : Int) := by omega
          go_wp2_with fail
          go_ret
          exact ⟨by rw [HM.out]; rfl, HB4.out⟩
end Go.Proofs.YtjbnfppnmljbmaaGreat
end
