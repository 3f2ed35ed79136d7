/- Joined texts, in this order: DiskNew, DiskIo. Each one's first remark says what it proves; no condition beyond those that its theorems name. -/
import Derived.Test.YtohknblokejldaaJLawSlotsLoads15
import Derived.Maps.OwnOps
section
/- Contract: disk.New. -/
namespace Go.Proofs.Ytohknblokejldaa
open Go.RowKit
open Go.Lib (hid)
set_option linter.unusedVariables false

def dkNew (n size : Nat) : Dk := ⟨size, List.replicate n (List.replicate size 0), [], false, 0, false, 0⟩
/-- the blocks of a disk that is being made -/
def dkW (g b : Nat) (dv : Value) (j : Nat) : Prop := j = g ∨ j = b ∨ dv.ownBlock = some j
theorem DkIs.push {wr wa wb wc : World} {g b g6 size k : Nat} {dv dv' : Value} {V : List Value} {R : Nat → Prop} (h : DkIs wr g (dkW g b dv) R (dkNew k size) b dv V [])
    (hg6 : wr.heap.size ≤ g6) (hz : wa.ownsRow 0 5 1 (.slice (some ⟨g6, 0, none⟩) size size) size (List.replicate size (.int .u8 0))) (ha : Below wr.heap.size wr wa) (hb : Below wa.heap.size wa wb)
    (hown : wc.ownsRow 0 27 1 dv' (k + 1) (V ++ [.slice (some ⟨g6, 0, none⟩) size size])) (hg : wb.grownBy wc dv.ownBlock) (hwh : ∀ j, dv'.ownBlock = some j → dv.ownBlock = some j ∨ wb.heap.size ≤ j) (hs : size ≤ 4096) :
    DkIs (wc.setCell ⟨g, 1, none⟩ dv') g (dkW g b dv') (fun j => R j ∨ j = g6) (dkNew (k + 1) size) b dv' (V ++ [.slice (some ⟨g6, 0, none⟩) size size]) [] := by
  have s1 := ha.size
  have s2 := hb.size
  have s3 := hg.size
  have g6l : g6 < wa.heap.size := (hz.lt g6 rfl).2
  have gl := h.blk.lt
  have bl := h.map.lt
  have hab : Below wr.heap.size wr wb := ha.trans (hb.mono s1)
  have hu : Upd (fun j => dv.ownBlock = some j) wr wc := (Upd.of_below hab).trans (Upd.of_grown hg) (fun _ _ x => x)
  have hblk : Blk wc g #[.int .i64 (size : Int), dv, .map (some b), .bool false, .int .i64 0, .bool false, .int .i64 0] := h.blk.upd hu (fun q => (h.wd g q).2.1 rfl)
  have dvl : ∀ j, dv.ownBlock = some j → j < wr.heap.size := fun j hj => ownBlock_lt h.own hj
  have dn : ∀ j, dv'.ownBlock = some j → j ≠ g ∧ j ≠ b ∧ ¬ R j ∧ j ≠ g6 := fun j hj => by
    rcases hwh j hj with q | q
    · exact ⟨(h.wd j q).2.1, (h.wd j q).2.2, h.wr _ (h.wd j q).1, by have := dvl j q; omega⟩
    · exact ⟨by omega, by omega, fun r => by have := h.rlt _ r; omega, by omega⟩
  have hset : Upd (fun j => j = g) wc (wc.setCell ⟨g, 1, none⟩ dv') := Upd.setCell wc g 1 dv'
  have hzl : bv (List.replicate size 0) = List.replicate size (.int .u8 0) := by unfold bv; rw [List.map_replicate]; rfl
  have hsec6 : SlB wc (.slice (some ⟨g6, 0, none⟩) size size) (List.replicate size 0) := by
    have h0 : wc.ownsRow 0 5 1 (.slice (some ⟨g6, 0, none⟩) size size) size (List.replicate size (.int .u8 0)) := (Upd.of_grown hg).owns (owns_below hz hb) (fun j hj q => by
      have := dvl j q
      simp [Value.ownBlock] at hj
      omega)
    have h1 : wc.ownsRow 0 5 1 (.slice (some ⟨g6, 0, none⟩) size size) (List.replicate size (0 : UInt8)).length (bv (List.replicate size 0)) := by rw [hzl, List.length_replicate]; exact h0
    exact ownsRow.slb h1 (by simp; omega)
  have hne6 : g6 ≠ g := by omega
  refine ⟨by simpa [dkNew] using hblk.set 1 dv', ?_, ?_, ?_, rfl, by simp, .inl rfl, .inr (.inl rfl), fun j hj => ⟨.inr (.inr hj), (dn j hj).1, (dn j hj).2.1⟩, h.ne, ?_, ?_, ?_⟩
  · have : (dkNew (k + 1) size).D.length = k + 1 := by simp [dkNew]
    rw [this]
    exact hset.owns hown (fun j hj q => (dn j hj).1 q)
  · intro i l hl
    have hVl : V.length = k := by have := h.own.1; simpa [dkNew] using this
    simp only [dkNew, List.getElem?_replicate] at hl
    by_cases hik : i < k + 1
    · rw [if_pos hik] at hl
      obtain rfl := Option.some.inj hl
      by_cases hi : i < k
      · obtain ⟨v, h1, h2⟩ := h.sec i (List.replicate size 0) (by simp [dkNew, List.getElem?_replicate, hi])
        refine ⟨v, by rw [List.getElem?_append_left (by omega)]; exact h1, ?_⟩
        have h3 := h2.upd (R' := fun j => R j ∨ j = g6) hu (fun j hr q => h.wr _ (h.wd j q).1 hr) (fun _ => .inl)
        exact h3.upd hset (fun j hr q => by
          rcases hr with hr | hr
          · exact h.wr _ h.wg (q ▸ hr)
          · omega) (fun _ => id)
      · have : i = k := by omega
        subst this
        refine ⟨_, by rw [List.getElem?_append_right (by omega), hVl, Nat.sub_self]; rfl, ?_⟩
        have h3 : Sec wc (fun j => R j ∨ j = g6) (.slice (some ⟨g6, 0, none⟩) size size) (List.replicate size 0) := ⟨hsec6, fun j hj => by simp [Value.ownBlock] at hj; exact .inr hj.symm⟩
        exact h3.upd hset (fun j hr q => by
          rcases hr with hr | hr
          · exact h.wr _ h.wg (q ▸ hr)
          · omega) (fun _ => id)
    · rw [if_neg hik] at hl; simp at hl
  · exact (h.map.upd hu (fun q => (h.wd b q).2.2 rfl)).upd hset (fun q => h.ne q.symm)
  · intro j hj hr
    rcases hj with q | q | q
    · rcases hr with hr | hr
      · exact h.wr _ h.wg (q ▸ hr)
      · omega
    · rcases hr with hr | hr
      · exact h.wr _ h.wb (q ▸ hr)
      · omega
    · rcases hr with hr | hr
      · exact (dn j q).2.2.1 hr
      · exact (dn j q).2.2.2 hr
  · intro j hj
    simp only [World.size_setCell]
    rcases hj with q | q | q
    · omega
    · omega
    · exact (hown.lt j q).2
  · intro j hj
    simp only [World.size_setCell]
    rcases hj with q | q
    · have := h.rlt j q; omega
    · omega

theorem disk_New_no (n size : Int) (w : World) (h : n < 1 ∨ (1 ≤ n ∧ 4096 < n) ∨ (1 ≤ n ∧ n ≤ 4096 ∧ size < 16) ∨ (1 ≤ n ∧ n ≤ 4096 ∧ 16 ≤ size ∧ 4096 < size)) :
    Calls Try.prog 20 #[.int .i64 n, .int .i64 size] w fun e w' => e = .returned (.pointer none) ∧ w = w' := by
  rcases h with h | ⟨h1, h2⟩ | ⟨h1, h2, h3⟩ | ⟨h1, h2, h3, h4⟩
  all_goals
    go_enter Try.func20, Try.ntmps20
    go_wp2
    go_ret
    exact ⟨rfl, rfl⟩

set_option maxRecDepth 100000 in
set_option maxHeartbeats 1000000 in
theorem disk_New (n size : Nat) (h1 : 1 ≤ n) (h2 : n ≤ 4096) (h3 : 16 ≤ size) (h4 : size ≤ 4096) (w : World) :
    Calls Try.prog 20 #[.int .i64 (n : Int), .int .i64 (size : Int)] w fun e w' => ∃ g W R, e = .returned (.pointer (some ⟨g, 0, none⟩)) ∧ DiskIs w' g W R (dkNew n size) ∧ (∀ k, W k → w.heap.size ≤ k) ∧ (∀ k, R k → w.heap.size ≤ k) ∧ Below w.heap.size w w' := by
  have e1 : ¬ (n : Int) < 1 := by omega
  have e2 : ¬ (4096 : Int) < (n : Int) := by omega
  have e3 : ¬ (size : Int) < 16 := by omega
  have e4 : ¬ (4096 : Int) < (size : Int) := by omega
  have hmm := @run_makeMap Try.prog
  have h0 : DkIs ((w.alloc (.map #[] 0)).alloc (.cells #[.int .i64 (size : Int), .slice none 0 0, .map (some w.heap.size), .bool false, .int .i64 0, .bool false, .int .i64 0] 118)) (w.heap.size + 1) (dkW (w.heap.size + 1) w.heap.size (.slice none 0 0)) (fun _ => False) (dkNew 0 size) w.heap.size (.slice none 0 0) [] [] := by
    refine ⟨by simpa [dkNew] using Blk.new (w.alloc (.map #[] 0)) #[.int .i64 (size : Int), .slice none 0 0, .map (some w.heap.size), .bool false, .int .i64 0, .bool false, .int .i64 0] 118, by simpa [dkNew] using World.ownsRow_nil _ _ _ _, fun i l hl => by simp [dkNew] at hl, (MapE.new w).below (Below.new _ _), rfl, by simp, .inl rfl, .inr (.inl rfl), fun j hj => by simp [Value.ownBlock] at hj, by omega, fun _ _ x => x, fun j hj => ?_, fun _ x => x.elim⟩
    rcases hj with q | q | q
    · simp; omega
    · simp; omega
    · simp [Value.ownBlock] at q
  have H0 := hid h0
  have HB0 : Hid (Below w.heap.size w ((w.alloc (.map #[] 0)).alloc (.cells #[.int .i64 (size : Int), .slice none 0 0, .map (some w.heap.size), .bool false, .int .i64 0, .bool false, .int .i64 0] 118))) := hid (Below.next (Below.new _ _) (Below.new _ _))
  clear h0
  go_enter Try.func20, Try.ntmps20
  go_wp2
  go_loopw [25] (fun v25 wr => ∃ (k : Nat) (dv : Value) (V : List Value) (R : Nat → Prop), v25 = .int .i64 k ∧ k ≤ n ∧ Hid (DkIs wr (w.heap.size + 1) (dkW (w.heap.size + 1) w.heap.size dv) R (dkNew k size) w.heap.size dv V []) ∧ Hid (∀ j, R j → w.heap.size ≤ j) ∧ Hid (∀ j, dv.ownBlock = some j → w.heap.size ≤ j) ∧ Hid (Below w.heap.size w wr)) (fun v25 _ => n - (intOf v25).toNat)
  case atStart => exact ⟨0, .slice none 0 0, [], _, rfl, by omega, H0, hid (fun j x => x.elim), hid (fun j hj => by simp [Value.ownBlock] at hj), HB0⟩
  case round =>
    clear H0 HB0
    obtain ⟨k, dv, V, R, rfl, hk, HD, HR, HV, HB⟩ := hrel
    by_cases hlt : k < n
    · have HDD := hid (HD.out.below ((Below.refl wr.heap.size wr).drew))
      have hc1 : ∀ w', Upd (fun j => dv.ownBlock = some j) wr w' → w'.cell? ⟨w.heap.size + 1, 1, none⟩ = some dv := fun w' hu => by
        rw [(HD.out.blk.upd hu (fun q => (HD.out.wd _ q).2.1 rfl)).cell]; rfl
      have hf1 : ∀ w', Upd (fun j => dv.ownBlock = some j) wr w' → w'.frozen? ⟨w.heap.size + 1, 1, none⟩ = false := fun w' hu =>
        (HD.out.blk.upd hu (fun q => (HD.out.wd _ q).2.1 rfl)).unfrozen 1
      have HC1 := hid hc1
      have HF1 := hid hf1
      have hu0 : Upd (fun j => dv.ownBlock = some j) wr wr.drew := (Upd.refl _ _).drew
      have HOWND : Hid (wr.drew.ownsRow 0 27 1 dv k V) := hid (by have := HDD.out.own; simpa [dkNew] using this)
      clear hf1
      go_wp2_with fail
      refine wp_region_kept [9, 10, 11] (fun w' => Upd (fun j => dv.ownBlock = some j) wr w') (by kernel_rfl) (by first | assumption | exact hH.new _) (fun hH => ?_)
      refine wpK.take (i := 0) (v := _) (by simp only [List.getElem?_toArray, List.getElem?_cons_succ, List.getElem?_cons_zero]; rfl) (by kernel_rfl) (by kernel_rfl) (by kernel_rfl) (by kernel_rfl) (by kernel_rfl) (by exact fun _ _ _ h => h) (by first | exact Or.inl ⟨by rfl, by intro w hSw; go_simp; try with_reducible rfl⟩ | exact Or.inr ⟨by rfl, rfl⟩) hH ?_
      try simp only [Act.put, List.setIfInBounds_toArray, List.set_cons_zero, List.set_cons_succ]
      refine wpK.take (i := 1) (v := _) (by simp only [List.getElem?_toArray, List.getElem?_cons_succ, List.getElem?_cons_zero]; rfl) (by kernel_rfl) (by kernel_rfl) (by kernel_rfl) (by kernel_rfl) (by kernel_rfl) (by exact fun _ _ _ h => h) (by first | exact Or.inl ⟨by rfl, by intro w hSw; go_simp; try with_reducible rfl⟩ | exact Or.inr ⟨by rfl, rfl⟩) hH ?_
      try simp only [Act.put, List.setIfInBounds_toArray, List.set_cons_zero, List.set_cons_succ]
      refine wpK.take (i := 2) (v := _) (by simp only [List.getElem?_toArray, List.getElem?_cons_succ, List.getElem?_cons_zero]; rfl) (by kernel_rfl) (by kernel_rfl) (by kernel_rfl) (by kernel_rfl) (by kernel_rfl) (by exact fun _ _ _ h => h) (by first | exact Or.inl ⟨by rfl, by intro w hSw; go_simp; try with_reducible rfl⟩ | exact Or.inr ⟨by rfl, rfl⟩) hH ?_
      try simp only [Act.put, List.setIfInBounds_toArray, List.set_cons_zero, List.set_cons_succ]
      refine wpK.take (i := 3) (v := _) (by simp only [List.getElem?_toArray, List.getElem?_cons_succ, List.getElem?_cons_zero]; rfl) (by kernel_rfl) (by kernel_rfl) (by kernel_rfl) (by kernel_rfl) (by kernel_rfl) (by exact fun _ _ _ h => h) (by first | exact Or.inl ⟨by rfl, by intro w hSw; go_simp; try with_reducible rfl⟩ | exact Or.inr ⟨by rfl, rfl⟩) hH ?_
      try simp only [Act.put, List.setIfInBounds_toArray, List.set_cons_zero, List.set_cons_succ]
      refine wpK.take (i := 4) (v := _) (by simp only [List.getElem?_toArray, List.getElem?_cons_succ, List.getElem?_cons_zero]; rfl) (by kernel_rfl) (by kernel_rfl) (by kernel_rfl) (by kernel_rfl) (by kernel_rfl) (by exact fun _ _ _ h => h) (by first | exact Or.inl ⟨by rfl, by intro w hSw; go_simp; try with_reducible rfl⟩ | exact Or.inr ⟨by rfl, rfl⟩) hH ?_
      try simp only [Act.put, List.setIfInBounds_toArray, List.set_cons_zero, List.set_cons_succ]
      refine wpK.take (i := 5) (v := _) (by simp only [List.getElem?_toArray, List.getElem?_cons_succ, List.getElem?_cons_zero]; rfl) (by kernel_rfl) (by kernel_rfl) (by kernel_rfl) (by kernel_rfl) (by kernel_rfl) (by exact fun _ _ _ h => h) (by first | exact Or.inl ⟨by rfl, by intro w hSw; go_simp; try with_reducible rfl⟩ | exact Or.inr ⟨by rfl, rfl⟩) hH ?_
      try simp only [Act.put, List.setIfInBounds_toArray, List.set_cons_zero, List.set_cons_succ]
      refine wpK.step (i := 6) (by kernel_rfl) (by simp only [List.getElem?_toArray, List.getElem?_cons_succ, List.getElem?_cons_zero]; rfl) (fun K hK => ?_)
      refine step_make T_bytes rfl rfl _ _ rfl 0 .i64 .i64 (size : Int) (size : Int) size size rfl rfl rfl rfl (Nat.le_refl _) (by omega) (Nat.zero_le _) ?_; intro g6 wA hg6 hown6 hbA hsA; have HG6 := hid hg6; have HSA := hid hsA; clear hg6 hsA; have hkA := hH.trans (Upd.of_below (S := fun _ => False) hbA) (fun _ _ x => x.elim)
      refine hK.out _ _ (by first | assumption | exact hH.new _) (fun hH => ?_)
      clear hK K
      try simp only [Act.put, List.setIfInBounds_toArray, List.set_cons_zero, List.set_cons_succ]
      refine wpK.step (i := 7) (by kernel_rfl) (by simp only [List.getElem?_toArray, List.getElem?_cons_succ, List.getElem?_cons_zero]; rfl) (fun K hK => ?_)
      go_simp
      refine hK.out _ _ (by first | assumption | exact hH.new _) (fun hH => ?_)
      clear hK K
      try simp only [Act.put, List.setIfInBounds_toArray, List.set_cons_zero, List.set_cons_succ]
      refine wpK.step (i := 8) (by kernel_rfl) (by simp only [List.getElem?_toArray, List.getElem?_cons_succ, List.getElem?_cons_zero]; rfl) (fun K hK => ?_)
      refine step_app1 T_secs wA rfl rfl _ _ rfl 0 dv k V rfl (owns_below HOWND.out hbA) rfl rfl (by intro u hu; simp at hu; subst hu; rfl) (by omega) (Nat.zero_le _) ?_; intro v2 wC hown2 hg2 hnn2 hwh2; obtain ⟨g2, c2, rfl⟩ := Joins.ownsRow_form hown2 (by omega); have hkC := hkA.trans (Upd.of_grown hg2) (fun _ _ x => x); have hc1c := HC1.out _ hkC; have hf1c := HF1.out _ hkC
      refine hK.out _ _ (by first | assumption | exact hH.new _) (fun hH => ?_)
      clear hK K
      try simp only [Act.put, List.setIfInBounds_toArray, List.set_cons_zero, List.set_cons_succ]
      refine wpK.late (i := 9) (by kernel_rfl) (by simp only [List.getElem?_toArray, List.getElem?_cons_succ, List.getElem?_cons_zero]; rfl) (by kernel_rfl) (fun K hK => ?_)
      go_simp
      refine hK.out _ _ ?_
      clear hK K
      try simp only [Act.put, List.setIfInBounds_toArray, List.set_cons_zero, List.set_cons_succ]
      refine wpK.late (i := 10) (by kernel_rfl) (by simp only [List.getElem?_toArray, List.getElem?_cons_succ, List.getElem?_cons_zero]; rfl) (by kernel_rfl) (fun K hK => ?_)
      go_simp
      refine hK.out _ _ ?_
      clear hK K
      try simp only [Act.put, List.setIfInBounds_toArray, List.set_cons_zero, List.set_cons_succ]
      refine wpK.late (i := 11) (by kernel_rfl) (by simp only [List.getElem?_toArray, List.getElem?_cons_succ, List.getElem?_cons_zero]; rfl) (by kernel_rfl) (fun K hK => ?_)
      go_simp
      refine hK.out _ _ ?_
      clear hK K
      try simp only [Act.put, List.setIfInBounds_toArray, List.set_cons_zero, List.set_cons_succ]
      refine wpK.done (by kernel_rfl) ?_ _
      have hp := HDD.out.push (wa := wA) (wb := wA) (g6 := g6) (by have := HG6.out; omega) hown6 hbA (Below.refl _ _) (by simpa using hown2) hg2 hwh2 h4
      have HP := hid hp
      have hsz6 := HSA.out
      have hg6 := HG6.out
      have hsd : w.heap.size ≤ wr.drew.heap.size := HB.out.size
      have HR2 : Hid (∀ j, (R j ∨ j = g6) → w.heap.size ≤ j) := hid (fun j hj => by rcases hj with q | q; exact HR.out j q; omega)
      have HV2 : Hid (∀ j, (Value.slice (some ⟨g2, 0, none⟩) (k + 1) c2).ownBlock = some j → w.heap.size ≤ j) := hid (fun j hj => by rcases hwh2 j hj with q | q; exact HV.out j q; omega)
      have HB2 : Hid (Below w.heap.size w (wC.setCell ⟨w.heap.size + 1, 1, none⟩ (.slice (some ⟨g2, 0, none⟩) (k + 1) c2))) := hid ((HB.out.trans (hkC.below (B := w.heap.size) HB.out.size (fun j _ q => HV.out j q))).setCell (p := ⟨w.heap.size + 1, 1, none⟩) (by simp) _)
      clear hp hown6 hbA hkA hown2 hg2 hnn2 hwh2 hkC hc1c hf1c hH hc1 hu0 hg6 hsz6
      go_wp2_with fail
      go_roundw
      case rel => exact ⟨k + 1, _, _, _, by go_num, by omega, HP, HR2, HV2, HB2⟩
      case measure => simp [intOf]; omega
    · obtain rfl : k = n := by omega
      have HPOST : Hid (DiskIs wr (w.heap.size + 1) (dkW (w.heap.size + 1) w.heap.size dv) R (dkNew k size)) := hid ⟨_, _, _, _, HD.out⟩
      have HW : Hid (∀ j, dkW (w.heap.size + 1) w.heap.size dv j → w.heap.size ≤ j) := hid (fun j hj => by
        rcases hj with q | q | q
        · omega
        · omega
        · exact HV.out j q)
      go_wp2_with fail
      go_ret
      exact ⟨_, _, R, rfl, HPOST.out, HW.out, HR.out, HB.out⟩
end Go.Proofs.Ytohknblokejldaa
end
section
/- Contracts: disk.Write, disk.Read. -/
namespace Go.Proofs.Ytohknblokejldaa
open Go.RowKit
open Go.Lib (hid)
set_option linter.unusedVariables false

theorem zero_bytes (w : World) : (zeroValue 27).run Try.prog w = .ok (.slice none 0 0) w := by kernel_rfl

/-- a sector is laid into the cache -/
theorem DkIs.putC {W R : Nat → Prop} {w w1 w2 : World} {g : Nat} {s : Dk} {b : Nat} {dv : Value} {V : List Value} {M : List (Int × Value × List UInt8)} (h : DkIs w g W R s b dv V M) (i : Int) {v : Value} {l : List UInt8}
    (hb : Below w.heap.size w w1) (hown : w1.ownsRow w.heap.size 5 1 v l.length (bv l)) (hl : l.length ≤ 9223372036854775807) (hm : MapE w2 b (aput (M.map fun p => (p.1, p.2.1)) i v)) (hu : Upd (fun k => k = b) w1 w2) :
    DkIs w2 g W (fun k => R k ∨ (w.heap.size ≤ k ∧ k < w2.heap.size)) { s with C := aput s.C i l } b dv V (aput M i (v, l)) := by
  have s1 := hb.size
  have s2 := hu.size
  have h1 := h.below hb
  have bl := h.map.lt
  refine ⟨h1.blk.upd hu (fun q => h.ne q), hu.owns h1.own (fun k hk q => (h.wd k hk).2.2 q), fun j lj hj => ?_, ?_, ?_, fun p hp => ?_, h.wg, h.wb, h.wd, h.ne, fun k hk hr => ?_, fun k hk => by have := h.wlt k hk; omega, fun k hk => ?_⟩
  · obtain ⟨u, hu1, hu2⟩ := h1.sec j lj hj
    exact ⟨u, hu1, hu2.upd hu (fun k hr q => h.wr _ h.wb (q ▸ hr)) (fun _ => .inl)⟩
  · rw [aput_map (fun q : Value × List UInt8 => q.1) M i (v, l)]; exact hm
  · rw [← h.eqC]; exact aput_map (fun q : Value × List UInt8 => q.2) M i (v, l)
  · rcases mem_aput hp with rfl | ⟨hp, -⟩
    · have ho := hu.owns hown (fun k hk q => by have := (hown.lt k hk).1; omega)
      exact ⟨ownsRow.slb ho hl, fun k hk => .inr ⟨(ho.lt k hk).1, (ho.lt k hk).2⟩⟩
    · exact (h1.msec p hp).upd hu (fun k hr q => h.wr _ h.wb (q ▸ hr)) (fun _ => .inl)
  · rcases hr with hr | hr
    · exact h.wr k hk hr
    · have := h.wlt k hk; omega
  · rcases hk with hk | hk
    · have := h.rlt k hk; omega
    · exact hk.2

def dkWrite (s : Dk) (i : Int) (l : List UInt8) : Int × Dk :=
  if dkCheck s i ≠ 0 then (dkCheck s i, s) else if l.length ≠ s.size then (10, s) else dkCommand { s with C := aput s.C i l }
set_option maxRecDepth 100000 in
set_option maxHeartbeats 1000000 in
theorem disk_Write (s : Dk) (i : Int) (l : List UInt8) (u : Value) (g : Nat) (W R : Nat → Prop) (w : World) (h : DiskIs w g W R s) (hl : SlB w u l) (hlen : l.length ≤ 1000000) (e0 : Int) (s' : Dk) (hs : Hid (dkWrite s i l = (e0, s'))) :
    Calls Try.prog 21 #[.pointer (some ⟨g, 0, none⟩), .int .i64 i, u] w fun e w' => ∃ R', e = .returned (.int .i64 e0) ∧ DiskIs w' g W R' s' ∧ (∀ k, R' k → R k ∨ w.heap.size ≤ k) ∧ Upd W w w' := by
  have HI := hid h
  have HL := hid hl
  obtain ⟨ck, hck⟩ : ∃ ck, dkCheck s i = ck := ⟨_, rfl⟩
  have HCK := hid hck
  have hs2 := hs.out
  unfold dkWrite at hs2
  rw [hck] at hs2
  obtain ⟨ua, uc, rfl, -⟩ := hl
  clear hck hs
  by_cases h0 : ck = 0
  case neg =>
    rw [if_pos h0] at hs2
    simp only [Prod.mk.injEq] at hs2
    obtain ⟨rfl, rfl⟩ := hs2
    have hb : (ck != 0) = true := by simpa using h0
    clear h
    go_enter Try.func21, Try.ntmps21
    go_wp2_with (go_at_call 61; (with_reducible refine (disk_check s i g W R _ HI.out _ HCK).mono ?_); rintro e w' ⟨rfl, rfl⟩)
    go_ret
    exact ⟨R, rfl, HI.out, fun k => .inl, Upd.refl _ _⟩
  subst h0
  rw [if_neg (by simp)] at hs2
  obtain ⟨b, dv, V, M, hd⟩ := h
  have hc0 : w.cell? ⟨g, 0, none⟩ = some (.int .i64 (s.size : Int)) := by rw [hd.blk.cell]; rfl
  by_cases h1 : l.length = s.size
  case neg =>
    rw [if_pos h1] at hs2
    simp only [Prod.mk.injEq] at hs2
    obtain ⟨rfl, rfl⟩ := hs2
    have hb : ((l.length : Int) != (s.size : Int)) = true := by simp; omega
    clear hd h1
    go_enter Try.func21, Try.ntmps21
    go_wp2_with (go_at_call 61; (with_reducible refine (disk_check s i g W R _ HI.out _ HCK).mono ?_); rintro e w' ⟨rfl, rfl⟩)
    go_ret
    exact ⟨R, rfl, HI.out, fun k => .inl, Upd.refl _ _⟩
  rw [if_neg (fun q => q h1)] at hs2
  have HS2 := hid hs2
  have hb : ((l.length : Int) != (s.size : Int)) = false := by simp; omega
  have HD := hid hd
  have hc2 : ∀ w', Below w.heap.size w w' → w'.cell? ⟨g, 2, none⟩ = some (.map (some b)) := fun w' hb => by rw [(hd.blk.below hb).cell]; rfl
  have hk0 := (Below.refl w.heap.size w).drew
  have HLD := hid (HL.out.below hk0)
  clear hd h1 hs2
  go_enter Try.func21, Try.ntmps21
  go_wp2_with (go_at_call 61; (with_reducible refine (disk_check s i g W R _ HI.out _ HCK).mono ?_); rintro e w' ⟨rfl, rfl⟩)
  refine wp_region_kept [7] (fun w' => Below w.heap.size w w') (by kernel_rfl) (by assumption) (fun hH => ?_)
  refine wpK.take (i := 0) (v := _) (by simp only [List.getElem?_toArray, List.getElem?_cons_succ, List.getElem?_cons_zero]; rfl) (by kernel_rfl) (by kernel_rfl) (by kernel_rfl) (by kernel_rfl) (by kernel_rfl) (by exact fun _ _ _ h => h) (by first | exact Or.inl ⟨by rfl, by intro w hSw; go_simp; try with_reducible rfl⟩ | exact Or.inr ⟨by rfl, rfl⟩) hH ?_
  try simp only [Act.put, List.setIfInBounds_toArray, List.set_cons_zero, List.set_cons_succ]
  refine wpK.take (i := 1) (v := _) (by simp only [List.getElem?_toArray, List.getElem?_cons_succ, List.getElem?_cons_zero]; rfl) (by kernel_rfl) (by kernel_rfl) (by kernel_rfl) (by kernel_rfl) (by kernel_rfl) (by exact fun _ _ _ h => h) (by first | exact Or.inl ⟨by rfl, by intro w hSw; go_simp; try with_reducible rfl⟩ | exact Or.inr ⟨by rfl, rfl⟩) hH ?_
  try simp only [Act.put, List.setIfInBounds_toArray, List.set_cons_zero, List.set_cons_succ]
  refine wpK.take (i := 2) (v := _) (by simp only [List.getElem?_toArray, List.getElem?_cons_succ, List.getElem?_cons_zero]; rfl) (by kernel_rfl) (by kernel_rfl) (by kernel_rfl) (by kernel_rfl) (by kernel_rfl) (by exact fun _ _ _ h => h) (by first | exact Or.inl ⟨by rfl, by intro w hSw; go_simp; try with_reducible rfl⟩ | exact Or.inr ⟨by rfl, rfl⟩) hH ?_
  try simp only [Act.put, List.setIfInBounds_toArray, List.set_cons_zero, List.set_cons_succ]
  refine wpK.take (i := 3) (v := _) (by simp only [List.getElem?_toArray, List.getElem?_cons_succ, List.getElem?_cons_zero]; rfl) (by kernel_rfl) (by kernel_rfl) (by kernel_rfl) (by kernel_rfl) (by kernel_rfl) (by exact fun _ _ _ h => h) (by first | exact Or.inl ⟨by rfl, by intro w hSw; go_simp; try with_reducible rfl⟩ | exact Or.inr ⟨by rfl, rfl⟩) hH ?_
  try simp only [Act.put, List.setIfInBounds_toArray, List.set_cons_zero, List.set_cons_succ]
  refine wpK.take (i := 4) (v := _) (by simp only [List.getElem?_toArray, List.getElem?_cons_succ, List.getElem?_cons_zero]; rfl) (by kernel_rfl) (by kernel_rfl) (by kernel_rfl) (by kernel_rfl) (by kernel_rfl) (by exact fun _ _ _ h => h) (by first | exact Or.inl ⟨by rfl, by intro w hSw; go_simp; try with_reducible rfl⟩ | exact Or.inr ⟨by rfl, rfl⟩) hH ?_
  try simp only [Act.put, List.setIfInBounds_toArray, List.set_cons_zero, List.set_cons_succ]
  refine wpK.take (i := 5) (v := _) (by simp only [List.getElem?_toArray, List.getElem?_cons_succ, List.getElem?_cons_zero]; rfl) (by kernel_rfl) (by kernel_rfl) (by kernel_rfl) (by kernel_rfl) (by kernel_rfl) (by exact fun _ _ _ h => h) (by first | exact Or.inl ⟨by rfl, by intro w hSw; go_simp; try with_reducible rfl⟩ | exact Or.inr ⟨by rfl, rfl⟩) hH ?_
  try simp only [Act.put, List.setIfInBounds_toArray, List.set_cons_zero, List.set_cons_succ]
  refine wpK.step (i := 6) (by kernel_rfl) (by simp only [List.getElem?_toArray, List.getElem?_cons_succ, List.getElem?_cons_zero]; rfl) (fun K hK => ?_)
  go_simp
  (refine (bytes_Clone l _ _ HLD.out (by omega)).mono ?_); rintro e w1 ⟨v1, rfl, hown1, hb1⟩; (have hk1 := Below.next hH hb1); (have hmap1 := (HD.out.below hk1).map); go_simp
  refine hK.out _ _ (by assumption) (fun hH => ?_)
  clear hK K
  try simp only [Act.put, List.setIfInBounds_toArray, List.set_cons_zero, List.set_cons_succ]
  refine wpK.late (i := 7) (by kernel_rfl) (by simp only [List.getElem?_toArray, List.getElem?_cons_succ, List.getElem?_cons_zero]; rfl) (by kernel_rfl) (fun K hK => ?_)
  refine step_putE _ rfl _ _ _ rfl Try.underlying115 Try.underlying3 rfl hmap1 i rfl v1 rfl ?_; intro w2 hm2 hu2 hs2
  refine hK.out _ _ ?_
  clear hK K
  try simp only [Act.put, List.setIfInBounds_toArray, List.set_cons_zero, List.set_cons_succ]
  refine wpK.done (by kernel_rfl) ?_ _
  have hp := HD.out.putC i hk1 (show w1.ownsRow w.heap.size 5 1 v1 l.length (bv l) from hown1) (by omega) hm2 hu2
  have HP : Hid (DiskIs w2 g W (fun k => R k ∨ (w.heap.size ≤ k ∧ k < w2.heap.size)) { s with C := aput s.C i l }) := hid ⟨_, _, _, _, hp⟩
  have HU : Hid (Upd W w w2) := hid ((Upd.of_below (S := W) hk1).trans hu2 (fun k _ q => q ▸ HD.out.wb))
  clear hp hown1 hb1 hk1 hmap1 hm2 hu2 hs2 hH hc2 hk0
  go_wp2_with fail
  refine (disk_command _ g W _ w2 HP.out e0 s' HS2).mono ?_
  rintro e w3 ⟨rfl, hi3, hu3⟩
  have HPOST : Hid (DiskIs w3 g W (fun k => R k ∨ (w.heap.size ≤ k ∧ k < w2.heap.size)) s' ∧ Upd W w w3) := hid ⟨hi3, HU.out.trans hu3 (fun _ _ x => x)⟩
  clear hi3 hu3
  go_wp2_with fail
  go_ret
  exact ⟨_, rfl, HPOST.out.1, fun k hk => hk.imp id (fun q => q.1), HPOST.out.2⟩

/-- what is read, and an error's number -/
def dkSector (s : Dk) (i : Int) : List UInt8 := (s.C.lookup i).getD (s.D.getD i.toNat [])
def dkRead (s : Dk) (i : Int) : List UInt8 × Int := if dkCheck s i ≠ 0 then ([], dkCheck s i) else (dkSector s i, 0)
set_option maxRecDepth 100000 in
set_option maxHeartbeats 1000000 in
theorem disk_Read (s : Dk) (i : Int) (g : Nat) (W R : Nat → Prop) (w : World) (h : DiskIs w g W R s) (l : List UInt8) (e0 : Int) (hs : Hid (dkRead s i = (l, e0))) (hlen : l.length ≤ 1000000) :
    Calls Try.prog 38 #[.pointer (some ⟨g, 0, none⟩), .int .i64 i] w fun e w' => ∃ v, e = .returned (.tuple #[v, .int .i64 e0]) ∧ w'.ownsRow w.heap.size 5 1 v l.length (bv l) ∧ Below w.heap.size w w' := by
  have HI := hid h
  obtain ⟨ck, hck⟩ : ∃ ck, dkCheck s i = ck := ⟨_, rfl⟩
  have HCK := hid hck
  have hs2 := hs.out
  unfold dkRead at hs2
  rw [hck] at hs2
  clear hs
  by_cases h0 : ck = 0
  case neg =>
    rw [if_pos h0] at hs2
    simp only [Prod.mk.injEq] at hs2
    obtain ⟨rfl, rfl⟩ := hs2
    have hb : (ck != 0) = true := by simpa using h0
    clear h hck
    go_enter Try.func38, Try.ntmps38
    go_wp2_with (go_at_call 61; (with_reducible refine (disk_check s i g W R _ HI.out _ HCK).mono ?_); rintro e w' ⟨rfl, rfl⟩)
    go_ret2
    exact ⟨_, rfl, World.ownsRow_nil _ _ _ _, Below.refl _ _⟩
  subst h0
  rw [if_neg (by simp)] at hs2
  simp only [Prod.mk.injEq] at hs2
  obtain ⟨hl, rfl⟩ := hs2
  obtain ⟨b, dv, V, M, hd⟩ := h
  have hc2 : w.cell? ⟨g, 2, none⟩ = some (.map (some b)) := by rw [hd.blk.cell]; rfl
  have HMAP := hid hd.map
  have hlk : (M.map fun p => (p.1, p.2.1)).lookup i = (M.lookup i).map (·.1) := lookup_map (fun q : Value × List UInt8 => q.1) M i
  have hlc : s.C.lookup i = (M.lookup i).map (·.2) := by rw [← hd.eqC]; exact lookup_map (fun q : Value × List UInt8 => q.2) M i
  unfold dkSector at hl
  rw [hlc] at hl
  cases hM : M.lookup i with
  | some q =>
    obtain ⟨v, l'⟩ := q
    rw [hM] at hlk hl
    simp only [Option.map_some, Option.getD_some] at hl hlk
    subst hl
    have HSEC := hid (hd.msec _ (lookup_mem hM)).1
    have HR : Hid (((M.map fun p => (p.1, p.2.1)).lookup i).getD (.slice none 0 0) = v) := hid (by rw [hlk]; rfl)
    have HK : Hid (((M.map fun p => (p.1, p.2.1)).lookup i).isSome = true) := hid (by rw [hlk]; rfl)
    clear hd hlk hlc hM hck
    go_enter Try.func38, Try.ntmps38
    go_wp2_with (first | (go_at_call 61; (with_reducible refine (disk_check s i g W R _ HI.out _ HCK).mono ?_); rintro e w' ⟨rfl, rfl⟩) | (at_lookup; refine wpList_look2 _ rfl _ _ rfl Try.underlying115 Try.underlying3 (.slice none 0 0) zero_bytes rfl HMAP.out i rfl _ HR _ HK ?_) | (go_at_call 62; (with_reducible refine (bytes_Clone l' v _ HSEC.out (by omega)).mono ?_); rintro e w1 ⟨v1, rfl, hown1, hb1⟩))
    go_ret2
    exact ⟨_, rfl, hown1, hb1⟩
  | none =>
    rw [hM] at hlk hl
    simp only [Option.map_none, Option.getD_none] at hl hlk
    have hin : 0 ≤ i ∧ i < (s.D.length : Int) := by
      unfold dkCheck at hck
      split at hck
      · omega
      · split at hck
        · omega
        · omega
    obtain ⟨k, rfl⟩ := Int.eq_ofNat_of_zero_le hin.1
    have hk : k < s.D.length := by omega
    have hD : s.D[k]? = some l := by
      rw [← hl, Int.toNat_natCast, List.getD_eq_getElem?_getD, List.getElem?_eq_getElem hk]; rfl
    obtain ⟨v, hv, hsec⟩ := hd.sec k l hD
    have HSEC := hid hsec.1
    have HR : Hid (((M.map fun p => (p.1, p.2.1)).lookup (k : Int)).getD (.slice none 0 0) = .slice none 0 0) := hid (by rw [hlk]; rfl)
    have HK : Hid (((M.map fun p => (p.1, p.2.1)).lookup (k : Int)).isSome = false) := hid (by rw [hlk]; rfl)
    obtain ⟨gd, cd, e⟩ := Joins.ownsRow_form hd.own (by omega)
    subst e
    have hc1 : w.cell? ⟨g, 1, none⟩ = some (.slice (some ⟨gd, 0, none⟩) s.D.length cd) := by rw [hd.blk.cell]; rfl
    have hcv : w.cell? ⟨gd, k, none⟩ = some v := by rw [hd.own.cellAt k (by omega), hv]
    have hk0 : (0 : Int) ≤ (k : Int) := by omega
    have hk1 : (k : Int) < (s.D.length : Int) := by omega
    obtain ⟨va, vc, rfl, -⟩ := hsec.1
    clear hd hlk hlc hM hck hl hin hD hv hsec
    go_enter Try.func38, Try.ntmps38
    go_wp2_with (first | (go_at_call 61; (with_reducible refine (disk_check s _ g W R _ HI.out _ HCK).mono ?_); rintro e w' ⟨rfl, rfl⟩) | (at_lookup; refine wpList_look2 _ rfl _ _ rfl Try.underlying115 Try.underlying3 (.slice none 0 0) zero_bytes rfl HMAP.out (k : Int) rfl _ HR _ HK ?_) | (go_at_call 62; (with_reducible refine (bytes_Clone l _ _ HSEC.out (by omega)).mono ?_); rintro e w1 ⟨v1, rfl, hown1, hb1⟩))
    go_ret2
    exact ⟨_, rfl, hown1, hb1⟩
end Go.Proofs.Ytohknblokejldaa
end
