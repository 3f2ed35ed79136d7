/- Joined texts, in this order: RtDrop. Each one's first remark says what it proves; no condition beyond those that its theorems name. -/
import Derived.Test.YtjbnfppnmljbmaaGreatJLawLandFinds11
section
/- Contract of rtree's drop. -/
namespace Go.Proofs.YtjbnfppnmljbmaaGreat
open Go.RowKit
open Go.Lib (hid)
set_option linter.unusedVariables false

def DropR (w : World) (d M : Nat) (ks : List Nd) (x : Tg) (w1 : World) (v15 : Value) (wr : World) : Prop :=
  ∃ i : Nat, v15 = .int .i64 (i : Int) ∧ i ≤ M ∧ Hid (x ∉ thgF d (ks.take i)) ∧ Hid (Below w1.heap.size w1 wr) ∧ Hid (Below w.heap.size w wr)
theorem perm_out {l : List Nd} {i : Nat} {z : Nd} (hz : l[i]? = some z) : (z :: l.eraseIdx i).Perm l := by
  obtain ⟨_, hx2⟩ := List.getElem?_eq_some_iff.1 hz
  have h1 : l = l.take i ++ z :: l.drop (i + 1) := by rw [← hx2, List.getElem_cons_drop, List.take_append_drop]
  rw [List.eraseIdx_eq_take_drop_succ]
  conv => rhs; rw [h1]
  exact List.perm_middle.symm
set_option maxRecDepth 100000 in
set_option maxHeartbeats 8000000 in
theorem drop_zero : DropSpec 0 := by
  intro n xv w hd hn hnd hsh
  obtain ⟨⟨x, y, a, b⟩, v⟩ := xv
  obtain ⟨ak, ck, hkv, hsl⟩ := SlN.of_own hn.2.1 (fun k hk => (hn.2.2 k hk).rat)
  obtain ⟨M, hM⟩ : ∃ M, n.ks.length = M := ⟨_, rfl⟩
  obtain ⟨p, hp⟩ : ∃ p, n.p = p := ⟨_, rfl⟩
  have HD := hid hd
  have HN := hid hn
  have HND := hid hnd
  have HSH := hid hsh
  have HKV : Hid (n.kv = .slice ak M ck ∧ n.ks.length = M ∧ n.p = p) := hid ⟨by rw [hkv, hM], hM, hp⟩
  have HM0 : Hid (Mid 0 w w n (fun k => k ∈ blkN (0 + 1) n) n.ks n.kv) := hid (Mid.start hn hsh hnd (fun k hk => hk))
  have hM4 : M ≤ 4 := by rw [← hM]; exact hsh.len
  have hblk := hn.blk
  rw [hp] at hblk
  have c4 := hblk.c7.2.1
  rw [hkv, hM] at c4
  unfold ptrN
  rw [hp]
  simp only [rV]
  clear hd hn hnd hsh hkv hsl hM hp hblk
  go_enter Tryz.func91, Tryz.ntmps91
  go_upto_region 1 with fail
  obtain ⟨w1, hw⟩ : ∃ w1, w1 = w.alloc (.cells #[.int .i64 x, .int .i64 y, .int .i64 a, .int .i64 b] 25) := ⟨_, rfl⟩
  rw [← hw]
  obtain ⟨g, hg⟩ : ∃ g, g = w.heap.size := ⟨_, rfl⟩
  rw [← hg]
  have hb : Below w.heap.size w w1 := by rw [hw]; exact Below.new _ _
  have HX : Hid (Blk w1 g #[.int .i64 x, .int .i64 y, .int .i64 a, .int .i64 b]) := hid (by rw [hw, hg]; exact Blk.new _ _ _)
  have HB := hid hb
  have c4 := cellOf_belowR hb c4
  clear hw hg hb
  go_wp2_with fail
  clear c4
  go_loopw [15] (fun v15 wr => DropR w 0 M n.ks ((x, y, a, b), v) w1 v15 wr) (fun v15 _ => M - (intOf v15).toNat)
  case atStart => exact ⟨0, rfl, by omega, hid (by simp [thgF]), hid (Below.refl _ _), HB⟩
  case round =>
    clear HB
    obtain ⟨i, rfl, hi, HNO, HB1, HB⟩ := hrel
    by_cases hlt : i < M
    · have i1 : (i : Int) < (M : Int) := by omega
      have i0 : (0 : Int) ≤ (i : Int) := by omega
      have HNr : Hid (NodeAt (0 + 1) wr n) := hid (HN.out.below HB.out)
      have hslr : SlN wr ak M ck n.ks := slN_of (by have := HNr.out.2.1; rw [HKV.out.1] at this; exact this) (fun k hk => (HNr.out.2.2 k hk).rat)
      obtain ⟨bk, off, nk, rfl, hnk, hc, hr, htk⟩ := hslr.at hlt
      have HGET := hid hnk
      have HMEM := hid (List.mem_of_getElem? hnk)
      have HTK : Hid (thgF 0 (n.ks.take (i + 1)) = thgF 0 (n.ks.take i) ++ thgN 0 nk) := hid (by rw [htk, thgF, List.flatMap_append]; simp)
      have HNK := hid (HNr.out.2.2 nk HMEM.out)
      obtain ⟨-, k4, h5, h6⟩ := HNK.out.blk.c7
      obtain ⟨nr, hnr⟩ : ∃ z, nk.r = z := ⟨_, rfl⟩
      obtain ⟨nv, hnv⟩ : ∃ z, nk.v = z := ⟨_, rfl⟩
      obtain ⟨pk, hpk⟩ : ∃ z, nk.p = z := ⟨_, rfl⟩
      rw [hnr] at hr
      rw [hnv] at h5
      rw [hpk] at hr h5 h6 hc
      have HNR := hid (And.intro hnr (And.intro hnv hpk))
      obtain ⟨nx, ny, na, nb⟩ := nr
      obtain ⟨r0, r1, r2, r3⟩ := hr
      simp only at r0 r1 r2 r3
      obtain ⟨c0, c1, c2, c3⟩ := (HX.out.below HB1.out).c4r
      have c4 : wr.cell? ⟨p, 4, none⟩ = some (.slice (some ⟨bk, off, none⟩) M ck) := by rw [← HKV.out.2.2, ← HKV.out.1]; exact HNr.out.blk.c7.2.1
      clear hslr hnk htk hnr hnv hpk k4
      go_upto_region 5 with fail
      have q0 : ∀ z, Below wr.heap.size wr z → z.cell? ⟨pk, 0, none⟩ = some (.int .i64 nx) := fun z hz => cellOf_belowR hz r0
      have q1 : ∀ z, Below wr.heap.size wr z → z.cell? ⟨pk, 1, none⟩ = some (.int .i64 ny) := fun z hz => cellOf_belowR hz r1
      have q2 : ∀ z, Below wr.heap.size wr z → z.cell? ⟨pk, 2, none⟩ = some (.int .i64 na) := fun z hz => cellOf_belowR hz r2
      have q3 : ∀ z, Below wr.heap.size wr z → z.cell? ⟨pk, 3, none⟩ = some (.int .i64 nb) := fun z hz => cellOf_belowR hz r3
      have q5 : ∀ z, Below wr.heap.size wr z → z.cell? ⟨pk, 5, none⟩ = some (.int .i64 nv) := fun z hz => cellOf_belowR hz h5
      have d0 : ∀ z, Below wr.heap.size wr z → z.cell? ⟨g, 0, none⟩ = some (.int .i64 x) := fun z hz => cellOf_belowR hz c0
      have d1 : ∀ z, Below wr.heap.size wr z → z.cell? ⟨g, 1, none⟩ = some (.int .i64 y) := fun z hz => cellOf_belowR hz c1
      have d2 : ∀ z, Below wr.heap.size wr z → z.cell? ⟨g, 2, none⟩ = some (.int .i64 a) := fun z hz => cellOf_belowR hz c2
      have d3 : ∀ z, Below wr.heap.size wr z → z.cell? ⟨g, 3, none⟩ = some (.int .i64 b) := fun z hz => cellOf_belowR hz c3
      have hyd := (Below.refl wr.heap.size wr).drew
      by_cases e0 : x = nx
      · subst e0
        by_cases e1 : y = ny
        · subst e1
          by_cases e2 : a = na
          · subst e2
            by_cases e3 : b = nb
            · subst e3
              by_cases e4 : v = nv
              · subst e4
                refine wp_region_kept [] (fun z => Below wr.heap.size wr z) (by kernel_rfl) (by assumption) (fun hH => ?_)
                refine wpK.take (i := 0) (v := _) (by simp only [List.getElem?_toArray, List.getElem?_cons_succ, List.getElem?_cons_zero]; rfl) (by kernel_rfl) (by kernel_rfl) (by kernel_rfl) (by kernel_rfl) (by kernel_rfl) (by exact fun _ _ _ h => h) (by first | exact Or.inl ⟨by rfl, by intro w hSw; go_simp; try with_reducible rfl⟩ | exact Or.inr ⟨by rfl, rfl⟩) hH ?_
                try simp only [Act.put, List.setIfInBounds_toArray, List.set_cons_zero, List.set_cons_succ]
                refine wpK.take (i := 1) (v := _) (by simp only [List.getElem?_toArray, List.getElem?_cons_succ, List.getElem?_cons_zero]; rfl) (by kernel_rfl) (by kernel_rfl) (by kernel_rfl) (by kernel_rfl) (by kernel_rfl) (by exact fun _ _ _ h => h) (by first | exact Or.inl ⟨by rfl, by intro w hSw; go_simp; try with_reducible rfl⟩ | exact Or.inr ⟨by rfl, rfl⟩) hH ?_
                try simp only [Act.put, List.setIfInBounds_toArray, List.set_cons_zero, List.set_cons_succ]
                refine wpK.take (i := 2) (v := _) (by simp only [List.getElem?_toArray, List.getElem?_cons_succ, List.getElem?_cons_zero]; rfl) (by kernel_rfl) (by kernel_rfl) (by kernel_rfl) (by kernel_rfl) (by kernel_rfl) (by exact fun _ _ _ h => h) (by first | exact Or.inl ⟨by rfl, by intro w hSw; go_simp; try with_reducible rfl⟩ | exact Or.inr ⟨by rfl, rfl⟩) hH ?_
                try simp only [Act.put, List.setIfInBounds_toArray, List.set_cons_zero, List.set_cons_succ]
                refine wpK.take (i := 3) (v := _) (by simp only [List.getElem?_toArray, List.getElem?_cons_succ, List.getElem?_cons_zero]; rfl) (by kernel_rfl) (by kernel_rfl) (by kernel_rfl) (by kernel_rfl) (by kernel_rfl) (by exact fun _ _ _ h => h) (by first | exact Or.inl ⟨by rfl, by intro w hSw; go_simp; try with_reducible rfl⟩ | exact Or.inr ⟨by rfl, rfl⟩) hH ?_
                try simp only [Act.put, List.setIfInBounds_toArray, List.set_cons_zero, List.set_cons_succ]
                refine wpK.take (i := 4) (v := _) (by simp only [List.getElem?_toArray, List.getElem?_cons_succ, List.getElem?_cons_zero]; rfl) (by kernel_rfl) (by kernel_rfl) (by kernel_rfl) (by kernel_rfl) (by kernel_rfl) (by exact fun _ _ _ h => h) (by first | exact Or.inl ⟨by rfl, by intro w hSw; go_simp; try with_reducible rfl⟩ | exact Or.inr ⟨by rfl, rfl⟩) hH ?_
                try simp only [Act.put, List.setIfInBounds_toArray, List.set_cons_zero, List.set_cons_succ]
                refine wpK.take (i := 5) (v := _) (by simp only [List.getElem?_toArray, List.getElem?_cons_succ, List.getElem?_cons_zero]; rfl) (by kernel_rfl) (by kernel_rfl) (by kernel_rfl) (by kernel_rfl) (by kernel_rfl) (by exact fun _ _ _ h => h) (by first | exact Or.inl ⟨by rfl, by intro w hSw; go_simp; try with_reducible rfl⟩ | exact Or.inr ⟨by rfl, rfl⟩) hH ?_
                try simp only [Act.put, List.setIfInBounds_toArray, List.set_cons_zero, List.set_cons_succ]
                refine wpK.take (i := 6) (v := _) (by simp only [List.getElem?_toArray, List.getElem?_cons_succ, List.getElem?_cons_zero]; rfl) (by kernel_rfl) (by kernel_rfl) (by kernel_rfl) (by kernel_rfl) (by kernel_rfl) (by exact fun _ _ _ h => h) (by first | exact Or.inl ⟨by rfl, by intro w hSw; go_simp; try with_reducible rfl⟩ | exact Or.inr ⟨by rfl, rfl⟩) hH ?_
                try simp only [Act.put, List.setIfInBounds_toArray, List.set_cons_zero, List.set_cons_succ]
                refine wpK.take (i := 7) (v := _) (by simp only [List.getElem?_toArray, List.getElem?_cons_succ, List.getElem?_cons_zero]; rfl) (by kernel_rfl) (by kernel_rfl) (by kernel_rfl) (by kernel_rfl) (by kernel_rfl) (by exact fun _ _ _ h => h) (by first | exact Or.inl ⟨by rfl, by intro w hSw; go_simp; try with_reducible rfl⟩ | exact Or.inr ⟨by rfl, rfl⟩) hH ?_
                try simp only [Act.put, List.setIfInBounds_toArray, List.set_cons_zero, List.set_cons_succ]
                refine wpK.take (i := 8) (v := _) (by simp only [List.getElem?_toArray, List.getElem?_cons_succ, List.getElem?_cons_zero]; rfl) (by kernel_rfl) (by kernel_rfl) (by kernel_rfl) (by kernel_rfl) (by kernel_rfl) (by exact fun _ _ _ h => h) (by first | exact Or.inl ⟨by rfl, by intro w hSw; go_simp; try with_reducible rfl⟩ | exact Or.inr ⟨by rfl, rfl⟩) hH ?_
                try simp only [Act.put, List.setIfInBounds_toArray, List.set_cons_zero, List.set_cons_succ]
                refine wpK.take (i := 9) (v := _) (by simp only [List.getElem?_toArray, List.getElem?_cons_succ, List.getElem?_cons_zero]; rfl) (by kernel_rfl) (by kernel_rfl) (by kernel_rfl) (by kernel_rfl) (by kernel_rfl) (by exact fun _ _ _ h => h) (by first | exact Or.inl ⟨by rfl, by intro w hSw; go_simp; try with_reducible rfl⟩ | exact Or.inr ⟨by rfl, rfl⟩) hH ?_
                try simp only [Act.put, List.setIfInBounds_toArray, List.set_cons_zero, List.set_cons_succ]
                refine wpK.take (i := 10) (v := _) (by simp only [List.getElem?_toArray, List.getElem?_cons_succ, List.getElem?_cons_zero]; rfl) (by kernel_rfl) (by kernel_rfl) (by kernel_rfl) (by kernel_rfl) (by kernel_rfl) (by exact fun _ _ _ h => h) (by first | exact Or.inl ⟨by rfl, by intro w hSw; go_simp; try with_reducible rfl⟩ | exact Or.inr ⟨by rfl, rfl⟩) hH ?_
                try simp only [Act.put, List.setIfInBounds_toArray, List.set_cons_zero, List.set_cons_succ]
                refine wpK.take (i := 11) (v := _) (by simp only [List.getElem?_toArray, List.getElem?_cons_succ, List.getElem?_cons_zero]; rfl) (by kernel_rfl) (by kernel_rfl) (by kernel_rfl) (by kernel_rfl) (by kernel_rfl) (by exact fun _ _ _ h => h) (by first | exact Or.inl ⟨by rfl, by intro w hSw; go_simp; try with_reducible rfl⟩ | exact Or.inr ⟨by rfl, rfl⟩) hH ?_
                try simp only [Act.put, List.setIfInBounds_toArray, List.set_cons_zero, List.set_cons_succ]
                refine wpK.take (i := 12) (v := _) (by simp only [List.getElem?_toArray, List.getElem?_cons_succ, List.getElem?_cons_zero]; rfl) (by kernel_rfl) (by kernel_rfl) (by kernel_rfl) (by kernel_rfl) (by kernel_rfl) (by exact fun _ _ _ h => h) (by first | exact Or.inl ⟨by rfl, by intro w hSw; go_simp; try with_reducible rfl⟩ | exact Or.inr ⟨by rfl, rfl⟩) hH ?_
                try simp only [Act.put, List.setIfInBounds_toArray, List.set_cons_zero, List.set_cons_succ]
                refine wpK.take (i := 13) (v := _) (by simp only [List.getElem?_toArray, List.getElem?_cons_succ, List.getElem?_cons_zero]; rfl) (by kernel_rfl) (by kernel_rfl) (by kernel_rfl) (by kernel_rfl) (by kernel_rfl) (by exact fun _ _ _ h => h) (by first | exact Or.inl ⟨by rfl, by intro w hSw; go_simp; try with_reducible rfl⟩ | exact Or.inr ⟨by rfl, rfl⟩) hH ?_
                try simp only [Act.put, List.setIfInBounds_toArray, List.set_cons_zero, List.set_cons_succ]
                refine wpK.done (by kernel_rfl) ?_ _
                clear q0 q1 q2 q3 q5 d0 d1 d2 d3
                obtain ⟨wd, hwd⟩ : ∃ wd, wd = wr.drew := ⟨_, rfl⟩
                try rw [← hwd]
                have hbd : Below wr.heap.size wr wd := by rw [hwd]; exact hyd
                have HBD := hid (Below.next HB.out hbd)
                have HMD : Hid (MidB 0 w wd n (fun k => k ∈ blkN (0 + 1) n) n.ks n.kv) := hid (by
                  have h1 := HM0.out.b
                  have h2 : Upd (fun k => k ∈ blkN (0 + 1) n) w wd := Upd.of_below HBD.out
                  exact ⟨h1.blk.below HBD.out, owns_below h1.own HBD.out, fun k hk => (h1.at' k hk).below HBD.out, h1.nd, h1.fr, h2⟩)
                have HOWD : Hid (ownP wd (.slice (some ⟨bk, off, none⟩) M ck) n.ks) := hid (by have := HMD.out.own; rw [HKV.out.1] at this; exact this)
                have c4 := cellOf_belowR hbd c4
                obtain ⟨Md, hMd⟩ : ∃ z, M = z + 1 := ⟨M - 1, by omega⟩
                have HMDD := hid hMd
                have hwi : IntKind.i64.wrap ((i : Int) + 1) = (i : Int) + 1 := by rw [IntKind.wrap_i64]; omega
                clear r0 r1 r2 r3 h5 h6 hc c0 c1 c2 c3 hyd hH hwd hbd hMd
                go_wp2_with fail
                refine (sl_DelM n.ks i Md (.slice (some ⟨bk, off, none⟩) M ck) ((i : Int) + 1) wd HOWD.out (by rw [HKV.out.2.1]; exact HMDD.out) (by have := HMDD.out; omega) rfl).mono ?_
                rintro e w5 ⟨a6, c6, rfl, ho6, hu6, he6, hz6⟩
                obtain ⟨w6, hw6⟩ : ∃ w6, w6 = w5.setCell ⟨p, 4, none⟩ (.slice a6 Md c6) := ⟨_, rfl⟩
                have HDEL := hid (HMD.out.del (w3 := w6) (i := i) ho6 (by rw [HKV.out.1]; exact hu6) (by rw [HKV.out.1]; exact he6) (by rw [HKV.out.2.2]; exact hw6))
                have hblk5 : Blk w5 p (cells7 n.r (.slice (some ⟨bk, off, none⟩) M ck) n.v ((0 + 1 : Nat) : Int)) := by
                  have h1 := HMD.out.blk
                  rw [HKV.out.1, HKV.out.2.2] at h1
                  exact h1.upd hu6 (fun e0 => by
                    have h2 := (List.nodup_cons.1 HMD.out.nd).1
                    rw [HKV.out.1, HKV.out.2.2] at h2
                    exact h2 (by simp [e0]))
                have k4 : w5.cell? ⟨p, 4, none⟩ = some (.slice (some ⟨bk, off, none⟩) M ck) := hblk5.c7.2.1
                have f4 : w5.frozen? ⟨p, 4, none⟩ = false := hblk5.unfrozen 4
                have HW6 := hid hw6
                have hlen : (n.ks.eraseIdx i).length = Md := by rw [List.length_eraseIdx, if_pos (by rw [HKV.out.2.1]; exact hlt), HKV.out.2.1]; have := HMDD.out; omega
                have HLEN := hid hlen
                have hfit := rt_fit (n.ks.eraseIdx i) a6 Md c6 p n.r n.v ((0 + 1 : Nat) : Int) w6 (by have := HDEL.out.1.blk; rw [HKV.out.2.2] at this; exact this) (slN_of HDEL.out.1.own HDEL.out.1.rat) (by have := HMDD.out; omega)
                have HFIT := hid hfit
                clear ho6 hu6 he6 hz6 hblk5 hlen hfit hw6 c4 hwi
                go_wp2_with fail
                rw [← HW6.out]
                refine HFIT.out.mono ?_
                rintro e w7 ⟨rfl, hb7, hu7⟩
                have HQ : Hid (DropPost 0 w n ((x, y, a, b), v) (.returned (.tuple #[.slice none 0 0, .bool true])) w7) := hid (by
                  right
                  obtain ⟨h1, h2⟩ := HDEL.out.1.fit (by rw [HKV.out.2.2]; exact hb7) (by rw [HKV.out.2.2]; exact hu7)
                  have hsub : (n.ks.eraseIdx i).Sublist n.ks := List.eraseIdx_sublist _ _
                  refine ⟨⟨n.p, boundR ((n.ks.eraseIdx i).map (·.r)), .slice a6 Md c6, n.v, n.ks.eraseIdx i⟩, [], none, 0, rfl, rfl, h1, ⟨by show (n.ks.eraseIdx i).length ≤ 4; rw [HLEN.out]; have := HMDD.out; omega, rfl, fun k hk => HSH.out.kids k (hsub.subset hk)⟩, World.ownsRow_nil _ _ _ _, by simp, by simpa [blkN_succ, Value.ownBlock] using HDEL.out.1.nd, fun k hk => HDEL.out.1.fr k (by simpa [blkN_succ, Value.ownBlock] using hk), ?_, by show (n.ks.eraseIdx i).length ≤ _; rw [HLEN.out, HKV.out.2.1]; have := HMDD.out; omega, by show _ ≤ (n.ks.eraseIdx i).length + 1; rw [HLEN.out, HKV.out.2.1]; have := HMDD.out; omega, Nat.zero_le _, h2⟩
                  have h3 := perm_out HGET.out
                  have h4 := List.Perm.flatMap_right (thgN 0) h3
                  have e1 : thgN 0 nk = [((x, y, a, b), v)] := by simp only [thgN]; rw [HNR.out.1, HNR.out.2.1]
                  rw [List.flatMap_cons, e1] at h4
                  simpa [thgN, thgA] using h4)
                clear hb7 hu7 k4 f4
                go_wp2_with fail
                go_ret2
                exact HQ.out
              · have e4b : ¬ nv = v := fun h => e4 h.symm
                refine wp_region_kept [] (fun z => Below wr.heap.size wr z) (by kernel_rfl) (by assumption) (fun hH => ?_)
                refine wpK.take (i := 0) (v := _) (by simp only [List.getElem?_toArray, List.getElem?_cons_succ, List.getElem?_cons_zero]; rfl) (by kernel_rfl) (by kernel_rfl) (by kernel_rfl) (by kernel_rfl) (by kernel_rfl) (by exact fun _ _ _ h => h) (by first | exact Or.inl ⟨by rfl, by intro w hSw; go_simp; try with_reducible rfl⟩ | exact Or.inr ⟨by rfl, rfl⟩) hH ?_
                try simp only [Act.put, List.setIfInBounds_toArray, List.set_cons_zero, List.set_cons_succ]
                refine wpK.take (i := 1) (v := _) (by simp only [List.getElem?_toArray, List.getElem?_cons_succ, List.getElem?_cons_zero]; rfl) (by kernel_rfl) (by kernel_rfl) (by kernel_rfl) (by kernel_rfl) (by kernel_rfl) (by exact fun _ _ _ h => h) (by first | exact Or.inl ⟨by rfl, by intro w hSw; go_simp; try with_reducible rfl⟩ | exact Or.inr ⟨by rfl, rfl⟩) hH ?_
                try simp only [Act.put, List.setIfInBounds_toArray, List.set_cons_zero, List.set_cons_succ]
                refine wpK.take (i := 2) (v := _) (by simp only [List.getElem?_toArray, List.getElem?_cons_succ, List.getElem?_cons_zero]; rfl) (by kernel_rfl) (by kernel_rfl) (by kernel_rfl) (by kernel_rfl) (by kernel_rfl) (by exact fun _ _ _ h => h) (by first | exact Or.inl ⟨by rfl, by intro w hSw; go_simp; try with_reducible rfl⟩ | exact Or.inr ⟨by rfl, rfl⟩) hH ?_
                try simp only [Act.put, List.setIfInBounds_toArray, List.set_cons_zero, List.set_cons_succ]
                refine wpK.take (i := 3) (v := _) (by simp only [List.getElem?_toArray, List.getElem?_cons_succ, List.getElem?_cons_zero]; rfl) (by kernel_rfl) (by kernel_rfl) (by kernel_rfl) (by kernel_rfl) (by kernel_rfl) (by exact fun _ _ _ h => h) (by first | exact Or.inl ⟨by rfl, by intro w hSw; go_simp; try with_reducible rfl⟩ | exact Or.inr ⟨by rfl, rfl⟩) hH ?_
                try simp only [Act.put, List.setIfInBounds_toArray, List.set_cons_zero, List.set_cons_succ]
                refine wpK.take (i := 4) (v := _) (by simp only [List.getElem?_toArray, List.getElem?_cons_succ, List.getElem?_cons_zero]; rfl) (by kernel_rfl) (by kernel_rfl) (by kernel_rfl) (by kernel_rfl) (by kernel_rfl) (by exact fun _ _ _ h => h) (by first | exact Or.inl ⟨by rfl, by intro w hSw; go_simp; try with_reducible rfl⟩ | exact Or.inr ⟨by rfl, rfl⟩) hH ?_
                try simp only [Act.put, List.setIfInBounds_toArray, List.set_cons_zero, List.set_cons_succ]
                refine wpK.take (i := 5) (v := _) (by simp only [List.getElem?_toArray, List.getElem?_cons_succ, List.getElem?_cons_zero]; rfl) (by kernel_rfl) (by kernel_rfl) (by kernel_rfl) (by kernel_rfl) (by kernel_rfl) (by exact fun _ _ _ h => h) (by first | exact Or.inl ⟨by rfl, by intro w hSw; go_simp; try with_reducible rfl⟩ | exact Or.inr ⟨by rfl, rfl⟩) hH ?_
                try simp only [Act.put, List.setIfInBounds_toArray, List.set_cons_zero, List.set_cons_succ]
                refine wpK.take (i := 6) (v := _) (by simp only [List.getElem?_toArray, List.getElem?_cons_succ, List.getElem?_cons_zero]; rfl) (by kernel_rfl) (by kernel_rfl) (by kernel_rfl) (by kernel_rfl) (by kernel_rfl) (by exact fun _ _ _ h => h) (by first | exact Or.inl ⟨by rfl, by intro w hSw; go_simp; try with_reducible rfl⟩ | exact Or.inr ⟨by rfl, rfl⟩) hH ?_
                try simp only [Act.put, List.setIfInBounds_toArray, List.set_cons_zero, List.set_cons_succ]
                refine wpK.take (i := 7) (v := _) (by simp only [List.getElem?_toArray, List.getElem?_cons_succ, List.getElem?_cons_zero]; rfl) (by kernel_rfl) (by kernel_rfl) (by kernel_rfl) (by kernel_rfl) (by kernel_rfl) (by exact fun _ _ _ h => h) (by first | exact Or.inl ⟨by rfl, by intro w hSw; go_simp; try with_reducible rfl⟩ | exact Or.inr ⟨by rfl, rfl⟩) hH ?_
                try simp only [Act.put, List.setIfInBounds_toArray, List.set_cons_zero, List.set_cons_succ]
                refine wpK.take (i := 8) (v := _) (by simp only [List.getElem?_toArray, List.getElem?_cons_succ, List.getElem?_cons_zero]; rfl) (by kernel_rfl) (by kernel_rfl) (by kernel_rfl) (by kernel_rfl) (by kernel_rfl) (by exact fun _ _ _ h => h) (by first | exact Or.inl ⟨by rfl, by intro w hSw; go_simp; try with_reducible rfl⟩ | exact Or.inr ⟨by rfl, rfl⟩) hH ?_
                try simp only [Act.put, List.setIfInBounds_toArray, List.set_cons_zero, List.set_cons_succ]
                refine wpK.take (i := 9) (v := _) (by simp only [List.getElem?_toArray, List.getElem?_cons_succ, List.getElem?_cons_zero]; rfl) (by kernel_rfl) (by kernel_rfl) (by kernel_rfl) (by kernel_rfl) (by kernel_rfl) (by exact fun _ _ _ h => h) (by first | exact Or.inl ⟨by rfl, by intro w hSw; go_simp; try with_reducible rfl⟩ | exact Or.inr ⟨by rfl, rfl⟩) hH ?_
                try simp only [Act.put, List.setIfInBounds_toArray, List.set_cons_zero, List.set_cons_succ]
                refine wpK.take (i := 10) (v := _) (by simp only [List.getElem?_toArray, List.getElem?_cons_succ, List.getElem?_cons_zero]; rfl) (by kernel_rfl) (by kernel_rfl) (by kernel_rfl) (by kernel_rfl) (by kernel_rfl) (by exact fun _ _ _ h => h) (by first | exact Or.inl ⟨by rfl, by intro w hSw; go_simp; try with_reducible rfl⟩ | exact Or.inr ⟨by rfl, rfl⟩) hH ?_
                try simp only [Act.put, List.setIfInBounds_toArray, List.set_cons_zero, List.set_cons_succ]
                refine wpK.take (i := 11) (v := _) (by simp only [List.getElem?_toArray, List.getElem?_cons_succ, List.getElem?_cons_zero]; rfl) (by kernel_rfl) (by kernel_rfl) (by kernel_rfl) (by kernel_rfl) (by kernel_rfl) (by exact fun _ _ _ h => h) (by first | exact Or.inl ⟨by rfl, by intro w hSw; go_simp; try with_reducible rfl⟩ | exact Or.inr ⟨by rfl, rfl⟩) hH ?_
                try simp only [Act.put, List.setIfInBounds_toArray, List.set_cons_zero, List.set_cons_succ]
                refine wpK.take (i := 12) (v := _) (by simp only [List.getElem?_toArray, List.getElem?_cons_succ, List.getElem?_cons_zero]; rfl) (by kernel_rfl) (by kernel_rfl) (by kernel_rfl) (by kernel_rfl) (by kernel_rfl) (by exact fun _ _ _ h => h) (by first | exact Or.inl ⟨by rfl, by intro w hSw; go_simp; try with_reducible rfl⟩ | exact Or.inr ⟨by rfl, rfl⟩) hH ?_
                try simp only [Act.put, List.setIfInBounds_toArray, List.set_cons_zero, List.set_cons_succ]
                refine wpK.take (i := 13) (v := _) (by simp only [List.getElem?_toArray, List.getElem?_cons_succ, List.getElem?_cons_zero]; rfl) (by kernel_rfl) (by kernel_rfl) (by kernel_rfl) (by kernel_rfl) (by kernel_rfl) (by exact fun _ _ _ h => h) (by first | exact Or.inl ⟨by rfl, by intro w hSw; go_simp; try with_reducible rfl⟩ | exact Or.inr ⟨by rfl, rfl⟩) hH ?_
                try simp only [Act.put, List.setIfInBounds_toArray, List.set_cons_zero, List.set_cons_succ]
                refine wpK.done (by kernel_rfl) ?_ _
                clear q0 q1 q2 q3 q5 d0 d1 d2 d3
                have HBD := hid (Below.next HB.out hyd)
                have HBD1 := hid (Below.next HB1.out hyd)
                have HNO2 : Hid (((x, y, a, b), v) ∉ thgF 0 (n.ks.take (i + 1))) := hid (by
                  rw [HTK.out, List.mem_append]
                  rintro (q | q)
                  · exact HNO.out q
                  · simp only [thgN, List.mem_singleton, Prod.mk.injEq] at q
                    rw [HNR.out.1, HNR.out.2.1] at q
                    simp only [Prod.mk.injEq] at q
                    omega)
                clear r0 r1 r2 r3 h5 h6 hc c0 c1 c2 c3 c4 hyd hH
                go_wp2_with fail
                go_roundw
                case rel => exact ⟨i + 1, by go_num, by omega, HNO2, HBD1, HBD⟩
                case measure => simp [intOf]; omega
            · have e3b : ¬ nb = b := fun h => e3 h.symm
              refine wp_region_kept [] (fun z => Below wr.heap.size wr z) (by kernel_rfl) (by assumption) (fun hH => ?_)
              refine wpK.take (i := 0) (v := _) (by simp only [List.getElem?_toArray, List.getElem?_cons_succ, List.getElem?_cons_zero]; rfl) (by kernel_rfl) (by kernel_rfl) (by kernel_rfl) (by kernel_rfl) (by kernel_rfl) (by exact fun _ _ _ h => h) (by first | exact Or.inl ⟨by rfl, by intro w hSw; go_simp; try with_reducible rfl⟩ | exact Or.inr ⟨by rfl, rfl⟩) hH ?_
              try simp only [Act.put, List.setIfInBounds_toArray, List.set_cons_zero, List.set_cons_succ]
              refine wpK.take (i := 1) (v := _) (by simp only [List.getElem?_toArray, List.getElem?_cons_succ, List.getElem?_cons_zero]; rfl) (by kernel_rfl) (by kernel_rfl) (by kernel_rfl) (by kernel_rfl) (by kernel_rfl) (by exact fun _ _ _ h => h) (by first | exact Or.inl ⟨by rfl, by intro w hSw; go_simp; try with_reducible rfl⟩ | exact Or.inr ⟨by rfl, rfl⟩) hH ?_
              try simp only [Act.put, List.setIfInBounds_toArray, List.set_cons_zero, List.set_cons_succ]
              refine wpK.take (i := 2) (v := _) (by simp only [List.getElem?_toArray, List.getElem?_cons_succ, List.getElem?_cons_zero]; rfl) (by kernel_rfl) (by kernel_rfl) (by kernel_rfl) (by kernel_rfl) (by kernel_rfl) (by exact fun _ _ _ h => h) (by first | exact Or.inl ⟨by rfl, by intro w hSw; go_simp; try with_reducible rfl⟩ | exact Or.inr ⟨by rfl, rfl⟩) hH ?_
              try simp only [Act.put, List.setIfInBounds_toArray, List.set_cons_zero, List.set_cons_succ]
              refine wpK.take (i := 3) (v := _) (by simp only [List.getElem?_toArray, List.getElem?_cons_succ, List.getElem?_cons_zero]; rfl) (by kernel_rfl) (by kernel_rfl) (by kernel_rfl) (by kernel_rfl) (by kernel_rfl) (by exact fun _ _ _ h => h) (by first | exact Or.inl ⟨by rfl, by intro w hSw; go_simp; try with_reducible rfl⟩ | exact Or.inr ⟨by rfl, rfl⟩) hH ?_
              try simp only [Act.put, List.setIfInBounds_toArray, List.set_cons_zero, List.set_cons_succ]
              refine wpK.take (i := 4) (v := _) (by simp only [List.getElem?_toArray, List.getElem?_cons_succ, List.getElem?_cons_zero]; rfl) (by kernel_rfl) (by kernel_rfl) (by kernel_rfl) (by kernel_rfl) (by kernel_rfl) (by exact fun _ _ _ h => h) (by first | exact Or.inl ⟨by rfl, by intro w hSw; go_simp; try with_reducible rfl⟩ | exact Or.inr ⟨by rfl, rfl⟩) hH ?_
              try simp only [Act.put, List.setIfInBounds_toArray, List.set_cons_zero, List.set_cons_succ]
              refine wpK.take (i := 5) (v := _) (by simp only [List.getElem?_toArray, List.getElem?_cons_succ, List.getElem?_cons_zero]; rfl) (by kernel_rfl) (by kernel_rfl) (by kernel_rfl) (by kernel_rfl) (by kernel_rfl) (by exact fun _ _ _ h => h) (by first | exact Or.inl ⟨by rfl, by intro w hSw; go_simp; try with_reducible rfl⟩ | exact Or.inr ⟨by rfl, rfl⟩) hH ?_
              try simp only [Act.put, List.setIfInBounds_toArray, List.set_cons_zero, List.set_cons_succ]
              refine wpK.take (i := 6) (v := _) (by simp only [List.getElem?_toArray, List.getElem?_cons_succ, List.getElem?_cons_zero]; rfl) (by kernel_rfl) (by kernel_rfl) (by kernel_rfl) (by kernel_rfl) (by kernel_rfl) (by exact fun _ _ _ h => h) (by first | exact Or.inl ⟨by rfl, by intro w hSw; go_simp; try with_reducible rfl⟩ | exact Or.inr ⟨by rfl, rfl⟩) hH ?_
              try simp only [Act.put, List.setIfInBounds_toArray, List.set_cons_zero, List.set_cons_succ]
              refine wpK.take (i := 7) (v := _) (by simp only [List.getElem?_toArray, List.getElem?_cons_succ, List.getElem?_cons_zero]; rfl) (by kernel_rfl) (by kernel_rfl) (by kernel_rfl) (by kernel_rfl) (by kernel_rfl) (by exact fun _ _ _ h => h) (by first | exact Or.inl ⟨by rfl, by intro w hSw; go_simp; try with_reducible rfl⟩ | exact Or.inr ⟨by rfl, rfl⟩) hH ?_
              try simp only [Act.put, List.setIfInBounds_toArray, List.set_cons_zero, List.set_cons_succ]
              refine wpK.take (i := 8) (v := _) (by simp only [List.getElem?_toArray, List.getElem?_cons_succ, List.getElem?_cons_zero]; rfl) (by kernel_rfl) (by kernel_rfl) (by kernel_rfl) (by kernel_rfl) (by kernel_rfl) (by exact fun _ _ _ h => h) (by first | exact Or.inl ⟨by rfl, by intro w hSw; go_simp; try with_reducible rfl⟩ | exact Or.inr ⟨by rfl, rfl⟩) hH ?_
              try simp only [Act.put, List.setIfInBounds_toArray, List.set_cons_zero, List.set_cons_succ]
              refine wpK.take (i := 9) (v := _) (by simp only [List.getElem?_toArray, List.getElem?_cons_succ, List.getElem?_cons_zero]; rfl) (by kernel_rfl) (by kernel_rfl) (by kernel_rfl) (by kernel_rfl) (by kernel_rfl) (by exact fun _ _ _ h => h) (by first | exact Or.inl ⟨by rfl, by intro w hSw; go_simp; try with_reducible rfl⟩ | exact Or.inr ⟨by rfl, rfl⟩) hH ?_
              try simp only [Act.put, List.setIfInBounds_toArray, List.set_cons_zero, List.set_cons_succ]
              refine wpK.take (i := 10) (v := _) (by simp only [List.getElem?_toArray, List.getElem?_cons_succ, List.getElem?_cons_zero]; rfl) (by kernel_rfl) (by kernel_rfl) (by kernel_rfl) (by kernel_rfl) (by kernel_rfl) (by exact fun _ _ _ h => h) (by first | exact Or.inl ⟨by rfl, by intro w hSw; go_simp; try with_reducible rfl⟩ | exact Or.inr ⟨by rfl, rfl⟩) hH ?_
              try simp only [Act.put, List.setIfInBounds_toArray, List.set_cons_zero, List.set_cons_succ]
              refine wpK.take (i := 11) (v := _) (by simp only [List.getElem?_toArray, List.getElem?_cons_succ, List.getElem?_cons_zero]; rfl) (by kernel_rfl) (by kernel_rfl) (by kernel_rfl) (by kernel_rfl) (by kernel_rfl) (by exact fun _ _ _ h => h) (by first | exact Or.inl ⟨by rfl, by intro w hSw; go_simp; try with_reducible rfl⟩ | exact Or.inr ⟨by rfl, rfl⟩) hH ?_
              try simp only [Act.put, List.setIfInBounds_toArray, List.set_cons_zero, List.set_cons_succ]
              refine wpK.take (i := 12) (v := _) (by simp only [List.getElem?_toArray, List.getElem?_cons_succ, List.getElem?_cons_zero]; rfl) (by kernel_rfl) (by kernel_rfl) (by kernel_rfl) (by kernel_rfl) (by kernel_rfl) (by exact fun _ _ _ h => h) (by first | exact Or.inl ⟨by rfl, by intro w hSw; go_simp; try with_reducible rfl⟩ | exact Or.inr ⟨by rfl, rfl⟩) hH ?_
              try simp only [Act.put, List.setIfInBounds_toArray, List.set_cons_zero, List.set_cons_succ]
              refine wpK.take (i := 13) (v := _) (by simp only [List.getElem?_toArray, List.getElem?_cons_succ, List.getElem?_cons_zero]; rfl) (by kernel_rfl) (by kernel_rfl) (by kernel_rfl) (by kernel_rfl) (by kernel_rfl) (by exact fun _ _ _ h => h) (by first | exact Or.inl ⟨by rfl, by intro w hSw; go_simp; try with_reducible rfl⟩ | exact Or.inr ⟨by rfl, rfl⟩) hH ?_
              try simp only [Act.put, List.setIfInBounds_toArray, List.set_cons_zero, List.set_cons_succ]
              refine wpK.done (by kernel_rfl) ?_ _
              clear q0 q1 q2 q3 q5 d0 d1 d2 d3
              have HBD := hid (Below.next HB.out hyd)
              have HBD1 := hid (Below.next HB1.out hyd)
              have HNO2 : Hid (((x, y, a, b), v) ∉ thgF 0 (n.ks.take (i + 1))) := hid (by
                rw [HTK.out, List.mem_append]
                rintro (q | q)
                · exact HNO.out q
                · simp only [thgN, List.mem_singleton, Prod.mk.injEq] at q
                  rw [HNR.out.1, HNR.out.2.1] at q
                  simp only [Prod.mk.injEq] at q
                  omega)
              clear r0 r1 r2 r3 h5 h6 hc c0 c1 c2 c3 c4 hyd hH
              go_wp2_with fail
              go_roundw
              case rel => exact ⟨i + 1, by go_num, by omega, HNO2, HBD1, HBD⟩
              case measure => simp [intOf]; omega
          · have e2b : ¬ na = a := fun h => e2 h.symm
            refine wp_region_kept [] (fun z => Below wr.heap.size wr z) (by kernel_rfl) (by assumption) (fun hH => ?_)
            refine wpK.take (i := 0) (v := _) (by simp only [List.getElem?_toArray, List.getElem?_cons_succ, List.getElem?_cons_zero]; rfl) (by kernel_rfl) (by kernel_rfl) (by kernel_rfl) (by kernel_rfl) (by kernel_rfl) (by exact fun _ _ _ h => h) (by first | exact Or.inl ⟨by rfl, by intro w hSw; go_simp; try with_reducible rfl⟩ | exact Or.inr ⟨by rfl, rfl⟩) hH ?_
            try simp only [Act.put, List.setIfInBounds_toArray, List.set_cons_zero, List.set_cons_succ]
            refine wpK.take (i := 1) (v := _) (by simp only [List.getElem?_toArray, List.getElem?_cons_succ, List.getElem?_cons_zero]; rfl) (by kernel_rfl) (by kernel_rfl) (by kernel_rfl) (by kernel_rfl) (by kernel_rfl) (by exact fun _ _ _ h => h) (by first | exact Or.inl ⟨by rfl, by intro w hSw; go_simp; try with_reducible rfl⟩ | exact Or.inr ⟨by rfl, rfl⟩) hH ?_
            try simp only [Act.put, List.setIfInBounds_toArray, List.set_cons_zero, List.set_cons_succ]
            refine wpK.take (i := 2) (v := _) (by simp only [List.getElem?_toArray, List.getElem?_cons_succ, List.getElem?_cons_zero]; rfl) (by kernel_rfl) (by kernel_rfl) (by kernel_rfl) (by kernel_rfl) (by kernel_rfl) (by exact fun _ _ _ h => h) (by first | exact Or.inl ⟨by rfl, by intro w hSw; go_simp; try with_reducible rfl⟩ | exact Or.inr ⟨by rfl, rfl⟩) hH ?_
            try simp only [Act.put, List.setIfInBounds_toArray, List.set_cons_zero, List.set_cons_succ]
            refine wpK.take (i := 3) (v := _) (by simp only [List.getElem?_toArray, List.getElem?_cons_succ, List.getElem?_cons_zero]; rfl) (by kernel_rfl) (by kernel_rfl) (by kernel_rfl) (by kernel_rfl) (by kernel_rfl) (by exact fun _ _ _ h => h) (by first | exact Or.inl ⟨by rfl, by intro w hSw; go_simp; try with_reducible rfl⟩ | exact Or.inr ⟨by rfl, rfl⟩) hH ?_
            try simp only [Act.put, List.setIfInBounds_toArray, List.set_cons_zero, List.set_cons_succ]
            refine wpK.take (i := 4) (v := _) (by simp only [List.getElem?_toArray, List.getElem?_cons_succ, List.getElem?_cons_zero]; rfl) (by kernel_rfl) (by kernel_rfl) (by kernel_rfl) (by kernel_rfl) (by kernel_rfl) (by exact fun _ _ _ h => h) (by first | exact Or.inl ⟨by rfl, by intro w hSw; go_simp; try with_reducible rfl⟩ | exact Or.inr ⟨by rfl, rfl⟩) hH ?_
            try simp only [Act.put, List.setIfInBounds_toArray, List.set_cons_zero, List.set_cons_succ]
            refine wpK.take (i := 5) (v := _) (by simp only [List.getElem?_toArray, List.getElem?_cons_succ, List.getElem?_cons_zero]; rfl) (by kernel_rfl) (by kernel_rfl) (by kernel_rfl) (by kernel_rfl) (by kernel_rfl) (by exact fun _ _ _ h => h) (by first | exact Or.inl ⟨by rfl, by intro w hSw; go_simp; try with_reducible rfl⟩ | exact Or.inr ⟨by rfl, rfl⟩) hH ?_
            try simp only [Act.put, List.setIfInBounds_toArray, List.set_cons_zero, List.set_cons_succ]
            refine wpK.take (i := 6) (v := _) (by simp only [List.getElem?_toArray, List.getElem?_cons_succ, List.getElem?_cons_zero]; rfl) (by kernel_rfl) (by kernel_rfl) (by kernel_rfl) (by kernel_rfl) (by kernel_rfl) (by exact fun _ _ _ h => h) (by first | exact Or.inl ⟨by rfl, by intro w hSw; go_simp; try with_reducible rfl⟩ | exact Or.inr ⟨by rfl, rfl⟩) hH ?_
            try simp only [Act.put, List.setIfInBounds_toArray, List.set_cons_zero, List.set_cons_succ]
            refine wpK.take (i := 7) (v := _) (by simp only [List.getElem?_toArray, List.getElem?_cons_succ, List.getElem?_cons_zero]; rfl) (by kernel_rfl) (by kernel_rfl) (by kernel_rfl) (by kernel_rfl) (by kernel_rfl) (by exact fun _ _ _ h => h) (by first | exact Or.inl ⟨by rfl, by intro w hSw; go_simp; try with_reducible rfl⟩ | exact Or.inr ⟨by rfl, rfl⟩) hH ?_
            try simp only [Act.put, List.setIfInBounds_toArray, List.set_cons_zero, List.set_cons_succ]
            refine wpK.take (i := 8) (v := _) (by simp only [List.getElem?_toArray, List.getElem?_cons_succ, List.getElem?_cons_zero]; rfl) (by kernel_rfl) (by kernel_rfl) (by kernel_rfl) (by kernel_rfl) (by kernel_rfl) (by exact fun _ _ _ h => h) (by first | exact Or.inl ⟨by rfl, by intro w hSw; go_simp; try with_reducible rfl⟩ | exact Or.inr ⟨by rfl, rfl⟩) hH ?_
            try simp only [Act.put, List.setIfInBounds_toArray, List.set_cons_zero, List.set_cons_succ]
            refine wpK.take (i := 9) (v := _) (by simp only [List.getElem?_toArray, List.getElem?_cons_succ, List.getElem?_cons_zero]; rfl) (by kernel_rfl) (by kernel_rfl) (by kernel_rfl) (by kernel_rfl) (by kernel_rfl) (by exact fun _ _ _ h => h) (by first | exact Or.inl ⟨by rfl, by intro w hSw; go_simp; try with_reducible rfl⟩ | exact Or.inr ⟨by rfl, rfl⟩) hH ?_
            try simp only [Act.put, List.setIfInBounds_toArray, List.set_cons_zero, List.set_cons_succ]
            refine wpK.take (i := 10) (v := _) (by simp only [List.getElem?_toArray, List.getElem?_cons_succ, List.getElem?_cons_zero]; rfl) (by kernel_rfl) (by kernel_rfl) (by kernel_rfl) (by kernel_rfl) (by kernel_rfl) (by exact fun _ _ _ h => h) (by first | exact Or.inl ⟨by rfl, by intro w hSw; go_simp; try with_reducible rfl⟩ | exact Or.inr ⟨by rfl, rfl⟩) hH ?_
            try simp only [Act.put, List.setIfInBounds_toArray, List.set_cons_zero, List.set_cons_succ]
            refine wpK.take (i := 11) (v := _) (by simp only [List.getElem?_toArray, List.getElem?_cons_succ, List.getElem?_cons_zero]; rfl) (by kernel_rfl) (by kernel_rfl) (by kernel_rfl) (by kernel_rfl) (by kernel_rfl) (by exact fun _ _ _ h => h) (by first | exact Or.inl ⟨by rfl, by intro w hSw; go_simp; try with_reducible rfl⟩ | exact Or.inr ⟨by rfl, rfl⟩) hH ?_
            try simp only [Act.put, List.setIfInBounds_toArray, List.set_cons_zero, List.set_cons_succ]
            refine wpK.take (i := 12) (v := _) (by simp only [List.getElem?_toArray, List.getElem?_cons_succ, List.getElem?_cons_zero]; rfl) (by kernel_rfl) (by kernel_rfl) (by kernel_rfl) (by kernel_rfl) (by kernel_rfl) (by exact fun _ _ _ h => h) (by first | exact Or.inl ⟨by rfl, by intro w hSw; go_simp; try with_reducible rfl⟩ | exact Or.inr ⟨by rfl, rfl⟩) hH ?_
            try simp only [Act.put, List.setIfInBounds_toArray, List.set_cons_zero, List.set_cons_succ]
            refine wpK.take (i := 13) (v := _) (by simp only [List.getElem?_toArray, List.getElem?_cons_succ, List.getElem?_cons_zero]; rfl) (by kernel_rfl) (by kernel_rfl) (by kernel_rfl) (by kernel_rfl) (by kernel_rfl) (by exact fun _ _ _ h => h) (by first | exact Or.inl ⟨by rfl, by intro w hSw; go_simp; try with_reducible rfl⟩ | exact Or.inr ⟨by rfl, rfl⟩) hH ?_
            try simp only [Act.put, List.setIfInBounds_toArray, List.set_cons_zero, List.set_cons_succ]
            refine wpK.done (by kernel_rfl) ?_ _
            clear q0 q1 q2 q3 q5 d0 d1 d2 d3
            have HBD := hid (Below.next HB.out hyd)
            have HBD1 := hid (Below.next HB1.out hyd)
            have HNO2 : Hid (((x, y, a, b), v) ∉ thgF 0 (n.ks.take (i + 1))) := hid (by
              rw [HTK.out, List.mem_append]
              rintro (q | q)
              · exact HNO.out q
              · simp only [thgN, List.mem_singleton, Prod.mk.injEq] at q
                rw [HNR.out.1, HNR.out.2.1] at q
                simp only [Prod.mk.injEq] at q
                omega)
            clear r0 r1 r2 r3 h5 h6 hc c0 c1 c2 c3 c4 hyd hH
            go_wp2_with fail
            go_roundw
            case rel => exact ⟨i + 1, by go_num, by omega, HNO2, HBD1, HBD⟩
            case measure => simp [intOf]; omega
        · have e1b : ¬ ny = y := fun h => e1 h.symm
          refine wp_region_kept [] (fun z => Below wr.heap.size wr z) (by kernel_rfl) (by assumption) (fun hH => ?_)
          refine wpK.take (i := 0) (v := _) (by simp only [List.getElem?_toArray, List.getElem?_cons_succ, List.getElem?_cons_zero]; rfl) (by kernel_rfl) (by kernel_rfl) (by kernel_rfl) (by kernel_rfl) (by kernel_rfl) (by exact fun _ _ _ h => h) (by first | exact Or.inl ⟨by rfl, by intro w hSw; go_simp; try with_reducible rfl⟩ | exact Or.inr ⟨by rfl, rfl⟩) hH ?_
          try simp only [Act.put, List.setIfInBounds_toArray, List.set_cons_zero, List.set_cons_succ]
          refine wpK.take (i := 1) (v := _) (by simp only [List.getElem?_toArray, List.getElem?_cons_succ, List.getElem?_cons_zero]; rfl) (by kernel_rfl) (by kernel_rfl) (by kernel_rfl) (by kernel_rfl) (by kernel_rfl) (by exact fun _ _ _ h => h) (by first | exact Or.inl ⟨by rfl, by intro w hSw; go_simp; try with_reducible rfl⟩ | exact Or.inr ⟨by rfl, rfl⟩) hH ?_
          try simp only [Act.put, List.setIfInBounds_toArray, List.set_cons_zero, List.set_cons_succ]
          refine wpK.take (i := 2) (v := _) (by simp only [List.getElem?_toArray, List.getElem?_cons_succ, List.getElem?_cons_zero]; rfl) (by kernel_rfl) (by kernel_rfl) (by kernel_rfl) (by kernel_rfl) (by kernel_rfl) (by exact fun _ _ _ h => h) (by first | exact Or.inl ⟨by rfl, by intro w hSw; go_simp; try with_reducible rfl⟩ | exact Or.inr ⟨by rfl, rfl⟩) hH ?_
          try simp only [Act.put, List.setIfInBounds_toArray, List.set_cons_zero, List.set_cons_succ]
          refine wpK.take (i := 3) (v := _) (by simp only [List.getElem?_toArray, List.getElem?_cons_succ, List.getElem?_cons_zero]; rfl) (by kernel_rfl) (by kernel_rfl) (by kernel_rfl) (by kernel_rfl) (by kernel_rfl) (by exact fun _ _ _ h => h) (by first | exact Or.inl ⟨by rfl, by intro w hSw; go_simp; try with_reducible rfl⟩ | exact Or.inr ⟨by rfl, rfl⟩) hH ?_
          try simp only [Act.put, List.setIfInBounds_toArray, List.set_cons_zero, List.set_cons_succ]
          refine wpK.take (i := 4) (v := _) (by simp only [List.getElem?_toArray, List.getElem?_cons_succ, List.getElem?_cons_zero]; rfl) (by kernel_rfl) (by kernel_rfl) (by kernel_rfl) (by kernel_rfl) (by kernel_rfl) (by exact fun _ _ _ h => h) (by first | exact Or.inl ⟨by rfl, by intro w hSw; go_simp; try with_reducible rfl⟩ | exact Or.inr ⟨by rfl, rfl⟩) hH ?_
          try simp only [Act.put, List.setIfInBounds_toArray, List.set_cons_zero, List.set_cons_succ]
          refine wpK.take (i := 5) (v := _) (by simp only [List.getElem?_toArray, List.getElem?_cons_succ, List.getElem?_cons_zero]; rfl) (by kernel_rfl) (by kernel_rfl) (by kernel_rfl) (by kernel_rfl) (by kernel_rfl) (by exact fun _ _ _ h => h) (by first | exact Or.inl ⟨by rfl, by intro w hSw; go_simp; try with_reducible rfl⟩ | exact Or.inr ⟨by rfl, rfl⟩) hH ?_
          try simp only [Act.put, List.setIfInBounds_toArray, List.set_cons_zero, List.set_cons_succ]
          refine wpK.take (i := 6) (v := _) (by simp only [List.getElem?_toArray, List.getElem?_cons_succ, List.getElem?_cons_zero]; rfl) (by kernel_rfl) (by kernel_rfl) (by kernel_rfl) (by kernel_rfl) (by kernel_rfl) (by exact fun _ _ _ h => h) (by first | exact Or.inl ⟨by rfl, by intro w hSw; go_simp; try with_reducible rfl⟩ | exact Or.inr ⟨by rfl, rfl⟩) hH ?_
          try simp only [Act.put, List.setIfInBounds_toArray, List.set_cons_zero, List.set_cons_succ]
          refine wpK.take (i := 7) (v := _) (by simp only [List.getElem?_toArray, List.getElem?_cons_succ, List.getElem?_cons_zero]; rfl) (by kernel_rfl) (by kernel_rfl) (by kernel_rfl) (by kernel_rfl) (by kernel_rfl) (by exact fun _ _ _ h => h) (by first | exact Or.inl ⟨by rfl, by intro w hSw; go_simp; try with_reducible rfl⟩ | exact Or.inr ⟨by rfl, rfl⟩) hH ?_
          try simp only [Act.put, List.setIfInBounds_toArray, List.set_cons_zero, List.set_cons_succ]
          refine wpK.take (i := 8) (v := _) (by simp only [List.getElem?_toArray, List.getElem?_cons_succ, List.getElem?_cons_zero]; rfl) (by kernel_rfl) (by kernel_rfl) (by kernel_rfl) (by kernel_rfl) (by kernel_rfl) (by exact fun _ _ _ h => h) (by first | exact Or.inl ⟨by rfl, by intro w hSw; go_simp; try with_reducible rfl⟩ | exact Or.inr ⟨by rfl, rfl⟩) hH ?_
          try simp only [Act.put, List.setIfInBounds_toArray, List.set_cons_zero, List.set_cons_succ]
          refine wpK.take (i := 9) (v := _) (by simp only [List.getElem?_toArray, List.getElem?_cons_succ, List.getElem?_cons_zero]; rfl) (by kernel_rfl) (by kernel_rfl) (by kernel_rfl) (by kernel_rfl) (by kernel_rfl) (by exact fun _ _ _ h => h) (by first | exact Or.inl ⟨by rfl, by intro w hSw; go_simp; try with_reducible rfl⟩ | exact Or.inr ⟨by rfl, rfl⟩) hH ?_
          try simp only [Act.put, List.setIfInBounds_toArray, List.set_cons_zero, List.set_cons_succ]
          refine wpK.take (i := 10) (v := _) (by simp only [List.getElem?_toArray, List.getElem?_cons_succ, List.getElem?_cons_zero]; rfl) (by kernel_rfl) (by kernel_rfl) (by kernel_rfl) (by kernel_rfl) (by kernel_rfl) (by exact fun _ _ _ h => h) (by first | exact Or.inl ⟨by rfl, by intro w hSw; go_simp; try with_reducible rfl⟩ | exact Or.inr ⟨by rfl, rfl⟩) hH ?_
          try simp only [Act.put, List.setIfInBounds_toArray, List.set_cons_zero, List.set_cons_succ]
          refine wpK.take (i := 11) (v := _) (by simp only [List.getElem?_toArray, List.getElem?_cons_succ, List.getElem?_cons_zero]; rfl) (by kernel_rfl) (by kernel_rfl) (by kernel_rfl) (by kernel_rfl) (by kernel_rfl) (by exact fun _ _ _ h => h) (by first | exact Or.inl ⟨by rfl, by intro w hSw; go_simp; try with_reducible rfl⟩ | exact Or.inr ⟨by rfl, rfl⟩) hH ?_
          try simp only [Act.put, List.setIfInBounds_toArray, List.set_cons_zero, List.set_cons_succ]
          refine wpK.take (i := 12) (v := _) (by simp only [List.getElem?_toArray, List.getElem?_cons_succ, List.getElem?_cons_zero]; rfl) (by kernel_rfl) (by kernel_rfl) (by kernel_rfl) (by kernel_rfl) (by kernel_rfl) (by exact fun _ _ _ h => h) (by first | exact Or.inl ⟨by rfl, by intro w hSw; go_simp; try with_reducible rfl⟩ | exact Or.inr ⟨by rfl, rfl⟩) hH ?_
          try simp only [Act.put, List.setIfInBounds_toArray, List.set_cons_zero, List.set_cons_succ]
          refine wpK.take (i := 13) (v := _) (by simp only [List.getElem?_toArray, List.getElem?_cons_succ, List.getElem?_cons_zero]; rfl) (by kernel_rfl) (by kernel_rfl) (by kernel_rfl) (by kernel_rfl) (by kernel_rfl) (by exact fun _ _ _ h => h) (by first | exact Or.inl ⟨by rfl, by intro w hSw; go_simp; try with_reducible rfl⟩ | exact Or.inr ⟨by rfl, rfl⟩) hH ?_
          try simp only [Act.put, List.setIfInBounds_toArray, List.set_cons_zero, List.set_cons_succ]
          refine wpK.done (by kernel_rfl) ?_ _
          clear q0 q1 q2 q3 q5 d0 d1 d2 d3
          have HBD := hid (Below.next HB.out hyd)
          have HBD1 := hid (Below.next HB1.out hyd)
          have HNO2 : Hid (((x, y, a, b), v) ∉ thgF 0 (n.ks.take (i + 1))) := hid (by
            rw [HTK.out, List.mem_append]
            rintro (q | q)
            · exact HNO.out q
            · simp only [thgN, List.mem_singleton, Prod.mk.injEq] at q
              rw [HNR.out.1, HNR.out.2.1] at q
              simp only [Prod.mk.injEq] at q
              omega)
          clear r0 r1 r2 r3 h5 h6 hc c0 c1 c2 c3 c4 hyd hH
          go_wp2_with fail
          go_roundw
          case rel => exact ⟨i + 1, by go_num, by omega, HNO2, HBD1, HBD⟩
          case measure => simp [intOf]; omega
      · have e0b : ¬ nx = x := fun h => e0 h.symm
        refine wp_region_kept [] (fun z => Below wr.heap.size wr z) (by kernel_rfl) (by assumption) (fun hH => ?_)
        refine wpK.take (i := 0) (v := _) (by simp only [List.getElem?_toArray, List.getElem?_cons_succ, List.getElem?_cons_zero]; rfl) (by kernel_rfl) (by kernel_rfl) (by kernel_rfl) (by kernel_rfl) (by kernel_rfl) (by exact fun _ _ _ h => h) (by first | exact Or.inl ⟨by rfl, by intro w hSw; go_simp; try with_reducible rfl⟩ | exact Or.inr ⟨by rfl, rfl⟩) hH ?_
        try simp only [Act.put, List.setIfInBounds_toArray, List.set_cons_zero, List.set_cons_succ]
        refine wpK.take (i := 1) (v := _) (by simp only [List.getElem?_toArray, List.getElem?_cons_succ, List.getElem?_cons_zero]; rfl) (by kernel_rfl) (by kernel_rfl) (by kernel_rfl) (by kernel_rfl) (by kernel_rfl) (by exact fun _ _ _ h => h) (by first | exact Or.inl ⟨by rfl, by intro w hSw; go_simp; try with_reducible rfl⟩ | exact Or.inr ⟨by rfl, rfl⟩) hH ?_
        try simp only [Act.put, List.setIfInBounds_toArray, List.set_cons_zero, List.set_cons_succ]
        refine wpK.take (i := 2) (v := _) (by simp only [List.getElem?_toArray, List.getElem?_cons_succ, List.getElem?_cons_zero]; rfl) (by kernel_rfl) (by kernel_rfl) (by kernel_rfl) (by kernel_rfl) (by kernel_rfl) (by exact fun _ _ _ h => h) (by first | exact Or.inl ⟨by rfl, by intro w hSw; go_simp; try with_reducible rfl⟩ | exact Or.inr ⟨by rfl, rfl⟩) hH ?_
        try simp only [Act.put, List.setIfInBounds_toArray, List.set_cons_zero, List.set_cons_succ]
        refine wpK.take (i := 3) (v := _) (by simp only [List.getElem?_toArray, List.getElem?_cons_succ, List.getElem?_cons_zero]; rfl) (by kernel_rfl) (by kernel_rfl) (by kernel_rfl) (by kernel_rfl) (by kernel_rfl) (by exact fun _ _ _ h => h) (by first | exact Or.inl ⟨by rfl, by intro w hSw; go_simp; try with_reducible rfl⟩ | exact Or.inr ⟨by rfl, rfl⟩) hH ?_
        try simp only [Act.put, List.setIfInBounds_toArray, List.set_cons_zero, List.set_cons_succ]
        refine wpK.take (i := 4) (v := _) (by simp only [List.getElem?_toArray, List.getElem?_cons_succ, List.getElem?_cons_zero]; rfl) (by kernel_rfl) (by kernel_rfl) (by kernel_rfl) (by kernel_rfl) (by kernel_rfl) (by exact fun _ _ _ h => h) (by first | exact Or.inl ⟨by rfl, by intro w hSw; go_simp; try with_reducible rfl⟩ | exact Or.inr ⟨by rfl, rfl⟩) hH ?_
        try simp only [Act.put, List.setIfInBounds_toArray, List.set_cons_zero, List.set_cons_succ]
        refine wpK.take (i := 5) (v := _) (by simp only [List.getElem?_toArray, List.getElem?_cons_succ, List.getElem?_cons_zero]; rfl) (by kernel_rfl) (by kernel_rfl) (by kernel_rfl) (by kernel_rfl) (by kernel_rfl) (by exact fun _ _ _ h => h) (by first | exact Or.inl ⟨by rfl, by intro w hSw; go_simp; try with_reducible rfl⟩ | exact Or.inr ⟨by rfl, rfl⟩) hH ?_
        try simp only [Act.put, List.setIfInBounds_toArray, List.set_cons_zero, List.set_cons_succ]
        refine wpK.take (i := 6) (v := _) (by simp only [List.getElem?_toArray, List.getElem?_cons_succ, List.getElem?_cons_zero]; rfl) (by kernel_rfl) (by kernel_rfl) (by kernel_rfl) (by kernel_rfl) (by kernel_rfl) (by exact fun _ _ _ h => h) (by first | exact Or.inl ⟨by rfl, by intro w hSw; go_simp; try with_reducible rfl⟩ | exact Or.inr ⟨by rfl, rfl⟩) hH ?_
        try simp only [Act.put, List.setIfInBounds_toArray, List.set_cons_zero, List.set_cons_succ]
        refine wpK.take (i := 7) (v := _) (by simp only [List.getElem?_toArray, List.getElem?_cons_succ, List.getElem?_cons_zero]; rfl) (by kernel_rfl) (by kernel_rfl) (by kernel_rfl) (by kernel_rfl) (by kernel_rfl) (by exact fun _ _ _ h => h) (by first | exact Or.inl ⟨by rfl, by intro w hSw; go_simp; try with_reducible rfl⟩ | exact Or.inr ⟨by rfl, rfl⟩) hH ?_
        try simp only [Act.put, List.setIfInBounds_toArray, List.set_cons_zero, List.set_cons_succ]
        refine wpK.take (i := 8) (v := _) (by simp only [List.getElem?_toArray, List.getElem?_cons_succ, List.getElem?_cons_zero]; rfl) (by kernel_rfl) (by kernel_rfl) (by kernel_rfl) (by kernel_rfl) (by kernel_rfl) (by exact fun _ _ _ h => h) (by first | exact Or.inl ⟨by rfl, by intro w hSw; go_simp; try with_reducible rfl⟩ | exact Or.inr ⟨by rfl, rfl⟩) hH ?_
        try simp only [Act.put, List.setIfInBounds_toArray, List.set_cons_zero, List.set_cons_succ]
        refine wpK.take (i := 9) (v := _) (by simp only [List.getElem?_toArray, List.getElem?_cons_succ, List.getElem?_cons_zero]; rfl) (by kernel_rfl) (by kernel_rfl) (by kernel_rfl) (by kernel_rfl) (by kernel_rfl) (by exact fun _ _ _ h => h) (by first | exact Or.inl ⟨by rfl, by intro w hSw; go_simp; try with_reducible rfl⟩ | exact Or.inr ⟨by rfl, rfl⟩) hH ?_
        try simp only [Act.put, List.setIfInBounds_toArray, List.set_cons_zero, List.set_cons_succ]
        refine wpK.take (i := 10) (v := _) (by simp only [List.getElem?_toArray, List.getElem?_cons_succ, List.getElem?_cons_zero]; rfl) (by kernel_rfl) (by kernel_rfl) (by kernel_rfl) (by kernel_rfl) (by kernel_rfl) (by exact fun _ _ _ h => h) (by first | exact Or.inl ⟨by rfl, by intro w hSw; go_simp; try with_reducible rfl⟩ | exact Or.inr ⟨by rfl, rfl⟩) hH ?_
        try simp only [Act.put, List.setIfInBounds_toArray, List.set_cons_zero, List.set_cons_succ]
        refine wpK.take (i := 11) (v := _) (by simp only [List.getElem?_toArray, List.getElem?_cons_succ, List.getElem?_cons_zero]; rfl) (by kernel_rfl) (by kernel_rfl) (by kernel_rfl) (by kernel_rfl) (by kernel_rfl) (by exact fun _ _ _ h => h) (by first | exact Or.inl ⟨by rfl, by intro w hSw; go_simp; try with_reducible rfl⟩ | exact Or.inr ⟨by rfl, rfl⟩) hH ?_
        try simp only [Act.put, List.setIfInBounds_toArray, List.set_cons_zero, List.set_cons_succ]
        refine wpK.take (i := 12) (v := _) (by simp only [List.getElem?_toArray, List.getElem?_cons_succ, List.getElem?_cons_zero]; rfl) (by kernel_rfl) (by kernel_rfl) (by kernel_rfl) (by kernel_rfl) (by kernel_rfl) (by exact fun _ _ _ h => h) (by first | exact Or.inl ⟨by rfl, by intro w hSw; go_simp; try with_reducible rfl⟩ | exact Or.inr ⟨by rfl, rfl⟩) hH ?_
        try simp only [Act.put, List.setIfInBounds_toArray, List.set_cons_zero, List.set_cons_succ]
        refine wpK.take (i := 13) (v := _) (by simp only [List.getElem?_toArray, List.getElem?_cons_succ, List.getElem?_cons_zero]; rfl) (by kernel_rfl) (by kernel_rfl) (by kernel_rfl) (by kernel_rfl) (by kernel_rfl) (by exact fun _ _ _ h => h) (by first | exact Or.inl ⟨by rfl, by intro w hSw; go_simp; try with_reducible rfl⟩ | exact Or.inr ⟨by rfl, rfl⟩) hH ?_
        try simp only [Act.put, List.setIfInBounds_toArray, List.set_cons_zero, List.set_cons_succ]
        refine wpK.done (by kernel_rfl) ?_ _
        clear q0 q1 q2 q3 q5 d0 d1 d2 d3
        have HBD := hid (Below.next HB.out hyd)
        have HBD1 := hid (Below.next HB1.out hyd)
        have HNO2 : Hid (((x, y, a, b), v) ∉ thgF 0 (n.ks.take (i + 1))) := hid (by
          rw [HTK.out, List.mem_append]
          rintro (q | q)
          · exact HNO.out q
          · simp only [thgN, List.mem_singleton, Prod.mk.injEq] at q
            rw [HNR.out.1, HNR.out.2.1] at q
            simp only [Prod.mk.injEq] at q
            omega)
        clear r0 r1 r2 r3 h5 h6 hc c0 c1 c2 c3 c4 hyd hH
        go_wp2_with fail
        go_roundw
        case rel => exact ⟨i + 1, by go_num, by omega, HNO2, HBD1, HBD⟩
        case measure => simp [intOf]; omega
    · have i1 : ¬ (i : Int) < (M : Int) := by omega
      have HQ : Hid (DropPost 0 w n ((x, y, a, b), v) (.returned (.tuple #[.slice none 0 0, .bool false])) wr) := hid (by
        left
        refine ⟨?_, rfl, HB.out⟩
        have := HNO.out
        rw [List.take_of_length_le (by rw [HKV.out.2.1]; omega)] at this
        exact this)
      go_wp2_with fail
      go_ret2
      exact HQ.out
set_option maxRecDepth 100000 in
set_option maxHeartbeats 8000000 in
theorem drop_succ (d : Nat) (ih : DropSpec d) : DropSpec (d + 1) := by
  intro n xv w hd hn hnd hsh
  obtain ⟨⟨x, y, a, b⟩, v⟩ := xv
  obtain ⟨ak, ck, hkv, hsl⟩ := SlN.of_own hn.2.1 (fun k hk => (hn.2.2 k hk).rat)
  obtain ⟨M, hM⟩ : ∃ M, n.ks.length = M := ⟨_, rfl⟩
  obtain ⟨p, hp⟩ : ∃ p, n.p = p := ⟨_, rfl⟩
  have HD := hid hd
  have HIH := hid ih
  have HN := hid hn
  have HND := hid hnd
  have HSH := hid hsh
  have HKV : Hid (n.kv = .slice ak M ck ∧ n.ks.length = M ∧ n.p = p) := hid ⟨by rw [hkv, hM], hM, hp⟩
  have HM0 : Hid (Mid (d + 1) w w n (fun k => k ∈ blkN ((d + 1) + 1) n) n.ks n.kv) := hid (Mid.start hn hsh hnd (fun k hk => hk))
  have hM4 : M ≤ 4 := by rw [← hM]; exact hsh.len
  have hblk := hn.blk
  rw [hp] at hblk
  have c4 := hblk.c7.2.1
  rw [hkv, hM] at c4
  unfold ptrN
  rw [hp]
  simp only [rV]
  clear ih hd hn hnd hsh hkv hsl hM hp hblk
  go_enter Tryz.func91, Tryz.ntmps91
  go_upto_region 1 with fail
  obtain ⟨w1, hw⟩ : ∃ w1, w1 = w.alloc (.cells #[.int .i64 x, .int .i64 y, .int .i64 a, .int .i64 b] 25) := ⟨_, rfl⟩
  rw [← hw]
  obtain ⟨g, hg⟩ : ∃ g, g = w.heap.size := ⟨_, rfl⟩
  rw [← hg]
  have hb : Below w.heap.size w w1 := by rw [hw]; exact Below.new _ _
  have HX : Hid (Blk w1 g #[.int .i64 x, .int .i64 y, .int .i64 a, .int .i64 b]) := hid (by rw [hw, hg]; exact Blk.new _ _ _)
  have HB := hid hb
  have c4 := cellOf_belowR hb c4
  clear hw hg hb
  go_wp2_with fail
  clear c4
  go_loopw [15] (fun v15 wr => DropR w (d + 1) M n.ks ((x, y, a, b), v) w1 v15 wr) (fun v15 _ => M - (intOf v15).toNat)
  case atStart => exact ⟨0, rfl, by omega, hid (by simp [thgF]), hid (Below.refl _ _), HB⟩
  case round =>
    clear HB
    obtain ⟨i, rfl, hi, HNO, HB1, HB⟩ := hrel
    by_cases hlt : i < M
    · have i1 : (i : Int) < (M : Int) := by omega
      have i0 : (0 : Int) ≤ (i : Int) := by omega
      have HNr : Hid (NodeAt ((d + 1) + 1) wr n) := hid (HN.out.below HB.out)
      have hslr : SlN wr ak M ck n.ks := slN_of (by have := HNr.out.2.1; rw [HKV.out.1] at this; exact this) (fun k hk => (HNr.out.2.2 k hk).rat)
      obtain ⟨bk, off, nk, rfl, hnk, hc, hr, htk⟩ := hslr.at hlt
      have HGET := hid hnk
      have HMEM := hid (List.mem_of_getElem? hnk)
      have HTK : Hid (thgF (d + 1) (n.ks.take (i + 1)) = thgF (d + 1) (n.ks.take i) ++ thgN (d + 1) nk) := hid (by rw [htk, thgF, List.flatMap_append]; simp)
      have HNK := hid (HNr.out.2.2 nk HMEM.out)
      obtain ⟨-, k4, h5, h6⟩ := HNK.out.blk.c7
      obtain ⟨nr, hnr⟩ : ∃ z, nk.r = z := ⟨_, rfl⟩
      obtain ⟨nv, hnv⟩ : ∃ z, nk.v = z := ⟨_, rfl⟩
      obtain ⟨pk, hpk⟩ : ∃ z, nk.p = z := ⟨_, rfl⟩
      rw [hnr] at hr
      rw [hnv] at h5
      rw [hpk] at hr h5 h6 hc
      have HNR := hid (And.intro hnr (And.intro hnv hpk))
      obtain ⟨nx, ny, na, nb⟩ := nr
      obtain ⟨r0, r1, r2, r3⟩ := hr
      simp only at r0 r1 r2 r3
      obtain ⟨c0, c1, c2, c3⟩ := (HX.out.below HB1.out).c4r
      have c4 : wr.cell? ⟨p, 4, none⟩ = some (.slice (some ⟨bk, off, none⟩) M ck) := by rw [← HKV.out.2.2, ← HKV.out.1]; exact HNr.out.blk.c7.2.1
      clear hslr hnk htk hnr hnv hpk k4
      obtain ⟨D, hD⟩ : ∃ D : Int, ((d + 1 : Nat) : Int) = D := ⟨_, rfl⟩
      rw [hD] at h6
      have hD0 : (D == 0) = false := by simp; omega
      clear hD
      obtain ⟨qi, hqi⟩ : ∃ q, decide (InR (x, y, a, b) (nx, ny, na, nb)) = q := ⟨_, rfl⟩
      have HIN := rect_In4 x y a b nx ny na nb
      rw [hqi] at HIN
      have HIN := hid HIN
      have HQI := hid hqi
      clear hqi h5
      go_upto_region 9 with fail
      have q0 : ∀ z, Below wr.heap.size wr z → z.cell? ⟨pk, 0, none⟩ = some (.int .i64 nx) := fun z hz => cellOf_belowR hz r0
      have q1 : ∀ z, Below wr.heap.size wr z → z.cell? ⟨pk, 1, none⟩ = some (.int .i64 ny) := fun z hz => cellOf_belowR hz r1
      have q2 : ∀ z, Below wr.heap.size wr z → z.cell? ⟨pk, 2, none⟩ = some (.int .i64 na) := fun z hz => cellOf_belowR hz r2
      have q3 : ∀ z, Below wr.heap.size wr z → z.cell? ⟨pk, 3, none⟩ = some (.int .i64 nb) := fun z hz => cellOf_belowR hz r3
      have d0 : ∀ z, Below wr.heap.size wr z → z.cell? ⟨g, 0, none⟩ = some (.int .i64 x) := fun z hz => cellOf_belowR hz c0
      have d1 : ∀ z, Below wr.heap.size wr z → z.cell? ⟨g, 1, none⟩ = some (.int .i64 y) := fun z hz => cellOf_belowR hz c1
      have d2 : ∀ z, Below wr.heap.size wr z → z.cell? ⟨g, 2, none⟩ = some (.int .i64 a) := fun z hz => cellOf_belowR hz c2
      have d3 : ∀ z, Below wr.heap.size wr z → z.cell? ⟨g, 3, none⟩ = some (.int .i64 b) := fun z hz => cellOf_belowR hz c3
      have hyd := (Below.refl wr.heap.size wr).drew
      refine wp_region_kept [] (fun z => Below wr.heap.size wr z) (by kernel_rfl) (by assumption) (fun hH => ?_)
      refine wpK.take (i := 0) (v := _) (by simp only [List.getElem?_toArray, List.getElem?_cons_succ, List.getElem?_cons_zero]; rfl) (by kernel_rfl) (by kernel_rfl) (by kernel_rfl) (by kernel_rfl) (by kernel_rfl) (by exact fun _ _ _ h => h) (by first | exact Or.inl ⟨by rfl, by intro w hSw; go_simp; try with_reducible rfl⟩ | exact Or.inr ⟨by rfl, rfl⟩) hH ?_
      try simp only [Act.put, List.setIfInBounds_toArray, List.set_cons_zero, List.set_cons_succ]
      refine wpK.take (i := 1) (v := _) (by simp only [List.getElem?_toArray, List.getElem?_cons_succ, List.getElem?_cons_zero]; rfl) (by kernel_rfl) (by kernel_rfl) (by kernel_rfl) (by kernel_rfl) (by kernel_rfl) (by exact fun _ _ _ h => h) (by first | exact Or.inl ⟨by rfl, by intro w hSw; go_simp; try with_reducible rfl⟩ | exact Or.inr ⟨by rfl, rfl⟩) hH ?_
      try simp only [Act.put, List.setIfInBounds_toArray, List.set_cons_zero, List.set_cons_succ]
      refine wpK.take (i := 2) (v := _) (by simp only [List.getElem?_toArray, List.getElem?_cons_succ, List.getElem?_cons_zero]; rfl) (by kernel_rfl) (by kernel_rfl) (by kernel_rfl) (by kernel_rfl) (by kernel_rfl) (by exact fun _ _ _ h => h) (by first | exact Or.inl ⟨by rfl, by intro w hSw; go_simp; try with_reducible rfl⟩ | exact Or.inr ⟨by rfl, rfl⟩) hH ?_
      try simp only [Act.put, List.setIfInBounds_toArray, List.set_cons_zero, List.set_cons_succ]
      refine wpK.take (i := 3) (v := _) (by simp only [List.getElem?_toArray, List.getElem?_cons_succ, List.getElem?_cons_zero]; rfl) (by kernel_rfl) (by kernel_rfl) (by kernel_rfl) (by kernel_rfl) (by kernel_rfl) (by exact fun _ _ _ h => h) (by first | exact Or.inl ⟨by rfl, by intro w hSw; go_simp; try with_reducible rfl⟩ | exact Or.inr ⟨by rfl, rfl⟩) hH ?_
      try simp only [Act.put, List.setIfInBounds_toArray, List.set_cons_zero, List.set_cons_succ]
      refine wpK.take (i := 4) (v := _) (by simp only [List.getElem?_toArray, List.getElem?_cons_succ, List.getElem?_cons_zero]; rfl) (by kernel_rfl) (by kernel_rfl) (by kernel_rfl) (by kernel_rfl) (by kernel_rfl) (by exact fun _ _ _ h => h) (by first | exact Or.inl ⟨by rfl, by intro w hSw; go_simp; try with_reducible rfl⟩ | exact Or.inr ⟨by rfl, rfl⟩) hH ?_
      try simp only [Act.put, List.setIfInBounds_toArray, List.set_cons_zero, List.set_cons_succ]
      refine wpK.step (i := 5) (by kernel_rfl) (by simp only [List.getElem?_toArray, List.getElem?_cons_succ, List.getElem?_cons_zero]; rfl) (fun K hK => ?_)
      go_simp
      (refine (HIN.out _).mono ?_); rintro e w2 ⟨rfl, hb2⟩; (have hk2 := Below.next hyd hb2); (have HK2 := hid hk2); go_simp
      refine hK.out _ _ (by assumption) (fun hH => ?_)
      clear hK K
      try simp only [Act.put, List.setIfInBounds_toArray, List.set_cons_zero, List.set_cons_succ]
      refine wpK.take (i := 6) (v := _) (by simp only [List.getElem?_toArray, List.getElem?_cons_succ, List.getElem?_cons_zero]; rfl) (by kernel_rfl) (by kernel_rfl) (by kernel_rfl) (by kernel_rfl) (by kernel_rfl) (by exact fun _ _ _ h => h) (by first | exact Or.inl ⟨by rfl, by intro w hSw; go_simp; try with_reducible rfl⟩ | exact Or.inr ⟨by rfl, rfl⟩) hH ?_
      try simp only [Act.put, List.setIfInBounds_toArray, List.set_cons_zero, List.set_cons_succ]
      refine wpK.done (by kernel_rfl) ?_ _
      have HB2 := hid (Below.next HB.out HK2.out)
      have HB12 := hid (Below.next HB1.out HK2.out)
      clear q0 q1 q2 q3 d0 d1 d2 d3 hyd hH hb2 hk2 r0 r1 r2 r3 h6 hD0 c0 c1 c2 c3 c4 hc
      cases qi with
      | false =>
        have HNO2 : Hid (((x, y, a, b), v) ∉ thgF (d + 1) (n.ks.take (i + 1))) := hid (by
          rw [HTK.out, List.mem_append]
          rintro (q | q)
          · exact HNO.out q
          · have h1 := (HSH.out.kids nk HMEM.out).sub q
            rw [HNR.out.1] at h1
            exact of_decide_eq_false HQI.out h1)
        go_wp2_with fail
        go_roundw
        case rel => exact ⟨i + 1, by go_num, by omega, HNO2, HB12, HB2⟩
        case measure => simp [intOf]; omega
      | true =>
        obtain ⟨c0, c1, c2, c3⟩ := (HX.out.below HB12.out).c4r
        have HN2 := hid (HN.out.below HB2.out)
        have HNK2 : Hid (NodeAt (d + 1) w2 nk) := hid (HN2.out.2.2 nk HMEM.out)
        have HKND : Hid ((blkN (d + 1) nk).Nodup) := hid (by
          obtain ⟨-, n5⟩ := List.nodup_cons.1 HND.out
          obtain ⟨-, n6⟩ := nodup_own.1 n5
          obtain ⟨l1, l2, e0⟩ := List.append_of_mem HMEM.out
          rw [e0] at n6
          simp only [blkF, List.flatMap_append, List.flatMap_cons] at n6
          exact (List.nodup_append.1 (List.nodup_append.1 n6).2.1).1)
        have hrec := HIH.out nk ((x, y, a, b), v) w2 (by have := HD.out; omega) HNK2.out HKND.out (HSH.out.kids nk HMEM.out).one
        unfold ptrN at hrec
        rw [HNR.out.2.2] at hrec
        simp only [rV] at hrec
        have HREC := hid hrec
        clear hrec
        go_wp2_with fail
        refine HREC.out.mono ?_
        rintro e w3 (⟨hno, rfl, hb3⟩ | ⟨k', A, aA, cA, rfl, hok⟩)
        · have HB3 := hid (Below.next HB2.out hb3)
          have HB13 := hid (Below.next HB12.out hb3)
          have HNX := hid hno
          clear hno hb3 c0 c1 c2 c3
          have HNO2 : Hid (((x, y, a, b), v) ∉ thgF (d + 1) (n.ks.take (i + 1))) := hid (by
            rw [HTK.out, List.mem_append]
            rintro (q | q)
            · exact HNO.out q
            · exact HNX.out q)
          go_wp2_with fail
          go_roundw
          case rel => exact ⟨i + 1, by go_num, by omega, HNO2, HB13, HB3⟩
          case measure => simp [intOf]; omega
        · obtain ⟨m2, hm2⟩ : ∃ z, k'.ks.length = z := ⟨_, rfl⟩
          obtain ⟨a2, c2_, hkv2, -⟩ := SlN.of_own hok.at'.2.1 (fun k hk => (hok.at'.2.2 k hk).rat)
          have HKV2 : Hid (k'.kv = .slice a2 m2 c2_ ∧ k'.ks.length = m2) := hid ⟨by rw [hkv2, hm2], hm2⟩
          have k4 : w3.cell? ⟨pk, 4, none⟩ = some (.slice a2 m2 c2_) := by
            have h1 := hok.at'.blk.c7.2.1
            rw [hok.p, HNR.out.2.2, HKV2.out.1] at h1
            exact h1
          have HM2 : Hid (Mid (d + 1) w2 w2 n (fun k => k ∈ blkN (d + 1 + 1) n) n.ks n.kv) := hid (Mid.start HN2.out HSH.out HND.out (fun k hk => hk))
          have hks : n.ks = n.ks.take i ++ nk :: n.ks.drop (i + 1) := by
            obtain ⟨h1, h2⟩ := List.getElem?_eq_some_iff.1 HGET.out
            rw [← h2, List.getElem_cons_drop, List.take_append_drop]
          have HKS := hid hks
          have HREP := hid (HM2.out.b.repl (E := (Value.slice aA A.length cA).ownBlock.toList ++ blkA A) hks hok.p hok.at' hok.nd hok.fr hok.upd (fun j hj => .inl hj))
          have HOK := hid hok
          obtain ⟨LA, hLA⟩ : ∃ z, A.length = z := ⟨_, rfl⟩
          have HLA := hid hLA
          have HLL : Hid ((n.ks.take i ++ k' :: n.ks.drop (i + 1)).length = M) := hid (by
            have h1 := congrArg List.length hks
            rw [HKV.out.2.1] at h1
            simp only [List.length_append, List.length_cons] at h1 ⊢
            omega)
          have hm2l : m2 ≤ 4 := by rw [← hm2]; exact hok.sh.len
          have hm21 : 1 ≤ m2 := by have h1 := hok.c2; have h2 := (HSH.out.kids nk HMEM.out).1.1; rw [hm2] at h1; omega
          have HLA1 : Hid (LA ≤ 1000) := hid (by have h1 := hok.alen; have h2 := HD.out; rw [hLA] at h1; omega)
          rw [hLA]
          have HB3S : Hid (w2.heap.size ≤ w3.heap.size) := hid hok.upd.size
          have hpr : Blk w3 p (cells7 n.r (.slice (some ⟨bk, off, none⟩) M ck) n.v ((d + 1 + 1 : Nat) : Int)) := by
            have h1 := HREP.out.1.blk
            rw [HKV.out.1, HKV.out.2.2] at h1
            exact h1
          have HPR := hid hpr
          clear c0 c1 c2 c3 hok hkv2 hm2 hks hLA hpr
          by_cases ht2 : m2 < 2
          · obtain rfl : m2 = 1 := by omega
            have HOA : Hid (w3.ownsRow 0 111 1 (.slice aA LA cA) LA (ptrs (A.map (·.2)))) := hid (by have h1 := HOK.out.own; rw [HLA.out] at h1; exact h1)
            have HOK2 : Hid (w3.ownsRow 0 111 1 (.slice a2 1 c2_) 1 (ptrs k'.ks)) := hid (by
              have h1 := HOK.out.at'.2.1
              rw [HKV2.out.1] at h1
              have h2 : w3.ownsRow 0 111 1 (.slice a2 1 c2_) k'.ks.length (ptrs k'.ks) := h1
              rw [HKV2.out.2] at h2; exact h2)
            have HZL : Hid ((ptrs k'.ks).length = 1 * 1) := hid (by rw [List.length_map, HKV2.out.2])
            have HON := hid (ptrs_one k'.ks)
            have HRD := hid (own_rd2 HOK2.out HKV2.out.2.symm)
            go_wp2_with (at_builtin; refine wpList_appendNw T_nodes _ rfl _ _ rfl 0 _ _ _ rfl HOA.out _ _ _ (ptrs k'.ks) rfl HZL.out HRD.out.2 HRD.out.1 HON.out ?c1 ?c2 ?_)
            case c1 => have := HLA1.out; omega
            try (case c2 => omega)
            intro v2 w4 hown' hgr hnil hwh
            obtain ⟨aN, cN, rfl, -⟩ := own_form hown'
            obtain ⟨LB, hLB⟩ : ∃ z, z = LA + 1 := ⟨_, rfl⟩
            rw [← hLB] at hown' hwh ⊢
            have HLB := hid hLB
            have HOWN2 := hid hown'
            have HWH := hid hwh
            have hga : Upd (fun k => (Value.slice aA LA cA).ownBlock = some k) w3 w4 := Upd.of_grown hgr
            have HGA := hid hga
            obtain ⟨lk, hlk⟩ : ∃ z, z = n.ks.take i ++ k' :: n.ks.drop (i + 1) := ⟨_, rfl⟩
            have HLK := hid hlk
            rw [← hlk] at HREP HLL
            have HEV : Hid ((Value.slice aA A.length cA).ownBlock = (Value.slice aA LA cA).ownBlock) := hid (by rw [obk_of, obk_of])
            have HM4 : Hid (MidB (d + 1) w2 w4 n (fun k => k ∈ blkN (d + 1 + 1) n) lk n.kv) := hid (by
              obtain ⟨h1, h2, h3, h4⟩ := HREP.out
              have hne : ∀ j ∈ n.p :: (n.kv.ownBlock.toList ++ blkF (d + 1) lk), (Value.slice aA LA cA).ownBlock ≠ some j := fun j hj e0 => h3 j (by rw [HEV.out]; simp [e0]) hj
              refine ⟨h1.blk.upd hga (fun e0 => hne _ (by simp) e0), hga.owns h1.own (fun k hk e0 => hne k (by simp [hk]) e0), fun k hk => (h1.at' k hk).upd hga (fun j hj e0 => hne j (List.mem_cons_of_mem _ (List.mem_append_right _ (List.mem_flatMap.2 ⟨k, hk, hj⟩))) e0), h1.nd, h1.fr, h1.upd.trans hga (fun k hk e0 => ?_)⟩
              rcases h4 k (by rw [HEV.out]; simp [e0]) with z | z
              · exact z
              · omega)
            have hblk4 : Blk w4 p (cells7 n.r (.slice (some ⟨bk, off, none⟩) M ck) n.v ((d + 1 + 1 : Nat) : Int)) := by
              have h1 := HM4.out.blk
              rw [HKV.out.1, HKV.out.2.2] at h1
              exact h1
            have HBLK4 := hid hblk4
            have c4 : w4.cell? ⟨p, 4, none⟩ = some (.slice (some ⟨bk, off, none⟩) M ck) := hblk4.c7.2.1
            have HOWD : Hid (ownP w4 (.slice (some ⟨bk, off, none⟩) M ck) lk) := hid (by have h1 := HM4.out.own; rw [HKV.out.1] at h1; exact h1)
            obtain ⟨Md, hMd⟩ : ∃ z, M = z + 1 := ⟨M - 1, by omega⟩
            have HMDD := hid hMd
            have hwi : IntKind.i64.wrap ((i : Int) + 1) = (i : Int) + 1 := by rw [IntKind.wrap_i64]; omega
            clear hlk hLB hown' hwh hgr hnil hga hblk4 k4 hMd
            go_wp2_with fail
            refine (sl_DelM lk i Md (.slice (some ⟨bk, off, none⟩) M ck) ((i : Int) + 1) w4 HOWD.out (by rw [HLL.out]; exact HMDD.out) (by have := HMDD.out; omega) rfl).mono ?_
            rintro e w5 ⟨a6, c6, rfl, ho6, hu6, he6, hz6⟩
            obtain ⟨w6, hw6⟩ : ∃ w6, w6 = w5.setCell ⟨p, 4, none⟩ (.slice a6 Md c6) := ⟨_, rfl⟩
            have HDEL := hid (HM4.out.del (w3 := w6) (i := i) ho6 (by rw [HKV.out.1]; exact hu6) (by rw [HKV.out.1]; exact he6) (by rw [HKV.out.2.2]; exact hw6))
            have HKE : Hid ((Value.slice a6 Md c6).ownBlock = n.kv.ownBlock) := hid (by rw [HKV.out.1]; exact he6)
            have hblk5 : Blk w5 p (cells7 n.r (.slice (some ⟨bk, off, none⟩) M ck) n.v ((d + 1 + 1 : Nat) : Int)) := HBLK4.out.upd hu6 (fun e0 => by
              have h2 := (List.nodup_cons.1 HM4.out.nd).1
              rw [HKV.out.1, HKV.out.2.2] at h2
              exact h2 (by simp [e0]))
            have k4 : w5.cell? ⟨p, 4, none⟩ = some (.slice (some ⟨bk, off, none⟩) M ck) := hblk5.c7.2.1
            have f4 : w5.frozen? ⟨p, 4, none⟩ = false := hblk5.unfrozen 4
            have HW6 := hid hw6
            have hlr : lk.eraseIdx i = n.ks.take i ++ n.ks.drop (i + 1) := by
              rw [HLK.out, List.eraseIdx_append_of_length_le (by rw [List.length_take]; omega)]
              rw [List.length_take, Nat.min_eq_left (by rw [HKV.out.2.1]; omega), Nat.sub_self]
              rfl
            obtain ⟨lr, hlr0⟩ : ∃ z, z = lk.eraseIdx i := ⟨_, rfl⟩
            rw [← hlr0] at HDEL hlr
            have HLR := hid hlr
            have hlen : lr.length = Md := by rw [hlr0, List.length_eraseIdx, if_pos (by rw [HLL.out]; exact hlt), HLL.out]; have := HMDD.out; omega
            have HLEN := hid hlen
            have hfit := rt_fit lr a6 Md c6 p n.r n.v ((d + 1 + 1 : Nat) : Int) w6 (by have := HDEL.out.1.blk; rw [HKV.out.2.2] at this; exact this) (slN_of HDEL.out.1.own HDEL.out.1.rat) (by have := HMDD.out; omega)
            have HFIT := hid hfit
            clear ho6 hu6 he6 hz6 hblk5 hlen hfit hw6 c4 hwi hlr hlr0
            go_wp2_with fail
            rw [← HW6.out]
            refine HFIT.out.mono ?_
            rintro e w7 ⟨rfl, hb7, hu7⟩
            have HQ : Hid (DropPost (d + 1) w n ((x, y, a, b), v) (.returned (.tuple #[.slice aN LB cN, .bool true])) w7) := hid (by
              right
              obtain ⟨h1, h2⟩ := HDEL.out.1.fit (by rw [HKV.out.2.2]; exact hb7) (by rw [HKV.out.2.2]; exact hu7)
              obtain ⟨-, e1, e2, e3⟩ := HREP.out
              rw [HEV.out] at e1 e2 e3
              have hnd := HOK.out.nd
              rw [HEV.out] at hnd
              obtain ⟨f1, f2, f3⟩ := List.nodup_append.1 hnd
              obtain ⟨f4, f5⟩ := List.nodup_cons.1 f1
              obtain ⟨f6, f7⟩ := nodup_own.1 f5
              obtain ⟨f8, f9⟩ := nodup_own.1 e1
              obtain ⟨g1, g2⟩ := List.nodup_cons.1 HM4.out.nd
              obtain ⟨g3, g4⟩ := nodup_own.1 g2
              have hFlk : blkF (d + 1) lk = blkF (d + 1) (n.ks.take i) ++ (blkN (d + 1) k' ++ blkF (d + 1) (n.ks.drop (i + 1))) := by rw [HLK.out]; simp [blkF, List.flatMap_append, List.flatMap_cons]
              have hFlr : blkF (d + 1) lr = blkF (d + 1) (n.ks.take i) ++ blkF (d + 1) (n.ks.drop (i + 1)) := by rw [HLR.out]; simp [blkF, List.flatMap_append]
              rw [hFlk] at g4
              obtain ⟨p1, p2, p3⟩ := List.nodup_append.1 g4
              obtain ⟨p4, p5, p6⟩ := List.nodup_append.1 p2
              -- the second part's blocks
              have hkk : ∀ j ∈ blkF d k'.ks, j ∈ blkN (d + 1) k' := fun j hj => by rw [blkN_succ]; exact List.mem_cons_of_mem _ (List.mem_append_right _ hj)
              have hkl : ∀ j ∈ blkN (d + 1) k', j ∈ blkF (d + 1) lk := fun j hj => by rw [hFlk]; exact List.mem_append_right _ (List.mem_append_left _ hj)
              have hll : ∀ j ∈ blkF (d + 1) lr, j ∈ blkF (d + 1) lk := fun j hj => by
                rw [hFlr] at hj
                rw [hFlk]
                rcases List.mem_append.1 hj with hj | hj
                · exact List.mem_append_left _ hj
                · exact List.mem_append_right _ (List.mem_append_right _ hj)
              have hlt3 : ∀ j ∈ n.p :: (n.kv.ownBlock.toList ++ blkF (d + 1) lk), j < w3.heap.size := HREP.out.1.lt
              have hAl : ∀ j ∈ blkA A, j < w3.heap.size := fun j hj => by
                obtain ⟨z, hz, hj⟩ := List.mem_flatMap.1 hj
                exact (HOK.out.rest z hz).2.1.lt j hj
              have hw2 : ∀ k, (Value.slice aN LB cN).ownBlock = some k → (Value.slice aA LA cA).ownBlock = some k ∨ w3.heap.size ≤ k := HWH.out
              have hU : Upd (fun k => n.kv.ownBlock = some k ∨ k = n.p) w4 w7 := HDEL.out.2.trans hu7 (fun k _ q => .inr (by rw [HKV.out.2.2]; exact q))
              have hva : ∀ k, (Value.slice aN LB cN).ownBlock = some k → k ∉ n.p :: (n.kv.ownBlock.toList ++ blkF (d + 1) lk) := fun k hk q => by
                rcases hw2 k hk with z | z
                · exact e2 k (by simp [z]) q
                · have := hlt3 k q; omega
              have hAn : ∀ j ∈ blkA A, j ∉ n.p :: (n.kv.ownBlock.toList ++ blkF (d + 1) lk) := fun j hj => e2 j (List.mem_append_right _ hj)
              have hkn : ∀ j ∈ blkN (d + 1) k', j ∉ n.p :: n.kv.ownBlock.toList := fun j hj q => by
                simp only [List.mem_cons, Option.mem_toList] at q
                rcases q with q | q
                · exact g1 (by rw [← q]; exact List.mem_append_right _ (hkl j hj))
                · exact g3 j q (hkl j hj)
              have eA : blkA (A ++ k'.ks.map (fun z => ((d, z) : DNd))) = blkA A ++ blkF d k'.ks := by simp [blkA, blkF, List.flatMap_append, List.flatMap_map]
              have eT : thgA (A ++ k'.ks.map (fun z => ((d, z) : DNd))) = thgA A ++ thgF d k'.ks := by simp [thgA, thgF, List.flatMap_append, List.flatMap_map]
              have eL : (A ++ k'.ks.map (fun z => ((d, z) : DNd))).length = LB := by rw [List.length_append, List.length_map, HLA.out, HKV2.out.2, HLB.out]
              refine ⟨⟨n.p, boundR (lr.map (·.r)), .slice a6 Md c6, n.v, lr⟩, A ++ k'.ks.map (fun z => (d, z)), aN, cN, by rw [eL], ⟨rfl, h1, ⟨by show lr.length ≤ 4; rw [HLEN.out]; have := HMDD.out; omega, rfl, ?_⟩, ?_, ?_, ?_, ?_, ?_, by show lr.length ≤ _; rw [HLEN.out, HKV.out.2.1]; have := HMDD.out; omega, by show _ ≤ lr.length + 1; rw [HLEN.out, HKV.out.2.1]; have := HMDD.out; omega, by rw [eL, HLB.out, ← HLA.out]; have := HOK.out.alen; omega, (Upd.of_below HB2.out).trans h2 (fun _ _ q => q)⟩⟩
              · intro k hk
                rw [HLR.out] at hk
                rcases List.mem_append.1 hk with hk | hk
                · exact HSH.out.kids k (List.mem_of_mem_take hk)
                · exact HSH.out.kids k (List.mem_of_mem_drop hk)
              · rw [eL]
                have e9 : ptrs ((A ++ k'.ks.map (fun z => ((d, z) : DNd))).map (·.2)) = A.map (ptrN ∘ fun x => x.2) ++ ptrs k'.ks := by simp [ptrs, List.map_append, List.map_map]
                rw [e9]
                exact hU.owns HOWN2.out (fun k hk q => by
                  have := hva k hk
                  simp only [List.mem_cons, List.mem_append, Option.mem_toList, not_or] at this
                  rcases q with q | q
                  · exact this.2.1 q
                  · exact this.1 q)
              · intro z hz
                rcases List.mem_append.1 hz with hz | hz
                · obtain ⟨z1, z2, z3⟩ := HOK.out.rest z hz
                  refine ⟨by omega, (z2.upd HGA.out (fun j hj e0 => f8 j e0 (List.mem_flatMap.2 ⟨z, hz, hj⟩))).upd hU (fun j hj q => ?_), z3⟩
                  have := hAn j (List.mem_flatMap.2 ⟨z, hz, hj⟩)
                  simp only [List.mem_cons, List.mem_append, Option.mem_toList, not_or] at this
                  rcases q with q | q
                  · exact this.2.1 q
                  · exact this.1 q
                · obtain ⟨c, hc, rfl⟩ := List.mem_map.1 hz
                  refine ⟨Nat.lt_succ_self _, ((HOK.out.at'.2.2 c hc).upd HGA.out (fun j hj e0 => ?_)).upd hU (fun j hj q => ?_), HOK.out.sh.kids c hc⟩
                  · exact f3 j (hkk j (List.mem_flatMap.2 ⟨c, hc, hj⟩)) j (by simp [e0]) rfl
                  · have := hkn j (hkk j (List.mem_flatMap.2 ⟨c, hc, hj⟩))
                    simp only [List.mem_cons, Option.mem_toList, not_or] at this
                    rcases q with q | q
                    · exact this.2 q
                    · exact this.1 q
              · rw [eL, eA, blkN_succ]
                show (n.p :: ((Value.slice a6 Md c6).ownBlock.toList ++ blkF (d + 1) lr) ++ _).Nodup
                rw [List.nodup_append]
                refine ⟨HDEL.out.1.nd, ?_, ?_⟩
                · rw [nodup_own, List.nodup_append]
                  refine ⟨fun k hk q => ?_, f9, f7, fun j hj k hk e0 => f3 k (hkk k hk) j (List.mem_append_right _ hj) e0.symm⟩
                  rcases List.mem_append.1 q with q | q
                  · rcases hw2 k hk with z | z
                    · exact f8 k z q
                    · have := hAl k q; omega
                  · rcases hw2 k hk with z | z
                    · exact f3 k (hkk k q) k (by simp [z]) rfl
                    · have := hlt3 k (List.mem_cons_of_mem _ (List.mem_append_right _ (hkl k (hkk k q)))); omega
                · intro j hj k hk e0
                  subst e0
                  rw [HKE.out] at hj
                  have hj2 : j ∈ n.p :: (n.kv.ownBlock.toList ++ blkF (d + 1) lk) := by
                    simp only [List.mem_cons, List.mem_append] at hj ⊢
                    rcases hj with q | q | q
                    · exact .inl q
                    · exact .inr (.inl q)
                    · exact .inr (.inr (hll j q))
                  simp only [List.mem_append, Option.mem_toList] at hk
                  rcases hk with q | q | q
                  · exact hva j q hj2
                  · exact hAn j q hj2
                  · have h9 := hkn j (hkk j q)
                    simp only [List.mem_cons, List.mem_append] at hj h9
                    rcases hj with z | z | z
                    · exact h9 (.inl z)
                    · exact h9 (.inr z)
                    · rw [hFlr] at z
                      rcases List.mem_append.1 z with z | z
                      · exact p3 j z j (List.mem_append_left _ (hkk j q)) rfl
                      · exact p6 j (hkk j q) j z rfl
              · intro j hj
                have hz2 := HB2.out.size
                have hz3 := HB3S.out
                rw [eL, eA, blkN_succ] at hj
                rcases List.mem_append.1 hj with hj | hj
                · rcases HDEL.out.1.fr j hj with z | z
                  · exact .inl z
                  · right; omega
                · simp only [List.mem_append, Option.mem_toList] at hj
                  rcases hj with q | q | q
                  · rcases hw2 j q with z | z
                    · rcases e3 j (by simp [z]) with y2 | y2
                      · exact .inl y2
                      · right; omega
                    · right; omega
                  · rcases e3 j (List.mem_append_right _ q) with y2 | y2
                    · exact .inl y2
                    · right; omega
                  · rcases HM4.out.fr j (List.mem_cons_of_mem _ (List.mem_append_right _ (hkl j (hkk j q)))) with y2 | y2
                    · exact .inl y2
                    · right; omega
              · have h5 := HOK.out.th
                have e4 : thgN (d + 1 + 1) n = thgF (d + 1) (n.ks.take i) ++ (thgN (d + 1) nk ++ thgF (d + 1) (n.ks.drop (i + 1))) := by
                  show thgF (d + 1) n.ks = _
                  conv => lhs; rw [HKS.out]
                  rw [thgF_mid]
                have e5 : thgN (d + 1 + 1) ⟨n.p, boundR (lr.map (·.r)), .slice a6 Md c6, n.v, lr⟩ = thgF (d + 1) (n.ks.take i) ++ thgF (d + 1) (n.ks.drop (i + 1)) := by
                  show thgF (d + 1) lr = _
                  rw [HLR.out]; simp [thgF, List.flatMap_append]
                have e6 : thgN (d + 1) k' = thgF d k'.ks := rfl
                rw [e6] at h5
                rw [e4, e5, eT]
                rw [List.perm_iff_count] at h5 ⊢
                intro z
                have := h5 z
                simp only [List.count_append, List.count_cons] at this ⊢
                omega)
            clear hb7 hu7 k4 f4
            go_wp2_with fail
            go_ret2
            exact HQ.out
          · have ht2i : ¬ (m2 : Int) < 2 := by omega
            have hfit := rt_fit (n.ks.take i ++ k' :: n.ks.drop (i + 1)) (some ⟨bk, off, none⟩) M ck p n.r n.v ((d + 1 + 1 : Nat) : Int) w3 HPR.out (slN_of (by have h1 := HREP.out.1.own; rw [HKV.out.1] at h1; exact h1) HREP.out.1.rat) (by omega)
            have HFIT := hid hfit
            clear hfit
            go_wp2_with fail
            refine HFIT.out.mono ?_
            rintro e w7 ⟨rfl, hb7, hu7⟩
            have HQ : Hid (DropPost (d + 1) w n ((x, y, a, b), v) (.returned (.tuple #[.slice aA LA cA, .bool true])) w7) := hid (by
              right
              obtain ⟨h1, h2⟩ := HREP.out.1.fit (by rw [HKV.out.1, HKV.out.2.2]; exact hb7) (by rw [HKV.out.2.2]; exact hu7)
              obtain ⟨e1, e2, e3⟩ := HREP.out.2
              have hpe : ∀ j ∈ (Value.slice aA A.length cA).ownBlock.toList ++ blkA A, j ≠ p := fun j hj e0 => e2 j hj (by rw [e0, ← HKV.out.2.2]; simp)
              refine ⟨⟨n.p, boundR ((n.ks.take i ++ k' :: n.ks.drop (i + 1)).map (·.r)), n.kv, n.v, n.ks.take i ++ k' :: n.ks.drop (i + 1)⟩, A, aA, cA, by rw [HLA.out], ⟨rfl, h1, ⟨by show (n.ks.take i ++ k' :: n.ks.drop (i + 1)).length ≤ 4; rw [HLL.out]; omega, rfl, ?_⟩, hu7.owns HOK.out.own (fun k hk e0 => hpe k (by simp [hk]) e0), fun z hz => ?_, ?_, ?_, ?_, by show (n.ks.take i ++ k' :: n.ks.drop (i + 1)).length ≤ _; rw [HLL.out, HKV.out.2.1]; exact Nat.le_refl _, by show _ ≤ (n.ks.take i ++ k' :: n.ks.drop (i + 1)).length + 1; rw [HLL.out, HKV.out.2.1]; omega, Nat.le_succ_of_le HOK.out.alen, (Upd.of_below HB2.out).trans h2 (fun _ _ q => q)⟩⟩
              · intro k hk
                rcases List.mem_append.1 hk with hk | hk
                · exact HSH.out.kids k (List.mem_of_mem_take hk)
                · rcases List.mem_cons.1 hk with rfl | hk
                  · exact HOK.out.sh.two (by rw [HKV2.out.2]; omega)
                  · exact HSH.out.kids k (List.mem_of_mem_drop hk)
              · obtain ⟨z1, z2, z3⟩ := HOK.out.rest z hz
                exact ⟨by omega, z2.upd hu7 (fun j hj e0 => hpe j (List.mem_append_right _ (List.mem_flatMap.2 ⟨z, hz, hj⟩)) e0), z3⟩
              · rw [List.nodup_append]
                exact ⟨HREP.out.1.nd, e1, fun j hj k hk e0 => e2 k hk (by rw [← e0]; exact hj)⟩
              · intro j hj
                have hz2 := HB2.out.size
                rcases List.mem_append.1 hj with hj | hj
                · rcases HREP.out.1.fr j hj with z | z
                  · exact .inl z
                  · right; omega
                · rcases e3 j hj with z | z
                  · exact .inl z
                  · right; omega
              · have h5 := HOK.out.th
                have e4 : thgN (d + 1 + 1) n = thgF (d + 1) (n.ks.take i) ++ (thgN (d + 1) nk ++ thgF (d + 1) (n.ks.drop (i + 1))) := by
                  show thgF (d + 1) n.ks = _
                  conv => lhs; rw [HKS.out]
                  rw [thgF_mid]
                have e5 : thgN (d + 1 + 1) ⟨n.p, boundR ((n.ks.take i ++ k' :: n.ks.drop (i + 1)).map (·.r)), n.kv, n.v, n.ks.take i ++ k' :: n.ks.drop (i + 1)⟩ = thgF (d + 1) (n.ks.take i) ++ (thgN (d + 1) k' ++ thgF (d + 1) (n.ks.drop (i + 1))) := thgF_mid _ _ _ _
                rw [e4, e5]
                rw [List.perm_iff_count] at h5 ⊢
                intro z
                have := h5 z
                simp only [List.count_append, List.count_cons] at this ⊢
                omega)
            clear hb7 hu7 k4
            go_wp2_with fail
            go_ret2
            exact HQ.out
    · have i1 : ¬ (i : Int) < (M : Int) := by omega
      have HQ : Hid (DropPost (d + 1) w n ((x, y, a, b), v) (.returned (.tuple #[.slice none 0 0, .bool false])) wr) := hid (by
        left
        refine ⟨?_, rfl, HB.out⟩
        have := HNO.out
        rw [List.take_of_length_le (by rw [HKV.out.2.1]; omega)] at this
        exact this)
      go_wp2_with fail
      go_ret2
      exact HQ.out
theorem drop_all : ∀ d, DropSpec d
  | 0 => drop_zero
  | d + 1 => drop_succ d (drop_all d)
end Go.Proofs.YtjbnfppnmljbmaaGreat
end
