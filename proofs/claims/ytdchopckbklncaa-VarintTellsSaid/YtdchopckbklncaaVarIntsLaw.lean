/- The law VarintInts, walked. -/
import Derived.Test.YtdchopckbklncaaVarInts
import Derived.Deep.RegionHeld3
namespace Go.Proofs.Ytdchopckbklncaa
open Go.RowKit
open Go.Lib (hid)
set_option linter.unusedVariables false

theorem inInt_enc (n : Int) (h1 : -9223372036854775808 ≤ n) (h2 : n ≤ 9223372036854775807) (t : List UInt8) : inInt (some (enc (zz n) ++ t)) = (n, some t) := by
  have hz := zz_lt n h1 h2
  have hr := readF_enc (zz n) t 0 0 (by omega) (by simpa using hz) (by omega)
  have hp := enc_pos (zz n)
  simp only [Nat.zero_add, Nat.pow_zero, Nat.mul_one] at hr
  unfold inInt
  simp only [Option.getD_some, hr]
  rw [if_neg (by omega)]
  have hno : ¬ (enc (zz n)).length + t.length < (enc (zz n)).length := by omega
  simp [inTake, unzz_zz, hno]

set_option maxRecDepth 100000 in
set_option maxHeartbeats 800000 in
theorem VarintInts_walk (n : Int) (w : World) (hwf : (Lit.int .i64 n).wf = true) :
    Calls Try.prog 3 #[.int .i64 n] w fun e w' => e = .returned (.bool true) ∧ Below w.heap.size w w' := by
  obtain ⟨h1, h2⟩ : -9223372036854775808 ≤ n ∧ n ≤ 9223372036854775807 := by have := hwf; simp [Lit.wf, IntKind.min, IntKind.max, IntKind.signed, IntKind.bits] at this; omega
  have hlen := enc_len10 (zz n) (zz_lt n h1 h2)
  have HL10 := hid hlen
  have HN := hid (And.intro h1 h2)
  have HINT := hid (inInt_enc n h1 h2 [])
  rw [List.append_nil] at HINT
  clear hwf hlen
  go_enter Try.func3, Try.ntmps3
  have hu0 := Below.new w (.cells #[.slice none 0 0] 24)
  go_wp2_with fail
  refine (var_Out_Int n h1 h2 w.heap.size _ [] _ (OutIs.new w) (by simp)).mono ?_
  rintro e w1 ⟨v1, rfl, ho1, hs1, -⟩
  rw [List.nil_append] at ho1
  obtain ⟨l, hl⟩ : ∃ l, l = enc (zz n) := ⟨_, rfl⟩
  rw [← hl] at ho1 HL10 HINT
  have HLL := hid hl
  have HO1 := hid ho1
  have HB1 := hid (hu0.trans (hs1.upd.below (B := w.heap.size) (by simp) (fun k _ h => by rcases h with h | h; omega; simp [Value.ownBlock] at h)))
  clear ho1 hs1 hu0 hl
  go_wp2_with fail
  refine (out_All w.heap.size _ l _ HO1.out (by have := HL10.out; omega)).mono ?_
  rintro e w2 ⟨v2, rfl, hown2, hb2⟩
  have hs2 := ownsRow.slb hown2 (by have := HL10.out; omega)
  have HS2 := hid hs2
  have HA2 := hid (fun k hk => (hown2.lt k hk).2)
  obtain ⟨a2, c2, rfl, -⟩ := hs2
  have HB2 := hid (Below.next HB1.out hb2)
  clear hown2 hb2
  go_wp2_with fail
  refine (var_NewIn l _ w2 HS2.out (by have := HL10.out; omega)).mono ?_
  rintro e w3 ⟨g, D, rfl, hi3, hg, hD, hb3⟩
  have HI3 := hid hi3
  have HS3 := hid (HS2.out.below hb3)
  have HB3 := hid (Below.next HB2.out hb3)
  have st : ∀ w', SlB w' (.slice a2 l.length c2) l ∧ Below w.heap.size w w' → _ := fun w' h => h.1.str w' (Below.refl _ _)
  have hd := (Below.refl w3.heap.size w3).drew
  have hd0 := HS3.out.below hd
  have hd1 := Below.next HB3.out hd
  clear hi3 hb3
  go_wp2_with fail
  refine wp_region_held_drew (S := (fun w' => SlB w' (.slice a2 l.length c2) l ∧ Below w.heap.size w w')) (by kernel_rfl) (by first | exact ⟨hd0, hd1⟩ | assumption) (fun hH => ?_)
  refine wpAnyH_take (i := 0) (v := _) (by simp only [List.getElem?_toArray, List.getElem?_cons_succ, List.getElem?_cons_zero]; rfl) (by kernel_rfl) (by kernel_rfl) (by kernel_rfl) (by exact fun _ _ _ h => h) (by first | exact Or.inl ⟨by rfl, by intro w hSw; go_simp; try with_reducible rfl⟩ | exact Or.inr ⟨by rfl, rfl⟩) hH ?_
  try simp only [Act.put, List.setIfInBounds_toArray, List.set_cons_zero, List.set_cons_succ]
  refine wpAnyH_take (i := 1) (v := _) (by simp only [List.getElem?_toArray, List.getElem?_cons_succ, List.getElem?_cons_zero]; rfl) (by kernel_rfl) (by kernel_rfl) (by kernel_rfl) (by exact fun _ _ _ h => h) (by first | exact Or.inl ⟨by rfl, by intro w hSw; go_simp; try with_reducible rfl⟩ | exact Or.inr ⟨by rfl, rfl⟩) hH ?_
  try simp only [Act.put, List.setIfInBounds_toArray, List.set_cons_zero, List.set_cons_succ]
  refine wpAnyH_take (i := 2) (v := _) (by simp only [List.getElem?_toArray, List.getElem?_cons_succ, List.getElem?_cons_zero]; rfl) (by kernel_rfl) (by kernel_rfl) (by kernel_rfl) (by exact fun _ _ _ h => h) (by first | exact Or.inl ⟨by rfl, by intro w hSw; go_simp; try with_reducible rfl⟩ | exact Or.inr ⟨by rfl, rfl⟩) hH ?_
  try simp only [Act.put, List.setIfInBounds_toArray, List.set_cons_zero, List.set_cons_succ]
  refine wpAnyH_ready (rs := [3]) (by kernel_rfl) (by simp) ?_
  refine AllReadyH.cons rfl (fun K hK => ?_) AllReadyH.nil
  go_simp
  (refine (ref_Int n h1 h2 _).mono ?_); rintro e w4 ⟨v4, rfl, hown4, hb4⟩; (have HI4 := hid ((HI3.out.below hd).below hb4)); (have hk4 := And.intro (hd0.below hb4) (Below.next hd1 hb4)); (have s4 := ownsRow.slb (l := l) (by rw [HLL.out]; exact hown4) (by have := HL10.out; omega)); (have HS4 := hid s4); (obtain ⟨a4, c4, rfl, -⟩ := s4); (have st4 := HS4.out.str w4 (Below.refl _ _)); clear hown4 hd hd0 hd1 hb4; go_simp
  refine hK.out _ _ (by first | exact ⟨hd0, hd1⟩ | assumption) (fun hH => ?_)
  clear hK K
  try simp only [Act.put, List.setIfInBounds_toArray, List.set_cons_zero, List.set_cons_succ]
  refine wpAnyH_ready (rs := [4]) (by kernel_rfl) (by simp) ?_
  refine AllReadyH.cons rfl (fun K hK => ?_) AllReadyH.nil
  go_simp
  refine hK.out _ _ (by first | exact ⟨hd0, hd1⟩ | assumption) (fun hH => ?_)
  clear hK K
  try simp only [Act.put, List.setIfInBounds_toArray, List.set_cons_zero, List.set_cons_succ]
  refine wpAnyH_take (i := 5) (v := _) (by simp only [List.getElem?_toArray, List.getElem?_cons_succ, List.getElem?_cons_zero]; rfl) (by kernel_rfl) (by kernel_rfl) (by kernel_rfl) (by exact fun _ _ _ h => h) (by first | exact Or.inl ⟨by rfl, by intro w hSw; go_simp; try with_reducible rfl⟩ | exact Or.inr ⟨by rfl, rfl⟩) hH ?_
  try simp only [Act.put, List.setIfInBounds_toArray, List.set_cons_zero, List.set_cons_succ]
  refine wpAnyH_take (i := 6) (v := _) (by simp only [List.getElem?_toArray, List.getElem?_cons_succ, List.getElem?_cons_zero]; rfl) (by kernel_rfl) (by kernel_rfl) (by kernel_rfl) (by exact fun _ _ _ h => h) (by first | exact Or.inl ⟨by rfl, by intro w hSw; go_simp; try with_reducible rfl⟩ | exact Or.inr ⟨by rfl, rfl⟩) hH ?_
  try simp only [Act.put, List.setIfInBounds_toArray, List.set_cons_zero, List.set_cons_succ]
  refine wpAnyH_take (i := 7) (v := _) (by simp only [List.getElem?_toArray, List.getElem?_cons_succ, List.getElem?_cons_zero]; rfl) (by kernel_rfl) (by kernel_rfl) (by kernel_rfl) (by exact fun _ _ _ h => h) (by first | exact Or.inl ⟨by rfl, by intro w hSw; go_simp; try with_reducible rfl⟩ | exact Or.inr ⟨by rfl, rfl⟩) hH ?_
  try simp only [Act.put, List.setIfInBounds_toArray, List.set_cons_zero, List.set_cons_succ]
  refine wpAnyH_take (i := 9) (v := _) (by simp only [List.getElem?_toArray, List.getElem?_cons_succ, List.getElem?_cons_zero]; rfl) (by kernel_rfl) (by kernel_rfl) (by kernel_rfl) (by exact fun _ _ _ h => h) (by first | exact Or.inl ⟨by rfl, by intro w hSw; go_simp; try with_reducible rfl⟩ | exact Or.inr ⟨by rfl, rfl⟩) hH ?_
  try simp only [Act.put, List.setIfInBounds_toArray, List.set_cons_zero, List.set_cons_succ]
  refine wpAnyH_take (i := 10) (v := _) (by simp only [List.getElem?_toArray, List.getElem?_cons_succ, List.getElem?_cons_zero]; rfl) (by kernel_rfl) (by kernel_rfl) (by kernel_rfl) (by exact fun _ _ _ h => h) (by first | exact Or.inl ⟨by rfl, by intro w hSw; go_simp; try with_reducible rfl⟩ | exact Or.inr ⟨by rfl, rfl⟩) hH ?_
  try simp only [Act.put, List.setIfInBounds_toArray, List.set_cons_zero, List.set_cons_succ]
  refine wpAnyH_ready (rs := [8]) (by kernel_rfl) (by simp) ?_
  refine AllReadyH.cons rfl (fun K hK => ?_) AllReadyH.nil
  go_simp
  (refine (var_Size n h1 h2 _).mono ?_); rintro e w5 ⟨rfl, hb5⟩; (have HI5 := hid (HI4.out.below hb5)); (have hk5 := And.intro (hk4.1.below hb5) (Below.next hk4.2 hb5)); (rw [← HLL.out]); clear hb5 hk4 st4; go_simp
  refine hK.out _ _ (by first | exact ⟨hd0, hd1⟩ | assumption) (fun hH => ?_)
  clear hK K
  try simp only [Act.put, List.setIfInBounds_toArray, List.set_cons_zero, List.set_cons_succ]
  refine wpAnyH_take (i := 11) (v := _) (by simp only [List.getElem?_toArray, List.getElem?_cons_succ, List.getElem?_cons_zero]; rfl) (by kernel_rfl) (by kernel_rfl) (by kernel_rfl) (by exact fun _ _ _ h => h) (by first | exact Or.inl ⟨by rfl, by intro w hSw; go_simp; try with_reducible rfl⟩ | exact Or.inr ⟨by rfl, rfl⟩) hH ?_
  try simp only [Act.put, List.setIfInBounds_toArray, List.set_cons_zero, List.set_cons_succ]
  refine wpAnyH_take (i := 12) (v := _) (by simp only [List.getElem?_toArray, List.getElem?_cons_succ, List.getElem?_cons_zero]; rfl) (by kernel_rfl) (by kernel_rfl) (by kernel_rfl) (by exact fun _ _ _ h => h) (by first | exact Or.inl ⟨by rfl, by intro w hSw; go_simp; try with_reducible rfl⟩ | exact Or.inr ⟨by rfl, rfl⟩) hH ?_
  try simp only [Act.put, List.setIfInBounds_toArray, List.set_cons_zero, List.set_cons_succ]
  refine wpAnyH_take (i := 13) (v := _) (by simp only [List.getElem?_toArray, List.getElem?_cons_succ, List.getElem?_cons_zero]; rfl) (by kernel_rfl) (by kernel_rfl) (by kernel_rfl) (by exact fun _ _ _ h => h) (by first | exact Or.inl ⟨by rfl, by intro w hSw; go_simp; try with_reducible rfl⟩ | exact Or.inr ⟨by rfl, rfl⟩) hH ?_
  try simp only [Act.put, List.setIfInBounds_toArray, List.set_cons_zero, List.set_cons_succ]
  refine wpAnyH_take (i := 14) (v := _) (by simp only [List.getElem?_toArray, List.getElem?_cons_succ, List.getElem?_cons_zero]; rfl) (by kernel_rfl) (by kernel_rfl) (by kernel_rfl) (by exact fun _ _ _ h => h) (by first | exact Or.inl ⟨by rfl, by intro w hSw; go_simp; try with_reducible rfl⟩ | exact Or.inr ⟨by rfl, rfl⟩) hH ?_
  try simp only [Act.put, List.setIfInBounds_toArray, List.set_cons_zero, List.set_cons_succ]
  refine wpAnyH_take (i := 16) (v := _) (by simp only [List.getElem?_toArray, List.getElem?_cons_succ, List.getElem?_cons_zero]; rfl) (by kernel_rfl) (by kernel_rfl) (by kernel_rfl) (by exact fun _ _ _ h => h) (by first | exact Or.inl ⟨by rfl, by intro w hSw; go_simp; try with_reducible rfl⟩ | exact Or.inr ⟨by rfl, rfl⟩) hH ?_
  try simp only [Act.put, List.setIfInBounds_toArray, List.set_cons_zero, List.set_cons_succ]
  refine wpAnyH_ready (rs := [15]) (by kernel_rfl) (by simp) ?_
  refine AllReadyH.cons rfl (fun K hK => ?_) AllReadyH.nil
  go_simp
  (refine (in_Int (some l) g D _ HI5.out n (some []) HINT).mono ?_); rintro e w6 ⟨rfl, hi6, hu6⟩; (have hk6 := And.intro (hu6.slb hk5.1 (fun b off ha x => by have := HA2.out b (by simp [Value.ownBlock, ha]); omega)) (hk5.2.trans (hu6.below (B := w.heap.size) hk5.2.size (fun k _ h => by have := HB2.out.size; omega)))); clear hu6 hk5; go_simp
  refine hK.out _ _ (by first | exact ⟨hd0, hd1⟩ | assumption) (fun hH => ?_)
  clear hK K
  try simp only [Act.put, List.setIfInBounds_toArray, List.set_cons_zero, List.set_cons_succ]
  refine wpAnyH_take (i := 17) (v := _) (by simp only [List.getElem?_toArray, List.getElem?_cons_succ, List.getElem?_cons_zero]; rfl) (by kernel_rfl) (by kernel_rfl) (by kernel_rfl) (by exact fun _ _ _ h => h) (by first | exact Or.inl ⟨by rfl, by intro w hSw; go_simp; try with_reducible rfl⟩ | exact Or.inr ⟨by rfl, rfl⟩) hH ?_
  try simp only [Act.put, List.setIfInBounds_toArray, List.set_cons_zero, List.set_cons_succ]
  refine wpAnyH_take (i := 18) (v := _) (by simp only [List.getElem?_toArray, List.getElem?_cons_succ, List.getElem?_cons_zero]; rfl) (by kernel_rfl) (by kernel_rfl) (by kernel_rfl) (by exact fun _ _ _ h => h) (by first | exact Or.inl ⟨by rfl, by intro w hSw; go_simp; try with_reducible rfl⟩ | exact Or.inr ⟨by rfl, rfl⟩) hH ?_
  try simp only [Act.put, List.setIfInBounds_toArray, List.set_cons_zero, List.set_cons_succ]
  refine wpAnyH_take (i := 19) (v := _) (by simp only [List.getElem?_toArray, List.getElem?_cons_succ, List.getElem?_cons_zero]; rfl) (by kernel_rfl) (by kernel_rfl) (by kernel_rfl) (by exact fun _ _ _ h => h) (by first | exact Or.inl ⟨by rfl, by intro w hSw; go_simp; try with_reducible rfl⟩ | exact Or.inr ⟨by rfl, rfl⟩) hH ?_
  try simp only [Act.put, List.setIfInBounds_toArray, List.set_cons_zero, List.set_cons_succ]
  refine wpAnyH_take (i := 20) (v := _) (by simp only [List.getElem?_toArray, List.getElem?_cons_succ, List.getElem?_cons_zero]; rfl) (by kernel_rfl) (by kernel_rfl) (by kernel_rfl) (by exact fun _ _ _ h => h) (by first | exact Or.inl ⟨by rfl, by intro w hSw; go_simp; try with_reducible rfl⟩ | exact Or.inr ⟨by rfl, rfl⟩) hH ?_
  try simp only [Act.put, List.setIfInBounds_toArray, List.set_cons_zero, List.set_cons_succ]
  refine wpAnyH_ready (rs := [21]) (by kernel_rfl) (by simp) ?_
  refine AllReadyH.cons rfl (fun K hK => ?_) AllReadyH.nil
  go_simp
  (refine (in_Done (some []) g D _ hi6).mono ?_); rintro e w' ⟨rfl, rfl⟩; simp only [inDone, beq_self_eq_true]; go_simp
  refine hK.out _ _ (by first | exact ⟨hd0, hd1⟩ | assumption) (fun hH => ?_)
  clear hK K
  try simp only [Act.put, List.setIfInBounds_toArray, List.set_cons_zero, List.set_cons_succ]
  refine wpAnyH_take (i := 22) (v := _) (by simp only [List.getElem?_toArray, List.getElem?_cons_succ, List.getElem?_cons_zero]; rfl) (by kernel_rfl) (by kernel_rfl) (by kernel_rfl) (by exact fun _ _ _ h => h) (by first | exact Or.inl ⟨by rfl, by intro w hSw; go_simp; try with_reducible rfl⟩ | exact Or.inr ⟨by rfl, rfl⟩) hH ?_
  try simp only [Act.put, List.setIfInBounds_toArray, List.set_cons_zero, List.set_cons_succ]
  refine wpAnyH_take (i := 23) (v := _) (by simp only [List.getElem?_toArray, List.getElem?_cons_succ, List.getElem?_cons_zero]; rfl) (by kernel_rfl) (by kernel_rfl) (by kernel_rfl) (by exact fun _ _ _ h => h) (by first | exact Or.inl ⟨by rfl, by intro w hSw; go_simp; try with_reducible rfl⟩ | exact Or.inr ⟨by rfl, rfl⟩) hH ?_
  try simp only [Act.put, List.setIfInBounds_toArray, List.set_cons_zero, List.set_cons_succ]
  refine wpAnyH_ready (rs := [24]) (by kernel_rfl) (by simp) ?_
  refine AllReadyH.cons rfl (fun K hK => ?_) AllReadyH.nil
  go_simp
  (refine (var_awake _).mono ?_); rintro e w7 ⟨rfl, hb7⟩; (have hk7 := And.intro (hk6.1.below hb7) (Below.next hk6.2 hb7)); clear hb7; go_simp
  refine hK.out _ _ (by first | exact ⟨hd0, hd1⟩ | assumption) (fun hH => ?_)
  clear hK K
  try simp only [Act.put, List.setIfInBounds_toArray, List.set_cons_zero, List.set_cons_succ]
  refine wpAnyH_take (i := 25) (v := _) (by simp only [List.getElem?_toArray, List.getElem?_cons_succ, List.getElem?_cons_zero]; rfl) (by kernel_rfl) (by kernel_rfl) (by kernel_rfl) (by exact fun _ _ _ h => h) (by first | exact Or.inl ⟨by rfl, by intro w hSw; go_simp; try with_reducible rfl⟩ | exact Or.inr ⟨by rfl, rfl⟩) hH ?_
  try simp only [Act.put, List.setIfInBounds_toArray, List.set_cons_zero, List.set_cons_succ]
  refine wpAnyH_take (i := 26) (v := _) (by simp only [List.getElem?_toArray, List.getElem?_cons_succ, List.getElem?_cons_zero]; rfl) (by kernel_rfl) (by kernel_rfl) (by kernel_rfl) (by exact fun _ _ _ h => h) (by first | exact Or.inl ⟨by rfl, by intro w hSw; go_simp; try with_reducible rfl⟩ | exact Or.inr ⟨by rfl, rfl⟩) hH ?_
  try simp only [Act.put, List.setIfInBounds_toArray, List.set_cons_zero, List.set_cons_succ]
  refine wpAnyH_done (by kernel_rfl) ?_ _
  have HB7 := hid hH.2
  clear hH hk7 hk6 hi6 st
  go_wp2
  go_ret
  exact ⟨rfl, HB7.out⟩
end Go.Proofs.Ytdchopckbklncaa
