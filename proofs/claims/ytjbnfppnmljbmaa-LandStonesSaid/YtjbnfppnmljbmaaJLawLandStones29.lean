/- Joined texts, in this order: StonesM, LandStones, LawLandStones. Each one's first remark says what it proves; no condition beyond those that its theorems name. -/
import Derived.Test.YtjbnfppnmljbmaaJLawLandStones28
import Derived.Test.YtjbnfppnmljbmaaRows
import Derived.WalkKit
import Derived.ProofKit
import Derived.OpenShut
import Derived.ShutString
import Derived.ChangeOld
import Derived.Below
section
/- Land's stones, plain: how many of the leaves with a stone hold a tile. -/
namespace Go.Proofs.Ytjbnfppnmljbmaa
open Go.RowKit Go.Deep
open Go.Lib (hid)
set_option linter.unusedVariables false

theorem sqL_all {k : Nat} (t : Sq) (h : OwnOk k 0 0) : sqL k t = lvS k t 0 0 := by
  unfold sqL metS flR
  rw [List.filter_eq_self]
  intro u hu
  have hin := lv_in k t 0 0 h u hu
  have hr := h.right
  refine decide_eq_true ?_
  unfold InR RightR at hin
  unfold MeetsR RightR
  omega
theorem lv_len : ∀ (k : Nat) (s : Sq) (X Y : Int), (lvS k s X Y).length ≤ 4 ^ k
  | 0, s, X, Y => by simp [lvS]
  | k + 1, s, X, Y => by
    have hp : 1 ≤ 4 ^ k := Nat.one_le_pow _ _ (by omega)
    unfold lvS
    split
    · rw [Nat.pow_succ]; simp; omega
    · rw [range4, List.length_append, List.length_append, List.length_append, Nat.pow_succ]
      have h0 := lv_len k (s.ks.getD 0 default) (quX X (sd k) 0) (quY Y (sd k) 0)
      have h1 := lv_len k (s.ks.getD 1 default) (quX X (sd k) 1) (quY Y (sd k) 1)
      have h2 := lv_len k (s.ks.getD 2 default) (quX X (sd k) 2) (quY Y (sd k) 2)
      have h3 := lv_len k (s.ks.getD 3 default) (quX X (sd k) 3) (quY Y (sd k) 3)
      omega
theorem sqL_len {k : Nat} (t : Sq) (h : OwnOk k 0 0) (hk : k ≤ 8) : (sqL k t).length ≤ 65536 := by
  rw [sqL_all t h]
  have h1 := lv_len k t 0 0
  have h2 : 4 ^ k ≤ 4 ^ 8 := Nat.pow_le_pow_right (by omega) hk
  have e : (4 : Nat) ^ 8 = 65536 := by decide
  omega
theorem stones_within {k : Nat} (t : Sq) (h : OwnOk k 0 0) : ∀ u ∈ stF (sqL k t), WithinR u.1 (sd k) := by
  intro u hu
  have hu := (List.mem_filter.1 hu).1
  rw [sqL_all t h] at hu
  exact (within_all h).1 (lv_in k t 0 0 h u hu)
theorem tile_meetsS {b : R4} {x y S : Int} (hb : WithinR b S) : MeetsR b (x, y, 1, 1) ↔ HoldsR b x y := by
  unfold WithinR RightR at hb
  unfold MeetsR HoldsR RightR
  simp only
  omega
theorem blk_tile {B : List R4} {x y S : Int} (hB : ∀ b ∈ B, WithinR b S) : blkX B (x, y, 1, 1) = B.any (fun b => tHolds x y b) := by
  unfold blkX tHolds
  rw [Bool.eq_iff_iff, List.any_eq_true, List.any_eq_true]
  constructor
  · rintro ⟨b, hb, h⟩
    exact ⟨b, hb, decide_eq_true ((tile_meetsS (hB b hb)).1 (of_decide_eq_true h))⟩
  · rintro ⟨b, hb, h⟩
    exact ⟨b, hb, decide_eq_true ((tile_meetsS (hB b hb)).2 (of_decide_eq_true h))⟩
def cntH (x y : Int) (l : List Tg) : Nat := (l.filter fun u => tHolds x y u.1).length
theorem cntH_snoc (x y : Int) (l : List Tg) (u : Tg) : cntH x y (l ++ [u]) = cntH x y l + (if tHolds x y u.1 then 1 else 0) := by
  unfold cntH
  rw [List.filter_append, List.length_append]
  congr 1
  by_cases h : tHolds x y u.1 = true
  · simp [h]
  · simp [h]
theorem cnt_tl (x y : Int) (l : List Tg) : cntH x y (stF l) = (tl l x y).countP (fun v => decide (v = 1)) := by
  unfold cntH stF tl
  rw [List.countP_map, List.countP_eq_length_filter, List.filter_filter, List.filter_filter]
  congr 1
  refine List.filter_congr fun u _ => ?_
  simp [Function.comp, Bool.and_comm]
theorem stones_count {k : Nat} {t : Sq} {B : List R4} (h : OwnOk k 0 0) (ht : TileB k t B) (hB : ∀ b ∈ B, WithinR b (sd k)) (x y : Int) : cntH x y (stF (sqL k t)) = if blkX B (x, y, 1, 1) then 1 else 0 := by
  rw [cnt_tl, sqL_all t h, blk_tile hB]
  by_cases hq : HoldsR (ownR k 0 0) x y
  · rw [ht x y hq]
    cases B.any (fun b => tHolds x y b) <;> simp
  · rw [lv_none k t 0 0 x y h hq]
    have hno : B.any (fun b => tHolds x y b) = false := by
      rw [List.any_eq_false]
      intro b hb hh
      refine hq ?_
      have h1 := hB b hb
      have h2 : HoldsR b x y := of_decide_eq_true hh
      rw [holds_own h]
      unfold WithinR at h1
      unfold HoldsR RightR at h2
      omega
    rw [hno]
    rfl
end Go.Proofs.Ytjbnfppnmljbmaa
end
section
/- Law LandStones. -/
namespace Go.Proofs.Ytjbnfppnmljbmaa
open Go.RowKit Go.Deep
open Go.Lib (hid)
set_option linter.unusedVariables false
attribute [local go_sem] Oper.semAt_some

def AllW (l : List Tg) : Prop := ∀ u ∈ l, WithinR u.1 32
theorem Blk.c1w {w : World} {g : Nat} {c0 : Value} (h : Blk w g #[c0]) : w.cell? ⟨g, 0, none⟩ = some c0 := by rw [h.cell]; rfl
set_option maxRecDepth 100000 in
set_option maxHeartbeats 8000000 in
theorem law19_Stones (ab : Option Addr) (nb cb : Nat) (B : List R4) (px py : Int) (hx : px ≤ 9223372036854775807) (hy : py ≤ 9223372036854775807) (w : World) (hs : SlR w (.slice ab nb cb) B) :
    Calls Try.prog 9 #[.slice ab nb cb, .int .i64 px, .int .i64 py] w fun e w' => e = .returned (.bool true) ∧ Below w.heap.size w w' := by
  have hnb : B.length = nb := by obtain ⟨a, c, e, -⟩ := hs; simp only [Value.slice.injEq] at e; exact e.2.1.symm
  have HS := hid hs
  have HN := hid hnb
  have HPX := hid (And.intro hx hy)
  have HAW : Hid (∀ z, Below w.heap.size w z → Calls Try.prog 10 #[] z fun e w' => e = .returned (.bool true) ∧ Below w.heap.size w w') := hid (fun z hz => (law19_awake z).mono (fun e w' h => ⟨h.1, Below.next hz h.2⟩))
  clear hs hnb hx hy
  refine (callsIn_wide (n := 6)).1 ?_
  refine callsIn_of_wp_marks Try.func9 rfl trivial ?_ rfl
  simp only [Try.ntmps9, List.size_toArray, List.length_cons, List.length_nil, Nat.reduceAdd, Nat.reduceSub, Array.replicate_succ, Array.replicate_zero, List.push_toArray, List.append_toArray, List.nil_append, List.cons_append]
  obtain ⟨w1, hw1⟩ : ∃ w1, w1 = ((w.alloc (.cells #[.int .i64 px] 3)).alloc (.cells #[.int .i64 py] 3)).alloc (.cells #[.bool false] 4) := ⟨_, rfl⟩
  have hb1 : Below w.heap.size w w1 := by rw [hw1]; exact Below.next (Below.next (Below.new _ _) (Below.new _ _)) (Below.new _ _)
  have HB1 := hid hb1
  have hz1 : (World.alloc w (.cells #[.int .i64 px] 3)).heap.size = w.heap.size + 1 := by simp
  have hz2 : ((w.alloc (.cells #[.int .i64 px] 3)).alloc (.cells #[.int .i64 py] 3)).heap.size = w.heap.size + 1 + 1 := by simp
  have HK4 : Hid (Blk w1 w.heap.size #[.int .i64 px]) := hid (by rw [hw1]; exact ((Blk.new _ _ _).below (Below.new _ _)).below (Below.new _ _))
  have HK5 : Hid (Blk w1 (w.heap.size + 1) #[.int .i64 py]) := hid (by rw [hw1, ← hz1]; exact (Blk.new _ _ _).below (Below.new _ _))
  have HK6 : Hid (Blk w1 (w.heap.size + 1 + 1) #[.bool false]) := hid (by rw [hw1, ← hz2]; exact Blk.new _ _ _)
  obtain ⟨x, hxx⟩ : ∃ x, rtX 32 B = x := ⟨_, rfl⟩
  have HX := hid hxx
  clear hb1 hz1 hz2 hxx
  have HRT := hid (law19_rightA 32 _ B w1 (HS.out.below HB1.out) x HX)
  have HEND : Hid (∀ w2, Below w1.heap.size w1 w2 → ∃ wz, wz = w2.setCell ⟨w.heap.size + 1 + 1, 0, none⟩ (.bool true) ∧ w2.cell? ⟨w.heap.size + 1 + 1, 0, none⟩ = some (.bool false) ∧ w2.frozen? ⟨w.heap.size + 1 + 1, 0, none⟩ = false ∧ wz.cell? ⟨w.heap.size + 1 + 1, 0, none⟩ = some (.bool true) ∧ Below w.heap.size w wz) := hid (fun w2 hw2 => by
    have hk := HK6.out.below hw2
    have h2 := hk.set 0 (.bool true)
    refine ⟨_, rfl, by rw [hk.cell]; rfl, hk.unfrozen 0, by rw [h2.cell]; rfl, (Below.next HB1.out hw2).setCell (p := ⟨w.heap.size + 1 + 1, 0, none⟩) (by show _ ≤ w.heap.size + 1 + 1; omega) _⟩)
  cases x with
  | false =>
    gi_wp2_with (first | (refine ⟨trivial, ?_⟩; (try rw [← hw1]); refine (callsIn_wide.2 HRT.out).mono ?_; clear HRT; rintro e w2 ⟨rfl, hb2⟩; have HB2 := hid hb2; clear hb2) | (refine ⟨trivial, ?_⟩; refine (callsIn_wide.2 (law19_awake w2)).mono ?_; rintro e w3 ⟨rfl, hb3⟩; obtain ⟨wz, hwz, k6, f6, c6, hbz⟩ := HEND.out w3 (Below.next HB2.out hb3); have HWZ := hid hwz; have HBZ := hid hbz; clear hwz hb3 hbz))
    try rw [← HWZ.out]
    exact ⟨.bool true, by simp [results, Try.f9, go_sem, c6], rfl, HBZ.out⟩
  | true =>
  by_cases h20 : nb ≤ 20
  case neg =>
    have c20 : (20 : Int) < (nb : Int) := by omega
    gi_wp2_with (first | (refine ⟨trivial, ?_⟩; (try rw [← hw1]); refine (callsIn_wide.2 HRT.out).mono ?_; clear HRT; rintro e w2 ⟨rfl, hb2⟩; have HB2 := hid hb2; clear hb2) | (refine ⟨trivial, ?_⟩; refine (callsIn_wide.2 (law19_awake w2)).mono ?_; rintro e w3 ⟨rfl, hb3⟩; obtain ⟨wz, hwz, k6, f6, c6, hbz⟩ := HEND.out w3 (Below.next HB2.out hb3); have HWZ := hid hwz; have HBZ := hid hbz; clear hwz hb3 hbz))
    try rw [← HWZ.out]
    exact ⟨.bool true, by simp [results, Try.f9, go_sem, c6], rfl, HBZ.out⟩
  have c20 : ¬ (20 : Int) < (nb : Int) := by omega
  have HOK := hid ((rtX_iff 32 B).1 HX.out)
  have HL20 := hid h20
  gi_wp2_with (first | (refine ⟨trivial, ?_⟩; (try rw [← hw1]); refine (callsIn_wide.2 HRT.out).mono ?_; clear HRT; rintro e w2 ⟨rfl, hb2⟩; have HB2 := hid hb2; clear hb2) | (refine ⟨trivial, ?_⟩; refine (callsIn_wide.2 (law19_world ab none nb cb 0 B [] w2 (HS.out.below (Below.next HB1.out HB2.out)) ⟨none, 0, rfl, by simp, by omega, fun _ => rfl, fun i x h => by simp at h⟩ HOK.out (by have := HN.out; omega) (by simp))).mono ?_; rintro e w3 ⟨l, k, F, vs, vp, rfl, hsd, hbo, -, hlow, hb3⟩; obtain ⟨va, vc, hve, -⟩ := _root_.id hbo.st; obtain ⟨pa, pc, hpe, -⟩ := _root_.id hbo.pl; subst hve hpe; simp only [xV]) | (refine ⟨trivial, ?_⟩; refine (callsIn_wide.2 (land_Stones _ l)).mono ?_; rintro e w5 ⟨bT, rfl, hT, hTl, hb5⟩))
  obtain ⟨w4, hw4⟩ : ∃ w4, w4 = (w3.alloc (.cells #[.int .i64 32, .slice va B.length vc, .slice pa (runL 32 B [] []).length pc] 27)).alloc (.cells #[.int .i64 0] 3) := ⟨_, rfl⟩
  rw [← hw4] at hb5 hTl
  obtain ⟨b9, hb9⟩ : ∃ z, z = w3.heap.size + 1 := ⟨_, rfl⟩
  obtain ⟨b8, hb8⟩ : ∃ z, z = w3.heap.size := ⟨_, rfl⟩
  have hz1 : (World.alloc w3 (.cells #[.int .i64 32, .slice va B.length vc, .slice pa (runL 32 B [] []).length pc] 27)).heap.size = w3.heap.size + 1 := by simp
  rw [← hb9, ← hb8]
  have hb34 : Below w3.heap.size w3 w4 := by rw [hw4]; exact Below.next (Below.new _ _) (Below.new _ _)
  have hz4 : w4.heap.size = w3.heap.size + 2 := by rw [hw4]; simp
  have HK8 : Hid (Blk w5 b8 #[.int .i64 32, .slice va B.length vc, .slice pa (runL 32 B [] []).length pc]) := hid ((show Blk w4 b8 _ by rw [hw4, hb8]; exact (Blk.new _ _ _).below (Below.new _ _)).below hb5)
  have HK9 : Hid (Blk w5 b9 #[.int .i64 ((cntH px py [] : Nat) : Int)]) := hid ((show Blk w4 b9 #[.int .i64 0] by rw [hw4, hb9, ← hz1]; exact Blk.new _ _ _).below hb5)
  have HB5 := hid (Below.next hb34 hb5)
  have HB3 := hid (Below.next HB2.out hb3)
  have HZ : Hid (b8 = w3.heap.size ∧ b9 = w3.heap.size + 1 ∧ w4.heap.size = w3.heap.size + 2 ∧ w4.heap.size ≤ w5.heap.size ∧ w.heap.size + 3 ≤ w3.heap.size) := hid ⟨hb8, hb9, hz4, hb5.size, by have h1 := HK6.out.lt; have h2 := (Below.next HB2.out hb3).size; omega⟩
  have HBO := hid hbo
  have HT := hid hT
  have HSD := hid hsd
  obtain ⟨q, tt, mb, Fq, Ft, sq, M, hla⟩ := hbo.land
  have HQ := hid hla.quad
  have HTL := hid hla.tile
  have HSW := hid hla.stones
  have HLC3 : Hid (w3.cell? ⟨l, 0, none⟩ = some (.pointer (some ⟨q, 0, none⟩))) := hid hla.c3.1
  have HLC : Hid (w5.cell? ⟨l, 0, none⟩ = some (.pointer (some ⟨q, 0, none⟩))) := hid (cellOf_belowR HB5.out hla.c3.1)
  obtain ⟨np, hnp⟩ : ∃ np, (runL 32 B [] []).length = np := ⟨_, rfl⟩
  obtain ⟨nv, hnv⟩ : ∃ nv, B.length = nv := ⟨_, rfl⟩
  rw [hnp, hnv] at HK8 ⊢
  have HNL := hid (And.intro hnp hnv)
  clear hw4 hb8 hb9 hz1 hb34 hz4 hb5 hb3 hbo hT hTl hsd hla hlow hnp hnv
  refine wpIn_rangeFunc_own1 (n := 6) (α := Tg) (by omega) (gf := 61) (lb := #[.pointer (some ⟨bT, 0, none⟩)]) rfl (enters_of Try.func61 (by kernel_rfl) rfl)
    (stops_stones bT l w3.heap.size w4.heap.size k q F Fq sq w5 (by have := HZ.out; omega) (by have := HZ.out; omega) HT.out HLC.out (HQ.out.below HB5.out) (fun b hb => by
      rcases List.mem_cons.1 hb with rfl | hb
      · exact HQ.out.blk.lt
      · exact HQ.out.sq.lt b hb))
    (fun h k => h.trans k) (fun V r r' h => KeepQ.put (by have := HZ.out; omega) V _ _ _ (by have := HZ.out; omega) h rfl) (Below.refl _ _) (fun _ => rfl)
    (fun pre V => (Blk V b8 #[.int .i64 32, .slice va nv vc, .slice pa np pc] ∧ Blk V b9 #[.int .i64 (cntH px py pre : Int)] ∧ pre.length ≤ (sqL k sq).length ∧ AllW pre) ∧ Below w3.heap.size w3 V ∧ w5.heap.size ≤ V.heap.size)
    (fun c pre V => c = .ret ∧ ¬ AllW pre)
    ?hI ?hIx ?h0
    (fun z a' V => ∃ Bx, w5.heap.size ≤ Bx ∧ Blk V Bx #[.int .i64 z.1.1, .int .i64 z.1.2.1, .int .i64 z.1.2.2.1, .int .i64 z.1.2.2.2] ∧ a' = { tmps := #[.slice ab nb cb, .int .i64 px, .int .i64 py, undef, .pointer (some ⟨w.heap.size, 0, none⟩), .pointer (some ⟨w.heap.size + 1, 0, none⟩), .pointer (some ⟨w.heap.size + 1 + 1, 0, none⟩), .pointer (some ⟨l, 0, none⟩), .pointer (some ⟨b8, 0, none⟩), .pointer (some ⟨b9, 0, none⟩), .pointer (some ⟨Bx, 0, none⟩), undef, .slice ab nb cb, .bool true, .bool false, .bool false, .slice ab nb cb, .int .i64 (nb : Int), .bool (decide ((20 : Int) < (nb : Int))), .bool (decide ((20 : Int) < (nb : Int))), undef, .tuple #[.pointer (some ⟨l, 0, none⟩), .agg #[.int .i64 32, .slice va nv vc, .slice pa np pc]], .slice ab nb cb, .tuple #[.pointer (some ⟨l, 0, none⟩), .agg #[.int .i64 32, .slice va nv vc, .slice pa np pc]], .pointer (some ⟨l, 0, none⟩), .agg #[.int .i64 32, .slice va nv vc, .slice pa np pc], .pointer (some ⟨l, 0, none⟩), .bool false, .pointer (some ⟨l, 0, none⟩), .func (.func 61) #[] #[.pointer (some ⟨bT, 0, none⟩)], rV z.1, undef, undef, undef, undef, undef, undef, undef, undef, undef, undef, undef, undef, undef, undef, undef, undef, undef, undef, undef, undef, undef, undef, undef, undef, undef], defers := [] })
    ?hAx ?assign ?body ?done ?stop
  case hI =>
    rintro pre V V' row ⟨⟨h1, h2, h3⟩, hb, hs⟩ hg hr
    exact ⟨⟨own_blkR hg hr h1, own_blkR hg hr h2, h3⟩, hb.grown hg hb.size (fun j hj => by have := (hr j hj).1; have := HZ.out; omega), Nat.le_trans hs hg.size⟩
  case hIx =>
    rintro c pre V V' row h1 hg hr
    exact h1
  case h0 => exact ⟨⟨HK8.out, HK9.out, by simp, fun u hu => by simp at hu⟩, HB5.out, Nat.le_refl _⟩
  case hAx =>
    rintro x a' u V V' row ⟨Bx, h1, h2, h3⟩ hg hr
    exact ⟨Bx, h1, own_blkR hg hr h2, h3⟩
  case assign =>
    rintro l' pre ⟨⟨zx, zy, za, zb⟩, zv⟩ V K hI hK
    simp only [rV] at hK ⊢
    gi_wp2
    have hb := Below.new V (.cells #[.int .i64 zx, .int .i64 zy, .int .i64 za, .int .i64 zb] 33)
    exact hK _ _ ((KeepsOthers.alloc _ _).from _) (KeepQ.of_below hb (by have := hI.2.2; have := HZ.out; omega))
      ⟨⟨hI.1.1.below hb, hI.1.2.1.below hb, hI.1.2.2⟩, Below.next hI.2.1 hb, by have := hI.2.2; have := hb.size; omega⟩ ⟨V.heap.size, hI.2.2, Blk.new _ _ _, rfl⟩
  case body =>
    rintro l' pre ⟨⟨zx, zy, za, zb⟩, zv⟩ a' V hl' hI ⟨Bx, hBx, hkx, rfl⟩ hlen
    simp only [rV]
    simp only at hkx
    have HI := hid hI
    have HKX := hid hkx
    have HBX := hid hBx
    have HLEN := hid hlen
    obtain ⟨x0, x1, x2, x3⟩ := hkx.c4r
    have h6 := (HK6.out.below HB3.out).below hI.2.1
    have H4 := hid ((HK4.out.below HB3.out).below hI.2.1)
    have H5 := hid ((HK5.out.below HB3.out).below hI.2.1)
    have H6 := hid h6
    obtain ⟨qw, hqw⟩ : ∃ qw, decide (WithinR (zx, zy, za, zb) 32) = qw := ⟨_, rfl⟩
    have HQW := hid hqw
    clear hI hkx hBx hlen h6 hqw
    cases qw with
    | false =>
      gi_wp2_with (first | (refine ⟨trivial, ?_⟩; refine (CallsIn.inRound l' (callsIn_wide.2 (law19_ref zx zy za zb V))).mono ?_; rintro e y1 ⟨rfl, hb1⟩; have HY1 := hid hb1; clear hb1 x0 x1 x2 x3) | (refine ⟨trivial, ?_⟩; refine (CallsIn.inRound l' (callsIn_wide.2 (ref19_Within zx zy za zb 32 y1 false HQW))).mono ?_; rintro e y2 ⟨rfl, hb2⟩; have HY2 := hid (Below.next HY1.out hb2); have k6 : y2.cell? ⟨w.heap.size + 1 + 1, 0, none⟩ = some (.bool false) := ((H6.out.below HY2.out)).c1w; have f6 : y2.frozen? ⟨w.heap.size + 1 + 1, 0, none⟩ = false := (H6.out.below HY2.out).unfrozen 0; clear hb2))
      exact ⟨(keepsFrom_belowR HY2.out).trans ((KeepsOthers.setCell _ _ _).from _), rfl, fun h => by
        have := h ((zx, zy, za, zb), zv) (by simp)
        exact absurd this (of_decide_eq_false HQW.out)⟩
    | true =>
      have HWI : Hid (AllW (pre ++ [(((zx, zy, za, zb), zv) : Tg)])) := hid (fun u hu => by
        rcases List.mem_append.1 hu with hu | hu
        · exact HI.out.1.2.2.2 u hu
        · rw [List.mem_singleton] at hu
          subst hu
          exact of_decide_eq_true HQW.out)
      obtain ⟨qh, hqh⟩ : ∃ qh, tHolds px py (zx, zy, za, zb) = qh := ⟨_, rfl⟩
      have HHD : Hid (∀ z, Calls Try.prog 40 #[.agg #[.int .i64 zx, .int .i64 zy, .int .i64 za, .int .i64 zb], .int .i64 px, .int .i64 py] z fun e w' => e = .returned (.bool qh) ∧ Below z.heap.size z w') := hid (fun z => by
        have := ref02_Holds4 zx zy za zb px py HPX.out.1 HPX.out.2 z
        rw [hqh] at this
        exact this)
      have HCN : Hid (cntH px py (pre ++ [(((zx, zy, za, zb), zv) : Tg)]) = cntH px py pre + (if qh then 1 else 0)) := hid (by rw [cntH_snoc]; simp only [hqh])
      clear hqh
      gi_wp2_with (first | (refine ⟨trivial, ?_⟩; refine (CallsIn.inRound l' (callsIn_wide.2 (law19_ref zx zy za zb V))).mono ?_; rintro e y1 ⟨rfl, hb1⟩; have HY1 := hid hb1; clear hb1 x0 x1 x2 x3) | (refine ⟨trivial, ?_⟩; refine (CallsIn.inRound l' (callsIn_wide.2 (ref19_Within zx zy za zb 32 y1 true HQW))).mono ?_; rintro e y2 ⟨rfl, hb2⟩; have HY2 := hid (Below.next HY1.out hb2); clear hb2))
      obtain ⟨x0, x1, x2, x3⟩ := (HKX.out.below HY2.out).c4r
      have k4 := (H4.out.below HY2.out).c1w
      have k5 := (H5.out.below HY2.out).c1w
      replace x0 := fun (z : World) (hz : Below y2.heap.size y2 z) => cellOf_belowR hz x0
      replace x1 := fun (z : World) (hz : Below y2.heap.size y2 z) => cellOf_belowR hz x1
      replace x2 := fun (z : World) (hz : Below y2.heap.size y2 z) => cellOf_belowR hz x2
      replace x3 := fun (z : World) (hz : Below y2.heap.size y2 z) => cellOf_belowR hz x3
      replace k4 := fun (z : World) (hz : Below y2.heap.size y2 z) => cellOf_belowR hz k4
      replace k5 := fun (z : World) (hz : Below y2.heap.size y2 z) => cellOf_belowR hz k5
      have hyd := (Below.refl y2.heap.size y2).drew
      refine wpIn_region_kept [] (fun z => Below y2.heap.size y2 z) (by kernel_rfl) (by assumption) (fun hH => ?_)
      refine wpK.take (i := 0) (v := _) (by simp only [List.getElem?_toArray, List.getElem?_cons_succ, List.getElem?_cons_zero]; rfl) (by kernel_rfl) (by kernel_rfl) (by kernel_rfl) (by kernel_rfl) (by kernel_rfl) (by exact fun _ _ _ h => h) (by first | exact Or.inl ⟨by rfl, by intro w hSw; go_simp; try with_reducible rfl⟩ | exact Or.inr ⟨by rfl, rfl⟩) hH ?_
      try simp only [Act.put, List.setIfInBounds_toArray, List.set_cons_zero, List.set_cons_succ]
      refine wpK.take (i := 2) (v := _) (by simp only [List.getElem?_toArray, List.getElem?_cons_succ, List.getElem?_cons_zero]; rfl) (by kernel_rfl) (by kernel_rfl) (by kernel_rfl) (by kernel_rfl) (by kernel_rfl) (by exact fun _ _ _ h => h) (by first | exact Or.inl ⟨by rfl, by intro w hSw; go_simp; try with_reducible rfl⟩ | exact Or.inr ⟨by rfl, rfl⟩) hH ?_
      try simp only [Act.put, List.setIfInBounds_toArray, List.set_cons_zero, List.set_cons_succ]
      refine wpK.take (i := 3) (v := _) (by simp only [List.getElem?_toArray, List.getElem?_cons_succ, List.getElem?_cons_zero]; rfl) (by kernel_rfl) (by kernel_rfl) (by kernel_rfl) (by kernel_rfl) (by kernel_rfl) (by exact fun _ _ _ h => h) (by first | exact Or.inl ⟨by rfl, by intro w hSw; go_simp; try with_reducible rfl⟩ | exact Or.inr ⟨by rfl, rfl⟩) hH ?_
      try simp only [Act.put, List.setIfInBounds_toArray, List.set_cons_zero, List.set_cons_succ]
      refine wpK.step (i := 1) (by kernel_rfl) (by simp only [List.getElem?_toArray, List.getElem?_cons_succ, List.getElem?_cons_zero]; rfl) (fun K hK => ?_)
      go_simp
      (refine (law19_ref zx zy za zb _).mono ?_); rintro e y3 ⟨rfl, hb3⟩; (have hk3 := Below.next hH hb3); go_simp
      refine hK.out _ _ (by assumption) (fun hH => ?_)
      clear hK K
      try simp only [Act.put, List.setIfInBounds_toArray, List.set_cons_zero, List.set_cons_succ]
      refine wpK.step (i := 4) (by kernel_rfl) (by simp only [List.getElem?_toArray, List.getElem?_cons_succ, List.getElem?_cons_zero]; rfl) (fun K hK => ?_)
      go_simp
      (refine (HHD.out _).mono ?_); rintro e y4 ⟨rfl, hb4⟩; (have hk4 := Below.next hH hb4); go_simp
      refine hK.out _ _ (by assumption) (fun hH => ?_)
      clear hK K
      try simp only [Act.put, List.setIfInBounds_toArray, List.set_cons_zero, List.set_cons_succ]
      refine wpK.done (by kernel_rfl) ?_ _
      have HY4 := hid (Below.next HY2.out hk4)
      clear x0 x1 x2 x3 k4 k5 hyd hH hk3 hk4 hb3 hb4
      have H9 := hid (HI.out.1.2.1.below HY4.out)
      have k9 := H9.out.c1w
      have f9 : y4.frozen? ⟨b9, 0, none⟩ = false := H9.out.unfrozen 0
      have hcle : (cntH px py pre : Int) ≤ ((sqL k sq).length : Int) := by
        have h1 : cntH px py pre ≤ pre.length := List.length_filter_le _ _
        have h2 := HI.out.1.2.2.1
        omega
      have HPL : Hid ((pre ++ [(((zx, zy, za, zb), zv) : Tg)]).length ≤ (sqL k sq).length) := hid (by have := HLEN.out; simp; omega)
      obtain ⟨c, hc⟩ : ∃ c, cntH px py pre = c := ⟨_, rfl⟩
      rw [hc] at k9 hcle
      have HC := hid hc
      have hbig : ((sqL k sq).length : Int) < 1000000 := by have := sqL_len sq HQ.out.own HQ.out.le; omega
      have hwr : IntKind.i64.wrap ((c : Int) + 1) = (c : Int) + 1 := by rw [IntKind.wrap_i64]; omega
      clear hc hcle hbig
      cases qh with
      | false =>
        gi_wp2
        refine ⟨keepsFrom_belowR HY4.out, KeepQ.of_below HY4.out (by have := HI.out.2.2; have := HZ.out; omega), ⟨HI.out.1.1.below HY4.out, ?_, HPL.out, HWI.out⟩, Below.next HI.out.2.1 HY4.out, Nat.le_trans HI.out.2.2 HY4.out.size⟩
        rw [HCN.out]
        exact H9.out
      | true =>
        gi_wp2
        have hu := Upd.setCell y4 b9 0 (.int .i64 ((c : Int) + 1))
        have hz := HZ.out
        have hs := HI.out.2.2
        have hs4 := HY4.out.size
        refine ⟨(keepsFrom_belowR HY4.out).trans ((KeepsOthers.setCell _ _ _).from _), (KeepQ.of_below HY4.out (by omega)).trans (KeepQ.of_upd hu (by omega) (fun b _ q => by omega)), ⟨(HI.out.1.1.below HY4.out).upd hu (by omega), ?_, HPL.out, HWI.out⟩, (Below.next HI.out.2.1 HY4.out).setCell (p := ⟨b9, 0, none⟩) (by show _ ≤ b9; omega) _, by have := hu.size; omega⟩
        rw [HCN.out, HC.out]
        have h9 := H9.out.set 0 (.int .i64 ((c : Int) + 1))
        simpa using h9
  case done =>
    rintro D ys V hD hys ⟨⟨h8, h9, -, -⟩, hb, hs⟩ hK
    subst hys
    have hcnt := stones_count HQ.out.own HTL.out HSW.out px py
    obtain ⟨qb, hqb⟩ : ∃ qb, blkX B (px, py, 1, 1) = qb := ⟨_, rfl⟩
    rw [hqb] at hcnt
    have HV := hid hb
    have HV8 := hid h8
    have HV9 := hid (hcnt ▸ h9)
    have HKD := hid hK
    have HDD := hid hD
    have HVS := hid hs
    have hblk := ref19_Blocked 32 va pa nv vc np pc B px py 1 1 V (by have := (HBO.out.below hb).st; rw [HNL.out.2] at this; exact this) (by have := HN.out; have := HL20.out; omega)
    rw [hqb] at hblk
    have HBL := hid hblk
    obtain ⟨m0, m1, m2⟩ := h8.c3v
    have k4 := ((HK4.out.below HB3.out).below hb).c1w
    have k5 := ((HK5.out.below HB3.out).below hb).c1w
    clear hcnt hqb h8 h9 hb hs hK hD hblk
    cases qb with
    | false =>
      gi_wp2_with (first | (refine ⟨trivial, ?_⟩; refine (callsIn_wide.2 HBL.out).mono ?_; clear HBL; rintro e v1 ⟨rfl, hb1⟩; have HY1 := hid hb1; clear hb1) | (refine ⟨trivial, ?_⟩; refine (callsIn_wide.2 (land_Stones v1 l)).mono ?_; rintro e v2 ⟨cT, rfl, hT2, hTl2, hb2⟩))
      have HY2 := hid (Below.next HY1.out hb2)
      have HT2 := hid hT2
      clear hT2 hTl2 hb2 k4 k5 m0 m1 m2
      have HLV2 : Hid (v2.cell? ⟨l, 0, none⟩ = some (.pointer (some ⟨q, 0, none⟩))) := hid (cellOf_belowR (Below.next HV.out HY2.out) HLC3.out)
      have HQV2 := hid (HQ.out.below (Below.next HV.out HY2.out))
      have HVZ : Hid (w3.heap.size ≤ v2.heap.size) := hid (Below.next HV.out HY2.out).size
      refine wpIn_rangeFunc_own1 (n := 6) (α := Tg) (by omega) (gf := 61) (lb := #[.pointer (some ⟨cT, 0, none⟩)]) rfl (enters_of Try.func61 (by kernel_rfl) rfl)
        (stops_stones cT l w3.heap.size v2.heap.size k q F Fq sq v2 HVZ.out (Nat.le_refl _) HT2.out HLV2.out HQV2.out (fun b hb => by
          rcases List.mem_cons.1 hb with rfl | hb
          · exact HQ.out.blk.lt
          · exact HQ.out.sq.lt b hb))
        (fun h k => h.trans k) (fun V r r' h => KeepQ.put HVZ.out V _ _ _ (by omega) h rfl) (Below.refl _ _) (fun _ => rfl)
        (fun pre U => Below v2.heap.size v2 U)
        (fun c pre U => c = .exit 2 ∧ Below v2.heap.size v2 U)
        ?hI2 ?hIx2 ?h02
        (fun z a' U => True)
        ?hAx2 ?assign2 ?body2 ?done2 ?stop2
      case hI2 =>
        rintro pre U U' row hb hg hr
        exact hb.grown hg hb.size (fun j hj => (hr j hj).1)
      case hIx2 =>
        rintro c pre U U' row ⟨hc, hb⟩ hg hr
        exact ⟨hc, hb.grown hg hb.size (fun j hj => (hr j hj).1)⟩
      case h02 => exact Below.refl _ _
      case hAx2 =>
        rintro x a' u U U' row h hg hr
        trivial
      case assign2 =>
        rintro l' pre ⟨⟨zx, zy, za, zb⟩, zv⟩ U K hI hK
        gi_wp2
        exact hK _ _ (KeepsFrom.refl _ _) (KeepQ.refl _ _ _) hI trivial
      case body2 =>
        rintro l' pre x a' U hl' hI hax hlen
        gi_wp2
        exact ⟨KeepsFrom.refl _ _, rfl, hI⟩
      case done2 =>
        rintro D2 ys U hD2 hys hbU hK2
        have HX := hid (And.intro hbU (And.intro hD2 hK2))
        clear hbU hD2 hK2 hys
        have hbz := Below.next (Below.next HV.out HY2.out) HX.out.1
        have k9 := (HV9.out.below (Below.next HY2.out HX.out.1)).c1w
        clear hbz
        gi_wp2_with (refine ⟨trivial, ?_⟩; refine (callsIn_wide.2 (law19_awake U)).mono ?_; rintro e y1 ⟨rfl, hb1⟩; obtain ⟨wz, hwz, k6, f6, c6, hbz⟩ := HEND.out y1 (Below.next (Below.next HB3.out (Below.next (Below.next HV.out HY2.out) HX.out.1)) hb1); have HWZ := hid hwz; have HBZ := hid hbz; have HY5 := hid hb1; clear hwz hb1 hbz)
        try rw [← HWZ.out]
        have hD1 : D < V.heap.size := (Array.getElem?_eq_some_iff.1 HKD.out).1
        have hD2 : D ≠ D2 := by have := HX.out.2.1; have := HY2.out.size; omega
        have e1 : y1.heap[D]? = some (.deferred (some [])) := ((Below.next (Below.next HY2.out HX.out.1) HY5.out).block D hD1).trans HKD.out
        have e2 : y1.heap[D2]? = some (.deferred (some [])) := (HY5.out.block D2 (Array.getElem?_eq_some_iff.1 HX.out.2.2).1).trans HX.out.2.2
        have g1 : wz.heap[D]? = some (.deferred (some [])) := by rw [HWZ.out]; exact (KeepsOthers.setCell y1 _ _).same D _ e1 rfl
        have g2 : wz.heap[D2]? = some (.deferred (some [])) := by rw [HWZ.out]; exact (KeepsOthers.setCell y1 _ _).same D2 _ e2 rfl
        have g3 : (wz.putObj D2 (.deferred none)).heap[D]? = some (.deferred (some [])) := (World.putObj_heap_other hD2).trans g1
        refine ⟨by simp, .inl ⟨_, _, rfl, run_takeDeferred g2, ⟨by simp, .inl ⟨_, _, rfl, run_takeDeferred g3, ?_⟩⟩⟩⟩
        have hc4 := cell_kept c6 (grownBy_putObj' _ D2 (.deferred none)) (fun r e => by cases e; exact ⟨_, g2, rfl⟩)
        have hc5 := cell_kept hc4 (grownBy_putObj' _ D (.deferred none)) (fun r e => by cases e; exact ⟨_, g3, rfl⟩)
        refine ⟨.bool true, ?_, rfl, (HBZ.out.trans (belowK_b (w := w) (Nat.le_refl _) _ D2 _ _ (by have := HX.out.2.1; have := HY2.out.size; have := (Below.next HB3.out HV.out).size; have := HB1.out.size; omega) g2 rfl rfl)).trans (belowK_b (w := w) (Nat.le_refl _) _ D _ _ (by have := HDD.out; have := HZ.out; omega) g3 rfl rfl)⟩
        simp [results, Try.f9, go_sem, hc5]
      case stop2 =>
        rintro D2 c pre U hD2 hpre ⟨rfl, hbU⟩ hK2
        have HX := hid (And.intro hbU (And.intro hD2 hK2))
        clear hbU hD2 hK2 hpre
        have hbz := Below.next (Below.next HV.out HY2.out) HX.out.1
        have k9 := (HV9.out.below (Below.next HY2.out HX.out.1)).c1w
        clear hbz
        gi_wp2_with (refine ⟨trivial, ?_⟩; refine (callsIn_wide.2 (law19_awake U)).mono ?_; rintro e y1 ⟨rfl, hb1⟩; obtain ⟨wz, hwz, k6, f6, c6, hbz⟩ := HEND.out y1 (Below.next (Below.next HB3.out (Below.next (Below.next HV.out HY2.out) HX.out.1)) hb1); have HWZ := hid hwz; have HBZ := hid hbz; have HY5 := hid hb1; clear hwz hb1 hbz)
        try rw [← HWZ.out]
        have hD1 : D < V.heap.size := (Array.getElem?_eq_some_iff.1 HKD.out).1
        have hD2 : D ≠ D2 := by have := HX.out.2.1; have := HY2.out.size; omega
        have e1 : y1.heap[D]? = some (.deferred (some [])) := ((Below.next (Below.next HY2.out HX.out.1) HY5.out).block D hD1).trans HKD.out
        have e2 : y1.heap[D2]? = some (.deferred (some [])) := (HY5.out.block D2 (Array.getElem?_eq_some_iff.1 HX.out.2.2).1).trans HX.out.2.2
        have g1 : wz.heap[D]? = some (.deferred (some [])) := by rw [HWZ.out]; exact (KeepsOthers.setCell y1 _ _).same D _ e1 rfl
        have g2 : wz.heap[D2]? = some (.deferred (some [])) := by rw [HWZ.out]; exact (KeepsOthers.setCell y1 _ _).same D2 _ e2 rfl
        have g3 : (wz.putObj D2 (.deferred none)).heap[D]? = some (.deferred (some [])) := (World.putObj_heap_other hD2).trans g1
        refine ⟨by simp, .inl ⟨_, _, rfl, run_takeDeferred g2, ⟨by simp, .inl ⟨_, _, rfl, run_takeDeferred g3, ?_⟩⟩⟩⟩
        have hc4 := cell_kept c6 (grownBy_putObj' _ D2 (.deferred none)) (fun r e => by cases e; exact ⟨_, g2, rfl⟩)
        have hc5 := cell_kept hc4 (grownBy_putObj' _ D (.deferred none)) (fun r e => by cases e; exact ⟨_, g3, rfl⟩)
        refine ⟨.bool true, ?_, rfl, (HBZ.out.trans (belowK_b (w := w) (Nat.le_refl _) _ D2 _ _ (by have := HX.out.2.1; have := HY2.out.size; have := (Below.next HB3.out HV.out).size; have := HB1.out.size; omega) g2 rfl rfl)).trans (belowK_b (w := w) (Nat.le_refl _) _ D _ _ (by have := HDD.out; have := HZ.out; omega) g3 rfl rfl)⟩
        simp [results, Try.f9, go_sem, hc5]
    | true =>
      gi_wp2_with (first | (refine ⟨trivial, ?_⟩; refine (callsIn_wide.2 HBL.out).mono ?_; clear HBL; rintro e v1 ⟨rfl, hb1⟩; have HY1 := hid hb1; clear hb1) | (refine ⟨trivial, ?_⟩; refine (callsIn_wide.2 (land_Stones v1 l)).mono ?_; rintro e v2 ⟨cT, rfl, hT2, hTl2, hb2⟩))
      have HY2 := hid (Below.next HY1.out hb2)
      have HT2 := hid hT2
      clear hT2 hTl2 hb2 k4 k5 m0 m1 m2
      have HLV2 : Hid (v2.cell? ⟨l, 0, none⟩ = some (.pointer (some ⟨q, 0, none⟩))) := hid (cellOf_belowR (Below.next HV.out HY2.out) HLC3.out)
      have HQV2 := hid (HQ.out.below (Below.next HV.out HY2.out))
      have HVZ : Hid (w3.heap.size ≤ v2.heap.size) := hid (Below.next HV.out HY2.out).size
      refine wpIn_rangeFunc_own1 (n := 6) (α := Tg) (by omega) (gf := 61) (lb := #[.pointer (some ⟨cT, 0, none⟩)]) rfl (enters_of Try.func61 (by kernel_rfl) rfl)
        (stops_stones cT l w3.heap.size v2.heap.size k q F Fq sq v2 HVZ.out (Nat.le_refl _) HT2.out HLV2.out HQV2.out (fun b hb => by
          rcases List.mem_cons.1 hb with rfl | hb
          · exact HQ.out.blk.lt
          · exact HQ.out.sq.lt b hb))
        (fun h k => h.trans k) (fun V r r' h => KeepQ.put HVZ.out V _ _ _ (by omega) h rfl) (Below.refl _ _) (fun _ => rfl)
        (fun pre U => Below v2.heap.size v2 U)
        (fun c pre U => c = .exit 2 ∧ Below v2.heap.size v2 U)
        ?hI2 ?hIx2 ?h02
        (fun z a' U => True)
        ?hAx2 ?assign2 ?body2 ?done2 ?stop2
      case hI2 =>
        rintro pre U U' row hb hg hr
        exact hb.grown hg hb.size (fun j hj => (hr j hj).1)
      case hIx2 =>
        rintro c pre U U' row ⟨hc, hb⟩ hg hr
        exact ⟨hc, hb.grown hg hb.size (fun j hj => (hr j hj).1)⟩
      case h02 => exact Below.refl _ _
      case hAx2 =>
        rintro x a' u U U' row h hg hr
        trivial
      case assign2 =>
        rintro l' pre ⟨⟨zx, zy, za, zb⟩, zv⟩ U K hI hK
        gi_wp2
        exact hK _ _ (KeepsFrom.refl _ _) (KeepQ.refl _ _ _) hI trivial
      case body2 =>
        rintro l' pre x a' U hl' hI hax hlen
        gi_wp2
        exact ⟨KeepsFrom.refl _ _, rfl, hI⟩
      case done2 =>
        rintro D2 ys U hD2 hys hbU hK2
        have HX := hid (And.intro hbU (And.intro hD2 hK2))
        clear hbU hD2 hK2 hys
        have hbz := Below.next (Below.next HV.out HY2.out) HX.out.1
        have k9 := (HV9.out.below (Below.next HY2.out HX.out.1)).c1w
        clear hbz
        gi_wp2_with (refine ⟨trivial, ?_⟩; refine (callsIn_wide.2 (law19_awake U)).mono ?_; rintro e y1 ⟨rfl, hb1⟩; obtain ⟨wz, hwz, k6, f6, c6, hbz⟩ := HEND.out y1 (Below.next (Below.next HB3.out (Below.next (Below.next HV.out HY2.out) HX.out.1)) hb1); have HWZ := hid hwz; have HBZ := hid hbz; have HY5 := hid hb1; clear hwz hb1 hbz)
        try rw [← HWZ.out]
        have hD1 : D < V.heap.size := (Array.getElem?_eq_some_iff.1 HKD.out).1
        have hD2 : D ≠ D2 := by have := HX.out.2.1; have := HY2.out.size; omega
        have e1 : y1.heap[D]? = some (.deferred (some [])) := ((Below.next (Below.next HY2.out HX.out.1) HY5.out).block D hD1).trans HKD.out
        have e2 : y1.heap[D2]? = some (.deferred (some [])) := (HY5.out.block D2 (Array.getElem?_eq_some_iff.1 HX.out.2.2).1).trans HX.out.2.2
        have g1 : wz.heap[D]? = some (.deferred (some [])) := by rw [HWZ.out]; exact (KeepsOthers.setCell y1 _ _).same D _ e1 rfl
        have g2 : wz.heap[D2]? = some (.deferred (some [])) := by rw [HWZ.out]; exact (KeepsOthers.setCell y1 _ _).same D2 _ e2 rfl
        have g3 : (wz.putObj D2 (.deferred none)).heap[D]? = some (.deferred (some [])) := (World.putObj_heap_other hD2).trans g1
        refine ⟨by simp, .inl ⟨_, _, rfl, run_takeDeferred g2, ⟨by simp, .inl ⟨_, _, rfl, run_takeDeferred g3, ?_⟩⟩⟩⟩
        have hc4 := cell_kept c6 (grownBy_putObj' _ D2 (.deferred none)) (fun r e => by cases e; exact ⟨_, g2, rfl⟩)
        have hc5 := cell_kept hc4 (grownBy_putObj' _ D (.deferred none)) (fun r e => by cases e; exact ⟨_, g3, rfl⟩)
        refine ⟨.bool true, ?_, rfl, (HBZ.out.trans (belowK_b (w := w) (Nat.le_refl _) _ D2 _ _ (by have := HX.out.2.1; have := HY2.out.size; have := (Below.next HB3.out HV.out).size; have := HB1.out.size; omega) g2 rfl rfl)).trans (belowK_b (w := w) (Nat.le_refl _) _ D _ _ (by have := HDD.out; have := HZ.out; omega) g3 rfl rfl)⟩
        simp [results, Try.f9, go_sem, hc5]
      case stop2 =>
        rintro D2 c pre U hD2 hpre ⟨rfl, hbU⟩ hK2
        have HX := hid (And.intro hbU (And.intro hD2 hK2))
        clear hbU hD2 hK2 hpre
        have hbz := Below.next (Below.next HV.out HY2.out) HX.out.1
        have k9 := (HV9.out.below (Below.next HY2.out HX.out.1)).c1w
        clear hbz
        gi_wp2_with (refine ⟨trivial, ?_⟩; refine (callsIn_wide.2 (law19_awake U)).mono ?_; rintro e y1 ⟨rfl, hb1⟩; obtain ⟨wz, hwz, k6, f6, c6, hbz⟩ := HEND.out y1 (Below.next (Below.next HB3.out (Below.next (Below.next HV.out HY2.out) HX.out.1)) hb1); have HWZ := hid hwz; have HBZ := hid hbz; have HY5 := hid hb1; clear hwz hb1 hbz)
        try rw [← HWZ.out]
        have hD1 : D < V.heap.size := (Array.getElem?_eq_some_iff.1 HKD.out).1
        have hD2 : D ≠ D2 := by have := HX.out.2.1; have := HY2.out.size; omega
        have e1 : y1.heap[D]? = some (.deferred (some [])) := ((Below.next (Below.next HY2.out HX.out.1) HY5.out).block D hD1).trans HKD.out
        have e2 : y1.heap[D2]? = some (.deferred (some [])) := (HY5.out.block D2 (Array.getElem?_eq_some_iff.1 HX.out.2.2).1).trans HX.out.2.2
        have g1 : wz.heap[D]? = some (.deferred (some [])) := by rw [HWZ.out]; exact (KeepsOthers.setCell y1 _ _).same D _ e1 rfl
        have g2 : wz.heap[D2]? = some (.deferred (some [])) := by rw [HWZ.out]; exact (KeepsOthers.setCell y1 _ _).same D2 _ e2 rfl
        have g3 : (wz.putObj D2 (.deferred none)).heap[D]? = some (.deferred (some [])) := (World.putObj_heap_other hD2).trans g1
        refine ⟨by simp, .inl ⟨_, _, rfl, run_takeDeferred g2, ⟨by simp, .inl ⟨_, _, rfl, run_takeDeferred g3, ?_⟩⟩⟩⟩
        have hc4 := cell_kept c6 (grownBy_putObj' _ D2 (.deferred none)) (fun r e => by cases e; exact ⟨_, g2, rfl⟩)
        have hc5 := cell_kept hc4 (grownBy_putObj' _ D (.deferred none)) (fun r e => by cases e; exact ⟨_, g3, rfl⟩)
        refine ⟨.bool true, ?_, rfl, (HBZ.out.trans (belowK_b (w := w) (Nat.le_refl _) _ D2 _ _ (by have := HX.out.2.1; have := HY2.out.size; have := (Below.next HB3.out HV.out).size; have := HB1.out.size; omega) g2 rfl rfl)).trans (belowK_b (w := w) (Nat.le_refl _) _ D _ _ (by have := HDD.out; have := HZ.out; omega) g3 rfl rfl)⟩
        simp [results, Try.f9, go_sem, hc5]
  case stop =>
    rintro D c pre V hD hpre ⟨rfl, hno⟩ hK
    exact absurd (fun u hu => by
      have := stones_within sq HQ.out.own u (hpre.subset hu)
      rw [HSD.out] at this
      exact this) hno
set_option maxRecDepth 100000 in
theorem LandStones_walk {H : Type} {enc : TypeId × Value → H} {b0 : Nat} {d0 : DataW H} {p0 : List MemPlace} (v0 : Value) (x1 x2 : Int) (w : World) (ok0 : Value.okWide Try.prog w .any b0 69 v0) (k0 : DataW.Trod enc Try.prog w 0 (fun _ => true) true 69 v0 d0 p0)
    (w1 : (Lit.int .i64 x1).wf = true) (w2 : (Lit.int .i64 x2).wf = true) :
    Calls Try.prog 9 #[v0, .int .i64 x1, .int .i64 x2] w fun e w' => e = .returned (.bool true) ∧ Below w.heap.size w w' := by
  obtain ⟨B, hB⟩ := open_rcs ok0 k0
  obtain ⟨a, c, rfl, -⟩ := id hB
  exact law19_Stones a _ c B x1 x2 (wf64 w1).2 (wf64 w2).2 w hB
end Go.Proofs.Ytjbnfppnmljbmaa
end
section
/- The law LandStones returns true for every input, and what it is handed reads behind the call as it read before: no condition. (The frame follows the kit's proof-skeleton.) -/
namespace Go.Proofs.Ytjbnfppnmljbmaa.landStones
open Go.ChangeShapes Go.WideShapes Go.ChangeAt Go.RowKit
open Go.ChangeMaps (open_string shut_string)
set_option linter.unusedVariables false

theorem own : ownKnob Try.prog.godebug = none := by kernel_rfl
theorem laidOut : laidOutB Try.prog = true := by kernel_rfl

/-! ### the row's step -/
set_option maxRecDepth 100000 in
theorem lifted (os : Os) (started : os.Started) (H : Type) (enc : TypeId × Value → H) :
    ReturnsInHanded {} Try.checked os 9 .any (Rows.landStonesSpec.pre6 enc Try.prog Try.f9 Rows.landStonesRow.domain false) (Rows.landStonesSpec.post enc Try.prog Try.f9 false true false false) := by
  refine returnsInHanded_of_change (C := Try.checked) own started (by kernel_rfl) Try.func9
    (ChangeSpec.witness6 (enc := enc) (C := Try.checked) false ⟨#[], #[.slice none 0 0, .int .i64 0, .int .i64 0], []⟩ 8 (by kernel_rfl) (by kernel_rfl) (by kernel_rfl) (by kernel_rfl)) ?_
  intro W base args ds gs before hval0 hW hcnd _
  have hval : ∀ (j : Nat) t v, Try.f9.params[j]? = some t → args[j]? = some v → Value.okWide Try.prog W .any base t v := hval0
  have hW' := hW
  obtain ⟨p, q, hA0, hV, rfl, hfz, hnd⟩ := hW
  have hA : DataW.TrodAll enc Try.prog W 0 (fun _ => true) true Try.f9.params.toList args.toList ds p := hA0
  rw [Try.params9] at hA hval
  obtain ⟨v0, vs0, d0, ds0, p0, q0, hargs, rfl, rfl, h0, r0⟩ := trodAll_cons hA
  obtain ⟨v1, vs1, d1, ds1, p1, q1, rfl, rfl, rfl, h1, r1⟩ := trodAll_cons r0
  obtain ⟨v2, vs2, d2, ds2, p2, q2, rfl, rfl, rfl, h2, r2⟩ := trodAll_cons r1
  obtain ⟨rfl, rfl, rfl⟩ := trodAll_nil r2
  obtain rfl : args = #[v0, v1, v2] := by cases args; simp_all
  obtain ⟨rfl, rfl⟩ := trodVars_none hV
  have k0 := h0
  have lt0 : ∀ x ∈ p0, x.block < W.heap.size := by obtain ⟨m, hm⟩ := k0; exact DataW.trod_lt m _ _ _ hm
  have ok0 := hval 0 69 v0 rfl rfl
  obtain ⟨a1, rfl, rfl, rfl, w1⟩ := open_int Try.underlying3 (hval 1 3 v1 rfl rfl) h1
  obtain ⟨a2, rfl, rfl, rfl, w2⟩ := open_int Try.underlying3 (hval 2 3 v2 rfl rfl) h2
  clear hA0 hval0
  refine (LandStones_walk v0 a1 a2 W ok0 k0 w1 w2).mono fun e W' ⟨he, bel⟩ => ?_
  subst he
  exact ⟨_, rfl, _, _, _, [], _, [], hW', trodAll_mk1 (shut_bool Try.underlying4 _), (trodAll_cons_mk (Below.trod laidOut (by kernel_rfl) (of_decide_eq_true (by kernel_rfl)) k0 bel lt0) (trodAll_cons_mk (shut_int Try.underlying3 w1) (trodAll_cons_mk (shut_int Try.underlying3 w2) trodAll_mk0))), rfl, bel.frame _, fun h => by cases h⟩

theorem over : Rows.landStonesRow.holds Try.pinned (OpenSpec.ofChange Rows.landStonesSpec) :=
  OpenClaim.holds_of_wide 9 Try.f9 rfl rfl rfl rfl rfl rfl rfl ⟨rfl, rfl, rfl, rfl, rfl⟩ rfl rfl rfl rfl rfl (by kernel_rfl) Try.func9 (by kernel_rfl)
    (of_decide_eq_true (by kernel_rfl)) (by unfold Func.isWrapper; first | (rw [if_pos (by decide +kernel)]; kernel_rfl) | (rw [if_neg (by decide +kernel)]; exact ⟨rfl, rfl⟩))
    (fun os started H enc _ => lifted os started H enc)

/-- the statement -/
theorem proved : Rows.LandStonesSaid := over
#print axioms proved
end Go.Proofs.Ytjbnfppnmljbmaa.landStones
end
