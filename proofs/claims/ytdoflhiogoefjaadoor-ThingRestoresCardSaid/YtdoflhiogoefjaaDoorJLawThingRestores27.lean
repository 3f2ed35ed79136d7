/- Joined texts, in this order: ThingSame, ThingResMath. Each one's first remark says what it proves; no condition beyond those that its theorems name. -/
import Derived.Test.YtdoflhiogoefjaaDoorJLawThingRestores25
import Derived.Test.YtdoflhiogoefjaaDoorJLawThingRestores23
import Derived.Test.YtdoflhiogoefjaaDoorJLawThingRestores26
import Derived.Test.YtdoflhiogoefjaaDoorJLawThingRestores20
import Derived.Test.YtdoflhiogoefjaaDoorJLawThingRestores17
section
/- The law's same: do the things tell what x tells? And equal, small. -/
namespace Go.Proofs.YtdoflhiogoefjaaDoor
open Go.RowKit
open Go.Lib (hid)
set_option linter.unusedVariables false

set_option maxRecDepth 100000 in
set_option maxHeartbeats 4000000 in
theorem law21_same {s : Nat} {F : Nat → Prop} {a : Option Addr} {c : Nat} {X : ThX} (w : World) (h : BothT w s F a c X) (hl : X.L.length ≤ 900) (hnx : X.nx ≤ 4611686018427387904) :
    Calls Tryd.prog 14 #[.pointer (some ⟨s, 0, none⟩), .agg #[.slice a X.L.length c, .int .i64 X.nx]] w fun e w' => e = .returned (.bool true) ∧ Below w.heap.size w w' := by
  have HBT := hid h
  have HL := hid hl
  have HNX := hid hnx
  clear h hl hnx
  obtain ⟨n, hn⟩ : ∃ n, n = X.L.length := ⟨_, rfl⟩
  obtain ⟨nx, hx⟩ : ∃ nx, nx = X.nx := ⟨_, rfl⟩
  have HN := hid hn
  have HX := hid hx
  rw [← hn, ← hx]
  clear hn hx
  go_enter Tryd.func14, Tryd.ntmps14
  go_upto_region 1 with fail
  generalize hw2 : World.alloc w _ = w2
  obtain ⟨bs, hbs⟩ : ∃ b, b = w.heap.size := ⟨_, rfl⟩
  try rw [← hbs]
  have hb2 : Below w.heap.size w w2 := by rw [← hw2]; exact Below.new _ _
  have HK : Hid (Blk w2 bs #[.slice a n c, .int .i64 nx]) := hid (by rw [← hw2, hbs]; exact Blk.new w _ _)
  have HX2 := hid (HBT.out.rx.below hb2)
  have H2 := hid (HBT.out.st.below hb2)
  have HLOW : Hid (∀ k, aB a k → k < w2.heap.size) := hid (fun k hk => by have := HBT.out.low k hk; have := hb2.size; omega)
  have HB2 := hid hb2
  clear hw2 hbs hb2
  have c0 : ∀ y, Below w2.heap.size w2 y → y.cell? ⟨bs, 0, none⟩ = some (.slice a n c) := fun y hy => by rw [(HK.out.below hy).cell]; rfl
  have c1 : ∀ y, Below w2.heap.size w2 y → y.cell? ⟨bs, 1, none⟩ = some (.int .i64 nx) := fun y hy => by rw [(HK.out.below hy).cell]; rfl
  have hyd := (Below.refl w2.heap.size w2).drew
  refine wp_region_kept [20] (fun y => Below w2.heap.size w2 y) (by kernel_rfl) (by assumption) (fun hH => ?_)
  refine wpK.take (i := 0) (v := _) (by simp only [List.getElem?_toArray, List.getElem?_cons_succ, List.getElem?_cons_zero]; rfl) (by kernel_rfl) (by kernel_rfl) (by kernel_rfl) (by kernel_rfl) (by kernel_rfl) (by exact fun _ _ _ h => h) (by first | exact Or.inl ⟨by rfl, by intro w hSw; go_simp; try with_reducible rfl⟩ | exact Or.inr ⟨by rfl, rfl⟩) hH ?_
  try simp only [Act.put, List.setIfInBounds_toArray, List.set_cons_zero, List.set_cons_succ]
  refine wpK.take (i := 2) (v := _) (by simp only [List.getElem?_toArray, List.getElem?_cons_succ, List.getElem?_cons_zero]; rfl) (by kernel_rfl) (by kernel_rfl) (by kernel_rfl) (by kernel_rfl) (by kernel_rfl) (by exact fun _ _ _ h => h) (by first | exact Or.inl ⟨by rfl, by intro w hSw; go_simp; try with_reducible rfl⟩ | exact Or.inr ⟨by rfl, rfl⟩) hH ?_
  try simp only [Act.put, List.setIfInBounds_toArray, List.set_cons_zero, List.set_cons_succ]
  refine wpK.take (i := 3) (v := _) (by simp only [List.getElem?_toArray, List.getElem?_cons_succ, List.getElem?_cons_zero]; rfl) (by kernel_rfl) (by kernel_rfl) (by kernel_rfl) (by kernel_rfl) (by kernel_rfl) (by exact fun _ _ _ h => h) (by first | exact Or.inl ⟨by rfl, by intro w hSw; go_simp; try with_reducible rfl⟩ | exact Or.inr ⟨by rfl, rfl⟩) hH ?_
  try simp only [Act.put, List.setIfInBounds_toArray, List.set_cons_zero, List.set_cons_succ]
  refine wpK.step (i := 1) (by kernel_rfl) (by simp only [List.getElem?_toArray, List.getElem?_cons_succ, List.getElem?_cons_zero]; rfl) (fun K hK => ?_)
  go_simp
  (refine (thing_All _ s).mono ?_); rintro e w3 ⟨bT, bI, rfl, hT, hI, hb3⟩; (have HT := hid hT); (have HI := hid hI); (have hk3 := Below.next hH hb3); (have HK3 := hid hk3); clear hT hI; go_simp
  refine hK.out _ _ (by assumption) (fun hH => ?_)
  clear hK K
  try simp only [Act.put, List.setIfInBounds_toArray, List.set_cons_zero, List.set_cons_succ]
  refine wpK.step (i := 4) (by kernel_rfl) (by simp only [List.getElem?_toArray, List.getElem?_cons_succ, List.getElem?_cons_zero]; rfl) (fun K hK => ?_)
  go_simp
  (rw [HN.out]); (refine (law21_told w3 HT.out HI.out (H2.out.below HK3.out) (HX2.out.below HK3.out) (fun k hk => by have := HLOW.out k hk; have := HK3.out.size; omega) HL.out HNX.out).mono ?_); (rw [← HN.out]); rintro e w4 ⟨rfl, hb4⟩; (have hk4 := Below.next hH hb4); (have HK4 := hid hk4); go_simp
  refine hK.out _ _ (by assumption) (fun hH => ?_)
  clear hK K
  try simp only [Act.put, List.setIfInBounds_toArray, List.set_cons_zero, List.set_cons_succ]
  refine wpK.take (i := 5) (v := _) (by simp only [List.getElem?_toArray, List.getElem?_cons_succ, List.getElem?_cons_zero]; rfl) (by kernel_rfl) (by kernel_rfl) (by kernel_rfl) (by kernel_rfl) (by kernel_rfl) (by exact fun _ _ _ h => h) (by first | exact Or.inl ⟨by rfl, by intro w hSw; go_simp; try with_reducible rfl⟩ | exact Or.inr ⟨by rfl, rfl⟩) hH ?_
  try simp only [Act.put, List.setIfInBounds_toArray, List.set_cons_zero, List.set_cons_succ]
  refine wpK.take (i := 6) (v := _) (by simp only [List.getElem?_toArray, List.getElem?_cons_succ, List.getElem?_cons_zero]; rfl) (by kernel_rfl) (by kernel_rfl) (by kernel_rfl) (by kernel_rfl) (by kernel_rfl) (by exact fun _ _ _ h => h) (by first | exact Or.inl ⟨by rfl, by intro w hSw; go_simp; try with_reducible rfl⟩ | exact Or.inr ⟨by rfl, rfl⟩) hH ?_
  try simp only [Act.put, List.setIfInBounds_toArray, List.set_cons_zero, List.set_cons_succ]
  refine wpK.take (i := 8) (v := _) (by simp only [List.getElem?_toArray, List.getElem?_cons_succ, List.getElem?_cons_zero]; rfl) (by kernel_rfl) (by kernel_rfl) (by kernel_rfl) (by kernel_rfl) (by kernel_rfl) (by exact fun _ _ _ h => h) (by first | exact Or.inl ⟨by rfl, by intro w hSw; go_simp; try with_reducible rfl⟩ | exact Or.inr ⟨by rfl, rfl⟩) hH ?_
  try simp only [Act.put, List.setIfInBounds_toArray, List.set_cons_zero, List.set_cons_succ]
  refine wpK.take (i := 9) (v := _) (by simp only [List.getElem?_toArray, List.getElem?_cons_succ, List.getElem?_cons_zero]; rfl) (by kernel_rfl) (by kernel_rfl) (by kernel_rfl) (by kernel_rfl) (by kernel_rfl) (by exact fun _ _ _ h => h) (by first | exact Or.inl ⟨by rfl, by intro w hSw; go_simp; try with_reducible rfl⟩ | exact Or.inr ⟨by rfl, rfl⟩) hH ?_
  try simp only [Act.put, List.setIfInBounds_toArray, List.set_cons_zero, List.set_cons_succ]
  refine wpK.take (i := 10) (v := _) (by simp only [List.getElem?_toArray, List.getElem?_cons_succ, List.getElem?_cons_zero]; rfl) (by kernel_rfl) (by kernel_rfl) (by kernel_rfl) (by kernel_rfl) (by kernel_rfl) (by exact fun _ _ _ h => h) (by first | exact Or.inl ⟨by rfl, by intro w hSw; go_simp; try with_reducible rfl⟩ | exact Or.inr ⟨by rfl, rfl⟩) hH ?_
  try simp only [Act.put, List.setIfInBounds_toArray, List.set_cons_zero, List.set_cons_succ]
  refine wpK.step (i := 7) (by kernel_rfl) (by simp only [List.getElem?_toArray, List.getElem?_cons_succ, List.getElem?_cons_zero]; rfl) (fun K hK => ?_)
  go_simp
  (refine (thing_Len w4 (H2.out.below HK4.out) n (hid HN.out.symm)).mono ?_); rintro e w5 ⟨rfl, rfl⟩; go_simp
  refine hK.out _ _ (by assumption) (fun hH => ?_)
  clear hK K
  try simp only [Act.put, List.setIfInBounds_toArray, List.set_cons_zero, List.set_cons_succ]
  refine wpK.take (i := 11) (v := _) (by simp only [List.getElem?_toArray, List.getElem?_cons_succ, List.getElem?_cons_zero]; rfl) (by kernel_rfl) (by kernel_rfl) (by kernel_rfl) (by kernel_rfl) (by kernel_rfl) (by exact fun _ _ _ h => h) (by first | exact Or.inl ⟨by rfl, by intro w hSw; go_simp; try with_reducible rfl⟩ | exact Or.inr ⟨by rfl, rfl⟩) hH ?_
  try simp only [Act.put, List.setIfInBounds_toArray, List.set_cons_zero, List.set_cons_succ]
  refine wpK.take (i := 12) (v := _) (by simp only [List.getElem?_toArray, List.getElem?_cons_succ, List.getElem?_cons_zero]; rfl) (by kernel_rfl) (by kernel_rfl) (by kernel_rfl) (by kernel_rfl) (by kernel_rfl) (by exact fun _ _ _ h => h) (by first | exact Or.inl ⟨by rfl, by intro w hSw; go_simp; try with_reducible rfl⟩ | exact Or.inr ⟨by rfl, rfl⟩) hH ?_
  try simp only [Act.put, List.setIfInBounds_toArray, List.set_cons_zero, List.set_cons_succ]
  refine wpK.take (i := 13) (v := _) (by simp only [List.getElem?_toArray, List.getElem?_cons_succ, List.getElem?_cons_zero]; rfl) (by kernel_rfl) (by kernel_rfl) (by kernel_rfl) (by kernel_rfl) (by kernel_rfl) (by exact fun _ _ _ h => h) (by first | exact Or.inl ⟨by rfl, by intro w hSw; go_simp; try with_reducible rfl⟩ | exact Or.inr ⟨by rfl, rfl⟩) hH ?_
  try simp only [Act.put, List.setIfInBounds_toArray, List.set_cons_zero, List.set_cons_succ]
  refine wpK.take (i := 14) (v := _) (by simp only [List.getElem?_toArray, List.getElem?_cons_succ, List.getElem?_cons_zero]; rfl) (by kernel_rfl) (by kernel_rfl) (by kernel_rfl) (by kernel_rfl) (by kernel_rfl) (by exact fun _ _ _ h => h) (by first | exact Or.inl ⟨by rfl, by intro w hSw; go_simp; try with_reducible rfl⟩ | exact Or.inr ⟨by rfl, rfl⟩) hH ?_
  try simp only [Act.put, List.setIfInBounds_toArray, List.set_cons_zero, List.set_cons_succ]
  refine wpK.take (i := 16) (v := _) (by simp only [List.getElem?_toArray, List.getElem?_cons_succ, List.getElem?_cons_zero]; rfl) (by kernel_rfl) (by kernel_rfl) (by kernel_rfl) (by kernel_rfl) (by kernel_rfl) (by exact fun _ _ _ h => h) (by first | exact Or.inl ⟨by rfl, by intro w hSw; go_simp; try with_reducible rfl⟩ | exact Or.inr ⟨by rfl, rfl⟩) hH ?_
  try simp only [Act.put, List.setIfInBounds_toArray, List.set_cons_zero, List.set_cons_succ]
  refine wpK.take (i := 17) (v := _) (by simp only [List.getElem?_toArray, List.getElem?_cons_succ, List.getElem?_cons_zero]; rfl) (by kernel_rfl) (by kernel_rfl) (by kernel_rfl) (by kernel_rfl) (by kernel_rfl) (by exact fun _ _ _ h => h) (by first | exact Or.inl ⟨by rfl, by intro w hSw; go_simp; try with_reducible rfl⟩ | exact Or.inr ⟨by rfl, rfl⟩) hH ?_
  try simp only [Act.put, List.setIfInBounds_toArray, List.set_cons_zero, List.set_cons_succ]
  refine wpK.step (i := 15) (by kernel_rfl) (by simp only [List.getElem?_toArray, List.getElem?_cons_succ, List.getElem?_cons_zero]; rfl) (fun K hK => ?_)
  go_simp
  (refine (thing_Next w4 (H2.out.below HK4.out) nx (hid HX.out.symm)).mono ?_); rintro e w5 ⟨rfl, rfl⟩; go_simp
  refine hK.out _ _ (by assumption) (fun hH => ?_)
  clear hK K
  try simp only [Act.put, List.setIfInBounds_toArray, List.set_cons_zero, List.set_cons_succ]
  refine wpK.take (i := 18) (v := _) (by simp only [List.getElem?_toArray, List.getElem?_cons_succ, List.getElem?_cons_zero]; rfl) (by kernel_rfl) (by kernel_rfl) (by kernel_rfl) (by kernel_rfl) (by kernel_rfl) (by exact fun _ _ _ h => h) (by first | exact Or.inl ⟨by rfl, by intro w hSw; go_simp; try with_reducible rfl⟩ | exact Or.inr ⟨by rfl, rfl⟩) hH ?_
  try simp only [Act.put, List.setIfInBounds_toArray, List.set_cons_zero, List.set_cons_succ]
  refine wpK.take (i := 19) (v := _) (by simp only [List.getElem?_toArray, List.getElem?_cons_succ, List.getElem?_cons_zero]; rfl) (by kernel_rfl) (by kernel_rfl) (by kernel_rfl) (by kernel_rfl) (by kernel_rfl) (by exact fun _ _ _ h => h) (by first | exact Or.inl ⟨by rfl, by intro w hSw; go_simp; try with_reducible rfl⟩ | exact Or.inr ⟨by rfl, rfl⟩) hH ?_
  try simp only [Act.put, List.setIfInBounds_toArray, List.set_cons_zero, List.set_cons_succ]
  refine wpK.late (i := 20) (by kernel_rfl) (by simp only [List.getElem?_toArray, List.getElem?_cons_succ, List.getElem?_cons_zero]; rfl) (by kernel_rfl) (fun K hK => ?_)
  go_simp
  refine hK.out _ _ ?_
  clear hK K
  try simp only [Act.put, List.setIfInBounds_toArray, List.set_cons_zero, List.set_cons_succ]
  refine wpK.done (by kernel_rfl) ?_ _
  clear c0 c1
  go_wp2_with fail
  go_ret
  exact ⟨rfl, Below.next HB2.out HK4.out⟩
def EqR (w : World) (n : Nat) (v13 : Value) (wr : World) : Prop := ∃ j : Nat, v13 = .int .i64 (j : Int) ∧ j ≤ n ∧ Below w.heap.size w wr
set_option maxRecDepth 100000 in
set_option maxHeartbeats 2000000 in
theorem law21_equal (l : List Int) (v u : Value) (w : World) (h : SlI w v l) (k : SlI w u l) :
    Calls Tryd.prog 15 #[v, u] w fun e w' => e = .returned (.bool true) ∧ Below w.heap.size w w' := by
  obtain ⟨a, c, rfl, hr, hlc, hcm, -⟩ := h
  obtain ⟨a', c', rfl, hr', -, -, -⟩ := k
  have HR := hid hr
  have HR' := hid hr'
  have HC : Hid (l.length ≤ 9223372036854775807) := hid (by omega)
  clear hr hr' hlc hcm
  go_enter Tryd.func15, Tryd.ntmps15
  go_wp2_with fail
  go_loopw [13] (fun v13 wr => EqR w l.length v13 wr) (fun v13 _ => l.length - (intOf v13).toNat)
  case atStart => exact ⟨0, rfl, by omega, Below.refl _ _⟩
  case round =>
    obtain ⟨j, rfl, hj, hb⟩ := hrel
    have HB := hid hb
    by_cases hlt : j < l.length
    · obtain ⟨b0, o0, x, rfl, d0, hx, -⟩ := (HR.out.below' HB.out).int j hlt
      obtain ⟨b1, o1, x', rfl, d1, hx', -⟩ := (HR'.out.below' HB.out).int j hlt
      obtain rfl : x' = x := by rw [hx] at hx'; exact (Option.some.inj hx').symm
      have e0 : (0 : Int) ≤ (j : Int) := by omega
      have e1 : (j : Int) < (l.length : Int) := by omega
      have e2 : (x' == x') = true := by simp
      have hwr : IntKind.i64.wrap ((j : Int) + 1) = (j : Int) + 1 := by rw [IntKind.wrap_i64]; have := HC.out; omega
      clear hx hx' hb
      go_upto_region 6 with fail
      go_quiet (fail)
      have hb3 := Below.drawn wr nq
      obtain ⟨w3, hw3⟩ : ∃ w3, w3 = wr.drewN nq := ⟨_, rfl⟩
      rw [← hw3] at hb3 ⊢
      have HB3 := hid (Below.next HB.out hb3)
      clear hb3 hw3 d0 d1
      go_wp2_with fail
      go_roundw
      case rel => exact ⟨j + 1, by go_num, by omega, HB3.out⟩
      case measure => simp [intOf]; omega
    · have e1 : ¬ (j : Int) < (l.length : Int) := by omega
      go_wp2_with fail
      go_ret
      exact ⟨rfl, HB.out⟩
theorem SlE.opT {w wr : World} {a : Option Addr} {n c : Nat} {L : List OpT} (h : SlE OpTE 7 w (.slice a n c) L) (hb : Below w.heap.size w wr) {k : Nat} {o : OpT} (hp : L[k]? = some o) :
    ∃ b off, a = some ⟨b, off, none⟩ ∧ wr.cell? ⟨b, off + k * 7, none⟩ = some (.int .i64 o.k) ∧ wr.cell? ⟨b, off + k * 7 + 1, none⟩ = some (.int .i64 o.n) ∧ wr.cell? ⟨b, off + k * 7 + 2, none⟩ = some (.int .i64 o.o) ∧ wr.cell? ⟨b, off + k * 7 + 3, none⟩ = some (.string ⟨o.s.toArray⟩) ∧ wr.cell? ⟨b, off + k * 7 + 4, none⟩ = some (.int .i64 o.p.1) ∧ wr.cell? ⟨b, off + k * 7 + 5, none⟩ = some (.int .i64 o.p.2.1) ∧ wr.cell? ⟨b, off + k * 7 + 6, none⟩ = some (.int .i64 o.p.2.2) ∧ o.o ≤ 9223372036854775807 := by
  obtain ⟨a', c', e', -, -, -, hrows⟩ := h
  simp only [Value.slice.injEq] at e'
  obtain ⟨rfl, -, rfl⟩ := e'
  obtain ⟨b, off, rfl, hbs, h0, h1, h2, h3, h4, h5, h6, -, h8, -⟩ := hrows k o hp
  have hc : ∀ j, wr.cell? ⟨b, j, none⟩ = w.cell? ⟨b, j, none⟩ := fun j => World.cell?_of_block (hb.block b hbs)
  exact ⟨b, off, rfl, by rw [hc]; exact h0, by rw [hc]; exact h1, by rw [hc]; exact h2, by rw [hc]; exact h3, by rw [hc]; exact h4, by rw [hc]; exact h5, by rw [hc]; exact h6, h8.2⟩
def okT (o : OpT) : Bool := decide (o.s.length ≤ 60)
def smallT (L : List OpT) (most : Nat) : Bool := L.all okT && decide (L.length ≤ most)
def SmT (w : World) (L : List OpT) (v9 : Value) (wr : World) : Prop := ∃ k : Nat, v9 = .int .i64 (k : Int) ∧ k ≤ L.length ∧ (L.take k).all okT = true ∧ Below w.heap.size w wr
set_option maxRecDepth 100000 in
set_option maxHeartbeats 1000000 in
theorem law21_small (L : List OpT) (most : Nat) (hm : most ≤ 1000) (v : Value) (w : World) (h : SlE OpTE 7 w v L) (bb : Bool) (hbb : Hid (smallT L most = bb)) :
    Calls Tryd.prog 12 #[v, .int .i64 (most : Int)] w fun e w' => e = .returned (.bool bb) ∧ Below w.heap.size w w' := by
  have HL := hid h
  obtain ⟨a, c, rfl, hlc, hcm, -⟩ := h
  have hl63 : L.length ≤ 9223372036854775807 := by omega
  clear hlc hcm
  go_enter Tryd.func12, Tryd.ntmps12
  go_wp2_with fail
  go_loopw [9] (fun v9 wr => SmT w L v9 wr) (fun v9 _ => L.length - (intOf v9).toNat)
  case atStart => exact ⟨0, rfl, by omega, by simp, Below.refl _ _⟩
  case round =>
    obtain ⟨k, rfl, hk, hall, hb⟩ := hrel
    have HALL := hid hall
    have HB := hid hb
    clear hall
    by_cases hlt : k < L.length
    · obtain ⟨o, hp⟩ : ∃ o, L[k]? = some o := ⟨_, List.getElem?_eq_getElem hlt⟩
      have HTK := hid (show L.take (k + 1) = L.take k ++ [o] from by
        obtain ⟨hk, rfl⟩ := List.getElem?_eq_some_iff.1 hp
        exact List.take_succ_eq_append_getElem hk)
      have HMEM := hid (List.mem_of_getElem? hp)
      obtain ⟨b, off, rfl, q0, q1, q2, q3, q4, q5, q6, -⟩ := HL.out.opT hb hp
      have e0 : (0 : Int) ≤ (k : Int) := by omega
      have e1 : (k : Int) < (L.length : Int) := by omega
      obtain ⟨ok, on, oo, os, ok1, oh1, os1⟩ := o
      simp only at q0 q1 q2 q3 q4 q5 q6
      clear hp hb
      go_upto_region 4 with fail
      obtain ⟨w5, hw5⟩ : ∃ w5, w5 = wr.alloc (.cells #[.int .i64 ok, .int .i64 on, .int .i64 oo, .string ⟨os.toArray⟩, .int .i64 ok1, .int .i64 oh1, .int .i64 os1] 36) := ⟨_, rfl⟩
      rw [← hw5]
      have hb5 : Below wr.heap.size wr w5 := by rw [hw5]; exact Below.new _ _
      have HX5 : Hid (Blk w5 wr.heap.size #[.int .i64 ok, .int .i64 on, .int .i64 oo, .string ⟨os.toArray⟩, .int .i64 ok1, .int .i64 oh1, .int .i64 os1]) := hid (by rw [hw5]; exact Blk.new _ _ _)
      have cx4 : w5.cell? ⟨wr.heap.size, 3, none⟩ = some (.string ⟨os.toArray⟩) := by rw [HX5.out.cell]; rfl
      have HB5 := hid (Below.next HB.out hb5)
      clear hw5 hb5 q0 q1 q2 q3 q4 q5 q6
      by_cases h60 : os.length ≤ 60
      · have h6 : ¬ (60 : Int) < (os.length : Int) := by omega
        go_wp2_with fail
        go_roundw
        case rel => exact ⟨k + 1, by go_num, by omega, by rw [HTK.out, List.all_append, HALL.out]; simp [okT]; omega, HB5.out⟩
        case measure => simp [intOf]; omega
      · have h6 : (60 : Int) < (os.length : Int) := by omega
        have hbf : bb = false := by
          rw [← hbb.out]; unfold smallT
          have : L.all okT = false := by
            rw [List.all_eq_false]
            exact ⟨_, HMEM.out, by simp [okT]; omega⟩
          rw [this]; rfl
        subst hbf
        go_wp2_with fail
        go_ret
        exact ⟨rfl, HB5.out⟩
    · have e1 : ¬ (k : Int) < (L.length : Int) := by omega
      have hbf : bb = decide (L.length ≤ most) := by
        have := HALL.out
        rw [List.take_of_length_le (by omega)] at this
        rw [← hbb.out]; unfold smallT; rw [this]; rfl
      by_cases hlm : L.length ≤ most
      · have hlm2 : (L.length : Int) ≤ (most : Int) := by omega
        have hb2 : bb = true := by rw [hbf]; simpa using hlm
        subst hb2
        clear hbf
        go_wp2_with fail
        go_ret
        exact ⟨by simp [hlm2], HB.out⟩
      · have hlm2 : ¬ (L.length : Int) ≤ (most : Int) := by omega
        have hb2 : bb = false := by rw [hbf]; simpa using hlm
        subst hb2
        clear hbf
        go_wp2_with fail
        go_ret
        exact ⟨by simp, HB.out⟩
end Go.Proofs.YtdoflhiogoefjaaDoor
end
section
/- A list of things that is told again: plain. And a thing's right. -/
namespace Go.Proofs.YtdoflhiogoefjaaDoor
open Go.RowKit
open Go.Lib (hid)
set_option linter.unusedVariables false

def rightT (x : Th) : Bool := nameB x.nm && decide (1 ≤ x.ow) && rightP x.pl
/-- the rest of a list is right, if each number is lo at least, or more than the one before -/
def okL (next : Int) : Int → List Th → Bool
  | _, [] => true
  | lo, x :: l => (decide (lo ≤ x.id) && decide (x.id < next) && rightT x) && okL next (x.id + 1) l
def wholeT (L : List Th) (next : Int) : Bool := decide (1 ≤ next) && decide (next ≤ 1099511627776) && decide (L.length ≤ 4096) && okL next 1 L
theorem okL_step {next lo : Int} {L : List Th} {j : Nat} {x : Th} (hx : L[j]? = some x) : okL next lo (L.drop j) = ((decide (lo ≤ x.id) && decide (x.id < next) && rightT x) && okL next (x.id + 1) (L.drop (j + 1))) := by
  obtain ⟨h1, h2⟩ := List.getElem?_eq_some_iff.1 hx
  rw [List.drop_eq_getElem_cons h1, h2, okL]
theorem TInv.snoc {L : List Th} {lo : Int} (h : TInv ⟨L, lo⟩) {x : Th} (h1 : lo ≤ x.id) (ho : x.ow ≤ 9223372036854775807) (hr : rightT x = true) : TInv ⟨L ++ [x], x.id + 1⟩ := by
  unfold rightT at hr
  simp only [Bool.and_eq_true, decide_eq_true_eq] at hr
  have e := ins_end (L := L) (x := x) (fun y hy => by have := (h.one y hy).1.2; simp only at this; omega)
  have hn := h.n
  simp only at hn
  refine ⟨?_, by show 1 ≤ x.id + 1; omega, ?_⟩
  · show SortK kI (L ++ [x])
    rw [← e]
    exact insK_sorted kI h.s (fun y hy => by have := (h.one y hy).1.2; simp only at this; simp only [kI]; omega)
  · intro y hy
    rcases List.mem_append.1 hy with hy | hy
    · have := h.one y hy; exact ⟨⟨this.1.1, by have := this.1.2; simp only at this; show y.id < x.id + 1; omega⟩, this.2⟩
    · simp only [List.mem_singleton] at hy
      subst hy
      exact ⟨⟨by omega, by show y.id < y.id + 1; omega⟩, hr.1.1, ⟨hr.1.2, ho⟩, hr.2⟩
theorem TInv.up {L : List Th} {lo next : Int} (h : TInv ⟨L, lo⟩) (hn : lo ≤ next) : TInv ⟨L, next⟩ := by
  have h1 := h.n
  simp only at h1
  exact ⟨h.s, by show 1 ≤ next; omega, fun y hy => by have := h.one y hy; exact ⟨⟨this.1.1, by have := this.1.2; simp only at this; show y.id < next; omega⟩, this.2⟩⟩
set_option maxRecDepth 100000 in
set_option maxHeartbeats 1000000 in
theorem thing_right (x : Th) (hnm : x.nm.length ≤ 1000000) (w : World) (b : Bool) (hb : Hid (rightT x = b)) : Calls Tryd.prog 40 #[thV x] w fun e w' => e = .returned (.bool b) ∧ Below w.heap.size w w' := by
  obtain ⟨xi, xn, xo, xk, xh, xs⟩ := x
  have HNM : Hid ((⟨xn.toArray⟩ : ByteArray).size ≤ 9223372036854775807) := hid (by show xn.toArray.size ≤ _; simp; simp only at hnm; omega)
  have HBB := hb
  clear hnm hb
  simp only [thV, strV]
  go_enter Tryd.func40, Tryd.ntmps40
  go_upto_region 1 with fail
  obtain ⟨w1, hw1⟩ : ∃ w1, w1 = w.alloc (.cells #[.int .i64 xi, .string ⟨xn.toArray⟩, .int .i64 xo, .int .i64 xk, .int .i64 xh, .int .i64 xs] 48) := ⟨_, rfl⟩
  rw [← hw1]
  obtain ⟨bs, hbs⟩ : ∃ b, b = w.heap.size := ⟨_, rfl⟩
  rw [← hbs]
  have hb1 : Below w.heap.size w w1 := by rw [hw1]; exact Below.new _ _
  have HK : Hid (Blk w1 bs #[.int .i64 xi, .string ⟨xn.toArray⟩, .int .i64 xo, .int .i64 xk, .int .i64 xh, .int .i64 xs]) := hid (by rw [hw1, hbs]; exact Blk.new _ _ _)
  have HB1 := hid hb1
  clear hw1 hbs hb1
  have c1 : w1.cell? ⟨bs, 1, none⟩ = some (.string ⟨xn.toArray⟩) := by rw [HK.out.cell]; rfl
  go_wp2_with fail
  refine (folk_Name ⟨xn.toArray⟩ w1 HNM.out).mono ?_
  rintro e w2 ⟨rfl, hb2⟩
  have HB2 := hid (Below.next HB1.out hb2)
  have HK2 := hid (HK.out.below hb2)
  clear hb2 c1
  have c2 : w2.cell? ⟨bs, 2, none⟩ = some (.int .i64 xo) := by rw [HK2.out.cell]; rfl
  have c3 : w2.cell? ⟨bs, 3, none⟩ = some (.int .i64 xk) := by rw [HK2.out.cell]; rfl
  have c4 : w2.cell? ⟨bs, 4, none⟩ = some (.int .i64 xh) := by rw [HK2.out.cell]; rfl
  have c5 : w2.cell? ⟨bs, 5, none⟩ = some (.int .i64 xs) := by rw [HK2.out.cell]; rfl
  obtain ⟨q, hq⟩ : ∃ q, nameB ((⟨xn.toArray⟩ : ByteArray).data.toList) = q := ⟨_, rfl⟩
  have HQ : Hid (nameB xn = q) := hid hq
  rw [hq]
  clear hq
  cases q with
  | false =>
    have hbf : b = false := by rw [← HBB.out]; unfold rightT; simp only; rw [HQ.out]; rfl
    subst hbf
    clear c2 c3 c4 c5
    go_wp2_with fail
    go_ret
    exact ⟨rfl, HB2.out⟩
  | true =>
  by_cases ho : 1 ≤ xo
  · obtain ⟨rp, hrp⟩ : ∃ rp, rightP (xk, xh, xs) = rp := ⟨_, rfl⟩
    have HRP := hid hrp
    have hbf : b = rp := by rw [← HBB.out]; unfold rightT; simp only; rw [HQ.out, hrp, decide_eq_true ho]; rfl
    subst hbf
    clear hrp
    go_wp2_with fail
    refine (thing_RightV xk xh xs b HRP w2).mono ?_
    rintro e w3 ⟨rfl, hb3⟩
    have HB3 := hid (Below.next HB2.out hb3)
    clear hb3 c2 c3 c4 c5
    go_wp2_with fail
    go_ret
    exact ⟨rfl, HB3.out⟩
  · have hbf : b = false := by rw [← HBB.out]; unfold rightT; simp only; rw [HQ.out, decide_eq_false ho]; rfl
    subst hbf
    clear c3 c4 c5
    go_wp2_with fail
    go_ret
    exact ⟨rfl, HB2.out⟩
end Go.Proofs.YtdoflhiogoefjaaDoor
end
