/- Joined texts, in this order: RtDelete, RtSmall, RtUse, Quarters, QuadMath. Each one's first remark says what it proves; no condition beyond those that its theorems name. -/
import Derived.Test.YtjbnfppnmljbmaaGreatJLawLandCopies12
section
/- Contract of rtree's Delete. -/
namespace Go.Proofs.YtjbnfppnmljbmaaGreat
open Go.RowKit
open Go.Lib (hid)
set_option linter.unusedVariables false
attribute [local go_sem] Oper.semAt_some

theorem dep_few {d : Nat} {n : Nd} {L : List Tg} (hs : Shape1 d n) (h2 : d = 0 ∨ 2 ≤ n.ks.length) (hp : (thgN (d + 1) n).Perm L) (hl : L.length ≤ 900) : d ≤ 15 := by
  rcases h2 with h | h
  · omega
  · have h1 := two_pow_le (hs.two h)
    rw [hp.length_eq] at h1
    rcases Nat.lt_or_ge 15 d with q | q
    · have h3 : 2 ^ 16 ≤ 2 ^ (d + 1) := Nat.pow_le_pow_right (by omega) (by omega)
      have h4 : (2 : Nat) ^ 16 = 65536 := by decide
      omega
    · exact q
def DelR (w : World) (s : Nat) (F : Nat → Prop) (L' : List Tg) (cnt : Int) (a : Option Addr) (N c : Nat) (A : List DNd) (v34 : Value) (wr : World) : Prop :=
  ∃ (i : Nat) (d : Nat) (n : Nd), v34 = .int .i64 (i : Int) ∧ i ≤ N ∧ Hid (d ≤ 15 + i) ∧ Hid (DelI w wr s F L' cnt (.slice a N c) A (A.drop i) d n)
def DelT (w : World) (s : Nat) (F : Nat → Prop) (L' : List Tg) (cnt : Int) (wr : World) : Prop := ∃ d n, DelE w wr s F L' cnt d n
def depOf (w : World) (s : Nat) : Nat := match w.cell? ⟨s, 0, none⟩ with
  | some (.pointer (some a)) => match w.cell? ⟨a.block, 6, none⟩ with
    | some v => (intOf v).toNat
    | none => 0
  | _ => 0
theorem DelE.dep {w wr : World} {s : Nat} {F : Nat → Prop} {L' : List Tg} {cnt : Int} {d : Nat} {n : Nd} (h : DelE w wr s F L' cnt d n) : depOf wr s = d + 1 := by
  unfold depOf
  rw [h.tree.blk.c2.1]
  simp only [ptrN]
  rw [h.tree.node.blk.c7.2.2.2]
  simp [intOf]
theorem RtPost.ahead {w wd : World} {s : Nat} {F : Nat → Prop} {E : Int} {L : List Tg} {e : Ending} {w' : World} (hb : Below w.heap.size w wd) (h : RtPost wd s F E L e w') : RtPost w s F E L e w' := by
  obtain ⟨F', h1, h2, h3, h4⟩ := h
  have := hb.size
  exact ⟨F', h1, h2, (Upd.of_below hb).trans h3 (fun _ _ q => q), fun k q => (h4 k q).imp id (fun z => by omega)⟩
/-- what the sort asks for, behind drop -/
theorem DropOk.srt {d s : Nat} {w w1 w2 : World} {n n' : Nd} {x : Tg} {A : List DNd} {va : Value} {cnt : Int} {u : Value} (ht : TreeAt w s d n cnt) (h : DropOk d w w1 n x n' A va) (e2 : w2 = w1.setCell ⟨s, 1, none⟩ u) :
    ownP w2 va (A.map (·.2)) ∧ ∀ k ∈ A.map (·.2), va.ownBlock ≠ some k.p ∧ ∃ E : Int, w2.cell? ⟨k.p, 6, none⟩ = some (.int .i64 E) := by
  have hz := h.upd.size
  have hsl := ht.blk.lt
  obtain ⟨n1, n2⟩ := List.nodup_cons.1 ht.nd
  have hsn : ∀ k ∈ blkN (d + 1) n' ++ (va.ownBlock.toList ++ blkA A), k ≠ s := fun k hk e => by
    subst e
    rcases h.fr k hk with z | z
    · exact n1 z
    · omega
  have hu2 : Upd (fun k => k = s) w1 w2 := by rw [e2]; exact Upd.setCell w1 s 1 _
  obtain ⟨a1, a2, a3⟩ := List.nodup_append.1 h.nd
  obtain ⟨a4, a5, a6⟩ := List.nodup_append.1 a2
  refine ⟨?_, fun k hk => ?_⟩
  · have := hu2.owns h.own (fun k hk q => hsn k (by simp [hk]) q)
    have e : (A.map (·.2)).length = A.length := by simp
    show w2.ownsRow 0 _ 1 _ (A.map (·.2)).length (ptrs (A.map (·.2)))
    rw [e]; exact this
  · obtain ⟨y, hy, rfl⟩ := List.mem_map.1 hk
    have hm : y.2.p ∈ blkA A := mem_blkA.2 ⟨y, hy, blkN_p _ _⟩
    refine ⟨fun q => a6 y.2.p (by simp [q]) y.2.p hm rfl, (y.1 : Int), ?_⟩
    have hN := (h.rest y hy).2.1.upd hu2 (fun k hk q => hsn k (by simp only [List.mem_append]; exact .inr (.inr (mem_blkA.2 ⟨y, hy, hk⟩))) q)
    exact hN.blk.c7.2.2.2
theorem DelI.at {w wr : World} {s : Nat} {F : Nat → Prop} {L' : List Tg} {cnt : Int} {a : Option Addr} {N c : Nat} {A : List DNd} {i d : Nat} {n : Nd} (h : DelI w wr s F L' cnt (.slice a N c) A (A.drop i) d n) (hN : A.length = N) (hi : i < N) :
    ∃ (y : DNd) (b off : Nat), A.drop i = y :: A.drop (i + 1) ∧ a = some ⟨b, off, none⟩ ∧ wr.cell? ⟨b, off + i, none⟩ = some (ptrN y.2) := by
  have hi2 : i < A.length := by omega
  obtain ⟨hrd, -⟩ := own_rd h.own
  obtain ⟨b, off, e, hc⟩ := hrd i (by simpa using hi2)
  refine ⟨A[i], b, off, List.drop_eq_getElem_cons hi2, e, ?_⟩
  rw [hc]; simp [List.getElem?_eq_getElem hi2]
set_option maxRecDepth 100000 in
set_option maxHeartbeats 4000000 in
theorem rt_Delete4 (w : World) (s : Nat) (F : Nat → Prop) (L : List Tg) (x y a b v : Int) (h : TreeIs w s F L) (hl : L.length ≤ 900) :
    Calls Tryz.prog 60 #[.pointer (some ⟨s, 0, none⟩), .agg #[.int .i64 x, .int .i64 y, .int .i64 a, .int .i64 b], .int .i64 v] w (RtPost w s F (delE L ((x, y, a, b), v)) (L.erase ((x, y, a, b), v))) := by
  have H := hid h
  obtain ⟨d, n, ht, hF, h2, hp⟩ := h
  have HT := hid ht
  have HF := hid hF
  have H2 := hid h2
  have HP := hid hp
  have HD : Hid (d ≤ 15) := hid (dep_few ht.sh h2 hp hl)
  obtain ⟨C, hC⟩ : ∃ C : Int, (L.length : Int) = C := ⟨_, rfl⟩
  have HC := hid (And.intro hC hl)
  have hdrop : ∀ wz, Below w.heap.size w wz → Calls Tryz.prog 91 #[ptrN n, .agg #[.int .i64 x, .int .i64 y, .int .i64 a, .int .i64 b], .int .i64 v] wz (DropPost d wz n ((x, y, a, b), v)) := fun wz hb =>
    drop_all d n ((x, y, a, b), v) wz (by have := HD.out; omega) (ht.node.below hb) (List.nodup_cons.1 ht.nd).2 ht.sh
  have b1 := ht.blk
  unfold ptrN at hdrop b1
  obtain ⟨p, hpp⟩ : ∃ z, n.p = z := ⟨_, rfl⟩
  rw [hpp] at hdrop b1
  have HDROP := hid hdrop
  have c0 := b1.c2.1
  have hns : Hid (s ∉ blkN (d + 1) n) := hid (List.nodup_cons.1 ht.nd).1
  have HLT := hid (fun k (hk : k ∈ blkN (d + 1) n) => ht.node.lt k hk)
  have hsl := ht.blk.lt
  have HSL := hid hsl
  clear hdrop ht hF h2 hp hC hl hpp b1
  go_enter Tryz.func60, Tryz.ntmps60
  go_upto_region 1 with fail
  obtain ⟨w1, hw⟩ : ∃ w1, w1 = w.alloc (.cells #[.int .i64 x, .int .i64 y, .int .i64 a, .int .i64 b] 25) := ⟨_, rfl⟩
  rw [← hw]
  obtain ⟨g, hg⟩ : ∃ g, g = w.heap.size := ⟨_, rfl⟩
  rw [← hg]
  have hb : Below w.heap.size w w1 := by rw [hw]; exact Below.new _ _
  have hX : Blk w1 g #[.int .i64 x, .int .i64 y, .int .i64 a, .int .i64 b] := by rw [hw, hg]; exact Blk.new _ _ _
  have HB := hid hb
  have HG : Hid (g ∉ blkN (d + 1) n) := hid (fun q => by have := HLT.out g q; omega)
  have k0 : w1.cell? ⟨s, 0, none⟩ = some (.pointer (some ⟨p, 0, none⟩)) := cellOf_belowR hb c0
  obtain ⟨e0, e1, e2, e3⟩ := hX.c4r
  have hlt0 := World.block_lt_of_cell? w1 _ k0
  have hlt1 := hX.lt
  replace k0 := fun (z : World) (hz : Upd (fun k => k ∈ blkN (d + 1) n) w1 z) => (World.cell?_of_block (hz.block s hlt0 hns.out) (a := ⟨s, 0, none⟩)).trans k0
  replace e0 := fun (z : World) (hz : Upd (fun k => k ∈ blkN (d + 1) n) w1 z) => (World.cell?_of_block (hz.block g hlt1 HG.out) (a := ⟨g, 0, none⟩)).trans e0
  replace e1 := fun (z : World) (hz : Upd (fun k => k ∈ blkN (d + 1) n) w1 z) => (World.cell?_of_block (hz.block g hlt1 HG.out) (a := ⟨g, 1, none⟩)).trans e1
  replace e2 := fun (z : World) (hz : Upd (fun k => k ∈ blkN (d + 1) n) w1 z) => (World.cell?_of_block (hz.block g hlt1 HG.out) (a := ⟨g, 2, none⟩)).trans e2
  replace e3 := fun (z : World) (hz : Upd (fun k => k ∈ blkN (d + 1) n) w1 z) => (World.cell?_of_block (hz.block g hlt1 HG.out) (a := ⟨g, 3, none⟩)).trans e3
  have hyd : Upd (fun k => k ∈ blkN (d + 1) n) w1 w1.drew := Upd.of_below (Below.refl w1.heap.size w1).drew
  have hbd := Below.next hb (Below.refl w1.heap.size w1).drew
  have HBD := hid hbd
  clear c0 hw hg hb hX hlt0 hlt1 hbd hsl
  by_cases hx : (((x, y, a, b), v) : Tg) ∈ thgN (d + 1) n
  · have hdr : Calls Tryz.prog 91 #[.pointer (some ⟨p, 0, none⟩), .agg #[.int .i64 x, .int .i64 y, .int .i64 a, .int .i64 b], .int .i64 v] w1.drew (fun e w' => ∃ (n' : Nd) (A : List DNd) (a2 : Option Addr) (N c2 : Nat), A.length = N ∧ e = .returned (.tuple #[.slice a2 N c2, .bool true]) ∧ DropOk d w1.drew w' n ((x, y, a, b), v) n' A (.slice a2 N c2)) := (HDROP.out _ HBD.out).mono (fun e w' q => by
      rcases q with ⟨q1, -, -⟩ | ⟨n', A, a2, c2, q1, q2⟩
      · exact absurd hx q1
      · exact ⟨n', A, a2, A.length, c2, rfl, q1, q2⟩)
    have HDR := hid hdr
    have HIX : Hid ((((x, y, a, b), v) : Tg) ∈ L) := hid (HP.out.mem_iff.1 hx)
    have HTD := hid (HT.out.below HBD.out)
    clear hdr hx
    refine wp_region_kept [11] (fun z => Upd (fun k => k ∈ blkN (d + 1) n) w1 z) (by kernel_rfl) (by assumption) (fun hH => ?_)
    refine wpK.take (i := 0) (v := _) (by simp only [List.getElem?_toArray, List.getElem?_cons_succ, List.getElem?_cons_zero]; rfl) (by kernel_rfl) (by kernel_rfl) (by kernel_rfl) (by kernel_rfl) (by kernel_rfl) (by exact fun _ _ _ h => h) (by first | exact Or.inl ⟨by rfl, by intro w hSw; go_simp; try with_reducible rfl⟩ | exact Or.inr ⟨by rfl, rfl⟩) hH ?_
    try simp only [Act.put, List.setIfInBounds_toArray, List.set_cons_zero, List.set_cons_succ]
    refine wpK.take (i := 1) (v := _) (by simp only [List.getElem?_toArray, List.getElem?_cons_succ, List.getElem?_cons_zero]; rfl) (by kernel_rfl) (by kernel_rfl) (by kernel_rfl) (by kernel_rfl) (by kernel_rfl) (by exact fun _ _ _ h => h) (by first | exact Or.inl ⟨by rfl, by intro w hSw; go_simp; try with_reducible rfl⟩ | exact Or.inr ⟨by rfl, rfl⟩) hH ?_
    try simp only [Act.put, List.setIfInBounds_toArray, List.set_cons_zero, List.set_cons_succ]
    refine wpK.take (i := 2) (v := _) (by simp only [List.getElem?_toArray, List.getElem?_cons_succ, List.getElem?_cons_zero]; rfl) (by kernel_rfl) (by kernel_rfl) (by kernel_rfl) (by kernel_rfl) (by kernel_rfl) (by exact fun _ _ _ h => h) (by first | exact Or.inl ⟨by rfl, by intro w hSw; go_simp; try with_reducible rfl⟩ | exact Or.inr ⟨by rfl, rfl⟩) hH ?_
    try simp only [Act.put, List.setIfInBounds_toArray, List.set_cons_zero, List.set_cons_succ]
    refine wpK.take (i := 3) (v := _) (by simp only [List.getElem?_toArray, List.getElem?_cons_succ, List.getElem?_cons_zero]; rfl) (by kernel_rfl) (by kernel_rfl) (by kernel_rfl) (by kernel_rfl) (by kernel_rfl) (by exact fun _ _ _ h => h) (by first | exact Or.inl ⟨by rfl, by intro w hSw; go_simp; try with_reducible rfl⟩ | exact Or.inr ⟨by rfl, rfl⟩) hH ?_
    try simp only [Act.put, List.setIfInBounds_toArray, List.set_cons_zero, List.set_cons_succ]
    refine wpK.take (i := 4) (v := _) (by simp only [List.getElem?_toArray, List.getElem?_cons_succ, List.getElem?_cons_zero]; rfl) (by kernel_rfl) (by kernel_rfl) (by kernel_rfl) (by kernel_rfl) (by kernel_rfl) (by exact fun _ _ _ h => h) (by first | exact Or.inl ⟨by rfl, by intro w hSw; go_simp; try with_reducible rfl⟩ | exact Or.inr ⟨by rfl, rfl⟩) hH ?_
    try simp only [Act.put, List.setIfInBounds_toArray, List.set_cons_zero, List.set_cons_succ]
    refine wpK.take (i := 5) (v := _) (by simp only [List.getElem?_toArray, List.getElem?_cons_succ, List.getElem?_cons_zero]; rfl) (by kernel_rfl) (by kernel_rfl) (by kernel_rfl) (by kernel_rfl) (by kernel_rfl) (by exact fun _ _ _ h => h) (by first | exact Or.inl ⟨by rfl, by intro w hSw; go_simp; try with_reducible rfl⟩ | exact Or.inr ⟨by rfl, rfl⟩) hH ?_
    try simp only [Act.put, List.setIfInBounds_toArray, List.set_cons_zero, List.set_cons_succ]
    refine wpK.step (i := 6) (by kernel_rfl) (by simp only [List.getElem?_toArray, List.getElem?_cons_succ, List.getElem?_cons_zero]; rfl) (fun K hK => ?_)
    go_simp
    (refine HDR.out.mono ?_); rintro e w2 ⟨n', A, a2, N, c2, hN, rfl, hdk⟩; (have HDK := hid hdk); (have HN := hid hN); (have hk2 := hyd.trans hdk.upd (fun _ _ q => q)); clear hdk hN; go_simp
    refine hK.out _ _ (by assumption) (fun hH => ?_)
    clear hK K
    try simp only [Act.put, List.setIfInBounds_toArray, List.set_cons_zero, List.set_cons_succ]
    refine wpK.take (i := 7) (v := _) (by simp only [List.getElem?_toArray, List.getElem?_cons_succ, List.getElem?_cons_zero]; rfl) (by kernel_rfl) (by kernel_rfl) (by kernel_rfl) (by kernel_rfl) (by kernel_rfl) (by exact fun _ _ _ h => h) (by first | exact Or.inl ⟨by rfl, by intro w hSw; go_simp; try with_reducible rfl⟩ | exact Or.inr ⟨by rfl, rfl⟩) hH ?_
    try simp only [Act.put, List.setIfInBounds_toArray, List.set_cons_zero, List.set_cons_succ]
    refine wpK.take (i := 8) (v := _) (by simp only [List.getElem?_toArray, List.getElem?_cons_succ, List.getElem?_cons_zero]; rfl) (by kernel_rfl) (by kernel_rfl) (by kernel_rfl) (by kernel_rfl) (by kernel_rfl) (by exact fun _ _ _ h => h) (by first | exact Or.inl ⟨by rfl, by intro w hSw; go_simp; try with_reducible rfl⟩ | exact Or.inr ⟨by rfl, rfl⟩) hH ?_
    try simp only [Act.put, List.setIfInBounds_toArray, List.set_cons_zero, List.set_cons_succ]
    refine wpK.take (i := 9) (v := _) (by simp only [List.getElem?_toArray, List.getElem?_cons_succ, List.getElem?_cons_zero]; rfl) (by kernel_rfl) (by kernel_rfl) (by kernel_rfl) (by kernel_rfl) (by kernel_rfl) (by exact fun _ _ _ h => h) (by first | exact Or.inl ⟨by rfl, by intro w hSw; go_simp; try with_reducible rfl⟩ | exact Or.inr ⟨by rfl, rfl⟩) hH ?_
    try simp only [Act.put, List.setIfInBounds_toArray, List.set_cons_zero, List.set_cons_succ]
    refine wpK.take (i := 10) (v := _) (by simp only [List.getElem?_toArray, List.getElem?_cons_succ, List.getElem?_cons_zero]; rfl) (by kernel_rfl) (by kernel_rfl) (by kernel_rfl) (by kernel_rfl) (by kernel_rfl) (by exact fun _ _ _ h => h) (by first | exact Or.inl ⟨by rfl, by intro w hSw; go_simp; try with_reducible rfl⟩ | exact Or.inr ⟨by rfl, rfl⟩) hH ?_
    try simp only [Act.put, List.setIfInBounds_toArray, List.set_cons_zero, List.set_cons_succ]
    refine wpK.late (i := 11) (by kernel_rfl) (by simp only [List.getElem?_toArray, List.getElem?_cons_succ, List.getElem?_cons_zero]; rfl) (by kernel_rfl) (fun K hK => ?_)
    go_simp
    refine hK.out _ _ ?_
    clear hK K
    try simp only [Act.put, List.setIfInBounds_toArray, List.set_cons_zero, List.set_cons_succ]
    refine wpK.done (by kernel_rfl) ?_ _
    have hN19 : N ≤ 15 := by have h1 := HDK.out.alen; have h2 := HN.out; have h3 := HD.out; omega
    clear k0 e0 e1 e2 e3 hyd hk2 hH
    have hT2 : Blk w2 s #[ptrN n, .int .i64 C] := by
      have := HTD.out.blk.upd HDK.out.upd hns.out
      rw [HC.out.1] at this; exact this
    obtain ⟨-, k1, -, f1⟩ := hT2.c2
    have hwC : IntKind.i64.wrap (C - 1) = C - 1 := by have := HC.out; rw [IntKind.wrap_i64]; omega
    clear hT2
    go_upto_region 5 with fail
    obtain ⟨w3, hw3⟩ : ∃ w3, w3 = w2.setCell ⟨s, 1, none⟩ (.int .i64 (C - 1)) := ⟨_, rfl⟩
    rw [← hw3]
    have hsrt := HDK.out.srt HTD.out hw3
    have hlm : (A.map (·.2)).length = N := by rw [List.length_map]; exact HN.out
    have hso := rt_SortStable w3 (A.map (·.2)) a2 c2 (by rw [hlm]; exact hsrt.1) (by rw [hlm]; exact hsrt.2) (by omega)
    rw [hlm] at hso
    have HSO := hid hso
    have HW3 := hid hw3
    clear hsrt hso hlm hw3 k1 f1 hwC
    go_wp2_with fail
    refine HSO.out.mono ?_
    intro e w4 hq
    have h0 : e = .returned (.tuple #[]) := hq.1
    subst h0
    obtain ⟨-, l', hpm, hol, hul⟩ := hq
    obtain ⟨A', hA1, hA2⟩ := perm_lift (fun y : DNd => y.2) hpm A rfl
    have hAN : Hid (A'.length = N) := hid (by rw [hA1.length_eq]; exact HN.out)
    subst hA2
    have HI0 : Hid (DelI w1.drew w4 s F (L.erase ((x, y, a, b), v)) (C - 1) (.slice a2 N c2) A' (A'.drop 0) d n') := hid (HDK.out.delI HTD.out HF.out H2.out HP.out HW3.out hA1 hol hul)
    clear hpm hol hul hA1
    go_wp2_with fail
    go_loopw [34] (fun v34 wr => DelR w1.drew s F (L.erase ((x, y, a, b), v)) (C - 1) a2 N c2 A' v34 wr) (fun v34 _ => N - (intOf v34).toNat)
    case atStart => exact ⟨0, d, n', rfl, by omega, hid (by have := HD.out; omega), HI0⟩
    case round =>
      clear HI0
      obtain ⟨i, d2, n2, rfl, hi, HD2, HI⟩ := hrel
      by_cases hlt : i < N
      · have j1 : (i : Int) < (N : Int) := by omega
        have j0 : (0 : Int) ≤ (i : Int) := by omega
        have j2 : (i : Int).toNat = i := by omega
        obtain ⟨y2, b2, off, hdr, rfl, hcl⟩ := HI.out.at hAN.out hlt
        have hi2 := HI.out
        rw [hdr] at hi2
        have hn1 := hi2.nd
        have hag := rt_again d2 y2.1 s n2 y2.2 (C - 1) wr (hi2.rest y2 (by simp)).1 (by have := HD2.out; omega) hi2.tree (hi2.rest y2 (by simp)).2.1 (by
          have e9 : blkA (y2 :: A'.drop (i + 1)) = blkN y2.1 y2.2 ++ blkA (A'.drop (i + 1)) := rfl
          rw [e9] at hn1
          refine hn1.sublist (List.Sublist.cons_cons _ (List.Sublist.append (List.Sublist.refl _) ?_))
          exact (List.sublist_append_left _ _).trans (List.sublist_append_right _ _)) hi2.ki (hi2.rest y2 (by simp)).2.2
        unfold ptrN at hag hcl
        obtain ⟨q, hq⟩ : ∃ z, y2.2.p = z := ⟨_, rfl⟩
        rw [hq] at hag hcl
        have HAG := hid hag
        have HI2 := hid hi2
        clear hag hi2 hn1 hq hdr
        go_wp2_with fail
        refine HAG.out.mono ?_
        intro e w5 hq
        have h0 : e = .returned (.tuple #[]) := hq.1
        subst h0
        obtain ⟨-, d3, n3, hpo⟩ := hq
        have HD3 : Hid (d3 ≤ 15 + (i + 1)) := hid (by have h1 := hpo.dep; have h2 := HD2.out; omega)
        have HI3 := hid (HI2.out.next hpo)
        clear hpo hcl
        go_wp2_with fail
        go_roundw
        case rel => exact ⟨i + 1, d3, n3, by go_num, by omega, HD3, HI3⟩
        case measure => simp [intOf]; omega
      · obtain rfl : i = N := by omega
        have j1 : ¬ (i : Int) < (i : Int) := by omega
        have HE : Hid (DelT w1.drew s F (L.erase ((x, y, a, b), v)) (C - 1) wr) := hid ⟨d2, n2, by
          have h1 := HI.out
          rw [List.drop_eq_nil_of_le (by rw [hAN.out]; exact Nat.le_refl _)] at h1
          exact h1.done⟩
        clear HI
        obtain ⟨w6, hw6⟩ : ∃ w6, w6 = wr := ⟨_, rfl⟩
        subst hw6
        go_wp2_with fail
        go_loopw [] (fun wr => DelT w1.drew s F (L.erase ((x, y, a, b), v)) (C - 1) wr) (fun wr => depOf wr s)
        case atStart => exact HE.out
        case round =>
          clear HE
          obtain ⟨d4, n4, he⟩ := hrel
          have HE4 := hid he
          have HPO : Hid (d4 = 0 ∨ 2 ≤ n4.ks.length → RtPost w s F (delE L ((x, y, a, b), v)) (L.erase ((x, y, a, b), v)) (.returned (.int .i64 0)) wr) := hid (fun h2 => by
            have e1 : delE L ((x, y, a, b), v) = 0 := by unfold delE; rw [if_pos HIX.out]
            rw [e1]
            refine RtPost.ahead HBD.out (HE4.out.post ?_ h2 0)
            have h3 := List.length_erase_of_mem HIX.out
            have h4 := List.length_pos_of_mem HIX.out
            have h5 := HC.out.1
            omega)
          obtain ⟨a4, c4, hkv, -⟩ := SlN.of_own he.tree.node.2.1 (fun k hk => (he.tree.node.2.2 k hk).rat)
          obtain ⟨M, hM⟩ : ∃ M, n4.ks.length = M := ⟨_, rfl⟩
          obtain ⟨q, hq⟩ : ∃ z, n4.p = z := ⟨_, rfl⟩
          have z1 := he.tree.blk
          unfold ptrN at z1
          have z2 := he.tree.node.blk.c7
          rw [hkv, hM, hq] at z2
          rw [hq] at z1
          obtain ⟨y0, -, g0, -⟩ := z1.c2
          obtain ⟨-, y1, -, y2⟩ := z2
          rw [hM] at hkv
          have HM : Hid (n4.ks.length = M ∧ n4.kv = .slice a4 M c4) := hid ⟨hM, hkv⟩
          have hki := he.ki
          rw [hM] at hki
          clear he hkv hM hq z1
          rcases Nat.eq_zero_or_pos d4 with hd4 | hd4
          · subst hd4
            have t1 : ¬ (1 : Int) < ((0 + 1 : Nat) : Int) := by omega
            go_wp2_with fail
            go_ret
            exact HPO.out (Or.inl (by trivial))
          · obtain ⟨d5, rfl⟩ : ∃ k, d4 = k + 1 := ⟨d4 - 1, by omega⟩
            have t1 : (1 : Int) < ((d5 + 1 + 1 : Nat) : Int) := by omega
            have t2 : (1 : Int) < (d5 : Int) + 1 + 1 := by omega
            by_cases hm : M = 1
            · subst hm
              have t3 : ((1 : Nat) : Int) = 1 := rfl
              obtain ⟨k5, hk5⟩ : ∃ k, n4.ks = [k] := List.length_eq_one_iff.1 HM.out.1
              have ho := HE4.out.tree.node.2.1
              rw [HM.out.2] at ho
              obtain ⟨hrd, -⟩ := own_rd ho
              obtain ⟨b5, off5, e5, hc5⟩ := hrd 0 (by rw [hk5]; simp)
              rw [hk5] at hc5
              simp only [Nat.add_zero, List.map_cons, List.getElem?_cons_zero] at hc5
              unfold ptrN at hc5
              obtain ⟨q5, hq5⟩ : ∃ z, k5.p = z := ⟨_, rfl⟩
              rw [hq5] at hc5
              subst e5
              have HL : Hid (DelE w1.drew (wr.setCell ⟨s, 0, none⟩ (.pointer (some ⟨q5, 0, none⟩))) s F (L.erase ((x, y, a, b), v)) (C - 1) d5 k5) := hid (HE4.out.less hk5 (by unfold ptrN; rw [hq5]))
              have HDE := hid HE4.out.dep
              clear hk5 ho hrd hq5 t1 t2
              have t1 : (1 : Int) < ((d5 + 1 + 1 : Nat) : Int) := by omega
              have t2 : (1 : Int) < (d5 : Int) + 1 + 1 := by omega
              go_wp2_with fail
              go_roundw
              case rel => exact ⟨d5, k5, HL.out⟩
              case measure => rw [HL.out.dep, HDE.out]; omega
            · have t3 : ¬ (M : Int) = 1 := by omega
              go_wp2_with fail
              go_ret
              exact HPO.out (.inr (by have := HM.out.1; omega))
  · have hdr : Calls Tryz.prog 91 #[.pointer (some ⟨p, 0, none⟩), .agg #[.int .i64 x, .int .i64 y, .int .i64 a, .int .i64 b], .int .i64 v] w1.drew (fun e w' => e = .returned (.tuple #[.slice none 0 0, .bool false]) ∧ Below w1.drew.heap.size w1.drew w') := (HDROP.out _ HBD.out).mono (fun e w' q => by
      rcases q with ⟨-, q1, q2⟩ | ⟨n', A, a2, c2, q1, q2⟩
      · exact ⟨q1, q2⟩
      · exact absurd (q2.th.mem_iff.1 (by simp)) hx)
    have HDR := hid hdr
    have HNX : Hid (¬ (((x, y, a, b), v) : Tg) ∈ L) := hid (fun q => hx (HP.out.mem_iff.2 q))
    clear hdr hx
    refine wp_region_kept [11] (fun z => Upd (fun k => k ∈ blkN (d + 1) n) w1 z) (by kernel_rfl) (by assumption) (fun hH => ?_)
    refine wpK.take (i := 0) (v := _) (by simp only [List.getElem?_toArray, List.getElem?_cons_succ, List.getElem?_cons_zero]; rfl) (by kernel_rfl) (by kernel_rfl) (by kernel_rfl) (by kernel_rfl) (by kernel_rfl) (by exact fun _ _ _ h => h) (by first | exact Or.inl ⟨by rfl, by intro w hSw; go_simp; try with_reducible rfl⟩ | exact Or.inr ⟨by rfl, rfl⟩) hH ?_
    try simp only [Act.put, List.setIfInBounds_toArray, List.set_cons_zero, List.set_cons_succ]
    refine wpK.take (i := 1) (v := _) (by simp only [List.getElem?_toArray, List.getElem?_cons_succ, List.getElem?_cons_zero]; rfl) (by kernel_rfl) (by kernel_rfl) (by kernel_rfl) (by kernel_rfl) (by kernel_rfl) (by exact fun _ _ _ h => h) (by first | exact Or.inl ⟨by rfl, by intro w hSw; go_simp; try with_reducible rfl⟩ | exact Or.inr ⟨by rfl, rfl⟩) hH ?_
    try simp only [Act.put, List.setIfInBounds_toArray, List.set_cons_zero, List.set_cons_succ]
    refine wpK.take (i := 2) (v := _) (by simp only [List.getElem?_toArray, List.getElem?_cons_succ, List.getElem?_cons_zero]; rfl) (by kernel_rfl) (by kernel_rfl) (by kernel_rfl) (by kernel_rfl) (by kernel_rfl) (by exact fun _ _ _ h => h) (by first | exact Or.inl ⟨by rfl, by intro w hSw; go_simp; try with_reducible rfl⟩ | exact Or.inr ⟨by rfl, rfl⟩) hH ?_
    try simp only [Act.put, List.setIfInBounds_toArray, List.set_cons_zero, List.set_cons_succ]
    refine wpK.take (i := 3) (v := _) (by simp only [List.getElem?_toArray, List.getElem?_cons_succ, List.getElem?_cons_zero]; rfl) (by kernel_rfl) (by kernel_rfl) (by kernel_rfl) (by kernel_rfl) (by kernel_rfl) (by exact fun _ _ _ h => h) (by first | exact Or.inl ⟨by rfl, by intro w hSw; go_simp; try with_reducible rfl⟩ | exact Or.inr ⟨by rfl, rfl⟩) hH ?_
    try simp only [Act.put, List.setIfInBounds_toArray, List.set_cons_zero, List.set_cons_succ]
    refine wpK.take (i := 4) (v := _) (by simp only [List.getElem?_toArray, List.getElem?_cons_succ, List.getElem?_cons_zero]; rfl) (by kernel_rfl) (by kernel_rfl) (by kernel_rfl) (by kernel_rfl) (by kernel_rfl) (by exact fun _ _ _ h => h) (by first | exact Or.inl ⟨by rfl, by intro w hSw; go_simp; try with_reducible rfl⟩ | exact Or.inr ⟨by rfl, rfl⟩) hH ?_
    try simp only [Act.put, List.setIfInBounds_toArray, List.set_cons_zero, List.set_cons_succ]
    refine wpK.take (i := 5) (v := _) (by simp only [List.getElem?_toArray, List.getElem?_cons_succ, List.getElem?_cons_zero]; rfl) (by kernel_rfl) (by kernel_rfl) (by kernel_rfl) (by kernel_rfl) (by kernel_rfl) (by exact fun _ _ _ h => h) (by first | exact Or.inl ⟨by rfl, by intro w hSw; go_simp; try with_reducible rfl⟩ | exact Or.inr ⟨by rfl, rfl⟩) hH ?_
    try simp only [Act.put, List.setIfInBounds_toArray, List.set_cons_zero, List.set_cons_succ]
    refine wpK.step (i := 6) (by kernel_rfl) (by simp only [List.getElem?_toArray, List.getElem?_cons_succ, List.getElem?_cons_zero]; rfl) (fun K hK => ?_)
    go_simp
    (refine HDR.out.mono ?_); rintro e w2 ⟨rfl, hb2⟩; (have HB2 := hid hb2); (have hk2 := hyd.trans (Upd.of_below (S := fun k => k ∈ blkN (d + 1) n) hb2) (fun _ _ q => q)); go_simp
    refine hK.out _ _ (by assumption) (fun hH => ?_)
    clear hK K
    try simp only [Act.put, List.setIfInBounds_toArray, List.set_cons_zero, List.set_cons_succ]
    refine wpK.take (i := 7) (v := _) (by simp only [List.getElem?_toArray, List.getElem?_cons_succ, List.getElem?_cons_zero]; rfl) (by kernel_rfl) (by kernel_rfl) (by kernel_rfl) (by kernel_rfl) (by kernel_rfl) (by exact fun _ _ _ h => h) (by first | exact Or.inl ⟨by rfl, by intro w hSw; go_simp; try with_reducible rfl⟩ | exact Or.inr ⟨by rfl, rfl⟩) hH ?_
    try simp only [Act.put, List.setIfInBounds_toArray, List.set_cons_zero, List.set_cons_succ]
    refine wpK.take (i := 8) (v := _) (by simp only [List.getElem?_toArray, List.getElem?_cons_succ, List.getElem?_cons_zero]; rfl) (by kernel_rfl) (by kernel_rfl) (by kernel_rfl) (by kernel_rfl) (by kernel_rfl) (by exact fun _ _ _ h => h) (by first | exact Or.inl ⟨by rfl, by intro w hSw; go_simp; try with_reducible rfl⟩ | exact Or.inr ⟨by rfl, rfl⟩) hH ?_
    try simp only [Act.put, List.setIfInBounds_toArray, List.set_cons_zero, List.set_cons_succ]
    refine wpK.take (i := 9) (v := _) (by simp only [List.getElem?_toArray, List.getElem?_cons_succ, List.getElem?_cons_zero]; rfl) (by kernel_rfl) (by kernel_rfl) (by kernel_rfl) (by kernel_rfl) (by kernel_rfl) (by exact fun _ _ _ h => h) (by first | exact Or.inl ⟨by rfl, by intro w hSw; go_simp; try with_reducible rfl⟩ | exact Or.inr ⟨by rfl, rfl⟩) hH ?_
    try simp only [Act.put, List.setIfInBounds_toArray, List.set_cons_zero, List.set_cons_succ]
    refine wpK.take (i := 10) (v := _) (by simp only [List.getElem?_toArray, List.getElem?_cons_succ, List.getElem?_cons_zero]; rfl) (by kernel_rfl) (by kernel_rfl) (by kernel_rfl) (by kernel_rfl) (by kernel_rfl) (by exact fun _ _ _ h => h) (by first | exact Or.inl ⟨by rfl, by intro w hSw; go_simp; try with_reducible rfl⟩ | exact Or.inr ⟨by rfl, rfl⟩) hH ?_
    try simp only [Act.put, List.setIfInBounds_toArray, List.set_cons_zero, List.set_cons_succ]
    refine wpK.late (i := 11) (by kernel_rfl) (by simp only [List.getElem?_toArray, List.getElem?_cons_succ, List.getElem?_cons_zero]; rfl) (by kernel_rfl) (fun K hK => ?_)
    go_simp
    refine hK.out _ _ ?_
    clear hK K
    try simp only [Act.put, List.setIfInBounds_toArray, List.set_cons_zero, List.set_cons_succ]
    refine wpK.done (by kernel_rfl) ?_ _
    have HR : Hid (RtPost w s F (delE L ((x, y, a, b), v)) (L.erase ((x, y, a, b), v)) (.returned (.int .i64 14)) w2) := hid (by
      have e1 : delE L ((x, y, a, b), v) = 14 := by unfold delE; rw [if_neg HNX.out]
      rw [e1, List.erase_of_not_mem HNX.out]
      exact RtPost.same H.out (Below.next HBD.out HB2.out) 14)
    clear k0 e0 e1 e2 e3 hyd hk2 hb2 hH
    go_wp2_with fail
    go_ret
    exact HR.out
end Go.Proofs.YtjbnfppnmljbmaaGreat
end
section
/- Contracts of rtree's New, Len, Deep. -/
namespace Go.Proofs.YtjbnfppnmljbmaaGreat
open Go.RowKit
open Go.Lib (hid)
set_option linter.unusedVariables false
attribute [local go_sem] Oper.semAt_some

theorem TreeIs.blk {w : World} {s : Nat} {F : Nat → Prop} {L : List Tg} (h : TreeIs w s F L) : ∃ p : Nat, Blk w s #[.pointer (some ⟨p, 0, none⟩), .int .i64 (L.length : Int)] := by
  obtain ⟨d, n, h1, -⟩ := h
  exact ⟨n.p, h1.blk⟩
theorem rt_New (w : World) : Calls Tryz.prog 49 #[] w fun e w' => ∃ s : Nat, e = .returned (.pointer (some ⟨s, 0, none⟩)) ∧ TreeIs w' s (fun k => w.heap.size ≤ k) [] ∧ Below w.heap.size w w' := by
  go_enter Tryz.func49, Tryz.ntmps49
  go_wp2_with fail
  go_ret
  obtain ⟨w1, hw1⟩ : ∃ w1, w1 = w.alloc (.cells #[.int .i64 0, .int .i64 0, .int .i64 0, .int .i64 0, .slice none 0 0, .int .i64 0, .int .i64 1] 120) := ⟨_, rfl⟩
  have hsz : w1.heap.size = w.heap.size + 1 := by rw [hw1]; simp
  have hk1 : Blk w1 w.heap.size #[.int .i64 0, .int .i64 0, .int .i64 0, .int .i64 0, .slice none 0 0, .int .i64 0, .int .i64 1] := by rw [hw1]; exact Blk.new _ _ _
  have hb1 : Below w.heap.size w w1 := by rw [hw1]; exact Below.new _ _
  rw [← hw1]
  obtain ⟨w2, hw2⟩ : ∃ w2, w2 = w1.alloc (.cells #[.pointer (some ⟨w.heap.size, 0, none⟩), .int .i64 0] 113) := ⟨_, rfl⟩
  have hk2 : Blk w2 (w.heap.size + 1) #[.pointer (some ⟨w.heap.size, 0, none⟩), .int .i64 0] := by rw [hw2, ← hsz]; exact Blk.new _ _ _
  have hb2 : Below w1.heap.size w1 w2 := by rw [hw2]; exact Below.new _ _
  rw [← hw2]
  refine ⟨_, rfl, ⟨0, ⟨w.heap.size, (0, 0, 0, 0), .slice none 0 0, 0, []⟩, ⟨hk2, ⟨hk1.below hb2, ⟨by simp, .inl ⟨rfl, by simp⟩⟩, by simp⟩, ?_, ⟨by simp, rfl, by simp⟩⟩, ?_, .inl rfl, .refl _⟩, Below.next hb1 hb2⟩
  · simp [blkN, Value.ownBlock]
  · intro k hk
    simp [blkN, Value.ownBlock] at hk
    show _ ≤ k
    omega
end Go.Proofs.YtjbnfppnmljbmaaGreat
end
section
/- A tree that is a list: Any. -/
namespace Go.Proofs.YtjbnfppnmljbmaaGreat
open Go.RowKit
open Go.Lib (hid)
set_option linter.unusedVariables false

theorem flR_perm {t : R4 → Bool} {A B : List Tg} (h : A.Perm B) : (flR t A).Perm (flR t B) := h.filter _
theorem TreeIs.open {w : World} {s : Nat} {F : Nat → Prop} {L : List Tg} (h : TreeIs w s F L) (hl : L.length ≤ 900) : ∃ d n, TreeAt w s d n (L.length : Int) ∧ d ≤ 15 ∧ (thgN (d + 1) n).Perm L ∧ (d = 0 ∨ 2 ≤ n.ks.length) := by
  obtain ⟨d, n, ht, -, h2, hp⟩ := h
  exact ⟨d, n, ht, dep_few ht.sh h2 hp hl, hp, h2⟩
theorem rt_AnyL (w : World) (s : Nat) (F : Nat → Prop) (L : List Tg) (x y a b : Int) (h : TreeIs w s F L) (hl : L.length ≤ 900) (q : Bool) (hq : decide (flR (tMeets (x, y, a, b)) L ≠ []) = q) :
    Calls Tryz.prog 38 #[.pointer (some ⟨s, 0, none⟩), .agg #[.int .i64 x, .int .i64 y, .int .i64 a, .int .i64 b]] w fun e w' => e = .returned (.bool q) ∧ Below w.heap.size w w' := by
  obtain ⟨d, n, ht, hd, hp, -⟩ := h.open hl
  have h1 := rt_Any4 w s d n _ x y a b ht (by omega)
  have h2 := flR_perm (t := tMeets (x, y, a, b)) hp
  have e : decide (flR (tMeets (x, y, a, b)) (thgN (d + 1) n) ≠ []) = q := by
    rw [← hq]
    refine decide_eq_decide.2 (not_congr ⟨fun e => ?_, fun e => ?_⟩)
    · rw [e] at h2; exact h2.symm.eq_nil
    · rw [e] at h2; exact h2.eq_nil
  rw [e] at h1
  exact h1
end Go.Proofs.YtjbnfppnmljbmaaGreat
end
section
/- Contract of rect's Quarters, at a square. -/
namespace Go.Proofs.YtjbnfppnmljbmaaGreat
open Go.RowKit Go.Deep
open Go.Lib (hid)
set_option linter.unusedVariables false
attribute [local go_sem] Oper.semAt_some

def quArr (X Y h : Int) : Value := .agg #[.int .i64 X, .int .i64 Y, .int .i64 h, .int .i64 h, .int .i64 (X + h), .int .i64 Y, .int .i64 h, .int .i64 h, .int .i64 X, .int .i64 (Y + h), .int .i64 h, .int .i64 h, .int .i64 (X + h), .int .i64 (Y + h), .int .i64 h, .int .i64 h]
def quX (X h : Int) (i : Nat) : Int := X + ((i % 2 : Nat) : Int) * h
def quY (Y h : Int) (i : Nat) : Int := Y + ((i / 2 : Nat) : Int) * h
theorem idx16 (a0 a1 a2 a3 b0 b1 b2 b3 c0 c1 c2 c3 d0 d1 d2 d3 : Int) (w : World) : ∀ i : Nat, i < 4 → (Instr.index 144 (.agg #[.int .i64 a0, .int .i64 a1, .int .i64 a2, .int .i64 a3, .int .i64 b0, .int .i64 b1, .int .i64 b2, .int .i64 b3, .int .i64 c0, .int .i64 c1, .int .i64 c2, .int .i64 c3, .int .i64 d0, .int .i64 d1, .int .i64 d2, .int .i64 d3]) (.int .i64 (i : Int))).run Tryz.prog w =
    .ok (if i = 0 then .agg #[.int .i64 a0, .int .i64 a1, .int .i64 a2, .int .i64 a3] else if i = 1 then .agg #[.int .i64 b0, .int .i64 b1, .int .i64 b2, .int .i64 b3] else if i = 2 then .agg #[.int .i64 c0, .int .i64 c1, .int .i64 c2, .int .i64 c3] else .agg #[.int .i64 d0, .int .i64 d1, .int .i64 d2, .int .i64 d3]) w
  | 0, _ => by kernel_rfl
  | 1, _ => by kernel_rfl
  | 2, _ => by kernel_rfl
  | 3, _ => by kernel_rfl
theorem idx_quArr (X Y h : Int) (w : World) (i : Nat) (hi : i < 4) : (Instr.index 144 (quArr X Y h) (.int .i64 (i : Int))).run Tryz.prog w = .ok (.agg #[.int .i64 (quX X h i), .int .i64 (quY Y h i), .int .i64 h, .int .i64 h]) w := by
  unfold quArr
  rw [idx16 _ _ _ _ _ _ _ _ _ _ _ _ _ _ _ _ w i hi]
  have : i = 0 ∨ i = 1 ∨ i = 2 ∨ i = 3 := by omega
  rcases this with rfl | rfl | rfl | rfl <;> simp [quX, quY]
set_option maxRecDepth 100000 in
set_option maxHeartbeats 4000000 in
theorem rect_Quarters (X Y q : Int) (w : World) (h0 : 1 ≤ q) (hX : 0 ≤ X) (hX2 : X + 2 * q ≤ 256) (hY : 0 ≤ Y) (hY2 : Y + 2 * q ≤ 256) :
    Calls Tryz.prog 97 #[.agg #[.int .i64 X, .int .i64 Y, .int .i64 (2 * q), .int .i64 (2 * q)]] w fun e w' => e = .returned (quArr X Y q) ∧ Below w.heap.size w w' := by
  obtain ⟨S, hS⟩ : ∃ S : Int, 2 * q = S := ⟨_, rfl⟩
  have hrt := fun wz => rect_Right (X, Y, S, S) true (hid ((rightR_iff _).2 (by unfold RightR; simp only; omega))) wz
  unfold rV at hrt
  simp only at hrt
  have HRT := hid hrt
  rw [hS]
  have hmod : Int.tmod S 2 = 0 := by rw [← hS, Int.tmod_eq_emod_of_nonneg (by omega)]; omega
  have hquo : Int.tdiv S 2 = q := by rw [← hS, Int.tdiv_eq_ediv_of_nonneg (by omega)]; omega
  have hwh : IntKind.i64.wrap q = q := by rw [IntKind.wrap_i64]; omega
  have hwX : IntKind.i64.wrap (X + q) = X + q := by rw [IntKind.wrap_i64]; omega
  have hwY : IntKind.i64.wrap (Y + q) = Y + q := by rw [IntKind.wrap_i64]; omega
  unfold quArr
  have HX := hid (And.intro h0 (And.intro hX (And.intro hX2 (And.intro hY hY2))))
  clear hrt hS
  go_enter Tryz.func97, Tryz.ntmps97
  go_upto_region 1 with fail
  generalize hW : World.alloc (World.alloc w _) _ = w1
  obtain ⟨b1, hb1⟩ : ∃ b, b = w.heap.size := ⟨_, rfl⟩
  obtain ⟨b2, hb2⟩ : ∃ b, b = w.heap.size + 1 := ⟨_, rfl⟩
  have hz : (World.alloc w (.cells #[.int .i64 X, .int .i64 Y, .int .i64 S, .int .i64 S] 25)).heap.size = w.heap.size + 1 := by simp
  try rw [hz]
  try rw [← hb2]
  try rw [← hb1]
  have hb : Below w.heap.size w w1 := by rw [← hW]; exact Below.next (Below.new _ _) (Below.new _ _)
  have HR1 : Hid (Blk w1 b1 #[.int .i64 X, .int .i64 Y, .int .i64 S, .int .i64 S]) := hid (by rw [← hW, hb1]; exact (Blk.new w _ _).below (Below.new _ _))
  have HO1 : Hid (Blk w1 b2 #[.int .i64 0, .int .i64 0, .int .i64 0, .int .i64 0, .int .i64 0, .int .i64 0, .int .i64 0, .int .i64 0, .int .i64 0, .int .i64 0, .int .i64 0, .int .i64 0, .int .i64 0, .int .i64 0, .int .i64 0, .int .i64 0]) := hid (by rw [← hW, hb2, ← hz]; exact Blk.new _ _ _)
  have HB1 := hid hb
  have HG2 : Hid (w.heap.size ≤ b2) := hid (by omega)
  clear hW hb1 hb2 hz hb
  obtain ⟨c0, c1, c2, c3⟩ := HR1.out.c4r
  go_wp2_with fail
  refine (HRT.out w1).mono ?_
  rintro e w3 ⟨rfl, hb⟩
  have HR3 := hid (HR1.out.below hb)
  have HO3 := hid (HO1.out.below hb)
  have HB3 := hid (Below.next HB1.out hb)
  clear c0 c1 c2 c3 hb
  obtain ⟨c0, c1, c2, c3⟩ := HR3.out.c4r
  go_upto_region 3 with fail
  replace c0 := fun (z : World) (hz : Below w3.heap.size w3 z) => cellOf_belowR hz c0
  replace c1 := fun (z : World) (hz : Below w3.heap.size w3 z) => cellOf_belowR hz c1
  replace c2 := fun (z : World) (hz : Below w3.heap.size w3 z) => cellOf_belowR hz c2
  replace c3 := fun (z : World) (hz : Below w3.heap.size w3 z) => cellOf_belowR hz c3
  have hyd := (Below.refl w3.heap.size w3).drew
  refine wp_region_kept [7] (fun z => Below w3.heap.size w3 z) (by kernel_rfl) (by assumption) (fun hH => ?_)
  refine wpK.take (i := 0) (v := _) (by simp only [List.getElem?_toArray, List.getElem?_cons_succ, List.getElem?_cons_zero]; rfl) (by kernel_rfl) (by kernel_rfl) (by kernel_rfl) (by kernel_rfl) (by kernel_rfl) (by exact fun _ _ _ h => h) (by first | exact Or.inl ⟨by rfl, by intro w hSw; go_simp; try with_reducible rfl⟩ | exact Or.inr ⟨by rfl, rfl⟩) hH ?_
  try simp only [Act.put, List.setIfInBounds_toArray, List.set_cons_zero, List.set_cons_succ]
  refine wpK.take (i := 1) (v := _) (by simp only [List.getElem?_toArray, List.getElem?_cons_succ, List.getElem?_cons_zero]; rfl) (by kernel_rfl) (by kernel_rfl) (by kernel_rfl) (by kernel_rfl) (by kernel_rfl) (by exact fun _ _ _ h => h) (by first | exact Or.inl ⟨by rfl, by intro w hSw; go_simp; try with_reducible rfl⟩ | exact Or.inr ⟨by rfl, rfl⟩) hH ?_
  try simp only [Act.put, List.setIfInBounds_toArray, List.set_cons_zero, List.set_cons_succ]
  refine wpK.take (i := 2) (v := _) (by simp only [List.getElem?_toArray, List.getElem?_cons_succ, List.getElem?_cons_zero]; rfl) (by kernel_rfl) (by kernel_rfl) (by kernel_rfl) (by kernel_rfl) (by kernel_rfl) (by exact fun _ _ _ h => h) (by first | exact Or.inl ⟨by rfl, by intro w hSw; go_simp; try with_reducible rfl⟩ | exact Or.inr ⟨by rfl, rfl⟩) hH ?_
  try simp only [Act.put, List.setIfInBounds_toArray, List.set_cons_zero, List.set_cons_succ]
  refine wpK.take (i := 3) (v := _) (by simp only [List.getElem?_toArray, List.getElem?_cons_succ, List.getElem?_cons_zero]; rfl) (by kernel_rfl) (by kernel_rfl) (by kernel_rfl) (by kernel_rfl) (by kernel_rfl) (by exact fun _ _ _ h => h) (by first | exact Or.inl ⟨by rfl, by intro w hSw; go_simp; try with_reducible rfl⟩ | exact Or.inr ⟨by rfl, rfl⟩) hH ?_
  try simp only [Act.put, List.setIfInBounds_toArray, List.set_cons_zero, List.set_cons_succ]
  refine wpK.take (i := 4) (v := _) (by simp only [List.getElem?_toArray, List.getElem?_cons_succ, List.getElem?_cons_zero]; rfl) (by kernel_rfl) (by kernel_rfl) (by kernel_rfl) (by kernel_rfl) (by kernel_rfl) (by exact fun _ _ _ h => h) (by first | exact Or.inl ⟨by rfl, by intro w hSw; go_simp; try with_reducible rfl⟩ | exact Or.inr ⟨by rfl, rfl⟩) hH ?_
  try simp only [Act.put, List.setIfInBounds_toArray, List.set_cons_zero, List.set_cons_succ]
  refine wpK.take (i := 5) (v := _) (by simp only [List.getElem?_toArray, List.getElem?_cons_succ, List.getElem?_cons_zero]; rfl) (by kernel_rfl) (by kernel_rfl) (by kernel_rfl) (by kernel_rfl) (by kernel_rfl) (by exact fun _ _ _ h => h) (by first | exact Or.inl ⟨by rfl, by intro w hSw; go_simp; try with_reducible rfl⟩ | exact Or.inr ⟨by rfl, rfl⟩) hH ?_
  try simp only [Act.put, List.setIfInBounds_toArray, List.set_cons_zero, List.set_cons_succ]
  refine wpK.take (i := 6) (v := _) (by simp only [List.getElem?_toArray, List.getElem?_cons_succ, List.getElem?_cons_zero]; rfl) (by kernel_rfl) (by kernel_rfl) (by kernel_rfl) (by kernel_rfl) (by kernel_rfl) (by exact fun _ _ _ h => h) (by first | exact Or.inl ⟨by rfl, by intro w hSw; go_simp; try with_reducible rfl⟩ | exact Or.inr ⟨by rfl, rfl⟩) hH ?_
  try simp only [Act.put, List.setIfInBounds_toArray, List.set_cons_zero, List.set_cons_succ]
  refine wpK.late (i := 7) (by kernel_rfl) (by simp only [List.getElem?_toArray, List.getElem?_cons_succ, List.getElem?_cons_zero]; rfl) (by kernel_rfl) (fun K hK => ?_)
  go_simp
  refine hK.out _ _ ?_
  clear hK K
  try simp only [Act.put, List.setIfInBounds_toArray, List.set_cons_zero, List.set_cons_succ]
  refine wpK.done (by kernel_rfl) ?_ _
  clear c0 c1 c2 c3 hmod hquo hwh hH hyd
  obtain ⟨wd, hwd⟩ : ∃ wd, wd = w3.drew := ⟨_, rfl⟩
  rw [← hwd]
  have hbd : Below w3.heap.size w3 wd := by rw [hwd]; exact (Below.refl _ _).drew
  have HRd := hid (HR3.out.below hbd)
  have HOd := hid (HO3.out.below hbd)
  have HBd := hid (Below.next HB3.out hbd)
  clear hwd hbd
  obtain ⟨c0, c1, c2, c3⟩ := HRd.out.c4r
  obtain ⟨te, hte⟩ := HOd.out
  have HTE := hid hte
  obtain ⟨wz, hwz⟩ : ∃ wz, wz = wd.setRow b2 #[.int .i64 X, .int .i64 Y, .int .i64 q, .int .i64 q, .int .i64 (X + q), .int .i64 Y, .int .i64 q, .int .i64 q, .int .i64 X, .int .i64 (Y + q), .int .i64 q, .int .i64 q, .int .i64 (X + q), .int .i64 (Y + q), .int .i64 q, .int .i64 q] := ⟨_, rfl⟩
  have hkz : Blk wz b2 #[.int .i64 X, .int .i64 Y, .int .i64 q, .int .i64 q, .int .i64 (X + q), .int .i64 Y, .int .i64 q, .int .i64 q, .int .i64 X, .int .i64 (Y + q), .int .i64 q, .int .i64 q, .int .i64 (X + q), .int .i64 (Y + q), .int .i64 q, .int .i64 q] := ⟨te, by rw [hwz]; exact setRow_heap _ _ _ _ _ _ hte⟩
  have huz : Upd (fun k => k = b2) wd wz := by rw [hwz]; exact ⟨rfl, rfl, rfl, by simp, fun k _ hk => setRow_other _ _ _ _ hk⟩
  have HBZ := hid (HBd.out.trans (huz.below HBd.out.size (fun k _ q => by rw [q]; exact HG2.out)))
  have HWZ := hid hwz
  have HKZ := hid hkz
  clear hwz hkz huz hte
  go_wp2_with (refine wpList_store_row rfl 144 _ _ rfl b2 #[.int .i64 X, .int .i64 Y, .int .i64 q, .int .i64 q, .int .i64 (X + q), .int .i64 Y, .int .i64 q, .int .i64 q, .int .i64 X, .int .i64 (Y + q), .int .i64 q, .int .i64 q, .int .i64 (X + q), .int .i64 (Y + q), .int .i64 q, .int .i64 q] rfl rfl te _ HTE.out (by kernel_rfl) rfl (by simp [Value.oneCell']) ?_)
  rw [← HWZ.out]
  go_wp2_with fail
  refine bodyPost_ret (results_cell1 rfl _ _ _ rfl (run_loadVar_mid wz b2 0 144 [.int .i64 X, .int .i64 Y, .int .i64 q, .int .i64 q, .int .i64 (X + q), .int .i64 Y, .int .i64 q, .int .i64 q, .int .i64 X, .int .i64 (Y + q), .int .i64 q, .int .i64 q, .int .i64 (X + q), .int .i64 (Y + q), .int .i64 q, .int .i64 q] _ (fun j v hv => by
    rw [Nat.zero_add, HKZ.out.cell]
    simpa using hv) Tryz.underlying144 rfl (by kernel_rfl))) rfl ?_
  exact ⟨rfl, HBZ.out⟩
end Go.Proofs.YtjbnfppnmljbmaaGreat
end
section
/- A quadtree: squares with the places of their children, how they lie in memory, what tiles they tell. -/
namespace Go.Proofs.YtjbnfppnmljbmaaGreat
open Go.RowKit
open Go.Lib (hid)
set_option linter.unusedVariables false

structure Sq where
  b : Nat
  v : Int
  ks : List Sq
instance : Inhabited Sq := ⟨⟨0, 0, []⟩⟩
def cellS (s : Sq) : List Value := [if s.ks = [] then .pointer none else .pointer (some ⟨s.b, 0, none⟩), .int .u8 s.v]
def blkS : Nat → Sq → List Nat
  | 0, _ => []
  | k + 1, s => if s.ks = [] then [] else s.b :: s.ks.flatMap (blkS k)
def ByteI (v : Int) : Prop := 0 ≤ v ∧ v ≤ 255
def SqAt : Nat → World → Sq → Prop
  | 0, _, s => ByteI s.v ∧ s.ks = []
  | k + 1, w, s => ByteI s.v ∧ (s.ks = [] ∨ (s.ks.length = 4 ∧ Blk w s.b (s.ks.flatMap cellS).toArray ∧ ∀ m ∈ s.ks, SqAt k w m))
theorem SqAt.byte {k : Nat} {w : World} {s : Sq} (h : SqAt k w s) : ByteI s.v := by cases k <;> exact h.1
theorem SqAt.lt : ∀ {k : Nat} {w : World} {s : Sq}, SqAt k w s → ∀ q ∈ blkS k s, q < w.heap.size
  | 0, w, s, h, q, hq => by simp [blkS] at hq
  | k + 1, w, s, h, q, hq => by
    rcases h.2 with e | ⟨h1, h2, h3⟩
    · simp [blkS, e] at hq
    · unfold blkS at hq
      split at hq
      · simp at hq
      · rcases List.mem_cons.1 hq with rfl | hq
        · exact h2.lt
        · obtain ⟨m, hm, hq⟩ := List.mem_flatMap.1 hq
          exact (h3 m hm).lt q hq
theorem SqAt.upd {S : Nat → Prop} {w w' : World} (hu : Upd S w w') : ∀ {k : Nat} {s : Sq}, SqAt k w s → (∀ q ∈ blkS k s, ¬ S q) → SqAt k w' s
  | 0, s, h, hS => h
  | k + 1, s, h, hS => by
    rcases h.2 with e | ⟨h1, h2, h3⟩
    · exact ⟨h.1, .inl e⟩
    · have hne : s.ks ≠ [] := fun e => by rw [e] at h1; simp at h1
      have hb : blkS (k + 1) s = s.b :: s.ks.flatMap (blkS k) := by unfold blkS; rw [if_neg hne]
      rw [hb] at hS
      exact ⟨h.1, .inr ⟨h1, h2.upd hu (hS _ (by simp)), fun m hm => (h3 m hm).upd hu (fun q hq => hS q (List.mem_cons_of_mem _ (List.mem_flatMap.2 ⟨m, hm, hq⟩)))⟩⟩
theorem SqAt.below {w w' : World} (hb : Below w.heap.size w w') {k : Nat} {s : Sq} (h : SqAt k w s) : SqAt k w' s := h.upd (S := fun _ => False) (Upd.of_below hb) (fun _ _ q => q)
/-! ### sides and quarters -/
def sd (k : Nat) : Int := ((2 ^ k : Nat) : Int)
theorem sd_pos (k : Nat) : 1 ≤ sd k := by have := Nat.two_pow_pos k; unfold sd; omega
theorem sd_succ (k : Nat) : sd (k + 1) = 2 * sd k := by unfold sd; rw [Nat.pow_succ]; omega
theorem sd_zero : sd 0 = 1 := rfl
def ownR (k : Nat) (X Y : Int) : R4 := (X, Y, sd k, sd k)
def OwnOk (k : Nat) (X Y : Int) : Prop := 0 ≤ X ∧ X + sd k ≤ 256 ∧ 0 ≤ Y ∧ Y + sd k ≤ 256
theorem OwnOk.right {k : Nat} {X Y : Int} (h : OwnOk k X Y) : RightR (ownR k X Y) := by
  have := sd_pos k
  unfold OwnOk at h; unfold RightR ownR; simp only; omega
theorem qu_cases (X h : Int) (i : Nat) (hi : i < 4) : (i = 0 ∧ quX X h i = X ∧ ∀ Y, quY Y h i = Y) ∨ (i = 1 ∧ quX X h i = X + h ∧ ∀ Y, quY Y h i = Y) ∨ (i = 2 ∧ quX X h i = X ∧ ∀ Y, quY Y h i = Y + h) ∨ (i = 3 ∧ quX X h i = X + h ∧ ∀ Y, quY Y h i = Y + h) := by
  have : i = 0 ∨ i = 1 ∨ i = 2 ∨ i = 3 := by omega
  rcases this with rfl | rfl | rfl | rfl <;> simp [quX, quY]
theorem OwnOk.qu {k : Nat} {X Y : Int} (h : OwnOk (k + 1) X Y) {i : Nat} (hi : i < 4) : OwnOk k (quX X (sd k) i) (quY Y (sd k) i) := by
  have := sd_pos k
  unfold OwnOk at h ⊢
  rw [sd_succ] at h
  rcases qu_cases X (sd k) i hi with ⟨-, e1, e2⟩ | ⟨-, e1, e2⟩ | ⟨-, e1, e2⟩ | ⟨-, e1, e2⟩ <;> rw [e1, e2] <;> omega
theorem holds_own {k : Nat} {X Y : Int} (h : OwnOk k X Y) (x y : Int) : HoldsR (ownR k X Y) x y ↔ X ≤ x ∧ x < X + sd k ∧ Y ≤ y ∧ y < Y + sd k := by
  unfold HoldsR
  exact ⟨fun q => q.2, fun q => ⟨h.right, q⟩⟩
/-! ### leaves -/
def lvS : Nat → Sq → Int → Int → List Tg
  | 0, s, X, Y => [(ownR 0 X Y, s.v)]
  | k + 1, s, X, Y => if s.ks = [] then [(ownR (k + 1) X Y, s.v)] else (List.range 4).flatMap fun i => lvS k (s.ks.getD i default) (quX X (sd k) i) (quY Y (sd k) i)
/-- what is told at a tile -/
def tl (l : List Tg) (x y : Int) : List Int := (l.filter (fun t => tHolds x y t.1)).map (·.2)
theorem tl_append (a b : List Tg) (x y : Int) : tl (a ++ b) x y = tl a x y ++ tl b x y := by unfold tl; rw [List.filter_append, List.map_append]
theorem tl_one {k : Nat} {X Y : Int} (h : OwnOk k X Y) (v x y : Int) : tl [(ownR k X Y, v)] x y = if HoldsR (ownR k X Y) x y then [v] else [] := by
  unfold tl tHolds
  by_cases q : HoldsR (ownR k X Y) x y <;> simp [q]
def qIx (k : Nat) (X Y x y : Int) : Nat := (if X + sd k ≤ x then 1 else 0) + (if Y + sd k ≤ y then 2 else 0)
theorem qIx_lt (k : Nat) (X Y x y : Int) : qIx k X Y x y < 4 := by unfold qIx; split <;> split <;> omega
theorem range4 {β : Type} (f : Nat → List β) : (List.range 4).flatMap f = f 0 ++ (f 1 ++ (f 2 ++ f 3)) := by
  simp [List.range, List.range.loop]
theorem lv_none : ∀ (k : Nat) (s : Sq) (X Y x y : Int), OwnOk k X Y → ¬ HoldsR (ownR k X Y) x y → tl (lvS k s X Y) x y = []
  | 0, s, X, Y, x, y, h, q => by
    unfold lvS; rw [tl_one h, if_neg q]
  | k + 1, s, X, Y, x, y, h, q => by
    unfold lvS
    split
    · rw [tl_one h, if_neg q]
    · have key : ∀ i, i < 4 → tl (lvS k (s.ks.getD i default) (quX X (sd k) i) (quY Y (sd k) i)) x y = [] := fun i hi => by
        refine lv_none k _ _ _ x y (h.qu hi) (fun z => q ?_)
        rw [holds_own (h.qu hi)] at z
        rw [holds_own h, sd_succ]
        have := sd_pos k
        rcases qu_cases X (sd k) i hi with ⟨-, e1, e2⟩ | ⟨-, e1, e2⟩ | ⟨-, e1, e2⟩ | ⟨-, e1, e2⟩ <;> rw [e1, e2] at z <;> omega
      rw [range4, tl_append, tl_append, tl_append, key 0 (by omega), key 1 (by omega), key 2 (by omega), key 3 (by omega)]
      rfl
theorem tl_node (k : Nat) (s : Sq) (X Y x y : Int) (h : OwnOk (k + 1) X Y) (hn : s.ks ≠ []) (q : HoldsR (ownR (k + 1) X Y) x y) :
    tl (lvS (k + 1) s X Y) x y = tl (lvS k (s.ks.getD (qIx k X Y x y) default) (quX X (sd k) (qIx k X Y x y)) (quY Y (sd k) (qIx k X Y x y))) x y ∧ HoldsR (ownR k (quX X (sd k) (qIx k X Y x y)) (quY Y (sd k) (qIx k X Y x y))) x y := by
  have hp := sd_pos k
  have hq := q
  rw [holds_own h, sd_succ] at hq
  have hno : ∀ i, i < 4 → i ≠ qIx k X Y x y → tl (lvS k (s.ks.getD i default) (quX X (sd k) i) (quY Y (sd k) i)) x y = [] := fun i hi hne => by
    refine lv_none k _ _ _ x y (h.qu hi) (fun z => hne ?_)
    rw [holds_own (h.qu hi)] at z
    unfold qIx
    rcases qu_cases X (sd k) i hi with ⟨rfl, e1, e2⟩ | ⟨rfl, e1, e2⟩ | ⟨rfl, e1, e2⟩ | ⟨rfl, e1, e2⟩ <;> rw [e1, e2] at z <;> split <;> split <;> omega
  constructor
  · conv => lhs; unfold lvS
    rw [if_neg hn, range4, tl_append, tl_append, tl_append]
    have hl := qIx_lt k X Y x y
    generalize qIx k X Y x y = j at hno hl ⊢
    have : j = 0 ∨ j = 1 ∨ j = 2 ∨ j = 3 := by omega
    rcases this with rfl | rfl | rfl | rfl
    · rw [hno 1 (by omega) (by omega), hno 2 (by omega) (by omega), hno 3 (by omega) (by omega)]; simp
    · rw [hno 0 (by omega) (by omega), hno 2 (by omega) (by omega), hno 3 (by omega) (by omega)]; simp
    · rw [hno 0 (by omega) (by omega), hno 1 (by omega) (by omega), hno 3 (by omega) (by omega)]; simp
    · rw [hno 0 (by omega) (by omega), hno 1 (by omega) (by omega), hno 2 (by omega) (by omega)]; simp
  · rw [holds_own (h.qu (qIx_lt _ _ _ _ _))]
    rcases qu_cases X (sd k) _ (qIx_lt k X Y x y) with ⟨e0, e1, e2⟩ | ⟨e0, e1, e2⟩ | ⟨e0, e1, e2⟩ | ⟨e0, e1, e2⟩ <;> rw [e1, e2] <;> unfold qIx at e0 <;> split at e0 <;> split at e0 <;> omega
theorem lv_leaf {k : Nat} {s : Sq} (X Y : Int) (hs : s.ks = []) : lvS k s X Y = [(ownR k X Y, s.v)] := by
  cases k with
  | zero => rfl
  | succ k => unfold lvS; rw [if_pos hs]
theorem lv_one : ∀ (k : Nat) (s : Sq) (X Y x y : Int), OwnOk k X Y → HoldsR (ownR k X Y) x y → ∃ u, tl (lvS k s X Y) x y = [u]
  | 0, s, X, Y, x, y, h, q => ⟨s.v, by unfold lvS; rw [tl_one h, if_pos q]⟩
  | k + 1, s, X, Y, x, y, h, q => by
    by_cases hs : s.ks = []
    · exact ⟨s.v, by rw [lv_leaf X Y hs, tl_one h, if_pos q]⟩
    · obtain ⟨e, hh⟩ := tl_node k s X Y x y h hs q
      rw [e]
      exact lv_one k _ _ _ x y (h.qu (qIx_lt _ _ _ _ _)) hh
/-! ### what a store of a value on a rectangle does -/
def SetOk (k : Nat) (s s' : Sq) (X Y : Int) (r : R4) (v : Int) : Prop := ∀ x y, HoldsR (ownR k X Y) x y → tl (lvS k s' X Y) x y = if HoldsR r x y then [v] else tl (lvS k s X Y) x y
theorem setOk_apart {k : Nat} {s : Sq} {X Y : Int} {r : R4} {v : Int} (h : OwnOk k X Y) (hm : ¬ MeetsR (ownR k X Y) r) : SetOk k s s X Y r v := fun x y q => by
  rw [if_neg]
  intro z
  apply hm
  obtain ⟨q1, q2, q3, q4, q5⟩ := q
  obtain ⟨z1, z2, z3, z4, z5⟩ := z
  exact ⟨q1, z1, by omega, by omega, by omega, by omega⟩
theorem setOk_same {k : Nat} {s : Sq} {X Y : Int} {r : R4} (h : OwnOk k X Y) (hs : s.ks = []) : SetOk k s s X Y r s.v := fun x y q => by
  rw [lv_leaf X Y hs, tl_one h, if_pos q]; simp
theorem setOk_in {k : Nat} {s s' : Sq} {X Y : Int} {r : R4} (h : OwnOk k X Y) (hs : s'.ks = []) (hi : InR (ownR k X Y) r) : SetOk k s s' X Y r s'.v := fun x y q => by
  rw [lv_leaf X Y hs, tl_one h, if_pos q, if_pos]
  obtain ⟨q1, q2, q3, q4, q5⟩ := q
  obtain ⟨z1, z2, z3, z4, z5, z6⟩ := hi
  exact ⟨z2, by omega, by omega, by omega, by omega⟩
/-- four children, each as it must be; s may have been a leaf, of which all children have the value -/
theorem setOk_node {k : Nat} {s s' : Sq} {X Y : Int} {r : R4} {v : Int} {ks : List Sq} (h : OwnOk (k + 1) X Y) (hks : ks.length = 4) (h' : s'.ks.length = 4) (hs : s.ks = ks ∨ (s.ks = [] ∧ ∀ m ∈ ks, m.ks = [] ∧ m.v = s.v))
    (hk : ∀ i, i < 4 → SetOk k (ks.getD i default) (s'.ks.getD i default) (quX X (sd k) i) (quY Y (sd k) i) r v) : SetOk (k + 1) s s' X Y r v := fun x y q => by
  obtain ⟨e, hh⟩ := tl_node k s' X Y x y h (fun e => by rw [e] at h'; simp at h') q
  have hl := qIx_lt k X Y x y
  rw [e, hk _ hl x y hh]
  split
  · rfl
  · rcases hs with hs | ⟨h1, h2⟩
    · rw [(tl_node k s X Y x y h (fun e => by rw [hs] at e; rw [e] at hks; simp at hks) q).1, hs]
    · have hm : ks.getD (qIx k X Y x y) default ∈ ks := by
        rw [List.getD_eq_getElem?_getD, List.getElem?_eq_getElem (by omega)]; simp
      obtain ⟨h3, h4⟩ := h2 _ hm
      rw [lv_leaf _ _ h3, tl_one (h.qu hl), if_pos hh, lv_leaf X Y h1, tl_one h, if_pos q, h4]
/-- four leaves of one value are one -/
theorem setOk_fold {k : Nat} {s s1 s' : Sq} {X Y : Int} {r : R4} {v : Int} (h : OwnOk (k + 1) X Y) (h0 : SetOk (k + 1) s s1 X Y r v) (h1 : s1.ks.length = 4) (hl : s'.ks = []) (hk : ∀ i, i < 4 → (s1.ks.getD i default).ks = [] ∧ (s1.ks.getD i default).v = s'.v) : SetOk (k + 1) s s' X Y r v := fun x y q => by
  rw [← h0 x y q]
  obtain ⟨e, hh⟩ := tl_node k s1 X Y x y h (fun e => by rw [e] at h1; simp at h1) q
  have hx := qIx_lt k X Y x y
  rw [e, lv_leaf _ _ (hk _ hx).1, tl_one (h.qu hx), if_pos hh, lv_leaf X Y hl, tl_one h, if_pos q, (hk _ hx).2]
/-! ### a square within a tree meets just what tiles tell -/
theorem lv_in : ∀ (k : Nat) (s : Sq) (X Y : Int), OwnOk k X Y → ∀ t ∈ lvS k s X Y, InR t.1 (ownR k X Y)
  | 0, s, X, Y, h, t, ht => by
    simp only [lvS, List.mem_singleton] at ht
    subst ht; exact inR_refl h.right
  | k + 1, s, X, Y, h, t, ht => by
    unfold lvS at ht
    split at ht
    · simp only [List.mem_singleton] at ht
      subst ht; exact inR_refl h.right
    · obtain ⟨i, hi, ht⟩ := List.mem_flatMap.1 ht
      have hi4 : i < 4 := by simpa using hi
      refine inR_trans (lv_in k _ _ _ (h.qu hi4) t ht) ?_
      have hp := sd_pos k
      have h1 := (h.qu hi4).right
      have h2 := h.right
      refine ⟨h1, h2, ?_⟩
      unfold ownR
      simp only [sd_succ]
      rcases qu_cases X (sd k) i hi4 with ⟨-, e1, e2⟩ | ⟨-, e1, e2⟩ | ⟨-, e1, e2⟩ | ⟨-, e1, e2⟩ <;> rw [e1, e2] <;> omega
theorem mem_tl {l : List Tg} {x y u : Int} : u ∈ tl l x y ↔ ∃ t ∈ l, HoldsR t.1 x y ∧ t.2 = u := by
  unfold tl tHolds
  simp only [List.mem_map, List.mem_filter, decide_eq_true_eq]
  exact ⟨fun ⟨t, ⟨h1, h2⟩, h3⟩ => ⟨t, h1, h2, h3⟩, fun ⟨t, h1, h2, h3⟩ => ⟨t, ⟨h1, h2⟩, h3⟩⟩
theorem meets_tile {a b : R4} (h : MeetsR a b) : ∃ x y, HoldsR a x y ∧ HoldsR b x y := by
  obtain ⟨h1, h2, h3, h4, h5, h6⟩ := h
  have k1 := h1; have k2 := h2
  unfold RightR at k1 k2
  exact ⟨max a.1 b.1, max a.2.1 b.2.1, ⟨h1, by omega, by omega, by omega, by omega⟩, ⟨h2, by omega, by omega, by omega, by omega⟩⟩
theorem tile_meets {a b : R4} {x y : Int} (h : HoldsR a x y) (k : HoldsR b x y) : MeetsR a b := by
  obtain ⟨h1, h2, h3, h4, h5⟩ := h
  obtain ⟨k1, k2, k3, k4, k5⟩ := k
  exact ⟨h1, k1, by omega, by omega, by omega, by omega⟩
/-- is there a leaf of a value that meets r? -/
theorem any_iff {k : Nat} {s : Sq} {X Y : Int} (h : OwnOk k X Y) (r : R4) (v : Int) : (∃ t ∈ lvS k s X Y, MeetsR t.1 r ∧ t.2 = v) ↔ ∃ x y, HoldsR (ownR k X Y) x y ∧ HoldsR r x y ∧ tl (lvS k s X Y) x y = [v] := by
  constructor
  · rintro ⟨t, ht, hm, rfl⟩
    obtain ⟨x, y, h1, h2⟩ := meets_tile hm
    have hin := lv_in k s X Y h t ht
    have ho : HoldsR (ownR k X Y) x y := by
      obtain ⟨z1, z2, z3, z4, z5, z6⟩ := hin
      obtain ⟨q1, q2, q3, q4, q5⟩ := h1
      exact ⟨z2, by omega, by omega, by omega, by omega⟩
    obtain ⟨u, hu⟩ := lv_one k s X Y x y h ho
    have hm2 : t.2 ∈ tl (lvS k s X Y) x y := mem_tl.2 ⟨t, ht, h1, rfl⟩
    rw [hu] at hm2
    simp at hm2
    exact ⟨x, y, ho, h2, by rw [hu, hm2]⟩
  · rintro ⟨x, y, ho, h2, h3⟩
    obtain ⟨t, ht, h4, h5⟩ := mem_tl.1 (show v ∈ tl (lvS k s X Y) x y by rw [h3]; simp)
    exact ⟨t, ht, tile_meets h4 h2, h5⟩
end Go.Proofs.YtjbnfppnmljbmaaGreat
end
