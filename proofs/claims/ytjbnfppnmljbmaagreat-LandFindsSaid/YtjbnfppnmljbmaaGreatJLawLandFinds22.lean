/- Joined texts, in this order: LandAt, LandArea, Law19, Law19Aw. Each one's first remark says what it proves; no condition beyond those that its theorems name. -/
import Derived.Test.YtjbnfppnmljbmaaGreatJLawLandFinds21
import Derived.Test.YtjbnfppnmljbmaaGreatJLawLandFinds10
import Derived.Test.YtjbnfppnmljbmaaGreatJLawLandFinds02
section
/- Contracts of land's At, Area. -/
namespace Go.Proofs.YtjbnfppnmljbmaaGreat
open Go.RowKit Go.Deep
open Go.Lib (hid)
set_option linter.unusedVariables false
attribute [local go_sem] Oper.semAt_some

/-- the number of the plot with a tile; 0: none -/
def atX (P : List Pl) (x y : Int) : Option Int := (P.find? fun p => tHolds x y p.2).map (·.1)
theorem at_tree {P : List Pl} (hp : P.Pairwise fun p q => ¬ MeetsR p.2 q.2) (x y : Int) {L : List Tg} (hL : L.Perm (flR (tHolds x y) (tgP P))) : (L = [] ∧ atX P x y = none) ∨ ∃ r id, L = [(r, id)] ∧ atX P x y = some id := by
  have key : ∀ P : List Pl, P.Pairwise (fun p q => ¬ MeetsR p.2 q.2) → (flR (tHolds x y) (tgP P) = [] ∧ atX P x y = none) ∨ ∃ r id, flR (tHolds x y) (tgP P) = [(r, id)] ∧ atX P x y = some id := by
    intro P
    induction P with
    | nil => intro _; exact .inl ⟨rfl, rfl⟩
    | cons p P ih =>
      intro h
      obtain ⟨h1, h2⟩ := List.pairwise_cons.1 h
      have e : flR (tHolds x y) (tgP (p :: P)) = if tHolds x y p.2 then (p.2, p.1) :: flR (tHolds x y) (tgP P) else flR (tHolds x y) (tgP P) := by
        unfold flR tgP
        rw [List.map_cons, List.filter_cons]
      have e2 : atX (p :: P) x y = if tHolds x y p.2 then some p.1 else atX P x y := by
        unfold atX
        rw [List.find?_cons]
        cases tHolds x y p.2 <;> rfl
      rw [e, e2]
      cases hh : tHolds x y p.2 with
      | true =>
        refine .inr ⟨p.2, p.1, ?_, rfl⟩
        have : flR (tHolds x y) (tgP P) = [] := by
          unfold flR tgP
          rw [List.filter_eq_nil_iff]
          intro t ht q
          obtain ⟨p', hp', rfl⟩ := List.mem_map.1 ht
          exact h1 p' hp' (tile_meets (of_decide_eq_true hh) (of_decide_eq_true q))
        simp [this]
      | false => exact ih h2
  rcases key P hp with ⟨h1, h2⟩ | ⟨r, id, h1, h2⟩
  · rw [h1] at hL; exact .inl ⟨hL.eq_nil, h2⟩
  · rw [h1] at hL; exact .inr ⟨r, id, List.perm_singleton.1 hL, h2⟩
def AtLPost (w : World) (o : Option Int) (e : Ending) (w' : World) : Prop := e = .returned (.tuple #[.int .i64 (o.getD 0), .bool o.isSome]) ∧ Below w.heap.size w w'
set_option maxRecDepth 100000 in
set_option maxHeartbeats 8000000 in
theorem land_At (w : World) (l : Nat) (F : Nat → Prop) (k : Nat) (B : List R4) (P : List Pl) (px py : Int) (h : LandIs w l F k B P) : Calls Tryz.prog 15 #[.pointer (some ⟨l, 0, none⟩), .int .i64 px, .int .i64 py] w (AtLPost w (atX P px py)) := by
  obtain ⟨q, t, mb, Fq, Ft, s, M, h⟩ := h
  obtain ⟨d, n, ht, hd, hp, -⟩ := h.tree.open (by unfold tgP; rw [List.length_map]; have := h.inv.len; omega)
  obtain ⟨Y, hY⟩ : ∃ Y, flR (tHolds px py) (thgN (d + 1) n) = Y := ⟨_, rfl⟩
  have hcase := at_tree h.inv.apart px py (L := Y) (by rw [← hY]; exact flR_perm hp)
  obtain ⟨o, ho⟩ : ∃ o, atX P px py = o := ⟨_, rfl⟩
  rw [ho] at hcase ⊢
  have HY := hid hY
  have HCS := hid hcase
  have HT := hid ht
  have HD := hid hd
  have HW1 : Hid (l < w.heap.size) := hid h.blk.lt
  obtain ⟨-, c1, -⟩ := h.c3
  clear h hY hcase ho ht hd hp
  refine (callsIn_wide (n := 5)).1 ?_
  refine callsIn_of_wp_marks Tryz.func15 rfl trivial ?_ rfl
  simp only [Tryz.ntmps15, List.size_toArray, List.length_cons, List.length_nil, Nat.reduceAdd, Nat.reduceSub, Array.replicate_succ, Array.replicate_zero, List.push_toArray, List.append_toArray, List.nil_append, List.cons_append]
  have hc1 : ((w.alloc (.cells #[.int .i64 0] 3)).alloc (.cells #[.bool false] 4)).cell? ⟨l, 1, none⟩ = some (.pointer (some ⟨t, 0, none⟩)) := cellOf_belowR (Below.next (Below.new _ _) (Below.new _ _)) c1
  gi_wp2_with (refine ⟨trivial, ?_⟩; refine (callsIn_wide.2 (rt_At _ t px py)).mono ?_; rintro e w1 ⟨bT, bI, bx, bY, rfl, hT, hI, hx, hy, hb⟩)
  obtain ⟨w2, hw2⟩ : ∃ w2, w2 = (w.alloc (.cells #[.int .i64 0] 3)).alloc (.cells #[.bool false] 4) := ⟨_, rfl⟩
  rw [← hw2] at hb
  obtain ⟨b7, hb7⟩ : ∃ z, z = w.heap.size + 1 := ⟨_, rfl⟩
  obtain ⟨b6, hb6⟩ : ∃ z, z = w.heap.size := ⟨_, rfl⟩
  have hz1 : (World.alloc w (.cells #[.int .i64 0] 3)).heap.size = w.heap.size + 1 := by simp
  try rw [← hb7]
  try rw [← hb6]
  have hb2 : Below w.heap.size w w2 := by rw [hw2]; exact Below.next (Below.new _ _) (Below.new _ _)
  have HK6 : Hid (Blk w1 b6 #[.int .i64 0]) := hid ((show Blk w2 b6 #[.int .i64 0] by rw [hw2, hb6]; exact (Blk.new _ _ _).below (Below.new _ _)).below hb)
  have HK7 : Hid (Blk w1 b7 #[.bool false]) := hid ((show Blk w2 b7 #[.bool false] by rw [hw2, hb7, ← hz1]; exact Blk.new _ _ _).below hb)
  have HB1 := hid (Below.next hb2 hb)
  have HZ : Hid (b6 = w.heap.size ∧ b7 = w.heap.size + 1 ∧ b7 < w1.heap.size) := hid (by have := HK7.out.lt; omega)
  have HT1 := hid (HT.out.below HB1.out)
  have HTI := hid (And.intro hT (And.intro hI (And.intro hx hy)))
  clear hw2 hb hb6 hb7 hz1 hb2 hT hI hx hy hc1 c1
  have hl1 : w.heap.size ≤ w1.heap.size := HB1.out.size
  refine wpIn_rangeFunc_ownH (F := Fence.wide) (n := 5) (α := Tg) rfl (by omega) (gf := 74) (lb := #[.pointer (some ⟨bT, 0, none⟩), .pointer (some ⟨bI, 0, none⟩)]) rfl trivial (enters_of Tryz.func74 (by kernel_rfl) rfl)
    (stops_where bT bI t d 57 n _ w1.heap.size #[] #[.pointer (some ⟨bx, 0, none⟩), .pointer (some ⟨bY, 0, none⟩)] (tHolds px py) w1 (Nat.le_refl _) HTI.out.1 HTI.out.2.1 HT1.out (fun k hk => HT1.out.lt k (List.mem_cons_of_mem _ hk)) (by have := HD.out; omega) (test_At _ _ _ px py bx bY HTI.out.2.2.1 HTI.out.2.2.2 HTI.out.2.2.1.lt HTI.out.2.2.2.lt))
    (fun h k => h.trans k) (fun W l o o' hlo ho hc _ => KeepR.put (Nat.le_refl _) W l o o' hlo ho hc) (Below.refl _ _) (fun _ => rfl)
    (fun pre W => (Blk W b6 #[.int .i64 0] ∧ Blk W b7 #[.bool false] ∧ pre = []) ∧ Below w.heap.size w W ∧ w1.heap.size ≤ W.heap.size)
    (fun c pre W => (c = .ret ∧ ∃ r id, Blk W b6 #[.int .i64 id] ∧ Blk W b7 #[.bool true] ∧ pre = [(r, id)]) ∧ Below w.heap.size w W ∧ w1.heap.size ≤ W.heap.size)
    ?hI ?hIx ?h0
    (fun z a' W => a' = { tmps := #[.pointer (some ⟨l, 0, none⟩), .int .i64 px, .int .i64 py, undef, undef, undef, .pointer (some ⟨b6, 0, none⟩), .pointer (some ⟨b7, 0, none⟩), undef, .int .i64 z.2, .pointer (some ⟨l, 0, none⟩), .pointer (some ⟨l, 0, none⟩), .pointer (some ⟨l, 1, none⟩), .pointer (some ⟨t, 0, none⟩), .int .i64 px, .int .i64 py, itV bT bI, rV z.1, .int .i64 z.2, undef], defers := [] })
    ?hAx ?assign ?body ?done ?stop
  case hI =>
    rintro pre W W' row ⟨⟨h1, h2, h3⟩, hb, hz⟩ hg hr
    exact ⟨⟨own_blkR hg hr h1, own_blkR hg hr h2, h3⟩, hb.grown hg hb.size (fun j hj => by have := (hr j hj).1; omega), Nat.le_trans hz hg.size⟩
  case hIx =>
    rintro c pre W W' row ⟨⟨h1, r, id, h2, h3, h4⟩, hb, hz⟩ hg hr
    exact ⟨⟨h1, r, id, own_blkR hg hr h2, own_blkR hg hr h3, h4⟩, hb.grown hg hb.size (fun j hj => by have := (hr j hj).1; omega), Nat.le_trans hz hg.size⟩
  case h0 => exact ⟨⟨HK6.out, HK7.out, rfl⟩, HB1.out, Nat.le_refl _⟩
  case hAx =>
    rintro z a' u W W' row h1 hg hr
    exact h1
  case assign =>
    rintro l pre ⟨⟨zx, zy, za, zb⟩, zv⟩ W K hI hK
    gi_wp2
    exact hK _ _ ((KeepsOthers.refl _).from _) (KeepR.refl _ _ _) hI rfl
  case body =>
    rintro l pre ⟨⟨zx, zy, za, zb⟩, zv⟩ a' W hl hrec hI rfl hlen
    have HI2 := hid hI
    have k6 : W.cell? ⟨b6, 0, none⟩ = some (.int .i64 0) := by rw [hI.1.1.cell]; rfl
    have k7 : W.cell? ⟨b7, 0, none⟩ = some (.bool false) := by rw [hI.1.2.1.cell]; rfl
    have f6 : W.frozen? ⟨b6, 0, none⟩ = false := hI.1.1.unfrozen 0
    have f7 : W.frozen? ⟨b7, 0, none⟩ = false := hI.1.2.1.unfrozen 0
    have hne : b6 ≠ b7 := by have := HZ.out; omega
    clear hI hlen
    gi_wp2
    have hz := HZ.out
    have hx1 : Blk (W.setCell ⟨b6, 0, none⟩ (.int .i64 zv)) b6 #[.int .i64 zv] := by simpa using HI2.out.1.1.set 0 (.int .i64 zv)
    have hx2 : Blk (W.setCell ⟨b6, 0, none⟩ (.int .i64 zv)) b7 #[.bool false] := HI2.out.1.2.1.upd (Upd.setCell W b6 0 _) (by omega)
    refine ⟨((KeepsOthers.setCell _ _ _).trans (KeepsOthers.setCell _ _ _)).from _, ⟨rfl, (zx, zy, za, zb), zv, hx1.upd (Upd.setCell _ b7 0 _) (by omega), by simpa using hx2.set 0 (.bool true), by rw [HI2.out.1.2.2]; rfl⟩, (HI2.out.2.1.setCell (p := ⟨b6, 0, none⟩) (by show _ ≤ b6; omega) _).setCell (p := ⟨b7, 0, none⟩) (by show _ ≤ b7; omega) _, by have := HI2.out.2.2; simpa using this⟩
  case done =>
    rintro D ys W hD rfl ⟨⟨h1, h2, h3⟩, hb, hz⟩ hK
    rw [HY.out] at h3
    have ho : o = none := by
      rcases HCS.out with ⟨-, e⟩ | ⟨r, id, e, -⟩
      · exact e
      · rw [h3] at e; cases e
    subst ho
    have k6 : W.cell? ⟨b6, 0, none⟩ = some (.int .i64 0) := by rw [h1.cell]; rfl
    have k7 : W.cell? ⟨b7, 0, none⟩ = some (.bool false) := by rw [h2.cell]; rfl
    have f6 : W.frozen? ⟨b6, 0, none⟩ = false := h1.unfrozen 0
    have f7 : W.frozen? ⟨b7, 0, none⟩ = false := h2.unfrozen 0
    have hne : b6 ≠ b7 := by have := HZ.out; omega
    gi_wp2
    have hz0 := HZ.out
    obtain ⟨wz, hwz⟩ : ∃ wz, wz = (W.setCell ⟨b6, 0, none⟩ (.int .i64 0)).setCell ⟨b7, 0, none⟩ (.bool false) := ⟨_, rfl⟩
    try rw [← hwz]
    have hx1 : Blk (W.setCell ⟨b6, 0, none⟩ (.int .i64 0)) b6 #[.int .i64 0] := by simpa using h1.set 0 (.int .i64 0)
    have hx2 : Blk (W.setCell ⟨b6, 0, none⟩ (.int .i64 0)) b7 #[.bool false] := h2.upd (Upd.setCell W b6 0 _) (by omega)
    have hy1 : Blk wz b6 #[.int .i64 0] := by rw [hwz]; exact hx1.upd (Upd.setCell _ b7 0 _) (by omega)
    have hy2 : Blk wz b7 #[.bool false] := by rw [hwz]; simpa using hx2.set 0 (.bool false)
    have hK' : wz.heap[D]? = some (.deferred (some [])) := by rw [hwz]; exact ((KeepsOthers.setCell _ _ _).trans (KeepsOthers.setCell _ _ _)).same D _ hK rfl
    have hbz : Below w.heap.size w wz := by rw [hwz]; exact (hb.setCell (p := ⟨b6, 0, none⟩) (by show _ ≤ b6; omega) _).setCell (p := ⟨b7, 0, none⟩) (by show _ ≤ b7; omega) _
    refine ⟨by simp, .inl ⟨_, _, rfl, run_takeDeferred hK', ?_⟩⟩
    have hc6 : (wz.putObj D (.deferred none)).cell? ⟨b6, 0, none⟩ = some (.int .i64 0) := cell_kept (by rw [hy1.cell]; rfl) (grownBy_putObj' _ D (.deferred none)) (fun r e => by cases e; exact ⟨_, hK', rfl⟩)
    have hc7 : (wz.putObj D (.deferred none)).cell? ⟨b7, 0, none⟩ = some (.bool false) := cell_kept (by rw [hy2.cell]; rfl) (grownBy_putObj' _ D (.deferred none)) (fun r e => by cases e; exact ⟨_, hK', rfl⟩)
    refine ⟨.tuple #[.int .i64 0, .bool false], ?_, rfl, hbz.trans (belowK_b (w := w) (Nat.le_refl _) _ D _ _ (by have := hbz.size; have := HB1.out.size; omega) hK' rfl rfl)⟩
    simp [results, Tryz.f15, go_sem, hc6, hc7]
  case stop =>
    rintro D c pre W hD hpre ⟨⟨rfl, r, id, h2, h3, h4⟩, hb, hz⟩ hK
    rw [HY.out, h4] at hpre
    have ho : o = some id := by
      rcases HCS.out with ⟨e, -⟩ | ⟨r', id', e, e2⟩
      · rw [e] at hpre; simp at hpre
      · rw [e] at hpre
        have := hpre.eq_of_length (by simp)
        simp at this
        rw [e2, this.2]
    subst ho
    gi_wp2
    refine ⟨by simp, .inl ⟨_, _, rfl, run_takeDeferred hK, ?_⟩⟩
    have hc6 : (W.putObj D (.deferred none)).cell? ⟨b6, 0, none⟩ = some (.int .i64 id) := cell_kept (by rw [h2.cell]; rfl) (grownBy_putObj' _ D (.deferred none)) (fun r e => by cases e; exact ⟨_, hK, rfl⟩)
    have hc7 : (W.putObj D (.deferred none)).cell? ⟨b7, 0, none⟩ = some (.bool true) := cell_kept (by rw [h3.cell]; rfl) (grownBy_putObj' _ D (.deferred none)) (fun r e => by cases e; exact ⟨_, hK, rfl⟩)
    refine ⟨.tuple #[.int .i64 id, .bool true], ?_, rfl, hb.trans (belowK_b (w := w) (Nat.le_refl _) _ D _ _ (by have := hb.size; have := HB1.out.size; omega) hK rfl rfl)⟩
    simp [results, Tryz.f15, go_sem, hc6, hc7]
end Go.Proofs.YtjbnfppnmljbmaaGreat
end
section
/- Contract of land's Area. -/
namespace Go.Proofs.YtjbnfppnmljbmaaGreat
open Go.RowKit Go.Deep
open Go.Lib (hid)
set_option linter.unusedVariables false
attribute [local go_sem] Oper.semAt_some

def areaN (r : R4) : Nat := (areaR r).toNat
def areaX (P : List Pl) : Nat := (P.map fun p => areaN p.2).sum
theorem sum_adelL {α : Type} (f : Int → Nat) : ∀ (m : List (Int × α)) (k : Int) (v : α), (m.map (·.1)).Nodup → (k, v) ∈ m → (m.map fun p => f p.1).sum = f k + ((adel m k).map fun p => f p.1).sum
  | [], _, _, _, h => by simp at h
  | (a, b) :: m, k, v, hn, h => by
    simp only [List.map_cons, List.nodup_cons] at hn
    unfold adel
    by_cases hk : a = k
    · subst hk
      rw [List.filter_cons_of_neg (by simp)]
      have : m.filter (fun p => p.1 != a) = m := by
        rw [List.filter_eq_self]
        intro p hp
        have : p.1 ≠ a := fun e => hn.1 (e ▸ List.mem_map_of_mem hp)
        simpa using this
      rw [this]; simp
    · have hm : (k, v) ∈ m := by
        rcases List.mem_cons.1 h with h | h
        · simp at h; exact absurd h.1.symm hk
        · exact h
      have := sum_adelL f m k v hn.2 hm
      unfold adel at this
      rw [List.filter_cons_of_pos (by simpa using hk)]
      simp only [List.map_cons, List.sum_cons]
      omega
theorem sum_le {α : Type} (f : α → Nat) (b : Nat) : ∀ l : List α, (∀ x ∈ l, f x ≤ b) → (l.map f).sum ≤ l.length * b
  | [], _ => by simp
  | a :: l, h => by
    have h1 := h a (by simp)
    have h2 := sum_le f b l (fun x hx => h x (List.mem_cons_of_mem _ hx))
    rw [List.map_cons, List.sum_cons, List.length_cons, Nat.add_mul]
    omega
theorem area_small {S : Int} {r : R4} (h : WithinR r S ∧ r.2.2.1 ≤ 16 ∧ r.2.2.2 ≤ 16) : areaR r = (areaN r : Int) ∧ areaN r ≤ 256 ∧ areaR r = r.2.2.1 * r.2.2.2 := by
  obtain ⟨⟨h1, -⟩, h2, h3⟩ := h
  have e : areaR r = r.2.2.1 * r.2.2.2 := by unfold areaR; rw [if_pos h1]
  unfold RightR at h1
  have h4 : 0 ≤ r.2.2.1 * r.2.2.2 := Int.mul_nonneg (by omega) (by omega)
  have h5 : r.2.2.1 * r.2.2.2 ≤ 16 * 16 := Int.mul_le_mul h2 h3 (by omega) (by omega)
  unfold areaN
  rw [e]
  exact ⟨by omega, by omega, rfl⟩
set_option maxRecDepth 100000 in
set_option maxHeartbeats 4000000 in
theorem land_Area (w : World) (l : Nat) (F : Nat → Prop) (k : Nat) (B : List R4) (P : List Pl) (h : LandIs w l F k B P) : Calls Tryz.prog 30 #[.pointer (some ⟨l, 0, none⟩)] w fun e w' => e = .returned (.int .i64 (areaX P : Int)) ∧ Below w.heap.size w w' := by
  obtain ⟨q, t, mb, Fq, Ft, s, M, h⟩ := h
  obtain ⟨-, -, hc0⟩ := h.c3
  obtain ⟨vs, hvs⟩ : ∃ vs, vs = mapR M := ⟨_, rfl⟩
  obtain ⟨f, hf⟩ : ∃ f : Int → Nat, f = fun k => areaN ((P.lookup k).getD zR) := ⟨_, rfl⟩
  have hlk : ∀ p ∈ M, P.lookup p.1 = some p.2 := fun p hp => (lookup_mem_iff h.inv.sorted.nodup).2 (h.perm.mem_iff.1 hp)
  have hform : ∀ k v, vs.lookup k = some v → ∃ x y a b : Int, v = .agg #[.int .i64 x, .int .i64 y, .int .i64 a, .int .i64 b] ∧ areaR (x, y, a, b) = (f k : Int) ∧ f k ≤ 256 := by
    intro k v hk
    rw [hvs] at hk
    have e : (mapR M).lookup k = (P.lookup k).map rV := by
      unfold mapR
      rw [lookup_map (fun r : R4 => rV r) M k, lookup_perm h.perm h.inv.sorted.nodup]
    rw [e] at hk
    cases hq : P.lookup k with
    | none => rw [hq] at hk; cases hk
    | some r =>
      rw [hq] at hk
      simp only [Option.map_some, Option.some.injEq] at hk
      have ha := area_small (h.inv.within _ (lookup_mem hq))
      obtain ⟨x, y, a, b⟩ := r
      have hfk : f k = areaN (x, y, a, b) := by rw [hf]; simp only [hq, Option.getD_some]
      exact ⟨x, y, a, b, hk.symm, by rw [hfk]; exact ha.1, by rw [hfk]; exact ha.2.1⟩
  have hsum : (vs.map fun p => f p.1).sum = areaX P := by
    have e1 : (vs.map fun p => f p.1) = M.map fun p => areaN p.2 := by
      rw [hvs]; unfold mapR; rw [List.map_map]
      refine List.map_congr_left (fun p hp => ?_)
      show f p.1 = _
      rw [hf]; simp only [hlk p hp, Option.getD_some]
    rw [e1]
    exact (h.perm.map _).sum_nat
  have hle : areaX P ≤ 65536 := by
    have h1 := sum_le (fun p : Pl => areaN p.2) 256 P (fun p hp => (area_small (h.inv.within p hp)).2.1)
    have h2 := h.inv.len
    unfold areaX
    have : P.length * 256 ≤ 256 * 256 := Nat.mul_le_mul_right _ h2
    omega
  obtain ⟨total, ht⟩ : ∃ total, areaX P = total := ⟨_, rfl⟩
  rw [ht] at hsum hle ⊢
  have HMAP : Hid (MapE w mb vs) := hid (by rw [hvs]; exact h.map)
  have HFORM := hid hform
  have HSUM := hid hsum
  have HLE := hid hle
  clear h hvs hf hlk hform hsum hle ht
  go_enter Tryz.func30, Tryz.ntmps30
  go_wp2_with (at_range; refine wpList_rangeE _ rfl _ rfl Tryz.underlying74 rfl HMAP.out ?_; intro w2 hr2 hb2 hs2)
  go_frame
  have HR2 := hid hr2
  have HB2 := hid hb2
  clear hr2 hb2 hs2 hc0
  go_loopw [3] (fun v3 wr => ∃ (left : List (Int × Value)) (n : Nat), v3 = .int .i64 (n : Int) ∧ n ≤ 65536 ∧ Hid (RangeE wr w.heap.size mb vs left) ∧ Hid (n + (left.map fun p => f p.1).sum = total) ∧ Hid (Below w.heap.size w wr)) (fun _ wr => rangeN wr w.heap.size mb)
  case atStart => exact ⟨vs, 0, rfl, by omega, HR2, hid (by rw [HSUM.out]; omega), HB2⟩
  case round =>
    clear HR2 HB2
    obtain ⟨left, n, rfl, hn, HR, HS, HB⟩ := hrel
    have HLEN := hid HR.out.len
    by_cases hl0 : left = []
    · subst hl0
      have hnt : n = total := by have := HS.out; simpa using this
      subst hnt
      go_wp2_with (at_next; refine wpList_nextE _ rfl _ rfl rfl HR.out (fun _ => ?_) (fun k v w' hin => absurd hin (by simp)))
      go_ret
      exact ⟨rfl, HB.out⟩
    · go_wp2_with (at_next; refine wpList_nextE _ rfl _ rfl rfl HR.out (fun h0 => absurd h0 hl0) (fun k v w' hin hlk hr' hu' hs' hen => ?_); (obtain ⟨vx, vy, va, vb, rfl, har, hf256⟩ := HFORM.out k v hlk); (have HIN := hid hin); (have HR3 := hid hr'); (have HU3 := hid hu'); (have HAR := hid har); (have HSTEP := hid (sum_adelL f left k _ HR.out.sub.2 hin)); (have hbd : n + f k ≤ 65536 := by have := HSTEP.out; have := HS.out; have := HLE.out; omega); clear hin hlk hr' hu' hs' har)
      obtain ⟨w5, hw5⟩ : ∃ w5, w5 = World.alloc w' (.cells #[.int .i64 vx, .int .i64 vy, .int .i64 va, .int .i64 vb] 25) := ⟨_, rfl⟩
      rw [← hw5]
      have hb5 : Below w'.heap.size w' w5 := by rw [hw5]; exact Below.new _ _
      have har := rect_Area4 vx vy va vb w5
      rw [HAR.out] at har
      have HR5 := hid har
      have HB5 := hid hb5
      clear hw5 hb5 har
      refine HR5.out.mono ?_
      rintro e w6 ⟨rfl, hb6⟩
      have HB6 := hid (Below.next HB5.out hb6)
      clear hb6
      have hw1 := HR3.out.lt
      have hw2 := HR3.out.map.lt
      have HRN := hid (HR3.out.upd (S := fun _ => False) (Upd.of_below HB6.out) (fun q => q) (fun q => q))
      clear hw1 hw2 hen
      go_wp2_with fail
      go_roundw
      case rel => exact ⟨adel left k, n + f k, by go_num, hbd, HRN, hid (by have := HSTEP.out; have := HS.out; omega), hid ((HB.out.trans (HU3.out.below HB.out.size (fun j _ q => by omega))).trans (HB6.out.mono (by have h1 := HB.out.size; have h2 := HU3.out.size; omega)))⟩
      case measure => rw [HRN.out.len, HLEN.out]; exact adel_len HIN.out
end Go.Proofs.YtjbnfppnmljbmaaGreat
end
section
/- Law 19: ref, made, awake. -/
namespace Go.Proofs.YtjbnfppnmljbmaaGreat
open Go.RowKit Go.Deep
open Go.Lib (hid)
set_option linter.unusedVariables false
attribute [local go_sem] Oper.semAt_some

theorem own_kept19 {W W' : World} {row : Option Nat} {base : Nat} {e : TypeId} {size : Nat} {v : Value} {n : Nat} {xs : List Value} (hg : W.grownBy W' row) (hr : ∀ k, v.ownBlock = some k → row ≠ some k) (h : W.ownsRow base e size v n xs) : W'.ownsRow base e size v n xs :=
  Upd.owns (Upd.of_grown hg) h (fun k hk q => hr k hk q)
theorem results_tct {fn : Func} {a b c : Tmp} {t : TypeId} (h : fn.results = #[.tmp a, .cell b t, .tmp c]) (tmps : Array Value) (P : Program) (w : World) {x : Addr} {v : Value} (ha : tmps.getD b undef = .pointer (some x)) (hl : (loadVar t x).run P w = .ok v w) : (results fn tmps).run P w = .ok (.tuple #[tmps.getD a undef, v, tmps.getD c undef]) w := by
  have ha' : tmps[b]?.getD undef = .pointer (some x) := by rw [← ha]; simp
  simp [results, h, ha', asAddr, hl, Result.andThen]
set_option maxRecDepth 100000 in
theorem law19_ref (x y a b : Int) (w : World) : Calls Tryz.prog 11 #[.agg #[.int .i64 x, .int .i64 y, .int .i64 a, .int .i64 b]] w fun e w' => e = .returned (.agg #[.int .i64 x, .int .i64 y, .int .i64 a, .int .i64 b]) ∧ Below w.heap.size w w' := by
  go_enter Tryz.func11, Tryz.ntmps11
  go_upto_region 1 with fail
  generalize hW : World.alloc (World.alloc w _) _ = w1
  obtain ⟨g, hg⟩ : ∃ g, g = w.heap.size := ⟨_, rfl⟩
  obtain ⟨gr, hgr⟩ : ∃ go, go = w.heap.size + 1 := ⟨_, rfl⟩
  have hz : (World.alloc w (.cells #[.int .i64 x, .int .i64 y, .int .i64 a, .int .i64 b] 25)).heap.size = w.heap.size + 1 := by simp
  try rw [hz]
  try rw [← hgr]
  try rw [← hg]
  have hb : Below w.heap.size w w1 := by rw [← hW]; exact Below.next (Below.new _ _) (Below.new _ _)
  have HX : Hid (Blk w1 g #[.int .i64 x, .int .i64 y, .int .i64 a, .int .i64 b]) := hid (by rw [← hW, hg]; exact (Blk.new w _ _).below (Below.new _ _))
  have HR : Hid (Blk w1 gr #[.int .i64 0, .int .i64 0, .int .i64 0, .int .i64 0]) := hid (by rw [← hW, hgr, ← hz]; exact Blk.new _ _ _)
  have HB := hid hb
  have HG := hid hgr
  clear hW hg hgr hz hb
  obtain ⟨c0, c1, c2, c3⟩ := HX.out.c4r
  obtain ⟨y0, y1, y2, y3⟩ := HR.out.c4r
  obtain ⟨f0, f1, f2, f3⟩ := HR.out.f4r
  obtain ⟨w3, hw3, hk3, hu3⟩ := set4r HR.out (.int .i64 x) (.int .i64 y) (.int .i64 a) (.int .i64 b)
  have HW3 := hid hw3
  have HK3 := hid hk3
  have HB3 := hid (HB.out.trans (hu3.below HB.out.size (fun k _ q => by rw [q]; have := HG.out; omega)))
  clear hw3 hk3 hu3
  go_wp2_with fail
  try rw [← HW3.out]
  obtain ⟨z0, z1, z2, z3⟩ := HK3.out.c4r
  refine bodyPost_ret (results_cell1 rfl _ _ _ rfl (by go_simp; rfl)) rfl ?_
  exact ⟨rfl, HB3.out⟩
theorem T_rect2 : SlT Tryz.prog 29 38 (.agg #[.int .i64 0, .int .i64 0, .int .i64 0, .int .i64 0]) 4 32 := SlT.mk' Tryz.underlying29 (by kernel_rfl) rfl (by decide) (by decide)
theorem lit_rect2 (x y a b : Int) (W : World) : (Instr.buildSlice 29 1 #[(0, .agg #[.int .i64 x, .int .i64 y, .int .i64 a, .int .i64 b])]).run Tryz.prog W = .ok (.slice (some ⟨W.heap.size, 0, none⟩) 1 1) (W.alloc (.cells #[.int .i64 x, .int .i64 y, .int .i64 a, .int .i64 b] 38)) := by kernel_rfl
theorem lit_rect1 (x y a b : Int) (W : World) : (Instr.buildSlice 22 1 #[(0, .agg #[.int .i64 x, .int .i64 y, .int .i64 a, .int .i64 b])]).run Tryz.prog W = .ok (.slice (some ⟨W.heap.size, 0, none⟩) 1 1) (W.alloc (.cells #[.int .i64 x, .int .i64 y, .int .i64 a, .int .i64 b] 25)) := by kernel_rfl
def xV (S : Int) (vs vp : Value) : Value := .agg #[.int .i64 S, vs, vp]
/-- what made gives -/
def MadePost (w : World) (S : Int) (Bs : List R4) (e : Ending) (w' : World) : Prop :=
  ∃ (lv vs : Value) (E : Int), e = .returned (.tuple #[lv, xV S vs (.slice none 0 0), .int .i64 E]) ∧ SlR w' vs Bs ∧ (∀ b, vs.ownBlock = some b → w.heap.size ≤ b ∧ b < w'.heap.size) ∧ Below w.heap.size w w' ∧
    ((okL S Bs ∧ E = 0 ∧ ∃ l k F, S = sd k ∧ lv = .pointer (some ⟨l, 0, none⟩) ∧ LandIs w' l F k Bs [] ∧ (∀ b, F b → w.heap.size ≤ b ∧ vs.ownBlock ≠ some b)) ∨ (¬ okL S Bs ∧ E = 11 ∧ lv = .pointer none))
/-- what New gave, kept -/
def MdK (w wr : World) (S : Int) (Bs : List R4) (lv : Value) (E : Int) (N : Nat) : Prop := (okL S Bs ∧ E = 0 ∧ ∃ l k F, S = sd k ∧ lv = .pointer (some ⟨l, 0, none⟩) ∧ LandIs wr l F k Bs [] ∧ (∀ b, F b → w.heap.size < b ∧ b < N)) ∨ (¬ okL S Bs ∧ E = 11 ∧ lv = .pointer none)
theorem MdK.upd {w wr wx : World} {S : Int} {Bs : List R4} {lv : Value} {E : Int} {N : Nat} {U : Nat → Prop} (h : MdK w wr S Bs lv E N) (hu : Upd U wr wx) (hU : ∀ b, U b → N ≤ b ∨ b ≤ w.heap.size) : MdK w wx S Bs lv E N := by
  rcases h with ⟨h1, h2, l, k, F, h3, h4, h5, h6⟩ | h
  · exact .inl ⟨h1, h2, l, k, F, h3, h4, h5.upd hu (fun b y z => by have := hU b y; have := h6 b z; omega), h6⟩
  · exact .inr h
structure MdI (w wr : World) (S : Int) (Bs : List R4) (lv : Value) (E : Int) (g5 g9 N : Nat) (j : Nat) (v : Value) : Prop where
  k5 : Blk wr g5 #[.int .i64 0, .slice none 0 0, .slice none 0 0]
  k9 : Blk wr g9 #[.int .i64 S, v, .slice none 0 0]
  own : wr.ownsRow N 38 4 v (Bs.take j).length (svR (Bs.take j))
  land : MdK w wr S Bs lv E g9
  below : Below w.heap.size w wr
  size : N ≤ wr.heap.size
theorem MdI.next {w wr wD wE : World} {S : Int} {Bs : List R4} {lv : Value} {E : Int} {g5 g9 N j : Nat} {v v9 : Value} {r : R4} (h : MdI w wr S Bs lv E g5 g9 N j v) (h5 : g5 = w.heap.size) (h59 : g5 < g9) (h9 : N = g9 + 1) (htk : Bs.take (j + 1) = Bs.take j ++ [r])
    (hD : Below wr.heap.size wr wD) (hg : wD.grownBy wE v.ownBlock) (ho : wE.ownsRow N 38 4 v9 (Bs.take j ++ [r]).length (svR (Bs.take j ++ [r]))) :
    MdI w (wE.setCell ⟨g9, 1, none⟩ v9) S Bs lv E g5 g9 N (j + 1) v9 := by
  have hz := h.below.size
  have hzD := hD.size
  have hzE := hg.size
  have hsz := h.size
  have huW : Upd (fun k => v.ownBlock = some k) wr wE := (Upd.of_below hD).trans (Upd.of_grown hg) (fun _ _ q => q)
  have huS := Upd.setCell wE g9 1 v9
  have hu : Upd (fun k => v.ownBlock = some k ∨ k = g9) wr (wE.setCell ⟨g9, 1, none⟩ v9) := (huW.mono (fun _ _ q => .inl q)).trans huS (fun _ _ q => .inr q)
  have hlt := fun k hk => (h.own.lt k hk).1
  refine ⟨?_, ?_, ?_, h.land.upd hu (fun b y => ?_), ?_, ?_⟩
  · exact h.k5.upd hu (fun q => by
      rcases q with q | q
      · have := hlt _ q; omega
      · omega)
  · have h1 := (h.k9.upd huW (fun q => by have := hlt _ q; omega)).set 1 v9
    simpa using h1
  · rw [htk]
    exact Upd.owns huS ho (fun k hk q => by have := (ho.lt k hk).1; omega)
  · rcases y with y | y
    · have := hlt b y; omega
    · omega
  · refine Below.setCell (p := ⟨g9, 1, none⟩) ?_ (by show _ ≤ g9; omega) _
    exact (h.below.trans (hD.mono hz)).grown hg (by omega) (fun k hk => by have := hlt k hk; omega)
  · have := huS.size; omega
theorem set3v {x : World} {g : Nat} {c0 c1 c2 : Value} (h : Blk x g #[c0, c1, c2]) (u0 u1 u2 : Value) : ∃ wz, wz = ((x.setCell ⟨g, 0, none⟩ u0).setCell ⟨g, 1, none⟩ u1).setCell ⟨g, 2, none⟩ u2 ∧ Blk wz g #[u0, u1, u2] ∧ Upd (fun k => k = g) x wz :=
  ⟨_, rfl, by simpa using ((h.set 0 u0).set 1 u1).set 2 u2, ((Upd.setCell x g 0 u0).trans (Upd.setCell _ g 1 u1) (fun _ _ q => q)).trans (Upd.setCell _ g 2 u2) (fun _ _ q => q)⟩
theorem Blk.c3v {w : World} {g : Nat} {c0 c1 c2 : Value} (h : Blk w g #[c0, c1, c2]) : w.cell? ⟨g, 0, none⟩ = some c0 ∧ w.cell? ⟨g, 1, none⟩ = some c1 ∧ w.cell? ⟨g, 2, none⟩ = some c2 :=
  ⟨by rw [h.cell]; rfl, by rw [h.cell]; rfl, by rw [h.cell]; rfl⟩
theorem MdI.post {w wr wz : World} {S : Int} {Bs : List R4} {lv : Value} {E : Int} {g5 g9 N j : Nat} {v : Value} (h : MdI w wr S Bs lv E g5 g9 N j v) (hj : Bs.take j = Bs) (h5 : g5 = w.heap.size) (h59 : g5 < g9) (h9 : N = g9 + 1) (hu : Upd (fun b => b = g5) wr wz) (hF : ∀ b, b = g5 → N ≤ b ∨ b < g9) (hland : MdK w wz S Bs lv E g9) : MadePost w S Bs (.returned (.tuple #[lv, xV S v (.slice none 0 0), .int .i64 E])) wz := by
  have hz := hu.size
  have ho : wz.ownsRow N 38 4 v Bs.length (svR Bs) := by
    have := h.own
    rw [hj] at this
    exact Upd.owns hu this (fun k hk q => by have := (h.own.lt k hk).1; omega)
  refine ⟨lv, v, E, rfl, SlR.of_own ho, fun b hb => ⟨by have := (ho.lt b hb).1; omega, (ho.lt b hb).2⟩, h.below.trans (hu.below h.below.size (fun k _ q => by omega)), ?_⟩
  rcases hland with ⟨h1, h2, l, k, F, h3, h4, h6, h7⟩ | q
  · exact .inl ⟨h1, h2, l, k, F, h3, h4, h6, fun b y => ⟨Nat.le_of_lt (h7 b y).1, fun q => by have := (ho.lt b q).1; have := (h7 b y).2; omega⟩⟩
  · exact .inr q
def MdR (w : World) (S : Int) (Bs : List R4) (lv : Value) (E : Int) (g5 g9 N n : Nat) (v22 : Value) (wr : World) : Prop := ∃ (j : Nat) (v : Value), v22 = .int .i64 (j : Int) ∧ j ≤ n ∧ Hid (MdI w wr S Bs lv E g5 g9 N j v)
set_option maxRecDepth 100000 in
set_option maxHeartbeats 8000000 in
theorem law19_made (S : Int) (vb : Value) (Bs : List R4) (w : World) (hs : SlR w vb Bs) (hl : Bs.length ≤ 1000) : Calls Tryz.prog 19 #[.int .i64 S, vb] w (MadePost w S Bs) := by
  obtain ⟨av, cv, hv, -⟩ := id hs
  obtain ⟨n, hn⟩ : ∃ n, Bs.length = n := ⟨_, rfl⟩
  rw [hn] at hv hl
  subst hv
  have HS := hid hs
  have HN := hid hn
  clear hs hn
  go_enter Tryz.func19, Tryz.ntmps19
  go_upto_region 1 with fail
  obtain ⟨w1, hw1⟩ : ∃ w1, w1 = w.alloc (.cells #[.int .i64 0, .slice none 0 0, .slice none 0 0] 32) := ⟨_, rfl⟩
  rw [← hw1]
  obtain ⟨g5, hg⟩ : ∃ g, g = w.heap.size := ⟨_, rfl⟩
  rw [← hg]
  have hb1 : Below w.heap.size w w1 := by rw [hw1]; exact Below.new _ _
  have HX1 : Hid (Blk w1 g5 #[.int .i64 0, .slice none 0 0, .slice none 0 0]) := hid (by rw [hw1, hg]; exact Blk.new _ _ _)
  have HB1 := hid hb1
  have HG5 := hid hg
  clear hw1 hg hb1
  go_wp2_with fail
  refine (land_New S _ Bs w1 (HS.out.below HB1.out) (by rw [HN.out]; exact hl)).mono ?_
  intro e w2 hq
  have hg1 := HX1.out.lt
  obtain ⟨lv, E, rfl, hmd, hb2⟩ : ∃ (lv : Value) (E : Int), e = .returned (.tuple #[lv, .int .i64 E]) ∧ MdK w w2 S Bs lv E w2.heap.size ∧ Below w1.heap.size w1 w2 := by
    rcases hq with ⟨h1, l, k, h2, rfl, h3, h4⟩ | ⟨h1, rfl, h4⟩
    · exact ⟨_, _, rfl, .inl ⟨h1, rfl, l, k, fun b => w.heap.size < b ∧ b < w2.heap.size, h2, rfl, h3.weaken (fun b y z => ⟨by have := HG5.out; omega, z⟩), fun b y => y⟩, h4⟩
    · exact ⟨_, _, rfl, .inr ⟨h1, rfl, rfl⟩, h4⟩
  have HMD := hid hmd
  have HB2 := hid (Below.next HB1.out hb2)
  have HX2 := hid (HX1.out.below hb2)
  have HZ2 : Hid (g5 < w2.heap.size) := hid HX2.out.lt
  have HLV : Hid ((∃ po, lv = .pointer po)) := hid (by
    rcases hmd with ⟨-, -, l, k, F, -, e, -⟩ | ⟨-, -, e⟩
    · exact ⟨_, e⟩
    · exact ⟨_, e⟩)
  obtain ⟨po, rfl⟩ := HLV.out
  clear hq hmd hb2 hg1
  go_upto_region 3 with fail
  obtain ⟨w3, hw3⟩ : ∃ w3, w3 = w2.alloc (.cells #[.int .i64 S, .slice none 0 0, .slice none 0 0] 32) := ⟨_, rfl⟩
  rw [← hw3]
  obtain ⟨g9, hg9⟩ : ∃ g, g = w2.heap.size := ⟨_, rfl⟩
  rw [← hg9]
  have hb3 : Below w2.heap.size w2 w3 := by rw [hw3]; exact Below.new _ _
  have hk9 : Blk w3 g9 #[.int .i64 S, .slice none 0 0, .slice none 0 0] := by rw [hw3, hg9]; exact Blk.new _ _ _
  have hz3 : w3.heap.size = g9 + 1 := by rw [hw3, hg9]; simp
  have HI0 : Hid (MdR w S Bs (.pointer po) E g5 g9 (g9 + 1) n (.int .i64 0) w3) := hid ⟨0, _, rfl, by omega, hid ⟨HX2.out.below hb3, hk9, by simpa [svR] using World.ownsRow_nil _ _ _ _, by rw [hg9]; exact HMD.out.upd (Upd.of_below (S := fun _ => False) hb3) (fun b y => y.elim), Below.next HB2.out hb3, by omega⟩⟩
  have HG : Hid (g5 = w.heap.size ∧ g5 < g9) := hid ⟨HG5.out, by have := HZ2.out; omega⟩
  clear hw3 hg9 hb3 hk9 hz3
  go_wp2_with fail
  go_loopw [22] (fun v22 wr => MdR w S Bs (.pointer po) E g5 g9 (g9 + 1) n v22 wr) (fun v22 _ => n - (intOf v22).toNat)
  case atStart => exact HI0.out
  case round =>
    clear HI0
    obtain ⟨j, v, rfl, hj, HI⟩ := hrel
    by_cases hlt : j < n
    · have j1 : (j : Int) < (n : Int) := by omega
      have j0 : (0 : Int) ≤ (j : Int) := by omega
      have j9 : (j : Int) < 1000 := by omega
      obtain ⟨a', c', e', hrd, -⟩ := HS.out.below HI.out.below
      simp only [Value.slice.injEq] at e'
      obtain ⟨rfl, -, rfl⟩ := e'
      obtain ⟨b0, off, r, rfl, d0, d1, d2, d3, hat, -, htk⟩ := hrd.four j (by rw [HN.out]; exact hlt)
      have HTK := hid htk
      obtain ⟨x1, x2, x3, x4⟩ := r
      simp only at d0 d1 d2 d3
      obtain ⟨av2, cv2, hv2, -⟩ := ownsRow.rd HI.out.own
      have hlj : (Bs.take j).length = j := by rw [List.length_take, HN.out]; omega
      rw [hlj] at hv2
      subst hv2
      have HLJ := hid hlj
      clear hrd hat htk hlj
      go_upto_region 6 with fail
      obtain ⟨w5, hw5⟩ : ∃ w5, w5 = wr.alloc (.cells #[.int .i64 x1, .int .i64 x2, .int .i64 x3, .int .i64 x4] 25) := ⟨_, rfl⟩
      rw [← hw5]
      have hb5 : Below wr.heap.size wr w5 := by rw [hw5]; exact Below.new _ _
      obtain ⟨bb, hbb⟩ : ∃ bb, bb = wr.heap.size := ⟨_, rfl⟩
      rw [← hbb]
      have hO5 : Blk w5 bb #[.int .i64 x1, .int .i64 x2, .int .i64 x3, .int .i64 x4] := by rw [hw5, hbb]; exact Blk.new _ _ _
      obtain ⟨U, hU⟩ : ∃ U : Nat → Prop, U = fun k => Value.ownBlock (.slice av2 j cv2) = some k := ⟨_, rfl⟩
      have hUb : ¬ U bb := by rw [hU]; intro q; have := (HI.out.own.lt bb q).2; omega
      have hU9 : ¬ U g9 := by rw [hU]; intro q; have := (HI.out.own.lt g9 q).1; omega
      have HU := hid hU
      have HB5 := hid hb5
      have k9 := (HI.out.k9.below hb5)
      obtain ⟨y0, y1, y2, y3⟩ := hO5.c4r
      have c9 : w5.cell? ⟨g9, 1, none⟩ = some (.slice av2 j cv2) := k9.c3v.2.1
      have f9 : ∀ z, Upd U w5 z → z.frozen? ⟨g9, 1, none⟩ = false := fun z hz => (k9.upd hz hU9).unfrozen 1
      replace c9 := fun (z : World) (hz : Upd U w5 z) => hz.cell c9 hU9
      replace y0 := fun (z : World) (hz : Upd U w5 z) => hz.cell y0 hUb
      replace y1 := fun (z : World) (hz : Upd U w5 z) => hz.cell y1 hUb
      replace y2 := fun (z : World) (hz : Upd U w5 z) => hz.cell y2 hUb
      replace y3 := fun (z : World) (hz : Upd U w5 z) => hz.cell y3 hUb
      have hyb := (Below.refl w5.heap.size w5).drew
      have hyd : Upd U w5 w5.drew := Upd.of_below hyb
      clear hw5 hb5 hbb d0 d1 d2 d3 hO5 hU hUb hU9 k9
      refine wp_region_kept [7] (fun z => Upd U w5 z) (by kernel_rfl) (by assumption) (fun hH => ?_)
      refine wpK.take (i := 0) (v := _) (by simp only [List.getElem?_toArray, List.getElem?_cons_succ, List.getElem?_cons_zero]; rfl) (by kernel_rfl) (by kernel_rfl) (by kernel_rfl) (by kernel_rfl) (by kernel_rfl) (by exact fun _ _ _ h => h) (by first | exact Or.inl ⟨by rfl, by intro w hSw; go_simp; try with_reducible rfl⟩ | exact Or.inr ⟨by rfl, rfl⟩) hH ?_
      try simp only [Act.put, List.setIfInBounds_toArray, List.set_cons_zero, List.set_cons_succ]
      refine wpK.take (i := 1) (v := _) (by simp only [List.getElem?_toArray, List.getElem?_cons_succ, List.getElem?_cons_zero]; rfl) (by kernel_rfl) (by kernel_rfl) (by kernel_rfl) (by kernel_rfl) (by kernel_rfl) (by exact fun _ _ _ h => h) (by first | exact Or.inl ⟨by rfl, by intro w hSw; go_simp; try with_reducible rfl⟩ | exact Or.inr ⟨by rfl, rfl⟩) hH ?_
      try simp only [Act.put, List.setIfInBounds_toArray, List.set_cons_zero, List.set_cons_succ]
      refine wpK.take (i := 2) (v := _) (by simp only [List.getElem?_toArray, List.getElem?_cons_succ, List.getElem?_cons_zero]; rfl) (by kernel_rfl) (by kernel_rfl) (by kernel_rfl) (by kernel_rfl) (by kernel_rfl) (by exact fun _ _ _ h => h) (by first | exact Or.inl ⟨by rfl, by intro w hSw; go_simp; try with_reducible rfl⟩ | exact Or.inr ⟨by rfl, rfl⟩) hH ?_
      try simp only [Act.put, List.setIfInBounds_toArray, List.set_cons_zero, List.set_cons_succ]
      refine wpK.step (i := 3) (by kernel_rfl) (by simp only [List.getElem?_toArray, List.getElem?_cons_succ, List.getElem?_cons_zero]; rfl) (fun K hK => ?_)
      go_simp
      (refine (law19_ref x1 x2 x3 x4 _).mono ?_); rintro e w6 ⟨rfl, hb6⟩; (have hbb6 := Below.next hyb hb6); (have hk6 : Upd U w5 w6 := Upd.of_below hbb6); go_simp
      refine hK.out _ _ (by assumption) (fun hH => ?_)
      clear hK K
      try simp only [Act.put, List.setIfInBounds_toArray, List.set_cons_zero, List.set_cons_succ]
      refine wpK.step (i := 4) (by kernel_rfl) (by simp only [List.getElem?_toArray, List.getElem?_cons_succ, List.getElem?_cons_zero]; rfl) (fun K hK => ?_)
      refine step_lit (us := #[.int .i64 x1, .int .i64 x2, .int .i64 x3, .int .i64 x4]) (e := 38) (size := 4) (ps := #[(0, .agg #[.int .i64 x1, .int .i64 x2, .int .i64 x3, .int .i64 x4])]) rfl rfl (by simp only [List.map_toArray, List.map_cons, List.map_nil]; rfl) (lit_rect2 x1 x2 x3 x4 _) rfl (by omega) ?_; intro g8 wD hg8 hb8 hs8 hown8; have hbbD := Below.next hbb6 hb8; have hk8 : Upd U w5 wD := Upd.of_below hbbD
      refine hK.out _ _ (by assumption) (fun hH => ?_)
      clear hK K
      try simp only [Act.put, List.setIfInBounds_toArray, List.set_cons_zero, List.set_cons_succ]
      refine wpK.step (i := 5) (by kernel_rfl) (by simp only [List.getElem?_toArray, List.getElem?_cons_succ, List.getElem?_cons_zero]; rfl) (fun K hK => ?_)
      obtain ⟨a8, c8, e8, -, -, hr8, hcz8⟩ := ownsRow.rd hown8; simp only [Value.slice.injEq] at e8; obtain ⟨rfl, -, rfl⟩ := e8; refine step_appN T_rect2 rfl _ _ rfl (g9 + 1) (.slice av2 j cv2) j (svR (Bs.take j)) rfl (owns_below (by have := HI.out.own; rw [HLJ.out] at this; exact this) (Below.next HB5.out hbbD)) (some ⟨g8, 0, none⟩) 1 1 _ rfl rfl (fun h => nomatch h) hr8 (by intro u hu; simp at hu; rcases hu with rfl | rfl | rfl | rfl <;> rfl) (by omega) (by have h1 := (Below.next HB5.out hbbD).size; have h2 := HI.out.size; omega) ?_; intro v9 wE hown9 hg9 hnil9 hwh9; have hk9 : Upd U w5 wE := (Upd.of_below hbbD).trans (Upd.of_grown hg9) (fun k _ q => by rw [HU.out]; exact q); obtain ⟨a9, c9', he9, -⟩ := ownsRow.rd hown9; subst he9
      refine hK.out _ _ (by assumption) (fun hH => ?_)
      clear hK K
      try simp only [Act.put, List.setIfInBounds_toArray, List.set_cons_zero, List.set_cons_succ]
      refine wpK.take (i := 6) (v := _) (by simp only [List.getElem?_toArray, List.getElem?_cons_succ, List.getElem?_cons_zero]; rfl) (by kernel_rfl) (by kernel_rfl) (by kernel_rfl) (by kernel_rfl) (by kernel_rfl) (by exact fun _ _ _ h => h) (by first | exact Or.inl ⟨by rfl, by intro w hSw; go_simp; try with_reducible rfl⟩ | exact Or.inr ⟨by rfl, rfl⟩) hH ?_
      try simp only [Act.put, List.setIfInBounds_toArray, List.set_cons_zero, List.set_cons_succ]
      refine wpK.late (i := 7) (by kernel_rfl) (by simp only [List.getElem?_toArray, List.getElem?_cons_succ, List.getElem?_cons_zero]; rfl) (by kernel_rfl) (fun K hK => ?_)
      go_simp
      refine hK.out _ _ ?_
      clear hK K
      try simp only [Act.put, List.setIfInBounds_toArray, List.set_cons_zero, List.set_cons_succ]
      refine wpK.done (by kernel_rfl) ?_ _
      have hnx := HI.out.next HG.out.1 HG.out.2 rfl HTK.out (Below.next HB5.out hbbD) hg9 (v9 := .slice a9 (j + 1) c9') (by
        rw [svR_append, List.length_append, HLJ.out]; exact hown9)
      have HNX := hid hnx
      clear hnx hown9 hg9 hk9 hnil9 hwh9 hbbD hk8 hbb6 hk6 c9 f9 y0 y1 y2 y3 hyd hyb hr8 hcz8 hown8 hb8 hb6 hH
      go_wp2_with fail
      go_roundw
      case rel => exact ⟨j + 1, _, by go_num, by omega, HNX⟩
      case measure => simp [intOf]; omega
    · obtain ⟨wo, hwo⟩ : ∃ wo, wo = wr := ⟨_, rfl⟩
      subst hwo
      have j1 : ¬ (j : Int) < (n : Int) := by omega
      have HTA : Hid (Bs.take j = Bs) := hid (List.take_of_length_le (by rw [HN.out]; omega))
      obtain ⟨av2, cv2, hv2, -⟩ := ownsRow.rd HI.out.own
      obtain ⟨m, hm⟩ : ∃ m, (Bs.take j).length = m := ⟨_, rfl⟩
      rw [hm] at hv2
      subst hv2
      clear hm
      obtain ⟨p0, p1, p2⟩ := HI.out.k9.c3v
      obtain ⟨q0, q1, q2⟩ := HI.out.k5.c3v
      have f0 : wo.frozen? ⟨g5, 0, none⟩ = false := HI.out.k5.unfrozen 0
      have f1 : wo.frozen? ⟨g5, 1, none⟩ = false := HI.out.k5.unfrozen 1
      have f2 : wo.frozen? ⟨g5, 2, none⟩ = false := HI.out.k5.unfrozen 2
      go_upto_region 8 with fail
      obtain ⟨wz, hwz, hkz, huz⟩ := set3v HI.out.k5 (.int .i64 S) (.slice av2 m cv2) (.slice none 0 0)
      have HWZ := hid hwz
      have HKZ := hid hkz
      have HUZ := hid huz
      have h95 : ¬ g9 = g5 := by have := HG.out.2; omega
      clear hwz hkz huz
      replace p0 := fun (z : World) (hz : Upd (fun b => b = g5) wo z) => hz.cell p0 h95
      replace p1 := fun (z : World) (hz : Upd (fun b => b = g5) wo z) => hz.cell p1 h95
      replace p2 := fun (z : World) (hz : Upd (fun b => b = g5) wo z) => hz.cell p2 h95
      have hyd : Upd (fun b => b = g5) wo wo.drew := Upd.of_below (Below.refl wo.heap.size wo).drew
      refine wp_region_kept [5] (fun z => Upd (fun b => b = g5) wo z) (by kernel_rfl) (by assumption) (fun hH => ?_)
      refine wpK.take (i := 0) (v := _) (by simp only [List.getElem?_toArray, List.getElem?_cons_succ, List.getElem?_cons_zero]; rfl) (by kernel_rfl) (by kernel_rfl) (by kernel_rfl) (by kernel_rfl) (by kernel_rfl) (by exact fun _ _ _ h => h) (by first | exact Or.inl ⟨by rfl, by intro w hSw; go_simp; try with_reducible rfl⟩ | exact Or.inr ⟨by rfl, rfl⟩) hH ?_
      try simp only [Act.put, List.setIfInBounds_toArray, List.set_cons_zero, List.set_cons_succ]
      refine wpK.take (i := 1) (v := _) (by simp only [List.getElem?_toArray, List.getElem?_cons_succ, List.getElem?_cons_zero]; rfl) (by kernel_rfl) (by kernel_rfl) (by kernel_rfl) (by kernel_rfl) (by kernel_rfl) (by exact fun _ _ _ h => h) (by first | exact Or.inl ⟨by rfl, by intro w hSw; go_simp; try with_reducible rfl⟩ | exact Or.inr ⟨by rfl, rfl⟩) hH ?_
      try simp only [Act.put, List.setIfInBounds_toArray, List.set_cons_zero, List.set_cons_succ]
      refine wpK.take (i := 2) (v := _) (by simp only [List.getElem?_toArray, List.getElem?_cons_succ, List.getElem?_cons_zero]; rfl) (by kernel_rfl) (by kernel_rfl) (by kernel_rfl) (by kernel_rfl) (by kernel_rfl) (by exact fun _ _ _ h => h) (by first | exact Or.inl ⟨by rfl, by intro w hSw; go_simp; try with_reducible rfl⟩ | exact Or.inr ⟨by rfl, rfl⟩) hH ?_
      try simp only [Act.put, List.setIfInBounds_toArray, List.set_cons_zero, List.set_cons_succ]
      refine wpK.take (i := 3) (v := _) (by simp only [List.getElem?_toArray, List.getElem?_cons_succ, List.getElem?_cons_zero]; rfl) (by kernel_rfl) (by kernel_rfl) (by kernel_rfl) (by kernel_rfl) (by kernel_rfl) (by exact fun _ _ _ h => h) (by first | exact Or.inl ⟨by rfl, by intro w hSw; go_simp; try with_reducible rfl⟩ | exact Or.inr ⟨by rfl, rfl⟩) hH ?_
      try simp only [Act.put, List.setIfInBounds_toArray, List.set_cons_zero, List.set_cons_succ]
      refine wpK.step (i := 4) (by kernel_rfl) (by simp only [List.getElem?_toArray, List.getElem?_cons_succ, List.getElem?_cons_zero]; rfl) (fun K hK => ?_)
      (have hkk : Upd (fun b => b = g5) wo wz.drew := HUZ.out.trans (Upd.of_below (Below.refl _ _).drew) (fun _ _ q => q)); go_simp; (try rw [← HWZ.out])
      refine hK.out _ _ (by assumption) (fun hH => ?_)
      clear hK K
      try simp only [Act.put, List.setIfInBounds_toArray, List.set_cons_zero, List.set_cons_succ]
      refine wpK.late (i := 5) (by kernel_rfl) (by simp only [List.getElem?_toArray, List.getElem?_cons_succ, List.getElem?_cons_zero]; rfl) (by kernel_rfl) (fun K hK => ?_)
      go_simp
      refine hK.out _ _ ?_
      clear hK K
      try simp only [Act.put, List.setIfInBounds_toArray, List.set_cons_zero, List.set_cons_succ]
      refine wpK.done (by kernel_rfl) ?_ _
      clear p0 p1 p2 q0 q1 q2 f0 f1 f2 hyd hH hkk h95
      obtain ⟨z0, z1, z2⟩ := HKZ.out.c3v
      go_wp2_with fail
      refine bodyPost_ret (results_tct rfl _ _ _ rfl (by go_simp; rfl)) rfl ?_
      have hzd : Upd (fun b => b = g5) wo wz.drew := HUZ.out.trans (Upd.of_below (Below.refl _ _).drew) (fun _ _ q => q)
      exact HI.out.post HTA.out HG.out.1 HG.out.2 rfl hzd (fun b e => .inr (by rw [e]; exact HG.out.2)) (HI.out.land.upd hzd (fun b e => .inr (by have := HG.out.1; omega)))
end Go.Proofs.YtjbnfppnmljbmaaGreat
end
section
/- Law 19: awake. -/
namespace Go.Proofs.YtjbnfppnmljbmaaGreat
open Go.RowKit Go.Deep
open Go.Lib (hid)
set_option linter.unusedVariables false
attribute [local go_sem] Oper.semAt_some

/-- a call that answers a number, behind others -/
theorem LandPost.chain {w wa : World} {l k : Nat} {B : List R4} {P' : List Pl} {E : Int} {e : Ending} {w' : World} (h : LandPost wa l (fun b => w.heap.size ≤ b) k B P' E e w') (hw : Below w.heap.size w wa) : e = .returned (.int .i64 E) ∧ LandIs w' l (fun b => w.heap.size ≤ b) k B P' ∧ Below w.heap.size w w' := by
  obtain ⟨F', h1, h2, h3, h4⟩ := h
  have hz := hw.size
  refine ⟨h1, h2.weaken (fun b y _ => ?_), hw.trans (h3.below hz (fun b _ y => y))⟩
  rcases h4 b y with z | z
  · exact z
  · omega
abbrev awB : List R4 := [(8, 8, 2, 2)]
abbrev awP : List Pl := [(1, (0, 0, 4, 4))]
theorem aw_ok : okL 16 awB := ⟨⟨by decide, by decide⟩, by decide⟩
theorem aw_sd {k : Nat} (h : (16 : Int) = sd k) : sd k = 16 := h.symm
set_option maxRecDepth 100000 in
set_option maxHeartbeats 4000000 in
theorem law19_awake (w : World) : Calls Tryz.prog 7 #[] w fun e w' => e = .returned (.bool true) ∧ Below w.heap.size w w' := by
  have hlit := fun (W : World) => lit_rect1 8 8 2 2 W
  go_enter Tryz.func7, Tryz.ntmps7
  go_wp2_with fail
  obtain ⟨w1, hw1⟩ : ∃ w1, w1 = w.alloc (.cells #[.int .i64 8, .int .i64 8, .int .i64 2, .int .i64 2] 25) := ⟨_, rfl⟩
  try rw [← hw1]
  have hb1 : Below w.heap.size w w1 := by rw [hw1]; exact Below.new _ _
  have hk : Blk w1 w.heap.size #[.int .i64 8, .int .i64 8, .int .i64 2, .int .i64 2] := by rw [hw1]; exact Blk.new _ _ _
  have hsl : SlR w1 (.slice (some ⟨w.heap.size, 0, none⟩) 1 1) awB := ⟨some ⟨w.heap.size, 0, none⟩, 1, rfl, fun i hi => ⟨w.heap.size, 0, rfl, by rw [Nat.zero_add, hk.cell]; simp [svR]⟩, by simp, by omega, fun h => nomatch h⟩
  refine (land_New 16 _ awB w1 hsl (by simp)).mono ?_
  intro e w2 hq
  rcases hq with ⟨-, l, k, hak, rfl, hl, hb2⟩ | ⟨hno, -⟩
  case inr => exact absurd aw_ok hno
  have HSD := hid (aw_sd hak)
  have H2 : Hid (LandIs w2 l (fun b => w.heap.size ≤ b) k awB []) := hid (hl.weaken (fun b y _ => by have := hb1.size; omega))
  have HB2 := hid (Below.next hb1 hb2)
  clear hsl hk hw1 hb1 hl hb2 hak hlit
  go_wp2_with fail
  have hq := land_Claim w2 l _ k awB [] 1 0 0 4 4 H2.out
  rw [HSD.out, show claimE 16 awB [] 1 (0, 0, 4, 4) = 0 from by decide +kernel, show claimP 16 awB [] 1 (0, 0, 4, 4) = awP from by decide +kernel] at hq
  refine hq.mono ?_
  intro e w3 hq
  obtain ⟨h1, h2, h3⟩ := LandPost.chain hq HB2.out
  subst h1
  have H3 := hid h2
  have HB3 := hid h3
  clear hq h2 h3
  go_wp2_with fail
  have hq := land_Claim w3 l _ k awB awP 2 3 3 2 2 H3.out
  rw [HSD.out, show claimE 16 awB awP 2 (3, 3, 2, 2) = 32 from by decide +kernel, show claimP 16 awB awP 2 (3, 3, 2, 2) = awP from by decide +kernel] at hq
  refine hq.mono ?_
  intro e w4 hq
  obtain ⟨h1, h2, h3⟩ := LandPost.chain hq HB3.out
  subst h1
  have H4 := hid h2
  have HB4 := hid h3
  clear hq h2 h3
  go_wp2_with fail
  have hq := land_Claim w4 l _ k awB awP 2 9 9 1 1 H4.out
  rw [HSD.out, show claimE 16 awB awP 2 (9, 9, 1, 1) = 33 from by decide +kernel, show claimP 16 awB awP 2 (9, 9, 1, 1) = awP from by decide +kernel] at hq
  refine hq.mono ?_
  intro e w5 hq
  obtain ⟨h1, h2, h3⟩ := LandPost.chain hq HB4.out
  subst h1
  have H5 := hid h2
  have HB5 := hid h3
  clear hq h2 h3
  go_wp2_with fail
  have hq := land_At w5 l _ k awB awP 3 3 H5.out
  rw [show atX awP 3 3 = some 1 from by decide +kernel] at hq
  refine hq.mono ?_
  rintro e w6 ⟨rfl, hb⟩
  have H6 := hid (H5.out.below hb)
  have HB6 := hid (Below.next HB5.out hb)
  clear hq hb
  simp only [Option.getD_some, Option.isSome_some]
  go_wp2_with fail
  refine (land_Len w6 l _ k awB awP H6.out).mono ?_
  rintro e w7 ⟨rfl, h7⟩
  replace h7 := h7.symm
  subst h7
  simp only [List.length_cons, List.length_nil]
  go_wp2_with fail
  have hq := land_Area w6 l _ k awB awP H6.out
  rw [show ((areaX awP : Nat) : Int) = 16 from by decide +kernel] at hq
  refine hq.mono ?_
  rintro e w7 ⟨rfl, hb⟩
  have HB7 := hid (Below.next HB6.out hb)
  clear hq hb
  go_wp2_with fail
  go_ret
  exact ⟨rfl, HB7.out⟩
end Go.Proofs.YtjbnfppnmljbmaaGreat
end
