/- Joined texts, in this order: LandNew, LandAt, LandArea. Each one's first remark says what it proves; no condition beyond those that its theorems name. -/
import Derived.Test.YtjbnfppnmljbmaaJLawLandMany27
import Derived.Test.YtjbnfppnmljbmaaJLawLandMany12
section
/- Slices of rectangles; contract of land's New. -/
namespace Go.Proofs.Ytjbnfppnmljbmaa
open Go.RowKit Go.Deep
open Go.Lib (hid)
set_option linter.unusedVariables false
attribute [local go_sem] Oper.semAt_some

def svR (X : List R4) : List Value := X.flatMap fun r => [Value.int .i64 r.1, .int .i64 r.2.1, .int .i64 r.2.2.1, .int .i64 r.2.2.2]
theorem svR_length (X : List R4) : (svR X).length = X.length * 4 := by
  unfold svR
  induction X with
  | nil => rfl
  | cons p X ih => rw [List.flatMap_cons, List.length_append, ih]; simp; omega
theorem svR_append (X Y : List R4) : svR (X ++ Y) = svR X ++ svR Y := by unfold svR; rw [List.flatMap_append]
theorem svR_at : ∀ (X : List R4) (i : Nat) (r : R4), X[i]? = some r → (svR X)[i * 4]? = some (.int .i64 r.1) ∧ (svR X)[i * 4 + 1]? = some (.int .i64 r.2.1) ∧ (svR X)[i * 4 + 2]? = some (.int .i64 r.2.2.1) ∧ (svR X)[i * 4 + 3]? = some (.int .i64 r.2.2.2)
  | [], i, x, h => by simp at h
  | q :: X, 0, x, h => by simp at h; subst h; exact ⟨rfl, rfl, rfl, rfl⟩
  | q :: X, i + 1, x, h => by
    simp at h
    have := svR_at X i x h
    have e : svR (q :: X) = .int .i64 q.1 :: .int .i64 q.2.1 :: .int .i64 q.2.2.1 :: .int .i64 q.2.2.2 :: svR X := rfl
    rw [e, show (i + 1) * 4 = i * 4 + 1 + 1 + 1 + 1 by omega]
    simpa using this
def SlR (w : World) (v : Value) (X : List R4) : Prop := ∃ a cap, v = .slice a X.length cap ∧ Rd w a (svR X) ∧ X.length ≤ cap ∧ cap ≤ 9223372036854775807 ∧ (a = none → cap = 0)
theorem SlR.nil (w : World) : SlR w (.slice none 0 0) [] := ⟨none, 0, rfl, Rd.nil _ _, by simp, by omega, fun _ => rfl⟩
theorem SlR.below {w w' : World} {v : Value} {X : List R4} (h : SlR w v X) (hb : Below w.heap.size w w') : SlR w' v X := by
  obtain ⟨a, c, e, h1, h2⟩ := h
  exact ⟨a, c, e, h1.below' hb, h2⟩
theorem SlR.upd {S : Nat → Prop} {w w' : World} {v : Value} {X : List R4} (h : SlR w v X) (hu : Upd S w w') (hn : ∀ k, v.ownBlock = some k → ¬ S k) : SlR w' v X := by
  obtain ⟨a, c, rfl, h1, h2⟩ := h
  exact ⟨a, c, rfl, hu.rd h1 (fun b off e => hn b (by rw [e]; rfl)), h2⟩
theorem SlR.of_own {w : World} {base : Nat} {e : TypeId} {v : Value} {X : List R4} (h : w.ownsRow base e 4 v X.length (svR X)) : SlR w v X := by
  obtain ⟨a, c, rfl, h1, h2, h3, h4⟩ := ownsRow.rd h
  exact ⟨a, c, rfl, h3, h1, by unfold maxLen at h2; omega, h4⟩
theorem Rd.four {w : World} {a : Option Addr} {X : List R4} (h : Rd w a (svR X)) (i : Nat) (hi : i < X.length) :
    ∃ b off r, a = some ⟨b, off, none⟩ ∧ w.cell? ⟨b, off + i * 4, none⟩ = some (.int .i64 r.1) ∧ w.cell? ⟨b, off + i * 4 + 1, none⟩ = some (.int .i64 r.2.1) ∧ w.cell? ⟨b, off + i * 4 + 2, none⟩ = some (.int .i64 r.2.2.1) ∧ w.cell? ⟨b, off + i * 4 + 3, none⟩ = some (.int .i64 r.2.2.2) ∧
      X[i]? = some r ∧ X.drop i = r :: X.drop (i + 1) ∧ X.take (i + 1) = X.take i ++ [r] := by
  have hx : X[i]? = some X[i] := List.getElem?_eq_getElem hi
  obtain ⟨h0, h1, h2, h3⟩ := svR_at X i _ hx
  obtain ⟨b, off, ha, hc⟩ := h (i * 4) (by rw [svR_length]; omega)
  have key : ∀ j, j < 4 → w.cell? ⟨b, off + i * 4 + j, none⟩ = (svR X)[i * 4 + j]? := fun j hj => by
    obtain ⟨b', off', ha', hc'⟩ := h (i * 4 + j) (by rw [svR_length]; omega)
    rw [ha] at ha'
    simp at ha'
    obtain ⟨rfl, rfl⟩ := ha'
    rw [Nat.add_assoc]; exact hc'
  exact ⟨b, off, X[i], ha, by rw [hc, h0], by rw [key 1 (by omega), h1], by rw [key 2 (by omega), h2], by rw [key 3 (by omega), h3], hx, List.drop_eq_getElem_cons hi, by rw [List.take_add_one, hx]; rfl⟩
def okL (a : Int) (Bs : List R4) : Prop := (rightQ a = true ∧ 16 ≤ a) ∧ ∀ b ∈ Bs, WithinR b a
def NewLPost (w : World) (a : Int) (Bs : List R4) (e : Ending) (w' : World) : Prop :=
  (okL a Bs ∧ ∃ l k, a = sd k ∧ e = .returned (.tuple #[.pointer (some ⟨l, 0, none⟩), .int .i64 0]) ∧ LandIs w' l (fun b => w.heap.size ≤ b) k Bs [] ∧ Below w.heap.size w w') ∨
  (¬ okL a Bs ∧ e = .returned (.tuple #[.pointer none, .int .i64 11]) ∧ Below w.heap.size w w')
def NwR (w : World) (q k n : Nat) (Bs : List R4) (v20 : Value) (wr : World) : Prop := ∃ (j : Nat) (s : Sq) (F : Nat → Prop), v20 = .int .i64 (j : Int) ∧ j ≤ n ∧ Hid (QuadAt wr q F k s ∧ TileB k s (Bs.take j) ∧ (∀ b ∈ Bs.take j, WithinR b (sd k)) ∧ (∀ b, F b → w.heap.size ≤ b)) ∧ Hid (Below w.heap.size w wr)
set_option maxRecDepth 100000 in
set_option maxHeartbeats 4000000 in
theorem land_New (a : Int) (v : Value) (Bs : List R4) (w : World) (hs : SlR w v Bs) (hl : Bs.length ≤ 1000) : Calls Try.prog 42 #[.int .i64 a, v] w (NewLPost w a Bs) := by
  obtain ⟨av, cv, hv, -⟩ := id hs
  obtain ⟨n, hn⟩ : ∃ n, Bs.length = n := ⟨_, rfl⟩
  rw [hn] at hv hl
  subst hv
  have HS := hid hs
  have HN := hid hn
  have HNQ := hid (quad_New a w)
  clear hs hn
  go_enter Try.func42, Try.ntmps42
  go_wp2_with fail
  refine HNQ.out.mono ?_
  intro e w1 hq
  rcases hq with ⟨hr, rfl, rfl⟩ | ⟨hr, q, k, hak, rfl, hqa, hb1⟩
  · have HNO : Hid (¬ okL a Bs) := hid (fun z => by have := z.1.1; rw [hr] at this; cases this)
    clear hr
    go_wp2_with fail
    go_ret2
    exact .inr ⟨HNO.out, rfl, Below.refl _ _⟩
  have HR := hid hr
  have HAK := hid hak
  have HQ := hid hqa
  have HB1 := hid hb1
  clear hr hak hqa hb1
  by_cases h16 : a < 16
  · have HNO : Hid (¬ okL a Bs) := hid (fun z => by have := z.1.2; omega)
    go_wp2_with fail
    go_ret2
    exact .inr ⟨HNO.out, rfl, HB1.out⟩
  have H16 := hid h16
  go_wp2_with fail
  go_loopw [20] (fun v20 wr => NwR w q k n Bs v20 wr) (fun v20 _ => n - (intOf v20).toNat)
  case atStart => exact ⟨0, sq0, _, rfl, by omega, hid ⟨HQ.out, by simpa using tileB_new HQ.out.own, by simp, fun b y => y⟩, HB1⟩
  case round =>
    obtain ⟨j, s, F, rfl, hj, HI, HB⟩ := hrel
    by_cases hlt : j < n
    · have j1 : (j : Int) < (n : Int) := by omega
      have j0 : (0 : Int) ≤ (j : Int) := by omega
      have j9 : (j : Int) < 1000 := by omega
      obtain ⟨a', c', e', hrd, -⟩ := HS.out.below HB.out
      simp only [Value.slice.injEq] at e'
      obtain ⟨rfl, -, rfl⟩ := e'
      obtain ⟨b0, off, r, rfl, d0, d1, d2, d3, hat, -, htk⟩ := hrd.four j (by rw [HN.out]; exact hlt)
      have HAT := hid (And.intro (List.mem_of_getElem? hat) htk)
      obtain ⟨x1, x2, x3, x4⟩ := r
      simp only at d0 d1 d2 d3
      clear hrd hat htk
      go_upto_region 7 with fail
      obtain ⟨w5, hw5⟩ : ∃ w5, w5 = wr.alloc (.cells #[.int .i64 x1, .int .i64 x2, .int .i64 x3, .int .i64 x4] 33) := ⟨_, rfl⟩
      rw [← hw5]
      have hb5 : Below wr.heap.size wr w5 := by rw [hw5]; exact Below.new _ _
      obtain ⟨bb, hbb⟩ : ∃ bb, bb = wr.heap.size := ⟨_, rfl⟩
      rw [← hbb]
      have hO5 : Blk w5 bb #[.int .i64 x1, .int .i64 x2, .int .i64 x3, .int .i64 x4] := by rw [hw5, hbb]; exact Blk.new _ _ _
      have HQ5 := hid (HI.out.1.below hb5)
      have HB5 := hid (Below.next HB.out hb5)
      obtain ⟨y0, y1, y2, y3⟩ := hO5.c4r
      clear hw5 hb5 hbb d0 d1 d2 d3 hO5
      go_wp2_with fail
      refine (quad_Set w5 q F k s x1 x2 x3 x4 HQ5.out).mono ?_
      intro e w6 hq
      rcases hq with ⟨hin, s', F', rfl, hq6, hu6, hF6, hset⟩ | ⟨hin, rfl, hb6⟩
      · have HI6 : Hid (QuadAt w6 q F' k s' ∧ TileB k s' (Bs.take (j + 1)) ∧ (∀ b ∈ Bs.take (j + 1), WithinR b (sd k)) ∧ (∀ b, F' b → w.heap.size ≤ b)) := hid (by
          rw [HAT.out.2]
          refine ⟨hq6, tileB_set HI.out.2.1 hset, fun b hb => ?_, fun b y => ?_⟩
          · rcases List.mem_append.1 hb with hb | hb
            · exact HI.out.2.2.1 b hb
            · simp only [List.mem_singleton] at hb
              subst hb
              exact (within_all HQ5.out.own).1 hin
          · rcases hF6 b y with z | z
            · exact HI.out.2.2.2 b z
            · have := HB5.out.size; omega)
        have HB6 := hid (HB5.out.trans (hu6.below HB5.out.size (fun b _ y => HI.out.2.2.2 b y)))
        clear hin hq6 hu6 hF6 hset y0 y1 y2 y3
        go_wp2_with fail
        go_roundw
        case rel => exact ⟨j + 1, s', F', by go_num, by omega, HI6, HB6⟩
        case measure => simp [intOf]; omega
      · have HNO : Hid (¬ okL a Bs) := hid (fun z => hin ((within_all HQ5.out.own).2 (by have := z.2 _ HAT.out.1; rw [HAK.out] at this; exact this)))
        have HB6 := hid (Below.next HB5.out hb6)
        clear hin hb6 y0 y1 y2 y3
        go_wp2_with fail
        go_ret2
        exact .inr ⟨HNO.out, rfl, HB6.out⟩
    · obtain ⟨wo, hwo⟩ : ∃ wo, wo = wr := ⟨_, rfl⟩
      subst hwo
      have j1 : ¬ (j : Int) < (n : Int) := by omega
      have HTA : Hid (Bs.take j = Bs) := hid (List.take_of_length_le (by rw [HN.out]; omega))
      go_wp2_with fail
      refine (rt_New wo).mono ?_
      rintro e w2 ⟨t, rfl, ht, hb2⟩
      have HT := hid ht
      have HB2 := hid hb2
      clear ht hb2
      have hmm := @run_makeMap Try.prog
      have hum := Try.underlying85
      go_wp2_with fail
      go_ret2
      have hOK : okL a Bs := ⟨⟨HR.out, by have := H16.out; omega⟩, fun b hb => by rw [HAK.out]; exact HI.out.2.2.1 b (by rw [HTA.out]; exact hb)⟩
      obtain ⟨wm, hwm⟩ : ∃ wm, wm = w2.alloc (.map #[] 0) := ⟨_, rfl⟩
      have hbm : Below w2.heap.size w2 wm := by rw [hwm]; exact Below.new _ _
      have hmm : MapE wm w2.heap.size [] := by rw [hwm]; exact MapE.new w2
      have hzm : wm.heap.size = w2.heap.size + 1 := by rw [hwm]; simp
      obtain ⟨wl, hwl⟩ : ∃ wl, wl = wm.alloc (.cells #[.pointer (some ⟨q, 0, none⟩), .pointer (some ⟨t, 0, none⟩), .map (some w2.heap.size)] 87) := ⟨_, rfl⟩
      have hbl : Below wm.heap.size wm wl := by rw [hwl]; exact Below.new _ _
      have hkl : Blk wl wm.heap.size #[.pointer (some ⟨q, 0, none⟩), .pointer (some ⟨t, 0, none⟩), .map (some w2.heap.size)] := by rw [hwl]; exact Blk.new _ _ _
      have hzl : wl.heap.size = wm.heap.size + 1 := by rw [hwl]; simp
      have hq2 := (HI.out.1.below HB2.out).below hbm
      have hz1 := HB.out.size
      have hz2 := HB2.out.size
      have hqw : QuadAt wl q (fun b => F b ∧ b < wo.heap.size) k s := (((HI.out.1.weaken (fun b y z => ⟨y, z⟩)).below HB2.out).below hbm).below hbl
      have htw : TreeIs wl t (fun b => wo.heap.size ≤ b ∧ b < w2.heap.size) [] := ((HT.out.weaken (fun b y z => ⟨y, z⟩)).below hbm).below hbl
      have hbw : Below w.heap.size w wl := Below.next (Below.next (Below.next HB.out HB2.out) hbm) hbl
      have hfin : LandIs wl wm.heap.size (fun b => w.heap.size ≤ b) k Bs [] := by
        refine ⟨q, t, w2.heap.size, _, _, s, [], hkl, hqw, by have := HI.out.2.1; rw [HTA.out] at this; exact this, fun b hb => HI.out.2.2.1 b (by rw [HTA.out]; exact hb), htw, hmm.below hbl, .refl _, fun b y => ?_, fun b y => ?_, ?_, PInv.nil _ _⟩
        · have := HI.out.2.2.2 b y.1
          have := y.2
          exact ⟨fun z => by omega, by omega, by omega, HI.out.2.2.2 b y.1, by omega⟩
        · exact ⟨by omega, by omega, by show _ ≤ b; omega, by omega⟩
        · exact ⟨by omega, by show _ ≤ _; omega, by show _ ≤ _; omega⟩
      refine .inl ⟨hOK, wm.heap.size, k, HAK.out, ?_, ?_, ?_⟩
      · simp [hwm]
      · rw [hwl, hwm] at hfin; rw [hwm]; exact hfin
      · rw [hwl, hwm] at hbw; exact hbw
end Go.Proofs.Ytjbnfppnmljbmaa
end
section
/- Contracts of land's At, Area. -/
namespace Go.Proofs.Ytjbnfppnmljbmaa
open Go.RowKit Go.Deep
open Go.Lib (hid)
set_option linter.unusedVariables false
attribute [local go_sem] Oper.semAt_some

/-- the number of the plot with a tile; 0: none -/
def atX (P : List Pl) (x y : Int) : Option Int := (P.find? fun p => tHolds x y p.2).map (·.1)
theorem at_tree {P : List Pl} (hp : P.Pairwise fun p q => ¬ MeetsR p.2 q.2) (x y : Int) {L : List Tg} (hL : L.Perm (flR (tHolds x y) (tgP P))) : (L = [] ∧ atX P x y = none) ∨ ∃ r id, L = [(r, id)] ∧ atX P x y = some id := by
  have key : ∀ P : List Pl, P.Pairwise (fun p q => ¬ MeetsR p.2 q.2) → (flR (tHolds x y) (tgP P) = [] ∧ atX P x y = none) ∨ ∃ r id, flR (tHolds x y) (tgP P) = [(r, id)] ∧ atX P x y = some id := by
    intro P
    induction P with
    | nil => intro _; exact .inl ⟨rfl, rfl⟩
    | cons p P ih =>
      intro h
      obtain ⟨h1, h2⟩ := List.pairwise_cons.1 h
      have e : flR (tHolds x y) (tgP (p :: P)) = if tHolds x y p.2 then (p.2, p.1) :: flR (tHolds x y) (tgP P) else flR (tHolds x y) (tgP P) := by
        unfold flR tgP
        rw [List.map_cons, List.filter_cons]
      have e2 : atX (p :: P) x y = if tHolds x y p.2 then some p.1 else atX P x y := by
        unfold atX
        rw [List.find?_cons]
        cases tHolds x y p.2 <;> rfl
      rw [e, e2]
      cases hh : tHolds x y p.2 with
      | true =>
        refine .inr ⟨p.2, p.1, ?_, rfl⟩
        have : flR (tHolds x y) (tgP P) = [] := by
          unfold flR tgP
          rw [List.filter_eq_nil_iff]
          intro t ht q
          obtain ⟨p', hp', rfl⟩ := List.mem_map.1 ht
          exact h1 p' hp' (tile_meets (of_decide_eq_true hh) (of_decide_eq_true q))
        simp [this]
      | false => exact ih h2
  rcases key P hp with ⟨h1, h2⟩ | ⟨r, id, h1, h2⟩
  · rw [h1] at hL; exact .inl ⟨hL.eq_nil, h2⟩
  · rw [h1] at hL; exact .inr ⟨r, id, List.perm_singleton.1 hL, h2⟩
def AtLPost (w : World) (o : Option Int) (e : Ending) (w' : World) : Prop := e = .returned (.tuple #[.int .i64 (o.getD 0), .bool o.isSome]) ∧ Below w.heap.size w w'
set_option maxRecDepth 100000 in
set_option maxHeartbeats 8000000 in
theorem land_At (w : World) (l : Nat) (F : Nat → Prop) (k : Nat) (B : List R4) (P : List Pl) (px py : Int) (h : LandIs w l F k B P) : Calls Try.prog 43 #[.pointer (some ⟨l, 0, none⟩), .int .i64 px, .int .i64 py] w (AtLPost w (atX P px py)) := by
  obtain ⟨q, t, mb, Fq, Ft, s, M, h⟩ := h
  obtain ⟨d, n, ht, hd, hp, -⟩ := h.tree.open (by unfold tgP; rw [List.length_map]; have := h.inv.len; omega)
  obtain ⟨Y, hY⟩ : ∃ Y, flR (tHolds px py) (thgN (d + 1) n) = Y := ⟨_, rfl⟩
  have hcase := at_tree h.inv.apart px py (L := Y) (by rw [← hY]; exact flR_perm hp)
  obtain ⟨o, ho⟩ : ∃ o, atX P px py = o := ⟨_, rfl⟩
  rw [ho] at hcase ⊢
  have HY := hid hY
  have HCS := hid hcase
  have HT := hid ht
  have HD := hid hd
  have HW1 : Hid (l < w.heap.size) := hid h.blk.lt
  obtain ⟨-, c1, -⟩ := h.c3
  clear h hY hcase ho ht hd hp
  refine (callsIn_wide (n := 5)).1 ?_
  refine callsIn_of_wp_marks Try.func43 rfl trivial ?_ rfl
  simp only [Try.ntmps43, List.size_toArray, List.length_cons, List.length_nil, Nat.reduceAdd, Nat.reduceSub, Array.replicate_succ, Array.replicate_zero, List.push_toArray, List.append_toArray, List.nil_append, List.cons_append]
  have hc1 : ((w.alloc (.cells #[.int .i64 0] 3)).alloc (.cells #[.bool false] 4)).cell? ⟨l, 1, none⟩ = some (.pointer (some ⟨t, 0, none⟩)) := cellOf_belowR (Below.next (Below.new _ _) (Below.new _ _)) c1
  gi_wp2_with (refine ⟨trivial, ?_⟩; refine (callsIn_wide.2 (rt_At _ t px py)).mono ?_; rintro e w1 ⟨bT, bI, bx, bY, rfl, hT, hI, hx, hy, hb⟩)
  obtain ⟨w2, hw2⟩ : ∃ w2, w2 = (w.alloc (.cells #[.int .i64 0] 3)).alloc (.cells #[.bool false] 4) := ⟨_, rfl⟩
  rw [← hw2] at hb
  obtain ⟨b7, hb7⟩ : ∃ z, z = w.heap.size + 1 := ⟨_, rfl⟩
  obtain ⟨b6, hb6⟩ : ∃ z, z = w.heap.size := ⟨_, rfl⟩
  have hz1 : (World.alloc w (.cells #[.int .i64 0] 3)).heap.size = w.heap.size + 1 := by simp
  try rw [← hb7]
  try rw [← hb6]
  have hb2 : Below w.heap.size w w2 := by rw [hw2]; exact Below.next (Below.new _ _) (Below.new _ _)
  have HK6 : Hid (Blk w1 b6 #[.int .i64 0]) := hid ((show Blk w2 b6 #[.int .i64 0] by rw [hw2, hb6]; exact (Blk.new _ _ _).below (Below.new _ _)).below hb)
  have HK7 : Hid (Blk w1 b7 #[.bool false]) := hid ((show Blk w2 b7 #[.bool false] by rw [hw2, hb7, ← hz1]; exact Blk.new _ _ _).below hb)
  have HB1 := hid (Below.next hb2 hb)
  have HZ : Hid (b6 = w.heap.size ∧ b7 = w.heap.size + 1 ∧ b7 < w1.heap.size) := hid (by have := HK7.out.lt; omega)
  have HT1 := hid (HT.out.below HB1.out)
  have HTI := hid (And.intro hT (And.intro hI (And.intro hx hy)))
  clear hw2 hb hb6 hb7 hz1 hb2 hT hI hx hy hc1 c1
  have hl1 : w.heap.size ≤ w1.heap.size := HB1.out.size
  refine wpIn_rangeFunc_ownH (F := Fence.wide) (n := 5) (α := Tg) rfl (by omega) (gf := 76) (lb := #[.pointer (some ⟨bT, 0, none⟩), .pointer (some ⟨bI, 0, none⟩)]) rfl trivial (enters_of Try.func76 (by kernel_rfl) rfl)
    (stops_where bT bI t d 58 n _ w1.heap.size #[] #[.pointer (some ⟨bx, 0, none⟩), .pointer (some ⟨bY, 0, none⟩)] (tHolds px py) w1 (Nat.le_refl _) HTI.out.1 HTI.out.2.1 HT1.out (fun k hk => HT1.out.lt k (List.mem_cons_of_mem _ hk)) (by have := HD.out; omega) (test_At _ _ _ px py bx bY HTI.out.2.2.1 HTI.out.2.2.2 HTI.out.2.2.1.lt HTI.out.2.2.2.lt))
    (fun h k => h.trans k) (fun W l o o' hlo ho hc _ => KeepR.put (Nat.le_refl _) W l o o' hlo ho hc) (Below.refl _ _) (fun _ => rfl)
    (fun pre W => (Blk W b6 #[.int .i64 0] ∧ Blk W b7 #[.bool false] ∧ pre = []) ∧ Below w.heap.size w W ∧ w1.heap.size ≤ W.heap.size)
    (fun c pre W => (c = .ret ∧ ∃ r id, Blk W b6 #[.int .i64 id] ∧ Blk W b7 #[.bool true] ∧ pre = [(r, id)]) ∧ Below w.heap.size w W ∧ w1.heap.size ≤ W.heap.size)
    ?hI ?hIx ?h0
    (fun z a' W => a' = { tmps := #[.pointer (some ⟨l, 0, none⟩), .int .i64 px, .int .i64 py, undef, undef, undef, .pointer (some ⟨b6, 0, none⟩), .pointer (some ⟨b7, 0, none⟩), undef, .int .i64 z.2, .pointer (some ⟨l, 0, none⟩), .pointer (some ⟨l, 0, none⟩), .pointer (some ⟨l, 1, none⟩), .pointer (some ⟨t, 0, none⟩), .int .i64 px, .int .i64 py, itV bT bI, rV z.1, .int .i64 z.2, undef], defers := [] })
    ?hAx ?assign ?body ?done ?stop
  case hI =>
    rintro pre W W' row ⟨⟨h1, h2, h3⟩, hb, hz⟩ hg hr
    exact ⟨⟨own_blkR hg hr h1, own_blkR hg hr h2, h3⟩, hb.grown hg hb.size (fun j hj => by have := (hr j hj).1; omega), Nat.le_trans hz hg.size⟩
  case hIx =>
    rintro c pre W W' row ⟨⟨h1, r, id, h2, h3, h4⟩, hb, hz⟩ hg hr
    exact ⟨⟨h1, r, id, own_blkR hg hr h2, own_blkR hg hr h3, h4⟩, hb.grown hg hb.size (fun j hj => by have := (hr j hj).1; omega), Nat.le_trans hz hg.size⟩
  case h0 => exact ⟨⟨HK6.out, HK7.out, rfl⟩, HB1.out, Nat.le_refl _⟩
  case hAx =>
    rintro z a' u W W' row h1 hg hr
    exact h1
  case assign =>
    rintro l pre ⟨⟨zx, zy, za, zb⟩, zv⟩ W K hI hK
    gi_wp2
    exact hK _ _ ((KeepsOthers.refl _).from _) (KeepR.refl _ _ _) hI rfl
  case body =>
    rintro l pre ⟨⟨zx, zy, za, zb⟩, zv⟩ a' W hl hrec hI rfl hlen
    have HI2 := hid hI
    have k6 : W.cell? ⟨b6, 0, none⟩ = some (.int .i64 0) := by rw [hI.1.1.cell]; rfl
    have k7 : W.cell? ⟨b7, 0, none⟩ = some (.bool false) := by rw [hI.1.2.1.cell]; rfl
    have f6 : W.frozen? ⟨b6, 0, none⟩ = false := hI.1.1.unfrozen 0
    have f7 : W.frozen? ⟨b7, 0, none⟩ = false := hI.1.2.1.unfrozen 0
    have hne : b6 ≠ b7 := by have := HZ.out; omega
    clear hI hlen
    gi_wp2
    have hz := HZ.out
    have hx1 : Blk (W.setCell ⟨b6, 0, none⟩ (.int .i64 zv)) b6 #[.int .i64 zv] := by simpa using HI2.out.1.1.set 0 (.int .i64 zv)
    have hx2 : Blk (W.setCell ⟨b6, 0, none⟩ (.int .i64 zv)) b7 #[.bool false] := HI2.out.1.2.1.upd (Upd.setCell W b6 0 _) (by omega)
    refine ⟨((KeepsOthers.setCell _ _ _).trans (KeepsOthers.setCell _ _ _)).from _, ⟨rfl, (zx, zy, za, zb), zv, hx1.upd (Upd.setCell _ b7 0 _) (by omega), by simpa using hx2.set 0 (.bool true), by rw [HI2.out.1.2.2]; rfl⟩, (HI2.out.2.1.setCell (p := ⟨b6, 0, none⟩) (by show _ ≤ b6; omega) _).setCell (p := ⟨b7, 0, none⟩) (by show _ ≤ b7; omega) _, by have := HI2.out.2.2; simpa using this⟩
  case done =>
    rintro D ys W hD rfl ⟨⟨h1, h2, h3⟩, hb, hz⟩ hK
    rw [HY.out] at h3
    have ho : o = none := by
      rcases HCS.out with ⟨-, e⟩ | ⟨r, id, e, -⟩
      · exact e
      · rw [h3] at e; cases e
    subst ho
    have k6 : W.cell? ⟨b6, 0, none⟩ = some (.int .i64 0) := by rw [h1.cell]; rfl
    have k7 : W.cell? ⟨b7, 0, none⟩ = some (.bool false) := by rw [h2.cell]; rfl
    have f6 : W.frozen? ⟨b6, 0, none⟩ = false := h1.unfrozen 0
    have f7 : W.frozen? ⟨b7, 0, none⟩ = false := h2.unfrozen 0
    have hne : b6 ≠ b7 := by have := HZ.out; omega
    gi_wp2
    have hz0 := HZ.out
    obtain ⟨wz, hwz⟩ : ∃ wz, wz = (W.setCell ⟨b6, 0, none⟩ (.int .i64 0)).setCell ⟨b7, 0, none⟩ (.bool false) := ⟨_, rfl⟩
    try rw [← hwz]
    have hx1 : Blk (W.setCell ⟨b6, 0, none⟩ (.int .i64 0)) b6 #[.int .i64 0] := by simpa using h1.set 0 (.int .i64 0)
    have hx2 : Blk (W.setCell ⟨b6, 0, none⟩ (.int .i64 0)) b7 #[.bool false] := h2.upd (Upd.setCell W b6 0 _) (by omega)
    have hy1 : Blk wz b6 #[.int .i64 0] := by rw [hwz]; exact hx1.upd (Upd.setCell _ b7 0 _) (by omega)
    have hy2 : Blk wz b7 #[.bool false] := by rw [hwz]; simpa using hx2.set 0 (.bool false)
    have hK' : wz.heap[D]? = some (.deferred (some [])) := by rw [hwz]; exact ((KeepsOthers.setCell _ _ _).trans (KeepsOthers.setCell _ _ _)).same D _ hK rfl
    have hbz : Below w.heap.size w wz := by rw [hwz]; exact (hb.setCell (p := ⟨b6, 0, none⟩) (by show _ ≤ b6; omega) _).setCell (p := ⟨b7, 0, none⟩) (by show _ ≤ b7; omega) _
    refine ⟨by simp, .inl ⟨_, _, rfl, run_takeDeferred hK', ?_⟩⟩
    have hc6 : (wz.putObj D (.deferred none)).cell? ⟨b6, 0, none⟩ = some (.int .i64 0) := cell_kept (by rw [hy1.cell]; rfl) (grownBy_putObj' _ D (.deferred none)) (fun r e => by cases e; exact ⟨_, hK', rfl⟩)
    have hc7 : (wz.putObj D (.deferred none)).cell? ⟨b7, 0, none⟩ = some (.bool false) := cell_kept (by rw [hy2.cell]; rfl) (grownBy_putObj' _ D (.deferred none)) (fun r e => by cases e; exact ⟨_, hK', rfl⟩)
    refine ⟨.tuple #[.int .i64 0, .bool false], ?_, rfl, hbz.trans (belowK_b (w := w) (Nat.le_refl _) _ D _ _ (by have := hbz.size; have := HB1.out.size; omega) hK' rfl rfl)⟩
    simp [results, Try.f43, go_sem, hc6, hc7]
  case stop =>
    rintro D c pre W hD hpre ⟨⟨rfl, r, id, h2, h3, h4⟩, hb, hz⟩ hK
    rw [HY.out, h4] at hpre
    have ho : o = some id := by
      rcases HCS.out with ⟨e, -⟩ | ⟨r', id', e, e2⟩
      · rw [e] at hpre; simp at hpre
      · rw [e] at hpre
        have := hpre.eq_of_length (by simp)
        simp at this
        rw [e2, this.2]
    subst ho
    gi_wp2
    refine ⟨by simp, .inl ⟨_, _, rfl, run_takeDeferred hK, ?_⟩⟩
    have hc6 : (W.putObj D (.deferred none)).cell? ⟨b6, 0, none⟩ = some (.int .i64 id) := cell_kept (by rw [h2.cell]; rfl) (grownBy_putObj' _ D (.deferred none)) (fun r e => by cases e; exact ⟨_, hK, rfl⟩)
    have hc7 : (W.putObj D (.deferred none)).cell? ⟨b7, 0, none⟩ = some (.bool true) := cell_kept (by rw [h3.cell]; rfl) (grownBy_putObj' _ D (.deferred none)) (fun r e => by cases e; exact ⟨_, hK, rfl⟩)
    refine ⟨.tuple #[.int .i64 id, .bool true], ?_, rfl, hb.trans (belowK_b (w := w) (Nat.le_refl _) _ D _ _ (by have := hb.size; have := HB1.out.size; omega) hK rfl rfl)⟩
    simp [results, Try.f43, go_sem, hc6, hc7]
end Go.Proofs.Ytjbnfppnmljbmaa
end
section
/- Contract of land's Area. -/
namespace Go.Proofs.Ytjbnfppnmljbmaa
open Go.RowKit Go.Deep
open Go.Lib (hid)
set_option linter.unusedVariables false
attribute [local go_sem] Oper.semAt_some

def areaN (r : R4) : Nat := (areaR r).toNat
def areaX (P : List Pl) : Nat := (P.map fun p => areaN p.2).sum
theorem sum_adelL {α : Type} (f : Int → Nat) : ∀ (m : List (Int × α)) (k : Int) (v : α), (m.map (·.1)).Nodup → (k, v) ∈ m → (m.map fun p => f p.1).sum = f k + ((adel m k).map fun p => f p.1).sum
  | [], _, _, _, h => by simp at h
  | (a, b) :: m, k, v, hn, h => by
    simp only [List.map_cons, List.nodup_cons] at hn
    unfold adel
    by_cases hk : a = k
    · subst hk
      rw [List.filter_cons_of_neg (by simp)]
      have : m.filter (fun p => p.1 != a) = m := by
        rw [List.filter_eq_self]
        intro p hp
        have : p.1 ≠ a := fun e => hn.1 (e ▸ List.mem_map_of_mem hp)
        simpa using this
      rw [this]; simp
    · have hm : (k, v) ∈ m := by
        rcases List.mem_cons.1 h with h | h
        · simp at h; exact absurd h.1.symm hk
        · exact h
      have := sum_adelL f m k v hn.2 hm
      unfold adel at this
      rw [List.filter_cons_of_pos (by simpa using hk)]
      simp only [List.map_cons, List.sum_cons]
      omega
theorem sum_le {α : Type} (f : α → Nat) (b : Nat) : ∀ l : List α, (∀ x ∈ l, f x ≤ b) → (l.map f).sum ≤ l.length * b
  | [], _ => by simp
  | a :: l, h => by
    have h1 := h a (by simp)
    have h2 := sum_le f b l (fun x hx => h x (List.mem_cons_of_mem _ hx))
    rw [List.map_cons, List.sum_cons, List.length_cons, Nat.add_mul]
    omega
theorem area_small {S : Int} {r : R4} (h : WithinR r S ∧ r.2.2.1 ≤ 16 ∧ r.2.2.2 ≤ 16) : areaR r = (areaN r : Int) ∧ areaN r ≤ 256 ∧ areaR r = r.2.2.1 * r.2.2.2 := by
  obtain ⟨⟨h1, -⟩, h2, h3⟩ := h
  have e : areaR r = r.2.2.1 * r.2.2.2 := by unfold areaR; rw [if_pos h1]
  unfold RightR at h1
  have h4 : 0 ≤ r.2.2.1 * r.2.2.2 := Int.mul_nonneg (by omega) (by omega)
  have h5 : r.2.2.1 * r.2.2.2 ≤ 16 * 16 := Int.mul_le_mul h2 h3 (by omega) (by omega)
  unfold areaN
  rw [e]
  exact ⟨by omega, by omega, rfl⟩
set_option maxRecDepth 100000 in
set_option maxHeartbeats 4000000 in
theorem land_Area (w : World) (l : Nat) (F : Nat → Prop) (k : Nat) (B : List R4) (P : List Pl) (h : LandIs w l F k B P) : Calls Try.prog 44 #[.pointer (some ⟨l, 0, none⟩)] w fun e w' => e = .returned (.int .i64 (areaX P : Int)) ∧ Below w.heap.size w w' := by
  obtain ⟨q, t, mb, Fq, Ft, s, M, h⟩ := h
  obtain ⟨-, -, hc0⟩ := h.c3
  obtain ⟨vs, hvs⟩ : ∃ vs, vs = mapR M := ⟨_, rfl⟩
  obtain ⟨f, hf⟩ : ∃ f : Int → Nat, f = fun k => areaN ((P.lookup k).getD zR) := ⟨_, rfl⟩
  have hlk : ∀ p ∈ M, P.lookup p.1 = some p.2 := fun p hp => (lookup_mem_iff h.inv.sorted.nodup).2 (h.perm.mem_iff.1 hp)
  have hform : ∀ k v, vs.lookup k = some v → ∃ x y a b : Int, v = .agg #[.int .i64 x, .int .i64 y, .int .i64 a, .int .i64 b] ∧ areaR (x, y, a, b) = (f k : Int) ∧ f k ≤ 256 := by
    intro k v hk
    rw [hvs] at hk
    have e : (mapR M).lookup k = (P.lookup k).map rV := by
      unfold mapR
      rw [lookup_map (fun r : R4 => rV r) M k, lookup_perm h.perm h.inv.sorted.nodup]
    rw [e] at hk
    cases hq : P.lookup k with
    | none => rw [hq] at hk; cases hk
    | some r =>
      rw [hq] at hk
      simp only [Option.map_some, Option.some.injEq] at hk
      have ha := area_small (h.inv.within _ (lookup_mem hq))
      obtain ⟨x, y, a, b⟩ := r
      have hfk : f k = areaN (x, y, a, b) := by rw [hf]; simp only [hq, Option.getD_some]
      exact ⟨x, y, a, b, hk.symm, by rw [hfk]; exact ha.1, by rw [hfk]; exact ha.2.1⟩
  have hsum : (vs.map fun p => f p.1).sum = areaX P := by
    have e1 : (vs.map fun p => f p.1) = M.map fun p => areaN p.2 := by
      rw [hvs]; unfold mapR; rw [List.map_map]
      refine List.map_congr_left (fun p hp => ?_)
      show f p.1 = _
      rw [hf]; simp only [hlk p hp, Option.getD_some]
    rw [e1]
    exact (h.perm.map _).sum_nat
  have hle : areaX P ≤ 65536 := by
    have h1 := sum_le (fun p : Pl => areaN p.2) 256 P (fun p hp => (area_small (h.inv.within p hp)).2.1)
    have h2 := h.inv.len
    unfold areaX
    have : P.length * 256 ≤ 256 * 256 := Nat.mul_le_mul_right _ h2
    omega
  obtain ⟨total, ht⟩ : ∃ total, areaX P = total := ⟨_, rfl⟩
  rw [ht] at hsum hle ⊢
  have HMAP : Hid (MapE w mb vs) := hid (by rw [hvs]; exact h.map)
  have HFORM := hid hform
  have HSUM := hid hsum
  have HLE := hid hle
  clear h hvs hf hlk hform hsum hle ht
  go_enter Try.func44, Try.ntmps44
  go_wp2_with (at_range; refine wpList_rangeE _ rfl _ rfl Try.underlying85 rfl HMAP.out ?_; intro w2 hr2 hb2 hs2)
  go_frame
  have HR2 := hid hr2
  have HB2 := hid hb2
  clear hr2 hb2 hs2 hc0
  go_loopw [3] (fun v3 wr => ∃ (left : List (Int × Value)) (n : Nat), v3 = .int .i64 (n : Int) ∧ n ≤ 65536 ∧ Hid (RangeE wr w.heap.size mb vs left) ∧ Hid (n + (left.map fun p => f p.1).sum = total) ∧ Hid (Below w.heap.size w wr)) (fun _ wr => rangeN wr w.heap.size mb)
  case atStart => exact ⟨vs, 0, rfl, by omega, HR2, hid (by rw [HSUM.out]; omega), HB2⟩
  case round =>
    clear HR2 HB2
    obtain ⟨left, n, rfl, hn, HR, HS, HB⟩ := hrel
    have HLEN := hid HR.out.len
    by_cases hl0 : left = []
    · subst hl0
      have hnt : n = total := by have := HS.out; simpa using this
      subst hnt
      go_wp2_with (at_next; refine wpList_nextE _ rfl _ rfl rfl HR.out (fun _ => ?_) (fun k v w' hin => absurd hin (by simp)))
      go_ret
      exact ⟨rfl, HB.out⟩
    · go_wp2_with (at_next; refine wpList_nextE _ rfl _ rfl rfl HR.out (fun h0 => absurd h0 hl0) (fun k v w' hin hlk hr' hu' hs' hen => ?_); (obtain ⟨vx, vy, va, vb, rfl, har, hf256⟩ := HFORM.out k v hlk); (have HIN := hid hin); (have HR3 := hid hr'); (have HU3 := hid hu'); (have HAR := hid har); (have HSTEP := hid (sum_adelL f left k _ HR.out.sub.2 hin)); (have hbd : n + f k ≤ 65536 := by have := HSTEP.out; have := HS.out; have := HLE.out; omega); clear hin hlk hr' hu' hs' har)
      obtain ⟨w5, hw5⟩ : ∃ w5, w5 = World.alloc w' (.cells #[.int .i64 vx, .int .i64 vy, .int .i64 va, .int .i64 vb] 33) := ⟨_, rfl⟩
      rw [← hw5]
      have hb5 : Below w'.heap.size w' w5 := by rw [hw5]; exact Below.new _ _
      have har := rect_Area4 vx vy va vb w5
      rw [HAR.out] at har
      have HR5 := hid har
      have HB5 := hid hb5
      clear hw5 hb5 har
      refine HR5.out.mono ?_
      rintro e w6 ⟨rfl, hb6⟩
      have HB6 := hid (Below.next HB5.out hb6)
      clear hb6
      have hw1 := HR3.out.lt
      have hw2 := HR3.out.map.lt
      have HRN := hid (HR3.out.upd (S := fun _ => False) (Upd.of_below HB6.out) (fun q => q) (fun q => q))
      clear hw1 hw2 hen
      go_wp2_with fail
      go_roundw
      case rel => exact ⟨adel left k, n + f k, by go_num, hbd, HRN, hid (by have := HSTEP.out; have := HS.out; omega), hid ((HB.out.trans (HU3.out.below HB.out.size (fun j _ q => by omega))).trans (HB6.out.mono (by have h1 := HB.out.size; have h2 := HU3.out.size; omega)))⟩
      case measure => rw [HRN.out.len, HLEN.out]; exact adel_len HIN.out
end Go.Proofs.Ytjbnfppnmljbmaa
end
