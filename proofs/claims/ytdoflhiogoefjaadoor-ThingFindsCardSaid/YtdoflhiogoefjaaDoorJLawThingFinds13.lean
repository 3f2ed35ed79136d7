/- Joined texts, in this order: Ref21c. Each one's first remark says what it proves; no condition beyond those that its theorems name. -/
import Derived.Test.YtdoflhiogoefjaaDoorJLawThingFinds12
section
/- Contracts of the document's things: Destroy. -/
namespace Go.Proofs.YtdoflhiogoefjaaDoor
open Go.RowKit
open Go.Lib (hid)
set_option linter.unusedVariables false

theorem res_cell_tmp2 {fn : Func} {a u u2 : Tmp} {t : TypeId} (h : fn.results = #[.cell a t, .tmp u, .tmp u2]) (tmps : Array Value) (P : Program) (w : World) {x : Addr} {v : Value} (ha : tmps.getD a undef = .pointer (some x)) (hl : (loadVar t x).run P w = .ok v w) : (results fn tmps).run P w = .ok (.tuple #[v, tmps.getD u undef, tmps.getD u2 undef]) w := by
  have ha' : tmps[a]?.getD undef = .pointer (some x) := by rw [← ha]; simp
  simp [results, h, ha', asAddr, hl, Result.andThen]
/-- the result's cell is laid -/
theorem R21.fin {w wv : World} {b4 : Nat} {a a' : Option Addr} {c' : Nat} {L' : List Th} (nx' : Int) {u0 u1 : Value} (hk : Blk wv b4 #[u0, u1]) (h4 : w.heap.size ≤ b4) (hr : RefT wv a' c' L') (hb : Below w.heap.size w wv)
    (hloc : ∀ k, aB a' k → k < wv.heap.size ∧ (aB a k ∨ w.heap.size ≤ k)) (hne : ∀ k, aB a' k → k ≠ b4) :
    ∃ wz, wz = (wv.setCell ⟨b4, 0, none⟩ (.slice a' L'.length c')).setCell ⟨b4, 1, none⟩ (.int .i64 nx') ∧ wz.cell? ⟨b4, 0, none⟩ = some (.slice a' L'.length c') ∧ wz.cell? ⟨b4, 1, none⟩ = some (.int .i64 nx') ∧
      ∀ rest, R21Post w a ⟨L', nx'⟩ rest (.returned (.tuple (Value.agg #[.slice a' L'.length c', .int .i64 nx'] :: rest).toArray)) wz := by
  have hkz : Blk ((wv.setCell ⟨b4, 0, none⟩ (.slice a' L'.length c')).setCell ⟨b4, 1, none⟩ (.int .i64 nx')) b4 #[.slice a' L'.length c', .int .i64 nx'] := (hk.set 0 _).set 1 _
  have hu : Upd (fun k => k = b4) wv ((wv.setCell ⟨b4, 0, none⟩ (.slice a' L'.length c')).setCell ⟨b4, 1, none⟩ (.int .i64 nx')) := (Upd.setCell wv b4 0 _).trans (Upd.setCell _ b4 1 _) (fun _ _ q => q)
  refine ⟨_, rfl, by rw [hkz.cell]; rfl, by rw [hkz.cell]; rfl, fun rest => ⟨a', c', rfl, hr.upd hu (fun k hk q => hne k hk q), hb.trans (hu.below hb.size (fun k _ q => by rw [q]; exact h4)), fun k hk => ⟨by have := (hloc k hk).1; have := hu.size; omega, (hloc k hk).2⟩⟩⟩
theorem delT_take {L : List Th} {j : Nat} {x : Th} (h : L.take (j + 1) = L.take j ++ [x]) (n : Int) : delT (L.take (j + 1)) n = delT (L.take j) n ++ (if x.id = n then [] else [x]) := by
  rw [h]
  unfold delT
  rw [List.filter_append]
  by_cases q : x.id = n <;> simp [q]
set_option maxRecDepth 100000 in
set_option maxHeartbeats 4000000 in
theorem ref21_Destroy {a : Option Addr} {c : Nat} {L : List Th} (nx : Int) (w : World) (h : RefT w a c L) (hlow : ∀ k, aB a k → k < w.heap.size) (hs : SortK kI L) (n : Int) :
    Calls Tryd.prog 32 #[.agg #[.slice a L.length c, .int .i64 nx], .int .i64 n] w (R21Post w a (destX ⟨L, nx⟩ n) [.int .i64 (destE L n)]) := by
  have H := hid h
  have hl := h.lt
  have HLOW := hid hlow
  have HS := hid hs
  clear h hlow hs
  have hent : ∃ z : Unit, True := ⟨(), trivial⟩
  cases hf : fdT L n with
  | none =>
    have e : destE L n = 14 := by unfold destE; rw [hf]; rfl
    have e2 : destX ⟨L, nx⟩ n = ⟨L, nx⟩ := by unfold destX; rw [if_neg (by show ¬ destE L n = 0; rw [e]; decide)]
    rw [e, e2]
    have HF := hid hf
    clear hf e e2 hent
    go_enter Tryd.func32, Tryd.ntmps32
    go_upto_region 1 with fail
    generalize hw2 : World.alloc (World.alloc w _) _ = w2
    obtain ⟨bs, hbs⟩ : ∃ b, b = w.heap.size := ⟨_, rfl⟩
    obtain ⟨b4, hb4⟩ : ∃ b, b = w.heap.size + 1 := ⟨_, rfl⟩
    have hz1 : (World.alloc w (.cells #[.slice a L.length c, .int .i64 nx] 34)).heap.size = w.heap.size + 1 := by simp
    try rw [hz1]
    try rw [← hb4]
    try rw [← hbs]
    have hb2 : Below w.heap.size w w2 := by rw [← hw2]; exact Below.next (Below.new _ _) (Below.new _ _)
    have HK : Hid (Blk w2 bs #[.slice a L.length c, .int .i64 nx]) := hid (by rw [← hw2, hbs]; exact (Blk.new w _ _).below (Below.new _ _))
    have HK4 : Hid (Blk w2 b4 #[.slice none 0 0, .int .i64 0]) := hid (by rw [← hw2, hb4, ← hz1]; exact Blk.new _ _ _)
    have H2 := hid (H.out.below hb2)
    have HB2 := hid hb2
    have HB4 : Hid (w.heap.size ≤ b4 ∧ b4 < w2.heap.size ∧ b4 ≠ bs) := hid (by have := HK4.out.lt; omega)
    clear hw2 hbs hb4 hz1 hb2
    have c0 : w2.cell? ⟨bs, 0, none⟩ = some (.slice a L.length c) := by rw [HK.out.cell]; rfl
    have c1 : w2.cell? ⟨bs, 1, none⟩ = some (.int .i64 nx) := by rw [HK.out.cell]; rfl
    go_wp2_with fail
    refine (ref21_Find nx w2 H2.out n).mono ?_
    rintro e w3 ⟨r, rfl, hr, hb3⟩
    obtain rfl : r = -1 := by
      rcases hr with ⟨i, x, -, -, -, q⟩ | ⟨q, -⟩
      · rw [HF.out] at q; cases q
      · exact q
    clear hr c0 c1
    have HKR := hid (HK.out.below hb3)
    have HKR4 := hid (HK4.out.below hb3)
    obtain ⟨wz, hwz, z0, z1, hpo⟩ := R21.fin (w := w) (a := a) (a' := a) (c' := c) (L' := L) nx HKR4.out HB4.out.1 (H2.out.below hb3) (Below.next HB2.out hb3) (fun k hk => ⟨by have := HLOW.out k hk; have := HB2.out.size; have := (hb3).size; omega, .inl hk⟩) (fun k hk q => by have := HLOW.out k hk; have := HB4.out.1; omega)
    have HW := hid hwz
    have HPO := hid hpo
    have c0 : w3.cell? ⟨bs, 0, none⟩ = some (.slice a L.length c) := by rw [HKR.out.cell]; rfl
    have c1 : w3.cell? ⟨bs, 1, none⟩ = some (.int .i64 nx) := by rw [HKR.out.cell]; rfl
    have y0 : w3.cell? ⟨b4, 0, none⟩ = some (.slice none 0 0) := by rw [HKR4.out.cell]; rfl
    have y1 : w3.cell? ⟨b4, 1, none⟩ = some (.int .i64 0) := by rw [HKR4.out.cell]; rfl
    have f0 : w3.frozen? ⟨b4, 0, none⟩ = false := HKR4.out.unfrozen 0
    have f1 : w3.frozen? ⟨b4, 1, none⟩ = false := HKR4.out.unfrozen 1
    clear hwz hpo
    go_wp2_with fail
    rw [← HW.out]
    refine bodyPost_ret (res_cell_tmp rfl _ _ _ rfl (by go_simp; rfl)) rfl ?_
    exact HPO.out _
  | some g0 =>
    have e : destE L n = 0 := by unfold destE; rw [hf]; rfl
    have e2 : destX ⟨L, nx⟩ n = ⟨delT L n, nx⟩ := by unfold destX; rw [if_pos (by show destE L n = 0; exact e)]
    rw [e, e2]
    have HF := hid hf
    clear hf e e2 hent
    go_enter Tryd.func32, Tryd.ntmps32
    go_upto_region 1 with fail
    generalize hw2 : World.alloc (World.alloc w _) _ = w2
    obtain ⟨bs, hbs⟩ : ∃ b, b = w.heap.size := ⟨_, rfl⟩
    obtain ⟨b4, hb4⟩ : ∃ b, b = w.heap.size + 1 := ⟨_, rfl⟩
    have hz1 : (World.alloc w (.cells #[.slice a L.length c, .int .i64 nx] 34)).heap.size = w.heap.size + 1 := by simp
    try rw [hz1]
    try rw [← hb4]
    try rw [← hbs]
    have hb2 : Below w.heap.size w w2 := by rw [← hw2]; exact Below.next (Below.new _ _) (Below.new _ _)
    have HK : Hid (Blk w2 bs #[.slice a L.length c, .int .i64 nx]) := hid (by rw [← hw2, hbs]; exact (Blk.new w _ _).below (Below.new _ _))
    have HK4 : Hid (Blk w2 b4 #[.slice none 0 0, .int .i64 0]) := hid (by rw [← hw2, hb4, ← hz1]; exact Blk.new _ _ _)
    have H2 := hid (H.out.below hb2)
    have HB2 := hid hb2
    have HB4 : Hid (w.heap.size ≤ b4 ∧ b4 < w2.heap.size ∧ b4 ≠ bs) := hid (by have := HK4.out.lt; omega)
    clear hw2 hbs hb4 hz1 hb2
    have c0 : w2.cell? ⟨bs, 0, none⟩ = some (.slice a L.length c) := by rw [HK.out.cell]; rfl
    have c1 : w2.cell? ⟨bs, 1, none⟩ = some (.int .i64 nx) := by rw [HK.out.cell]; rfl
    go_wp2_with fail
    refine (ref21_Find nx w2 H2.out n).mono ?_
    rintro e w3 ⟨r, rfl, hr, hb3⟩
    obtain ⟨i0, rfl, hat, hgid⟩ : ∃ i0 : Nat, r = (i0 : Int) ∧ L[i0]? = some g0 ∧ g0.id = n := by
      rcases hr with ⟨i, g, q1, q2, q3, q4⟩ | ⟨-, q⟩
      · rw [HF.out] at q4; obtain rfl := Option.some.inj q4; exact ⟨i, q1, q2, q3⟩
      · rw [HF.out] at q; cases q
    have HAT := hid hat
    have HGI := hid hgid
    have i00 : ¬ (i0 : Int) < 0 := by omega
    have HK3 := hid (HK.out.below hb3)
    have HK43 := hid (HK4.out.below hb3)
    have H3 := hid (H2.out.below hb3)
    have HB3 := hid (Below.next HB2.out hb3)
    have HBN : Hid (b4 < w3.heap.size) := hid HK43.out.lt
    clear hr hb3 hat hgid c0 c1
    go_wp2_with fail
    go_loopw [7, 8] (fun vo vi wr => ∃ (j : Nat) (vo' : Value), vo' = vo ∧ vi = .int .i64 (j : Int) ∧ j ≤ L.length ∧ Hid (wr.ownsRow w3.heap.size 45 6 vo (delT (L.take j) n).length (svT (delT (L.take j) n))) ∧ Hid (Below w3.heap.size w3 wr)) (fun _ vi _ => L.length - (intOf vi).toNat)
    case atStart => exact ⟨0, _, rfl, rfl, by omega, hid (by simpa [svT, delT] using World.ownsRow_nil _ _ _ _), hid (Below.refl _ _)⟩
    case round =>
      obtain ⟨j, vo, hvo, rfl, hj, hown, hb⟩ := hrel
      subst hvo
      have HKR := hid (HK3.out.below hb.out)
      have HK4R := hid (HK43.out.below hb.out)
      have c0 : wr.cell? ⟨bs, 0, none⟩ = some (.slice a L.length c) := by rw [HKR.out.cell]; rfl
      have c1 : wr.cell? ⟨bs, 1, none⟩ = some (.int .i64 nx) := by rw [HKR.out.cell]; rfl
      by_cases hlt : j < L.length
      · have j1 : (j : Int) < (L.length : Int) := by omega
        have j0 : (0 : Int) ≤ (j : Int) := by omega
        obtain ⟨a', c', e', hrd, -⟩ := H3.out.t.below hb.out
        simp only [Value.slice.injEq, true_and] at e'
        obtain ⟨rfl, rfl⟩ := e'
        obtain ⟨b0, off, x, rfl, d0, d1, d2, d3, d4, d5, hatj, -, htk⟩ := hrd.six j hlt
        have hsz := hb.out.size
        have hfl : (delT (L.take j) n).length ≤ 1000 := Nat.le_trans (List.length_filter_le _ _) (by rw [List.length_take]; omega)
        have HDT := hid (delT_take htk n)
        have hiff : j = i0 ↔ x.id = n := by
          constructor
          · rintro rfl; rw [HAT.out] at hatj; obtain rfl := Option.some.inj hatj; exact HGI.out
          · intro q; exact sortK_idx kI HS.out hatj HAT.out (by show x.id = g0.id; rw [q, HGI.out])
        obtain ⟨xi, xn, xo, xk, xh, xs⟩ := x
        simp only at d0 d1 d2 d3 d4 d5
        clear hrd htk hatj
        by_cases hx : j = i0
        · have HW : Hid (delT (L.take (j + 1)) n = delT (L.take j) n) := hid (by rw [HDT.out, if_pos (hiff.1 hx), List.append_nil])
          have hxx : ((j : Int) != (i0 : Int)) = false := by simp; omega
          clear hx hiff d0 d1 d2 d3 d4 d5
          go_wp2
          go_roundw
          case rel => exact ⟨j + 1, _, rfl, by go_num, by omega, by rw [HW.out]; exact hown, hb⟩
          case measure => simp [intOf]; omega
        · have HW : Hid (delT (L.take (j + 1)) n = delT (L.take j) n ++ [⟨xi, xn, xo, (xk, xh, xs)⟩]) := hid (by rw [HDT.out, if_neg (fun q => hx (hiff.2 q))])
          have hxx : ((j : Int) != (i0 : Int)) = true := by simp; omega
          clear hx hiff
          go_wp2_with (at_builtin; refine wpList_append1w T_th21 _ rfl _ _ #[.int .i64 xi, .string ⟨xn.toArray⟩, .int .i64 xo, .int .i64 xk, .int .i64 xh, .int .i64 xs] rfl w3.heap.size _ _ _ rfl hown.out rfl rfl ?c1 ?c2 ?c3 ?_)
          case c1 => exact ⟨rfl, rfl, rfl, rfl, rfl, rfl⟩
          case c2 => omega
          try (case c3 => omega)
          intro v' w4 hown' hgrow hne hwh
          have HO : Hid (w4.ownsRow w3.heap.size 45 6 v' (delT (L.take (j + 1)) n).length (svT (delT (L.take (j + 1)) n))) := hid (by
            rw [HW.out, svT_append, List.length_append]; exact hown')
          have HB : Hid (Below w3.heap.size w3 w4) := hid (hb.out.grown hgrow hsz (fun k hk => (hown.out.lt k hk).1))
          clear hown' hgrow hwh hne c0 c1 d0 d1 d2 d3 d4 d5
          go_wp2
          go_roundw
          case rel => exact ⟨j + 1, _, rfl, by go_num, by omega, HO, HB⟩
          case measure => simp [intOf]; omega
      · have e1 : L.take j = L := List.take_of_length_le (by omega)
        rw [e1] at hown
        have j1 : ¬ (j : Int) < (L.length : Int) := by omega
        obtain ⟨av, cv, rfl, -⟩ := ownsRow.rd hown.out
        obtain ⟨wz, hwz, z0, z1, hpo⟩ := R21.fin (w := w) (a := a) (a' := av) (c' := cv) (L' := delT L n) nx HK4R.out HB4.out.1 ⟨(SlTh.of_own hown.out).below (Below.refl _ _), Nat.le_trans (List.length_filter_le _ _) H.out.lt⟩ (Below.next HB3.out hb.out) (fun k hk => by have h1 := hown.out.lt k (own_aB hk); exact ⟨h1.2, .inr (by have := HB3.out.size; omega)⟩) (fun k hk q => by have h1 := hown.out.lt k (own_aB hk); have := HBN.out; omega)
        have HW := hid hwz
        have HPO := hid hpo
        have y0 : wr.cell? ⟨b4, 0, none⟩ = some (.slice none 0 0) := by rw [HK4R.out.cell]; rfl
        have y1 : wr.cell? ⟨b4, 1, none⟩ = some (.int .i64 0) := by rw [HK4R.out.cell]; rfl
        have f0 : wr.frozen? ⟨b4, 0, none⟩ = false := HK4R.out.unfrozen 0
        have f1 : wr.frozen? ⟨b4, 1, none⟩ = false := HK4R.out.unfrozen 1
        clear hwz hpo
        go_wp2_with fail
        rw [← HW.out]
        refine bodyPost_ret (res_cell_tmp rfl _ _ _ rfl (by go_simp; rfl)) rfl ?_
        exact HPO.out _
end Go.Proofs.YtdoflhiogoefjaaDoor
end
