/- Joined texts, in this order: Ref21c, ThingMem. Each one's first remark says what it proves; no condition beyond those that its theorems name. -/
import Derived.Test.YtdoflhiogoefjaaDoorJLawThingCopies10
import Derived.Test.YtdoflhiogoefjaaDoorJLawThingCopies08
section
/- Contracts of the document's things: Destroy. -/
namespace Go.Proofs.YtdoflhiogoefjaaDoor
open Go.RowKit
open Go.Lib (hid)
set_option linter.unusedVariables false

theorem res_cell_tmp2 {fn : Func} {a u u2 : Tmp} {t : TypeId} (h : fn.results = #[.cell a t, .tmp u, .tmp u2]) (tmps : Array Value) (P : Program) (w : World) {x : Addr} {v : Value} (ha : tmps.getD a undef = .pointer (some x)) (hl : (loadVar t x).run P w = .ok v w) : (results fn tmps).run P w = .ok (.tuple #[v, tmps.getD u undef, tmps.getD u2 undef]) w := by
  have ha' : tmps[a]?.getD undef = .pointer (some x) := by rw [← ha]; simp
  simp [results, h, ha', asAddr, hl, Result.andThen]
/-- the result's cell is laid -/
theorem R21.fin {w wv : World} {b4 : Nat} {a a' : Option Addr} {c' : Nat} {L' : List Th} (nx' : Int) {u0 u1 : Value} (hk : Blk wv b4 #[u0, u1]) (h4 : w.heap.size ≤ b4) (hr : RefT wv a' c' L') (hb : Below w.heap.size w wv)
    (hloc : ∀ k, aB a' k → k < wv.heap.size ∧ (aB a k ∨ w.heap.size ≤ k)) (hne : ∀ k, aB a' k → k ≠ b4) :
    ∃ wz, wz = (wv.setCell ⟨b4, 0, none⟩ (.slice a' L'.length c')).setCell ⟨b4, 1, none⟩ (.int .i64 nx') ∧ wz.cell? ⟨b4, 0, none⟩ = some (.slice a' L'.length c') ∧ wz.cell? ⟨b4, 1, none⟩ = some (.int .i64 nx') ∧
      ∀ rest, R21Post w a ⟨L', nx'⟩ rest (.returned (.tuple (Value.agg #[.slice a' L'.length c', .int .i64 nx'] :: rest).toArray)) wz := by
  have hkz : Blk ((wv.setCell ⟨b4, 0, none⟩ (.slice a' L'.length c')).setCell ⟨b4, 1, none⟩ (.int .i64 nx')) b4 #[.slice a' L'.length c', .int .i64 nx'] := (hk.set 0 _).set 1 _
  have hu : Upd (fun k => k = b4) wv ((wv.setCell ⟨b4, 0, none⟩ (.slice a' L'.length c')).setCell ⟨b4, 1, none⟩ (.int .i64 nx')) := (Upd.setCell wv b4 0 _).trans (Upd.setCell _ b4 1 _) (fun _ _ q => q)
  refine ⟨_, rfl, by rw [hkz.cell]; rfl, by rw [hkz.cell]; rfl, fun rest => ⟨a', c', rfl, hr.upd hu (fun k hk q => hne k hk q), hb.trans (hu.below hb.size (fun k _ q => by rw [q]; exact h4)), fun k hk => ⟨by have := (hloc k hk).1; have := hu.size; omega, (hloc k hk).2⟩⟩⟩
theorem delT_take {L : List Th} {j : Nat} {x : Th} (h : L.take (j + 1) = L.take j ++ [x]) (n : Int) : delT (L.take (j + 1)) n = delT (L.take j) n ++ (if x.id = n then [] else [x]) := by
  rw [h]
  unfold delT
  rw [List.filter_append]
  by_cases q : x.id = n <;> simp [q]
set_option maxRecDepth 100000 in
set_option maxHeartbeats 4000000 in
theorem ref21_Destroy {a : Option Addr} {c : Nat} {L : List Th} (nx : Int) (w : World) (h : RefT w a c L) (hlow : ∀ k, aB a k → k < w.heap.size) (hs : SortK kI L) (n : Int) :
    Calls Tryd.prog 32 #[.agg #[.slice a L.length c, .int .i64 nx], .int .i64 n] w (R21Post w a (destX ⟨L, nx⟩ n) [.int .i64 (destE L n)]) := by
  have H := hid h
  have hl := h.lt
  have HLOW := hid hlow
  have HS := hid hs
  clear h hlow hs
  have hent : ∃ z : Unit, True := ⟨(), trivial⟩
  cases hf : fdT L n with
  | none =>
    have e : destE L n = 14 := by unfold destE; rw [hf]; rfl
    have e2 : destX ⟨L, nx⟩ n = ⟨L, nx⟩ := by unfold destX; rw [if_neg (by show ¬ destE L n = 0; rw [e]; decide)]
    rw [e, e2]
    have HF := hid hf
    clear hf e e2 hent
    go_enter Tryd.func32, Tryd.ntmps32
    go_upto_region 1 with fail
    generalize hw2 : World.alloc (World.alloc w _) _ = w2
    obtain ⟨bs, hbs⟩ : ∃ b, b = w.heap.size := ⟨_, rfl⟩
    obtain ⟨b4, hb4⟩ : ∃ b, b = w.heap.size + 1 := ⟨_, rfl⟩
    have hz1 : (World.alloc w (.cells #[.slice a L.length c, .int .i64 nx] 34)).heap.size = w.heap.size + 1 := by simp
    try rw [hz1]
    try rw [← hb4]
    try rw [← hbs]
    have hb2 : Below w.heap.size w w2 := by rw [← hw2]; exact Below.next (Below.new _ _) (Below.new _ _)
    have HK : Hid (Blk w2 bs #[.slice a L.length c, .int .i64 nx]) := hid (by rw [← hw2, hbs]; exact (Blk.new w _ _).below (Below.new _ _))
    have HK4 : Hid (Blk w2 b4 #[.slice none 0 0, .int .i64 0]) := hid (by rw [← hw2, hb4, ← hz1]; exact Blk.new _ _ _)
    have H2 := hid (H.out.below hb2)
    have HB2 := hid hb2
    have HB4 : Hid (w.heap.size ≤ b4 ∧ b4 < w2.heap.size ∧ b4 ≠ bs) := hid (by have := HK4.out.lt; omega)
    clear hw2 hbs hb4 hz1 hb2
    have c0 : w2.cell? ⟨bs, 0, none⟩ = some (.slice a L.length c) := by rw [HK.out.cell]; rfl
    have c1 : w2.cell? ⟨bs, 1, none⟩ = some (.int .i64 nx) := by rw [HK.out.cell]; rfl
    go_wp2_with fail
    refine (ref21_Find nx w2 H2.out n).mono ?_
    rintro e w3 ⟨r, rfl, hr, hb3⟩
    obtain rfl : r = -1 := by
      rcases hr with ⟨i, x, -, -, -, q⟩ | ⟨q, -⟩
      · rw [HF.out] at q; cases q
      · exact q
    clear hr c0 c1
    have HKR := hid (HK.out.below hb3)
    have HKR4 := hid (HK4.out.below hb3)
    obtain ⟨wz, hwz, z0, z1, hpo⟩ := R21.fin (w := w) (a := a) (a' := a) (c' := c) (L' := L) nx HKR4.out HB4.out.1 (H2.out.below hb3) (Below.next HB2.out hb3) (fun k hk => ⟨by have := HLOW.out k hk; have := HB2.out.size; have := (hb3).size; omega, .inl hk⟩) (fun k hk q => by have := HLOW.out k hk; have := HB4.out.1; omega)
    have HW := hid hwz
    have HPO := hid hpo
    have c0 : w3.cell? ⟨bs, 0, none⟩ = some (.slice a L.length c) := by rw [HKR.out.cell]; rfl
    have c1 : w3.cell? ⟨bs, 1, none⟩ = some (.int .i64 nx) := by rw [HKR.out.cell]; rfl
    have y0 : w3.cell? ⟨b4, 0, none⟩ = some (.slice none 0 0) := by rw [HKR4.out.cell]; rfl
    have y1 : w3.cell? ⟨b4, 1, none⟩ = some (.int .i64 0) := by rw [HKR4.out.cell]; rfl
    have f0 : w3.frozen? ⟨b4, 0, none⟩ = false := HKR4.out.unfrozen 0
    have f1 : w3.frozen? ⟨b4, 1, none⟩ = false := HKR4.out.unfrozen 1
    clear hwz hpo
    go_wp2_with fail
    rw [← HW.out]
    refine bodyPost_ret (res_cell_tmp rfl _ _ _ rfl (by go_simp; rfl)) rfl ?_
    exact HPO.out _
  | some g0 =>
    have e : destE L n = 0 := by unfold destE; rw [hf]; rfl
    have e2 : destX ⟨L, nx⟩ n = ⟨delT L n, nx⟩ := by unfold destX; rw [if_pos (by show destE L n = 0; exact e)]
    rw [e, e2]
    have HF := hid hf
    clear hf e e2 hent
    go_enter Tryd.func32, Tryd.ntmps32
    go_upto_region 1 with fail
    generalize hw2 : World.alloc (World.alloc w _) _ = w2
    obtain ⟨bs, hbs⟩ : ∃ b, b = w.heap.size := ⟨_, rfl⟩
    obtain ⟨b4, hb4⟩ : ∃ b, b = w.heap.size + 1 := ⟨_, rfl⟩
    have hz1 : (World.alloc w (.cells #[.slice a L.length c, .int .i64 nx] 34)).heap.size = w.heap.size + 1 := by simp
    try rw [hz1]
    try rw [← hb4]
    try rw [← hbs]
    have hb2 : Below w.heap.size w w2 := by rw [← hw2]; exact Below.next (Below.new _ _) (Below.new _ _)
    have HK : Hid (Blk w2 bs #[.slice a L.length c, .int .i64 nx]) := hid (by rw [← hw2, hbs]; exact (Blk.new w _ _).below (Below.new _ _))
    have HK4 : Hid (Blk w2 b4 #[.slice none 0 0, .int .i64 0]) := hid (by rw [← hw2, hb4, ← hz1]; exact Blk.new _ _ _)
    have H2 := hid (H.out.below hb2)
    have HB2 := hid hb2
    have HB4 : Hid (w.heap.size ≤ b4 ∧ b4 < w2.heap.size ∧ b4 ≠ bs) := hid (by have := HK4.out.lt; omega)
    clear hw2 hbs hb4 hz1 hb2
    have c0 : w2.cell? ⟨bs, 0, none⟩ = some (.slice a L.length c) := by rw [HK.out.cell]; rfl
    have c1 : w2.cell? ⟨bs, 1, none⟩ = some (.int .i64 nx) := by rw [HK.out.cell]; rfl
    go_wp2_with fail
    refine (ref21_Find nx w2 H2.out n).mono ?_
    rintro e w3 ⟨r, rfl, hr, hb3⟩
    obtain ⟨i0, rfl, hat, hgid⟩ : ∃ i0 : Nat, r = (i0 : Int) ∧ L[i0]? = some g0 ∧ g0.id = n := by
      rcases hr with ⟨i, g, q1, q2, q3, q4⟩ | ⟨-, q⟩
      · rw [HF.out] at q4; obtain rfl := Option.some.inj q4; exact ⟨i, q1, q2, q3⟩
      · rw [HF.out] at q; cases q
    have HAT := hid hat
    have HGI := hid hgid
    have i00 : ¬ (i0 : Int) < 0 := by omega
    have HK3 := hid (HK.out.below hb3)
    have HK43 := hid (HK4.out.below hb3)
    have H3 := hid (H2.out.below hb3)
    have HB3 := hid (Below.next HB2.out hb3)
    have HBN : Hid (b4 < w3.heap.size) := hid HK43.out.lt
    clear hr hb3 hat hgid c0 c1
    go_wp2_with fail
    go_loopw [7, 8] (fun vo vi wr => ∃ (j : Nat) (vo' : Value), vo' = vo ∧ vi = .int .i64 (j : Int) ∧ j ≤ L.length ∧ Hid (wr.ownsRow w3.heap.size 45 6 vo (delT (L.take j) n).length (svT (delT (L.take j) n))) ∧ Hid (Below w3.heap.size w3 wr)) (fun _ vi _ => L.length - (intOf vi).toNat)
    case atStart => exact ⟨0, _, rfl, rfl, by omega, hid (by simpa [svT, delT] using World.ownsRow_nil _ _ _ _), hid (Below.refl _ _)⟩
    case round =>
      obtain ⟨j, vo, hvo, rfl, hj, hown, hb⟩ := hrel
      subst hvo
      have HKR := hid (HK3.out.below hb.out)
      have HK4R := hid (HK43.out.below hb.out)
      have c0 : wr.cell? ⟨bs, 0, none⟩ = some (.slice a L.length c) := by rw [HKR.out.cell]; rfl
      have c1 : wr.cell? ⟨bs, 1, none⟩ = some (.int .i64 nx) := by rw [HKR.out.cell]; rfl
      by_cases hlt : j < L.length
      · have j1 : (j : Int) < (L.length : Int) := by omega
        have j0 : (0 : Int) ≤ (j : Int) := by omega
        obtain ⟨a', c', e', hrd, -⟩ := H3.out.t.below hb.out
        simp only [Value.slice.injEq, true_and] at e'
        obtain ⟨rfl, rfl⟩ := e'
        obtain ⟨b0, off, x, rfl, d0, d1, d2, d3, d4, d5, hatj, -, htk⟩ := hrd.six j hlt
        have hsz := hb.out.size
        have hfl : (delT (L.take j) n).length ≤ 1000 := Nat.le_trans (List.length_filter_le _ _) (by rw [List.length_take]; omega)
        have HDT := hid (delT_take htk n)
        have hiff : j = i0 ↔ x.id = n := by
          constructor
          · rintro rfl; rw [HAT.out] at hatj; obtain rfl := Option.some.inj hatj; exact HGI.out
          · intro q; exact sortK_idx kI HS.out hatj HAT.out (by show x.id = g0.id; rw [q, HGI.out])
        obtain ⟨xi, xn, xo, xk, xh, xs⟩ := x
        simp only at d0 d1 d2 d3 d4 d5
        clear hrd htk hatj
        by_cases hx : j = i0
        · have HW : Hid (delT (L.take (j + 1)) n = delT (L.take j) n) := hid (by rw [HDT.out, if_pos (hiff.1 hx), List.append_nil])
          have hxx : ((j : Int) != (i0 : Int)) = false := by simp; omega
          clear hx hiff d0 d1 d2 d3 d4 d5
          go_wp2
          go_roundw
          case rel => exact ⟨j + 1, _, rfl, by go_num, by omega, by rw [HW.out]; exact hown, hb⟩
          case measure => simp [intOf]; omega
        · have HW : Hid (delT (L.take (j + 1)) n = delT (L.take j) n ++ [⟨xi, xn, xo, (xk, xh, xs)⟩]) := hid (by rw [HDT.out, if_neg (fun q => hx (hiff.2 q))])
          have hxx : ((j : Int) != (i0 : Int)) = true := by simp; omega
          clear hx hiff
          go_wp2_with (at_builtin; refine wpList_append1w T_th21 _ rfl _ _ #[.int .i64 xi, .string ⟨xn.toArray⟩, .int .i64 xo, .int .i64 xk, .int .i64 xh, .int .i64 xs] rfl w3.heap.size _ _ _ rfl hown.out rfl rfl ?c1 ?c2 ?c3 ?_)
          case c1 => exact ⟨rfl, rfl, rfl, rfl, rfl, rfl⟩
          case c2 => omega
          try (case c3 => omega)
          intro v' w4 hown' hgrow hne hwh
          have HO : Hid (w4.ownsRow w3.heap.size 45 6 v' (delT (L.take (j + 1)) n).length (svT (delT (L.take (j + 1)) n))) := hid (by
            rw [HW.out, svT_append, List.length_append]; exact hown')
          have HB : Hid (Below w3.heap.size w3 w4) := hid (hb.out.grown hgrow hsz (fun k hk => (hown.out.lt k hk).1))
          clear hown' hgrow hwh hne c0 c1 d0 d1 d2 d3 d4 d5
          go_wp2
          go_roundw
          case rel => exact ⟨j + 1, _, rfl, by go_num, by omega, HO, HB⟩
          case measure => simp [intOf]; omega
      · have e1 : L.take j = L := List.take_of_length_le (by omega)
        rw [e1] at hown
        have j1 : ¬ (j : Int) < (L.length : Int) := by omega
        obtain ⟨av, cv, rfl, -⟩ := ownsRow.rd hown.out
        obtain ⟨wz, hwz, z0, z1, hpo⟩ := R21.fin (w := w) (a := a) (a' := av) (c' := cv) (L' := delT L n) nx HK4R.out HB4.out.1 ⟨(SlTh.of_own hown.out).below (Below.refl _ _), Nat.le_trans (List.length_filter_le _ _) H.out.lt⟩ (Below.next HB3.out hb.out) (fun k hk => by have h1 := hown.out.lt k (own_aB hk); exact ⟨h1.2, .inr (by have := HB3.out.size; omega)⟩) (fun k hk q => by have h1 := hown.out.lt k (own_aB hk); have := HBN.out; omega)
        have HW := hid hwz
        have HPO := hid hpo
        have y0 : wr.cell? ⟨b4, 0, none⟩ = some (.slice none 0 0) := by rw [HK4R.out.cell]; rfl
        have y1 : wr.cell? ⟨b4, 1, none⟩ = some (.int .i64 0) := by rw [HK4R.out.cell]; rfl
        have f0 : wr.frozen? ⟨b4, 0, none⟩ = false := HK4R.out.unfrozen 0
        have f1 : wr.frozen? ⟨b4, 1, none⟩ = false := HK4R.out.unfrozen 1
        clear hwz hpo
        go_wp2_with fail
        rw [← HW.out]
        refine bodyPost_ret (res_cell_tmp rfl _ _ _ rfl (by go_simp; rfl)) rfl ?_
        exact HPO.out _
end Go.Proofs.YtdoflhiogoefjaaDoor
end
section
/- How things stand in memory. -/
namespace Go.Proofs.YtdoflhiogoefjaaDoor
open Go.RowKit
open Go.Lib (hid)
set_option linter.unusedVariables false

structure PRow where
  p : P3
  v : Value
  l : List Int
def PRow.core (r : PRow) : P3 × List Int := (r.p, r.l)
def PRow.key (r : PRow) : P3 × Value := (r.p, r.v)
def thKV (x : Th) : Int × Value := (x.id, thV x)
abbrev ownI0 (w : World) (v : Value) (l : List Int) : Prop := w.ownsRow 0 3 1 v l.length (iv l)
structure ThParts (w : World) (s : Nat) (F : Nat → Prop) (b1 b2 : Nat) (nx : Int) (M : List Th) (R : List PRow) : Prop where
  blk : Blk w s #[.map (some b1), .map (some b2), .int .i64 nx]
  m1 : MapE w b1 (M.map thKV)
  m2 : MP.MapP w b2 (R.map PRow.key)
  fs : F s
  f1 : F b1
  f2 : F b2
  n1 : s ≠ b1
  n2 : s ≠ b2
  n3 : b1 ≠ b2
  row : ∀ r ∈ R, ownI0 w r.v r.l
  feet : ∀ r ∈ R, ∀ k, r.v.ownBlock = some k → F k ∧ k ≠ s ∧ k ≠ b1 ∧ k ≠ b2
  far : ∀ r ∈ R, ∀ q ∈ R, r.p ≠ q.p → ∀ k, r.v.ownBlock = some k → q.v.ownBlock ≠ some k
structure ThRel (M : List Th) (R : List PRow) (L : List Th) : Prop where
  r1 : M.Perm L
  r2 : ∀ p, (R.map PRow.core).lookup p = if inT L p = [] then none else some (inT L p)
def ThCore (w : World) (s : Nat) (F : Nat → Prop) (L : List Th) (nx : Int) : Prop := ∃ b1 b2 M R, ThParts w s F b1 b2 nx M R ∧ ThRel M R L ∧ SortK kI L
def ThingIs (w : World) (s : Nat) (F : Nat → Prop) (X : ThX) : Prop := ThCore w s F X.L X.nx ∧ TInv X
theorem ThParts.upd {S : Nat → Prop} {w w' : World} {s : Nat} {F : Nat → Prop} {b1 b2 : Nat} {nx : Int} {M : List Th} {R : List PRow} (h : ThParts w s F b1 b2 nx M R) (hu : Upd S w w') (hS : ∀ k, S k → ¬ F k) : ThParts w' s F b1 b2 nx M R :=
  ⟨h.blk.upd hu (fun q => hS _ q h.fs), h.m1.upd hu (fun q => hS _ q h.f1), h.m2.upd hu (fun q => hS _ q h.f2), h.fs, h.f1, h.f2, h.n1, h.n2, h.n3, fun r hr => hu.owns (h.row r hr) (fun k hk q => hS k q (h.feet r hr k hk).1), h.feet, h.far⟩
theorem ThParts.weaken {w : World} {s : Nat} {F G : Nat → Prop} {b1 b2 : Nat} {nx : Int} {M : List Th} {R : List PRow} (h : ThParts w s F b1 b2 nx M R) (hG : ∀ k, F k → k < w.heap.size → G k) : ThParts w s G b1 b2 nx M R :=
  ⟨h.blk, h.m1, h.m2, hG _ h.fs h.blk.lt, hG _ h.f1 h.m1.lt, hG _ h.f2 h.m2.lt, h.n1, h.n2, h.n3, h.row, fun r hr k hk => ⟨hG k (h.feet r hr k hk).1 ((h.row r hr).lt k hk).2, (h.feet r hr k hk).2⟩, h.far⟩
theorem ThCore.upd {S : Nat → Prop} {w w' : World} {s : Nat} {F : Nat → Prop} {L : List Th} {nx : Int} (h : ThCore w s F L nx) (hu : Upd S w w') (hS : ∀ k, S k → ¬ F k) : ThCore w' s F L nx := by
  obtain ⟨b1, b2, M, R, hp, hr⟩ := h; exact ⟨b1, b2, M, R, hp.upd hu hS, hr⟩
theorem ThCore.below {w w' : World} {s : Nat} {F : Nat → Prop} {L : List Th} {nx : Int} (h : ThCore w s F L nx) (hb : Below w.heap.size w w') : ThCore w' s F L nx :=
  h.upd (S := fun _ => False) (Upd.of_below hb) (fun _ q => q.elim)
theorem ThCore.weaken {w : World} {s : Nat} {F G : Nat → Prop} {L : List Th} {nx : Int} (h : ThCore w s F L nx) (hG : ∀ k, F k → k < w.heap.size → G k) : ThCore w s G L nx := by
  obtain ⟨b1, b2, M, R, hp, hr⟩ := h; exact ⟨b1, b2, M, R, hp.weaken hG, hr⟩
theorem ThingIs.upd {S : Nat → Prop} {w w' : World} {s : Nat} {F : Nat → Prop} {X : ThX} (h : ThingIs w s F X) (hu : Upd S w w') (hS : ∀ k, S k → ¬ F k) : ThingIs w' s F X := ⟨h.1.upd hu hS, h.2⟩
theorem ThingIs.below {w w' : World} {s : Nat} {F : Nat → Prop} {X : ThX} (h : ThingIs w s F X) (hb : Below w.heap.size w w') : ThingIs w' s F X := ⟨h.1.below hb, h.2⟩
theorem ThingIs.weaken {w : World} {s : Nat} {F G : Nat → Prop} {X : ThX} (h : ThingIs w s F X) (hG : ∀ k, F k → k < w.heap.size → G k) : ThingIs w s G X := ⟨h.1.weaken hG, h.2⟩
theorem ThParts.cells {w : World} {s : Nat} {F : Nat → Prop} {b1 b2 : Nat} {nx : Int} {M : List Th} {R : List PRow} (h : ThParts w s F b1 b2 nx M R) : w.cell? ⟨s, 0, none⟩ = some (.map (some b1)) ∧ w.cell? ⟨s, 1, none⟩ = some (.map (some b2)) ∧ w.cell? ⟨s, 2, none⟩ = some (.int .i64 nx) :=
  ⟨by rw [h.blk.cell]; rfl, by rw [h.blk.cell]; rfl, by rw [h.blk.cell]; rfl⟩
/-- the map of things, asked -/
theorem lookM {M L : List Th} (hp : M.Perm L) (hs : SortK kI L) (n : Int) : (M.map thKV).lookup n = (fdT L n).map thV := by
  have hn : ((M.map thKV).map (·.1)).Nodup := by
    rw [List.map_map]
    exact (hp.map (fun x => x.id)).nodup_iff.2 (SortK.nodup kI hs)
  cases e : fdT L n with
  | none =>
    rw [Option.map_none, lookup_none_iff]
    intro p hpm
    obtain ⟨x, hx, rfl⟩ := List.mem_map.1 hpm
    exact (fdT_none.1 e) x (hp.mem_iff.1 hx)
  | some x =>
    obtain ⟨h1, h2⟩ := (fdT_some hs).1 e
    rw [Option.map_some, lookup_mem_iff hn, ← h2]
    exact List.mem_map.2 ⟨x, hp.mem_iff.2 h1, rfl⟩
theorem putM {M : List Th} {x : Th} (h : ∀ y ∈ M, y.id ≠ x.id) : aput (M.map thKV) x.id (thV x) = (M ++ [x]).map thKV := by
  have : (M.map thKV).lookup x.id = none := by
    rw [lookup_none_iff]
    intro p hp
    obtain ⟨y, hy, rfl⟩ := List.mem_map.1 hp
    exact h y hy
  unfold aput
  rw [this, List.map_append]; rfl
theorem delM (M : List Th) (n : Int) : adel (M.map thKV) n = (delT M n).map thKV := by
  unfold adel delT
  rw [List.filter_map]
  have e : ((fun p : Int × Value => p.1 != n) ∘ thKV) = (fun x : Th => !decide (x.id = n)) := by
    funext x
    show (x.id != n) = !decide (x.id = n)
    simp [bne, Bool.beq_eq_decide_eq]
  rw [e]
theorem permDel {M L : List Th} (h : M.Perm L) (n : Int) : (delT M n).Perm (delT L n) := h.filter _
/-- a row laid -/
def putRow (R : List PRow) (r : PRow) : List PRow := if ((R.map PRow.key).lookup r.p).isSome then R.map (fun q => if q.p = r.p then r else q) else R ++ [r]
theorem isSome_rows (R : List PRow) (p : P3) : ((R.map PRow.key).lookup p).isSome = ((R.map PRow.core).lookup p).isSome := by
  induction R with
  | nil => rfl
  | cons r R ih =>
    simp only [List.map_cons, PRow.key, PRow.core, List.lookup_cons]
    cases p == r.p
    · exact ih
    · rfl
theorem putRow_key (R : List PRow) (r : PRow) : (putRow R r).map PRow.key = MP.aput (R.map PRow.key) r.p r.v := by
  unfold putRow MP.aput
  split
  · rw [List.map_map, List.map_map]
    apply List.map_congr_left
    intro q _
    show PRow.key (if q.p = r.p then r else q) = (if (PRow.key q).1 = r.p then (r.p, r.v) else PRow.key q)
    by_cases h : q.p = r.p
    · rw [if_pos h, if_pos (show (PRow.key q).1 = r.p from h)]; rfl
    · rw [if_neg h, if_neg (show ¬ (PRow.key q).1 = r.p from h)]
  · rw [List.map_append]; rfl
theorem putRow_core (R : List PRow) (r : PRow) : (putRow R r).map PRow.core = MP.aput (R.map PRow.core) r.p r.l := by
  unfold putRow MP.aput
  rw [isSome_rows]
  split
  · rw [List.map_map, List.map_map]
    apply List.map_congr_left
    intro q _
    show PRow.core (if q.p = r.p then r else q) = (if (PRow.core q).1 = r.p then (r.p, r.l) else PRow.core q)
    by_cases h : q.p = r.p
    · rw [if_pos h, if_pos (show (PRow.core q).1 = r.p from h)]; rfl
    · rw [if_neg h, if_neg (show ¬ (PRow.core q).1 = r.p from h)]
  · rw [List.map_append]; rfl
theorem putRow_mem {R : List PRow} {r q : PRow} (h : q ∈ putRow R r) : q = r ∨ (q ∈ R ∧ q.p ≠ r.p) := by
  unfold putRow at h
  split at h
  · obtain ⟨x, hx, rfl⟩ := List.mem_map.1 h
    by_cases e : x.p = r.p
    · left; rw [if_pos e]
    · right; rw [if_neg e]; exact ⟨hx, e⟩
  · rename_i hn
    rcases List.mem_append.1 h with h | h
    · right
      refine ⟨h, fun e => hn ?_⟩
      cases q2 : (R.map PRow.key).lookup r.p with
      | some _ => rfl
      | none => exact absurd e (MP.lookup_none_iff.1 q2 (PRow.key q) (List.mem_map_of_mem h))
    · left; simpa using h
def delRow (R : List PRow) (p : P3) : List PRow := R.filter (fun q => !decide (q.p = p))
theorem delRow_key (R : List PRow) (p : P3) : (delRow R p).map PRow.key = MP.adel (R.map PRow.key) p := by
  unfold delRow MP.adel
  rw [List.filter_map]
  congr 1
  apply List.filter_congr
  intro x _
  show (!decide (x.p = p)) = (x.p != p)
  simp [bne, Bool.beq_eq_decide_eq]
theorem delRow_core (R : List PRow) (p : P3) : (delRow R p).map PRow.core = MP.adel (R.map PRow.core) p := by
  unfold delRow MP.adel
  rw [List.filter_map]
  congr 1
  apply List.filter_congr
  intro x _
  show (!decide (x.p = p)) = (x.p != p)
  simp [bne, Bool.beq_eq_decide_eq]
theorem delRow_mem {R : List PRow} {p : P3} {q : PRow} (h : q ∈ delRow R p) : q ∈ R ∧ q.p ≠ p := by
  unfold delRow at h; simpa using h
/-- those at a place: a slice of their own -/
structure PlAt (w : World) (s : Nat) (F : Nat → Prop) (b1 b2 : Nat) (R : List PRow) (p : P3) (v : Value) (l : List Int) : Prop where
  look : ((R.map PRow.key).lookup p).getD (.slice none 0 0) = v
  own : ownI0 w v l
  feet : ∀ k, v.ownBlock = some k → F k ∧ k ≠ s ∧ k ≠ b1 ∧ k ≠ b2
  far : ∀ q ∈ R, q.p ≠ p → ∀ k, q.v.ownBlock = some k → v.ownBlock ≠ some k
theorem ThParts.place {w : World} {s : Nat} {F : Nat → Prop} {b1 b2 : Nat} {nx : Int} {M : List Th} {R : List PRow} {L : List Th} (h : ThParts w s F b1 b2 nx M R) (hr : ThRel M R L) (p : P3) : ∃ v, PlAt w s F b1 b2 R p v (inT L p) := by
  have h2 := hr.r2 p
  have hi := isSome_rows R p
  cases hk : (R.map PRow.key).lookup p with
  | none =>
    rw [hk] at hi
    have hl : inT L p = [] := by
      rw [h2] at hi
      by_cases e : inT L p = []
      · exact e
      · rw [if_neg e] at hi; cases hi
    refine ⟨.slice none 0 0, by rw [hk]; rfl, by rw [hl]; exact World.ownsRow_nil _ _ _ _, by simp [Value.ownBlock], by simp [Value.ownBlock]⟩
  | some v =>
    have hm := MP.lookup_mem hk
    obtain ⟨r, hrm, e⟩ := List.mem_map.1 hm
    have e1 : r.p = p := (Prod.mk.inj e).1
    have e2 : r.v = v := (Prod.mk.inj e).2
    have hn : ((R.map PRow.core).map (·.1)).Nodup := by
      have := h.m2.nodup
      rw [List.map_map] at this ⊢
      exact this
    have hl : (R.map PRow.core).lookup p = some r.l := (MP.lookup_mem_iff hn).2 (by rw [← e1]; exact List.mem_map_of_mem (f := PRow.core) hrm)
    rw [h2] at hl
    have hll : inT L p = r.l := by
      by_cases e : inT L p = []
      · rw [if_pos e] at hl; cases hl
      · rw [if_neg e] at hl; exact Option.some.inj hl
    subst e2
    refine ⟨r.v, by rw [hk]; rfl, by rw [hll]; exact h.row r hrm, h.feet r hrm, fun q hq hne k hk2 => h.far q hq r hrm (by rw [e1]; exact hne) k hk2⟩
/-- memory has turned, at one place alone -/
theorem ThParts.remake {S : Nat → Prop} {w w' : World} {s : Nat} {F : Nat → Prop} {b1 b2 : Nat} {nx nx' : Int} {M M' : List Th} {R R' : List PRow} (h : ThParts w s F b1 b2 nx M R) (hu : Upd S w w') (p : P3) (v v' : Value) (l' : List Int)
    (hb : Blk w' s #[.map (some b1), .map (some b2), .int .i64 nx']) (h1 : MapE w' b1 (M'.map thKV)) (h2 : MP.MapP w' b2 (R'.map PRow.key))
    (hf : ∀ k, v.ownBlock = some k → F k ∧ k ≠ s ∧ k ≠ b1 ∧ k ≠ b2) (hfar : ∀ q ∈ R, q.p ≠ p → ∀ k, q.v.ownBlock = some k → v.ownBlock ≠ some k)
    (hS : ∀ q ∈ R, q.p ≠ p → ∀ k, q.v.ownBlock = some k → ¬ S k) (ho : ownI0 w' v' l') (hg : ∀ k, v'.ownBlock = some k → v.ownBlock = some k ∨ w.heap.size ≤ k)
    (hR : ∀ q ∈ R', q = ⟨p, v', l'⟩ ∨ (q ∈ R ∧ q.p ≠ p)) : ThParts w' s (fun k => F k ∨ w.heap.size ≤ k) b1 b2 nx' M' R' := by
  have a := h.blk.lt
  have b := h.m1.lt
  have c := h.m2.lt
  refine ⟨hb, h1, h2, .inl h.fs, .inl h.f1, .inl h.f2, h.n1, h.n2, h.n3, ?_, ?_, ?_⟩
  · intro q hq
    rcases hR q hq with rfl | ⟨hq, hn⟩
    · exact ho
    · exact hu.owns (h.row q hq) (fun k hk q2 => hS q hq hn k hk q2)
  · intro q hq k hk
    rcases hR q hq with rfl | ⟨hq, hn⟩
    · rcases hg k hk with e | e
      · exact ⟨.inl (hf k e).1, (hf k e).2⟩
      · exact ⟨.inr e, by omega, by omega, by omega⟩
    · exact ⟨.inl (h.feet q hq k hk).1, (h.feet q hq k hk).2⟩
  · intro q hq q2 hq2 hne k hk hk2
    rcases hR q hq with rfl | ⟨m1, n1⟩
    · rcases hR q2 hq2 with rfl | ⟨m2, n2⟩
      · exact hne rfl
      · rcases hg k hk with e | e
        · exact hfar q2 m2 n2 k hk2 e
        · have := (h.row q2 m2).lt k hk2; omega
    · rcases hR q2 hq2 with rfl | ⟨m2, n2⟩
      · rcases hg k hk2 with e | e
        · exact hfar q m1 n1 k hk e
        · have := (h.row q m1).lt k hk; omega
      · exact h.far q m1 q2 m2 hne k hk hk2
/-- the rows, once a thing has come -/
theorem ThRel.ins {M : List Th} {R : List PRow} {L : List Th} (h : ThRel M R L) (hs : SortK kI L) {x : Th} (hx : ∀ y ∈ L, y.id ≠ x.id) (v' : Value) : ThRel (M ++ [x]) (putRow R ⟨x.pl, v', insK kN (inT L x.pl) x.id⟩) (insK kI L x) := by
  refine ⟨?_, fun p => ?_⟩
  · exact (List.perm_append_comm.trans (List.Perm.cons x h.r1)).trans (insK_perm kI L x).symm
  · rw [putRow_core, MP.lookup_aput, inT_ins hs]
    by_cases e : p = x.pl
    · rw [if_pos e, if_pos e, e]
      rw [if_neg (fun q => by have := congrArg List.length q; rw [insK_len] at this; simp at this)]
    · rw [if_neg e, if_neg e]; exact h.r2 p
theorem ThRel.del {M : List Th} {R : List PRow} {L : List Th} (h : ThRel M R L) (hs : SortK kI L) {x : Th} (hx : x ∈ L) (v' : Value) :
    ThRel (delT M x.id) (if inT (delT L x.id) x.pl = [] then delRow R x.pl else putRow R ⟨x.pl, v', inT (delT L x.id) x.pl⟩) (delT L x.id) := by
  refine ⟨permDel h.r1 _, fun p => ?_⟩
  split
  · rename_i e0
    rw [delRow_core, MP.lookup_adel]
    by_cases e : p = x.pl
    · rw [if_pos e, e, if_pos e0]
    · rw [if_neg e, inT_del_other hs hx e]; exact h.r2 p
  · rename_i e0
    rw [putRow_core, MP.lookup_aput]
    by_cases e : p = x.pl
    · rw [if_pos e, e, if_neg e0]
    · rw [if_neg e, inT_del_other hs hx e]; exact h.r2 p
end Go.Proofs.YtdoflhiogoefjaaDoor
end
