/- The law ChestMay, walked. -/
import Derived.Test.YtopdcjekdmaopaaChestLaw
import Derived.Lib.SmallJoins
namespace Go.Proofs.Ytopdcjekdmaopaa
open Go.RowKit Go.ChangeShapes Go.WideShapes Go.Deep Go.Joins
open Go.Lib (hid)
set_option linter.unusedVariables false

theorem StepPre.below {w w' : World} {g : Nat} {F : Nat → Prop} {m : List (Int × List Int)} {v : Value} {X : List (Int × Int)} (h : StepPre w g F m v X) (hb : Below w.heap.size w w') : StepPre w' g F m v X :=
  ⟨h.ch.below hb, fun j hj => Nat.lt_of_lt_of_le (h.lt j hj) hb.size, h.sl.below hb, fun j hj => ⟨(h.far j hj).1, Nat.lt_of_lt_of_le (h.far j hj).2 hb.size⟩, h.rel, h.len⟩
theorem Below.drawn' (w : World) (n : Nat) : Below w.heap.size w (w.drewN n) := ⟨rfl, rfl, rfl, Nat.le_refl _, fun _ _ => rfl⟩
theorem u64_3 : Try.prog.underlying 3 = some (.int .i64) := Try.underlying3
set_option maxRecDepth 100000 in
set_option maxHeartbeats 4000000 in
theorem ChestMay_walk {H : Type} {enc : TypeId × Value → H} {b0 b1 : Nat} {d0 d1 : DataW H} {p0 p1 : List MemPlace} (v0 v1 : Value) (held : Int) (w : World) (ok0 : Value.okWide Try.prog w .any b0 48 v0) (k0 : DataW.Trod enc Try.prog w 0 (fun _ => true) true 48 v0 d0 p0)
    (ok1 : Value.okWide Try.prog w .any b1 50 v1) (k1 : DataW.Trod enc Try.prog w 0 (fun _ => true) true 50 v1 d1 p1) (wh : (Lit.int .i64 held).wf = true) :
    Calls Try.prog 14 #[v0, v1, .int .i64 held] w fun e w' => e = .returned (.bool true) ∧ Below w.heap.size w w' := by
  obtain ⟨L, hL⟩ := open_istructs Try.underlying48 Try.underlying50 (by kernel_rfl) (by kernel_rfl) (by decide) (by intro f hf; simp at hf; rcases hf with rfl | rfl | rfl | rfl <;> exact u64_3) ok0 k0
  obtain ⟨x0, x1, x2, x3, y0, y1, y2, y3, n, rfl, -, -, t0, t1, t2, t3⟩ := open_agg4 Try.underlying50 (by kernel_rfl) (by kernel_rfl) ok1 k1
  obtain ⟨zk, e0, -, -⟩ := DataW.trod_int u64_3 t0
  obtain ⟨zh, e1, -, -⟩ := DataW.trod_int u64_3 t1
  obtain ⟨zn, e2, -, wn⟩ := DataW.trod_int u64_3 t2
  obtain ⟨zd, e3, -, -⟩ := DataW.trod_int u64_3 t3
  simp only [List.cons.injEq, and_true] at e0 e1 e2 e3
  subst e0 e1 e2 e3
  clear ok0 k0 ok1 k1 t0 t1 t2 t3
  replace hL : SlS w v0 4 L := hL
  have HL := hid hL
  obtain ⟨a, c, rfl, -⟩ := hL
  obtain ⟨n1, n2⟩ := wf64 wn
  obtain ⟨h1, h2⟩ := wf64 wh
  clear wn wh
  by_cases hbig : 80 < L.length
  · go_enter Try.func14, Try.ntmps14
    go_wp2_with (first | (go_at_call 36; (with_reducible refine (chest_New _).mono ?_); rintro e w1 ⟨g, rfl, hc, hb⟩) | (go_at_call 37; (with_reducible refine (law22_awake _).mono ?_); rintro e w2 ⟨rfl, hb2⟩))
    go_ret
    exact ⟨rfl, below_on (below_on (Below.new' _ _) hb) hb2⟩
  go_enter Try.func14, Try.ntmps14
  go_wp2_with (go_at_call 36; (with_reducible refine (chest_New _).mono ?_); rintro e w1 ⟨g, rfl, hc, hb⟩)
  have HBZ := hid ((opBlk w zk zh zn zd).below hb)
  have HB1 := hid (below_on (Below.new' w _) hb)
  have HPRE : Hid (StepPre w1 g (fun k => w.heap.size + 1 ≤ k ∧ k < w1.heap.size) [] (.slice none 0 0) []) := hid ⟨hc.lt.weaken (fun k hk => ⟨by have := hk.1; simp at this; omega, hk.2⟩), fun j hj => hj.2, SlP.nil _, fun j hj => by simp [Value.ownBlock] at hj, ChRel.nil, by simp⟩
  clear hc hb
  have hl80 : L.length ≤ 80 := by omega
  go_loopw [8, 31] (fun v8 v31 wr => ∃ (k : Nat) (m : List (Int × List Int)) (X : List (Int × Int)) (F : Nat → Prop), v31 = .int .i64 k ∧ k ≤ L.length ∧ X.length ≤ k ∧ Hid (StepPre wr g F m v8 X) ∧ Hid (∀ j, F j → w.heap.size + 1 ≤ j) ∧ Hid (Blk wr w.heap.size #[.int .i64 zk, .int .i64 zh, .int .i64 zn, .int .i64 zd]) ∧ Hid (Below w.heap.size w wr)) (fun _ v31 _ => L.length - (intOf v31).toNat)
  case atStart => exact ⟨0, _, [], _, rfl, by omega, by simp, HPRE, hid (fun j hj => hj.1), HBZ, HB1⟩
  case round =>
    clear HPRE HBZ HB1
    obtain ⟨k, m, X, F, rfl, hk, hXk, HP, HF, HZ, HB⟩ := hrel
    by_cases hlt : k < L.length
    · obtain ⟨a', c', e', -, -, -, hrows⟩ := HL.out.below HB.out
      simp only [Value.slice.injEq] at e'
      obtain ⟨rfl, -, rfl⟩ := e'
      obtain ⟨r, hr⟩ : ∃ r, L[k]? = some r := ⟨_, List.getElem?_eq_getElem hlt⟩
      obtain ⟨k1, k2, b, off, rfl, -, k3⟩ := hrows k r hr
      obtain ⟨r0, r1, r2, r3, rfl⟩ : ∃ r0 r1 r2 r3, r = [r0, r1, r2, r3] := by
        match r, k1 with
        | [r0, r1, r2, r3], _ => exact ⟨r0, r1, r2, r3, rfl⟩
      have c0 : wr.cell? ⟨b, off + k * 4, none⟩ = some (.int .i64 r0) := k3 0 r0 rfl
      have c1 : wr.cell? ⟨b, off + k * 4 + 1, none⟩ = some (.int .i64 r1) := k3 1 r1 rfl
      have c2 : wr.cell? ⟨b, off + k * 4 + 2, none⟩ = some (.int .i64 r2) := k3 2 r2 rfl
      have c3 : wr.cell? ⟨b, off + k * 4 + 3, none⟩ = some (.int .i64 r3) := k3 3 r3 rfl
      obtain ⟨w2n, w2x⟩ := wf64 (k2 r2 (by simp))
      clear hrows hr k1 k2 k3
      go_wp2_with fail
      refine (law_step r0 r1 r2 r3 g F m u8 X _ (HP.out.below (Below.new' wr _)) w2n w2x).mono ?_
      rintro e w2 ⟨v', m', X', F', rfl, hc, hF, hs, hf, hrel, hlen, hinv, hu⟩
      have HPRE : Hid (StepPre w2 g F' m' v' X') := hid ⟨hc, fun j hj => (hF j hj).2, hs, fun j hj => ⟨(hf j hj).1, (hf j hj).2.1⟩, hrel, by omega⟩
      have HF2 : Hid (∀ j, F' j → w.heap.size + 1 ≤ j) := hid (fun j hj => by
        rcases (hF j hj).1 with q | q
        · exact HF.out j q
        · have := HZ.out.lt; simp at q; omega)
      have HZ2 : Hid (Blk w2 w.heap.size #[.int .i64 zk, .int .i64 zh, .int .i64 zn, .int .i64 zd]) := hid ((HZ.out.below (Below.new' wr _)).upd hu (fun q => by have := HF.out _ q; omega))
      have HB2 : Hid (Below w.heap.size w w2) := hid ((below_on HB.out (Below.new' wr _)).trans (hu.below (B := w.heap.size) (by have := HB.out.size; simp; omega) (fun j _ q => by have := HF.out j q; omega)))
      clear hc hF hs hf hrel hinv hu
      go_wp2_with fail
      go_roundw
      case rel => exact ⟨k + 1, m', X', F', by go_num, by omega, by omega, HPRE, HF2, HZ2, HB2⟩
      case measure => simp [intOf]; omega
    · obtain ⟨w2, hw2⟩ : ∃ w2, w2 = wr := ⟨_, rfl⟩
      subst hw2
      have hz1 : w2.cell? ⟨w.heap.size, 1, none⟩ = some (.int .i64 zh) := by rw [HZ.out.cell]; rfl
      have hz2 : w2.cell? ⟨w.heap.size, 2, none⟩ = some (.int .i64 zn) := by rw [HZ.out.cell]; rfl
      have hz3 : w2.cell? ⟨w.heap.size, 3, none⟩ = some (.int .i64 zd) := by rw [HZ.out.cell]; rfl
      have hcase : (held < 0 ∧ Hid ((if 0 ≤ held ∧ held < 16 then 0 else 12) = (12 : Int))) ∨ (0 ≤ held ∧ decide (held < 16) = false ∧ Hid ((if 0 ≤ held ∧ held < 16 then 0 else 12) = (12 : Int))) ∨ (0 ≤ held ∧ held < 16 ∧ Hid ((if 0 ≤ held ∧ held < 16 then 0 else 12) = (0 : Int))) := by
        by_cases q0 : held < 0
        · exact .inl ⟨q0, hid (if_neg (by omega))⟩
        · by_cases q1 : held < 16
          · exact .inr (.inr ⟨by omega, q1, hid (if_pos (by omega))⟩)
          · exact .inr (.inl ⟨by omega, by simpa using q1, hid (if_neg (by omega))⟩)
      have hMX : X.length ≤ 1000000 := by omega
      rcases place_need HP.out.rel zh zn n1 n2 (by omega) with ⟨hp, hq⟩ | ⟨j, x, hp, hXj, hq, -⟩
      · have HPL := hid hp
        have HQ := hid hq
        have HM : Hid (chMay m zh zn zd = 14) := hid (by unfold chMay; rw [hq])
        clear hp hq
        rcases hcase with ⟨g1, HRM⟩ | ⟨g1, g2, HRM⟩ | ⟨g1, g2, HRM⟩
        all_goals
          go_wp2_with (first | (go_at_call 39; (with_reducible refine (chest_May zh zn zd g F m _ HP.out.ch n2 _ HM).mono ?_); rintro e w' ⟨rfl, rfl⟩) | (go_at_call 41; (with_reducible refine (chest_Need zh zn g F m _ HP.out.ch n2 _ HQ).mono ?_); rintro e w' ⟨rfl, rfl⟩) | (go_at_call 40; (with_reducible refine (ref_Place X _ zh zn _ HP.out.sl hMX _ HPL).mono ?_); rintro e w' ⟨rfl, rfl⟩; simp only [placeV]) | (go_at_call 42; (with_reducible refine (chest_Room held _).mono ?_); rintro e w' ⟨rfl, rfl⟩; rw [HRM.out]) | (go_at_call 37; (with_reducible refine (law22_awake _).mono ?_); rintro e w3 ⟨rfl, hb3⟩))
          go_ret
          exact ⟨rfl, below_on HB.out hb3⟩
      · have HPL := hid hp
        have HQ := hid hq
        have hjX : j < X.length := (List.getElem?_eq_some_iff.1 hXj).1
        obtain ⟨ax, cx, e, hrx, hx3, hx4, hx5⟩ := HP.out.sl
        obtain ⟨bx, ox, x', y', rfl, hcx, hcy, hxy, -, -⟩ := hrx.pair j hjX
        rw [hXj] at hxy
        simp only [Option.some.injEq, Prod.mk.injEq] at hxy
        obtain ⟨rfl, rfl⟩ := hxy
        subst e
        have hj0 : (0 : Int) ≤ (j : Int) := by omega
        have hj1 : ¬ (j : Int) < 0 := by omega
        have hj2 : (j : Int) < (X.length : Int) := by omega
        clear hp hq hXj hrx
        by_cases hlt2 : zd < x
        · have HM : Hid (chMay m zh zn zd = 31) := hid (by unfold chMay; rw [HQ.out]; simp [hlt2])
          go_wp2_with (first | (go_at_call 39; (with_reducible refine (chest_May zh zn zd g F m _ HP.out.ch n2 _ HM).mono ?_); rintro e w' ⟨rfl, rfl⟩) | (go_at_call 41; (with_reducible refine (chest_Need zh zn g F m _ HP.out.ch n2 _ HQ).mono ?_); rintro e w' ⟨rfl, rfl⟩) | (go_at_call 40; (with_reducible refine (ref_Place X _ zh zn _ HP.out.sl hMX _ HPL).mono ?_); rintro e w' ⟨rfl, rfl⟩; simp only [placeV]) | (go_at_call 42; (with_reducible refine (chest_Room held _).mono ?_); rintro e w' ⟨rfl, rfl⟩; rw [HRM.out]) | (go_at_call 37; (with_reducible refine (law22_awake _).mono ?_); rintro e w3 ⟨rfl, hb3⟩))
          go_quiet (fail)
          have hb3 := Below.drawn' w2 nq
          have hcy3 : (w2.drewN nq).cell? ⟨bx, ox + j * 2 + 1, none⟩ = some (.int .i64 x) := hcy
          have hz13 : (w2.drewN nq).cell? ⟨w.heap.size, 1, none⟩ = some (.int .i64 zh) := hz1
          have hz23 : (w2.drewN nq).cell? ⟨w.heap.size, 2, none⟩ = some (.int .i64 zn) := hz2
          obtain ⟨w3, hw3⟩ : ∃ w3, w3 = w2.drewN nq := ⟨_, rfl⟩
          rw [← hw3] at hb3 hcy3 hz13 hz23 ⊢
          have HP3 := hid (HP.out.ch.below hb3)
          have HB3 := hid (below_on HB.out hb3)
          clear hb3 hw3 hz1 hz2 hz3 hcx hcy HP HZ
          rcases hcase with ⟨g1, HRM⟩ | ⟨g1, g2, HRM⟩ | ⟨g1, g2, HRM⟩
          all_goals
            go_wp2_with (first | (go_at_call 41; (with_reducible refine (chest_Need zh zn g F m _ HP3.out n2 _ HQ).mono ?_); rintro e w' ⟨rfl, rfl⟩) | (go_at_call 42; (with_reducible refine (chest_Room held _).mono ?_); rintro e w' ⟨rfl, rfl⟩; rw [HRM.out]) | (go_at_call 37; (with_reducible refine (law22_awake _).mono ?_); rintro e w4 ⟨rfl, hb4⟩))
            go_ret
            exact ⟨rfl, below_on HB3.out hb4⟩
        · have HM : Hid (chMay m zh zn zd = 0) := hid (by unfold chMay; rw [HQ.out]; simp [hlt2])
          go_wp2_with (first | (go_at_call 39; (with_reducible refine (chest_May zh zn zd g F m _ HP.out.ch n2 _ HM).mono ?_); rintro e w' ⟨rfl, rfl⟩) | (go_at_call 41; (with_reducible refine (chest_Need zh zn g F m _ HP.out.ch n2 _ HQ).mono ?_); rintro e w' ⟨rfl, rfl⟩) | (go_at_call 40; (with_reducible refine (ref_Place X _ zh zn _ HP.out.sl hMX _ HPL).mono ?_); rintro e w' ⟨rfl, rfl⟩; simp only [placeV]) | (go_at_call 42; (with_reducible refine (chest_Room held _).mono ?_); rintro e w' ⟨rfl, rfl⟩; rw [HRM.out]) | (go_at_call 37; (with_reducible refine (law22_awake _).mono ?_); rintro e w3 ⟨rfl, hb3⟩))
          go_quiet (fail)
          have hb3 := Below.drawn' w2 nq
          have hcy3 : (w2.drewN nq).cell? ⟨bx, ox + j * 2 + 1, none⟩ = some (.int .i64 x) := hcy
          have hz13 : (w2.drewN nq).cell? ⟨w.heap.size, 1, none⟩ = some (.int .i64 zh) := hz1
          have hz23 : (w2.drewN nq).cell? ⟨w.heap.size, 2, none⟩ = some (.int .i64 zn) := hz2
          obtain ⟨w3, hw3⟩ : ∃ w3, w3 = w2.drewN nq := ⟨_, rfl⟩
          rw [← hw3] at hb3 hcy3 hz13 hz23 ⊢
          have HP3 := hid (HP.out.ch.below hb3)
          have HB3 := hid (below_on HB.out hb3)
          clear hb3 hw3 hz1 hz2 hz3 hcx hcy HP HZ
          rcases hcase with ⟨g1, HRM⟩ | ⟨g1, g2, HRM⟩ | ⟨g1, g2, HRM⟩
          all_goals
            go_wp2_with (first | (go_at_call 41; (with_reducible refine (chest_Need zh zn g F m _ HP3.out n2 _ HQ).mono ?_); rintro e w' ⟨rfl, rfl⟩) | (go_at_call 42; (with_reducible refine (chest_Room held _).mono ?_); rintro e w' ⟨rfl, rfl⟩; rw [HRM.out]) | (go_at_call 37; (with_reducible refine (law22_awake _).mono ?_); rintro e w4 ⟨rfl, hb4⟩))
            go_ret
            exact ⟨rfl, below_on HB3.out hb4⟩
end Go.Proofs.Ytopdcjekdmaopaa
