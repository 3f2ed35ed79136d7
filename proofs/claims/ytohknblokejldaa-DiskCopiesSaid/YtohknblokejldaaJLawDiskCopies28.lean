/- Joined texts, in this order: DiskCopies. Each one's first remark says what it proves; no condition beyond those that its theorems name. -/
import Derived.Test.YtohknblokejldaaJLawDiskCopies27
section
/- The law DiskCopies, walked. -/
namespace Go.Proofs.Ytohknblokejldaa
open Go.RowKit
open Go.Lib (hid)
set_option linter.unusedVariables false

theorem bv_zs (l : List UInt8) : bv l = (l.map fun c => (c.toNat : Int)).map (Value.int .u8) := by unfold bv; rw [List.map_map]; rfl
theorem DSt.dlt {w : World} {g : Nat} {W R : Nat → Prop} {p : RfP} {s : Dk} {x : Rf} {N : Nat} (h : DSt w g W R p s x N) : ∀ k, DW W p k → k < w.heap.size := by
  intro k hk
  rcases hk with q | q
  · exact h.rlt.2 k q
  · exact h.ref.lt k q
/-- two pairs side by side: neither writes what the other reads -/
structure Two (wr : World) (g : Nat) (W R : Nat → Prop) (p : RfP) (s : Dk) (x : Rf) (g' : Nat) (W' R' : Nat → Prop) (p' : RfP) (s' : Dk) (x' : Rf) (N M : Nat) : Prop where
  a : DSt wr g W R p s x N
  b : DSt wr g' W' R' p' s' x' M
  ab : ∀ k, DW W p k → ¬ DW W' p' k
  ar : ∀ k, DW W p k → ¬ R' k
  br : ∀ k, DW W' p' k → ¬ R k
theorem Two.symm {wr : World} {g : Nat} {W R : Nat → Prop} {p : RfP} {s : Dk} {x : Rf} {g' : Nat} {W' R' : Nat → Prop} {p' : RfP} {s' : Dk} {x' : Rf} {N M : Nat} (h : Two wr g W R p s x g' W' R' p' s' x' N M) : Two wr g' W' R' p' s' x' g W R p s x M N :=
  ⟨h.b, h.a, fun k hk q => h.ab k q hk, h.br, h.ar⟩
theorem Two.below {wr wy : World} {g : Nat} {W R : Nat → Prop} {p : RfP} {s : Dk} {x : Rf} {g' : Nat} {W' R' : Nat → Prop} {p' : RfP} {s' : Dk} {x' : Rf} {N M : Nat} (h : Two wr g W R p s x g' W' R' p' s' x' N M) (hb : Below wr.heap.size wr wy) : Two wy g W R p s x g' W' R' p' s' x' N M :=
  ⟨h.a.below hb, h.b.below hb, h.ab, h.ar, h.br⟩
theorem Two.upd {S : Nat → Prop} {wr wy : World} {g : Nat} {W R : Nat → Prop} {p : RfP} {s : Dk} {x : Rf} {g' : Nat} {W' R' : Nat → Prop} {p' : RfP} {s' : Dk} {x' : Rf} {N M : Nat} (h : Two wr g W R p s x g' W' R' p' s' x' N M) (hu : Upd S wr wy)
    (h1 : ∀ k, S k → ¬ DW W p k ∧ ¬ R k ∧ ¬ DW W' p' k ∧ ¬ R' k) : Two wy g W R p s x g' W' R' p' s' x' N M :=
  ⟨h.a.upd hu (fun k hk => ⟨fun z => (h1 k hk).1 (.inl z), (h1 k hk).2.1, fun z => (h1 k hk).1 (.inr z)⟩), h.b.upd hu (fun k hk => ⟨fun z => (h1 k hk).2.2.1 (.inl z), (h1 k hk).2.2.2, fun z => (h1 k hk).2.2.1 (.inr z)⟩), h.ab, h.ar, h.br⟩
theorem Two.step {wr wy : World} {g : Nat} {W R R1 : Nat → Prop} {p : RfP} {s s1 : Dk} {x x1 : Rf} {g' : Nat} {W' R' : Nat → Prop} {p' : RfP} {s' : Dk} {x' : Rf} {N N1 M : Nat} (h : Two wr g W R p s x g' W' R' p' s' x' N M)
    (h1 : DSt wy g W R1 p s1 x1 N1) (hr : ∀ k, R1 k → R k ∨ wr.heap.size ≤ k) (hu : Upd (DW W p) wr wy) : Two wy g W R1 p s1 x1 g' W' R' p' s' x' N1 M :=
  ⟨h1, h.b.upd hu (fun k hk => ⟨fun z => h.ab k hk (.inl z), h.ar k hk, fun z => h.ab k hk (.inr z)⟩), h.ab, h.ar, fun k hk z => (hr k z).elim (h.br k hk) (fun q => by have := h.b.dlt k hk; omega)⟩
/-- a step with an operation that came in -/
theorem law05_stepIn {w wy : World} (o : OpT) (h1 : o.data.length ≤ 100) (h2 : o.keep.length ≤ 50) {da ka : Option Addr} {dc kc : Nat} (hsd : SlB w (.slice da o.data.length dc) o.data) (hsk : SlI w (.slice ka o.keep.length kc) o.keep)
    (g : Nat) (W R : Nat → Prop) (p : RfP) (s : Dk) (x : Rf) (N : Nat) (hb : Below w.heap.size w wy) (P : DSt wy g W R p s x N) (hD : ∀ j, DW W p j → w.heap.size ≤ j) :
    Calls Try.prog 41 #[.pointer (some ⟨g, 0, none⟩), .pointer (some ⟨p.g, 0, none⟩), .agg #[.int .i64 o.kind, .int .i64 o.sec, .int .i64 o.n, .slice da o.data.length dc, .slice ka o.keep.length kc, .int .i64 o.torn, .int .i64 o.cut]] wy (StepD wy g W R p N) :=
  law05_step o h1 h2 _ _ g W R p s x N wy P (hsd.below hb) (hsk.below hb)
    (fun j hj => by
      by_cases he : o.data = []
      · exact .inl he
      · right
        intro q
        have h1 := hD j q
        obtain ⟨aa, cc, ee, -, hrd, -⟩ := hsd
        simp only [Value.slice.injEq, true_and] at ee
        obtain ⟨rfl, rfl⟩ := ee
        obtain ⟨b', o', z, hbz, hcz, -⟩ := hrd.byte 0 (List.length_pos_iff.2 he)
        subst hbz
        have e1 : b' = j := by simpa [Value.ownBlock] using hj
        have := World.block_lt_of_cell? w _ hcz
        simp only at this
        omega)
    (fun j hj => by
      rcases hsk.lt j hj with q | q
      · exact .inl q
      · exact .inr (fun z => by have := hD j z; omega))
theorem sv_one (L : List (List UInt8)) : ∀ u ∈ sv L, u.oneCell' = true := by
  intro u hu
  obtain ⟨l, -, rfl⟩ := List.mem_map.1 hu
  rfl
theorem DSt.readLen {w : World} {g : Nat} {W R : Nat → Prop} {p : RfP} {s : Dk} {x : Rf} {N : Nat} (h : DSt w g W R p s x N) {sc : Int} {l : List UInt8} {e0 : Int} (hrd : dkRead s sc = (l, e0)) : l.length ≤ 1000000 := by
  unfold dkRead at hrd
  by_cases hc : dkCheck s sc = 0
  · rw [if_neg (by simpa using hc)] at hrd
    obtain ⟨rfl, -⟩ := Prod.mk.inj hrd
    unfold dkSector
    cases hlk : s.C.lookup sc with
    | some b => rw [Option.getD_some, (h.ok.lookup hlk).2.2.1, h.sz]; omega
    | none =>
      rw [Option.getD_none, List.getD_eq_getElem?_getD]
      cases hq : s.D[sc.toNat]? with
      | none => simp
      | some d => rw [Option.getD_some, h.ok.sec d (List.mem_of_getElem? hq), h.sz]; omega
  · rw [if_pos hc] at hrd
    obtain ⟨rfl, -⟩ := Prod.mk.inj hrd
    simp
def Cp2 (w : World) (n g : Nat) (W : Nat → Prop) (p : RfP) (g' : Nat) (W' R' : Nat → Prop) (p' : RfP) (s0 : Dk) (x0 : Rf) (N0 : Nat) (v102 : Value) (wr : World) : Prop :=
  ∃ (k : Nat) (s : Dk) (x : Rf) (R : Nat → Prop), v102 = .int .i64 k ∧ k ≤ n ∧ Two wr g W R p s x g' W' R' p' s0 x0 (N0 + k) N0 ∧ Below w.heap.size w wr
def Cp3 (w : World) (g : Nat) (W R : Nat → Prop) (p : RfP) (s : Dk) (x : Rf) (g' : Nat) (W' R' : Nat → Prop) (p' : RfP) (s' : Dk) (x' : Rf) (N M : Nat) (v116 : Value) (wr : World) : Prop :=
  ∃ (k : Nat), v116 = .int .i64 k ∧ k ≤ 6 ∧ Two wr g W R p s x g' W' R' p' s' x' N M ∧ Below w.heap.size w wr
def Cp4 (w6 : World) (B n : Nat) (v : Value) (v129 : Value) (wr : World) : Prop :=
  ∃ (j : Nat) (zs : List Int), v129 = .int .i64 j ∧ j ≤ n ∧ zs.length = n ∧ wr.ownsRow B 5 1 v n (zs.map (Value.int .u8)) ∧ Upd (fun b => v.ownBlock = some b) w6 wr
def Cp5 (w : World) (n g : Nat) (W R : Nat → Prop) (p : RfP) (s : Dk) (x : Rf) (g' : Nat) (W' : Nat → Prop) (p' : RfP) (N M : Nat) (v142 : Value) (wr : World) : Prop :=
  ∃ (k : Nat) (s' : Dk) (x' : Rf) (R' : Nat → Prop), v142 = .int .i64 k ∧ k ≤ n ∧ Two wr g W R p s x g' W' R' p' s' x' N (M + k) ∧ Below w.heap.size w wr
set_option maxRecDepth 100000 in
set_option maxHeartbeats 16000000 in
theorem DiskCopies_walk {H : Type} {enc : TypeId × Value → H} {b0 b1 : Nat} {d0 d1 : DataW H} {p0 p1 : List MemPlace} (v0 v1 : Value) (w : World) (ok0 : Value.okWide Try.prog w .any b0 77 v0) (k0 : DataW.Trod enc Try.prog w 0 (fun _ => true) true 77 v0 d0 p0)
    (ok1 : Value.okWide Try.prog w .any b1 77 v1) (k1 : DataW.Trod enc Try.prog w 0 (fun _ => true) true 77 v1 d1 p1) :
    Calls Try.prog 12 #[v0, v1] w fun e w' => e = .returned (.bool true) ∧ Below w.heap.size w w' := by
  obtain ⟨L, hL⟩ := open_ops05 ok0 k0
  obtain ⟨L2, hL2⟩ := open_ops05 ok1 k1
  clear ok0 k0 ok1 k1
  have HL := hid hL
  have HL2 := hid hL2
  obtain ⟨bb, hbb⟩ : ∃ bb, smallB L 30 = bb := ⟨_, rfl⟩
  have HBB := hid hbb
  obtain ⟨bb2, hbb2⟩ : ∃ bb, smallB L2 30 = bb := ⟨_, rfl⟩
  have HBB2 := hid hbb2
  obtain ⟨a, c, rfl, hlc, hcm, -⟩ := hL
  obtain ⟨a2, c2, rfl, hlc2, hcm2, -⟩ := hL2
  have hl63 : L.length ≤ 9223372036854775807 := by omega
  have hl263 : L2.length ≤ 9223372036854775807 := by omega
  clear hlc hcm hbb hlc2 hcm2 hbb2
  go_enter Try.func12, Try.ntmps12
  go_wp2_with fail
  refine (disk_New 6 16 (by omega) (by omega) (by omega) (by omega) w).mono ?_
  rintro e w1 ⟨g, W, R, rfl, hd1, hW1, hR1, hb1⟩
  have HD1 := hid hd1
  have HWW := hid hW1
  have HR1 := hid hR1
  have HB1 := hid hb1
  clear hd1 hW1 hR1 hb1
  go_wp2_with fail
  refine (rf_New w1).mono ?_
  rintro e w2 ⟨p, rfl, hi2, hp2, hb2⟩
  have HP2 := hid (DSt.made HD1.out HB1.out hi2 hp2 hb2)
  have HPW : Hid (∀ j, RfW p j → w.heap.size ≤ j) := hid (fun j hj => Nat.le_trans HB1.out.size (hp2 j hj))
  have HB2 := hid (Below.next HB1.out hb2)
  clear hi2 hp2 hb2
  go_wp2_with fail
  refine (law05_small L 30 (by omega) _ w2 (HL.out.below opKept HB2.out) bb HBB).mono ?_
  rintro e w3 ⟨rfl, hb3⟩
  have HP3 := hid (HP2.out.below hb3)
  have HB3 := hid (Below.next HB2.out hb3)
  clear hb3
  cases bb with
  | false =>
    go_wp2_with fail
    refine (law05_awake w3).mono ?_
    rintro e w4 ⟨rfl, hb4⟩
    have HB4 := hid (Below.next HB3.out hb4)
    clear hb4
    go_wp2_with fail
    go_ret
    exact ⟨rfl, HB4.out⟩
  | true =>
    go_wp2_with fail
    refine (law05_small L2 30 (by omega) _ w3 (HL2.out.below opKept HB3.out) bb2 HBB2).mono ?_
    rintro e w4 ⟨rfl, hb4⟩
    have HP4 := hid (HP3.out.below hb4)
    have HB4 := hid (Below.next HB3.out hb4)
    clear hb4
    cases bb2 with
    | false =>
      go_wp2_with fail
      refine (law05_awake w4).mono ?_
      rintro e w5 ⟨rfl, hb5⟩
      have HB5 := hid (Below.next HB4.out hb5)
      clear hb5
      go_wp2_with fail
      go_ret
      exact ⟨rfl, HB5.out⟩
    | true =>
      have hsm := HBB.out
      unfold smallB at hsm
      simp only [Bool.and_eq_true, decide_eq_true_eq] at hsm
      have hl30 := hsm.2
      have HALL := hid hsm.1
      have hsm2 := HBB2.out
      unfold smallB at hsm2
      simp only [Bool.and_eq_true, decide_eq_true_eq] at hsm2
      have hl230 := hsm2.2
      have HALL2 := hid hsm2.1
      have HDWO : Hid (∀ j, DW W p j → w.heap.size ≤ j) := hid (fun j hj => by
        rcases hj with q | q
        · exact HWW.out j q
        · exact HPW.out j q)
      clear hsm hsm2
      go_wp2_with fail
      go_loopw [41] (fun v41 wr => PlL w L.length g W p v41 wr) (fun v41 _ => L.length - (intOf v41).toNat)
      case atStart => exact ⟨0, _, _, R, rfl, by omega, HP4.out.more (by omega), HR1.out, HB4.out⟩
      case round =>
        clear HP2 HP3 HP4 HB2 HB3 HB4
        obtain ⟨k, s, x, R, rfl, hk, hp, hR, hb⟩ := hrel
        have HP := hid hp
        have HR := hid hR
        have HB := hid hb
        by_cases hlt : k < L.length
        · obtain ⟨o, ho⟩ : ∃ o, L[k]? = some o := ⟨_, List.getElem?_eq_getElem hlt⟩
          obtain ⟨ab, off, da, dc, ka, kc, rfl, c0, c1, c2, c3, c4, c5, c6, hsd, hsk⟩ := HL.out.op05 hb ho
          have hok := List.all_eq_true.1 HALL.out o (List.mem_of_getElem? ho)
          unfold okOp at hok
          simp only [Bool.and_eq_true, decide_eq_true_eq] at hok
          obtain ⟨ob, hob⟩ : ∃ ob, ob = Obj.cells #[.int .i64 o.kind, .int .i64 o.sec, .int .i64 o.n, .slice da o.data.length dc, .slice ka o.keep.length kc, .int .i64 o.torn, .int .i64 o.cut] 81 := ⟨_, rfl⟩
          have hbn := Below.new wr ob
          have HSTEP := hid (law05_stepIn o hok.1 hok.2 hsd hsk g W R p s x k (Below.next hb hbn) (HP.out.below hbn) HDWO.out)
          have HOB := hid hob
          obtain ⟨kd, sc, nn, dl, kl, tn, ct⟩ := o
          simp only at c0 c1 c2 c3 c4 c5 c6 HSTEP HOB
          have e0 : (0 : Int) ≤ (k : Int) := by omega
          have e1 : (k : Int) < (L.length : Int) := by omega
          clear ho hsd hsk hok hob hbn hb hp hR
          go_wp2_with fail
          rw [← HOB.out]
          refine HSTEP.out.mono ?_
          rintro e w5 ⟨s', x', R', rfl, hp5, hr5, hu5⟩
          have HP5 := hid hp5
          have HR5 : Hid (∀ j, R' j → w.heap.size ≤ j) := hid (fun j hj => by
            rcases hr5 j hj with q | q
            · exact HR.out j q
            · have := HB.out.size; simp at q; omega)
          have HB5 : Hid (Below w.heap.size w w5) := hid ((Below.next HB.out (Below.new wr ob)).trans (hu5.below (by have := HB.out.size; simp; omega) (fun j _ q => HDWO.out j q)))
          clear hp5 hr5 hu5 c0 c1 c2 c3 c4 c5 c6
          go_wp2_with fail
          go_roundw
          case rel => exact ⟨k + 1, s', x', R', by go_num, by omega, HP5.out, HR5.out, HB5.out⟩
          case measure => simp [intOf]; omega
        · have hkn : k ≤ 30 := by omega
          have hki : ¬ (k : Int) < (L.length : Int) := by omega
          clear hp hR hb hlt hk
          go_wp2_with fail
          refine (disk_Copy s (by have := HP.out.n6; omega) g W R wr HP.out.disk).mono ?_
          rintro e w5 ⟨g', W', rfl, hd5, hW5, hb5⟩
          have HD5 := hid hd5
          have HW5 := hid hW5
          have HP5 := hid (HP.out.below hb5)
          have HB5 := hid (Below.next HB.out hb5)
          have HS5 : Hid (∀ j, W' j → j < w5.heap.size) := hid (by obtain ⟨b, dv, V, M, h⟩ := hd5; exact h.wlt)
          have HBW := hid hb5
          obtain ⟨hxl, hx6, hxz, hxD, hxC⟩ := HP5.out.len
          have HXL := hid hxl
          have HX6 := hid hx6
          have hq2 : ∀ y, Below w5.heap.size w5 y → y.cell? ⟨p.g, 2, none⟩ = some (.int .i64 (x.size : Int)) := fun y hy => (HP5.out.ref.below hy).cells.2.2.1
          have hq3 : ∀ y, Below w5.heap.size w5 y → y.cell? ⟨p.g, 3, none⟩ = some (.bool x.armed) := fun y hy => (HP5.out.ref.below hy).cells.2.2.2.1
          have hq4 : ∀ y, Below w5.heap.size w5 y → y.cell? ⟨p.g, 4, none⟩ = some (.bool x.down) := fun y hy => (HP5.out.ref.below hy).cells.2.2.2.2.1
          have hq5 : ∀ y, Below w5.heap.size w5 y → y.cell? ⟨p.g, 5, none⟩ = some (.int .i64 x.left) := fun y hy => (HP5.out.ref.below hy).cells.2.2.2.2.2.1
          have hq6 : ∀ y, Below w5.heap.size w5 y → y.cell? ⟨p.g, 6, none⟩ = some (.int .i64 x.done) := fun y hy => (HP5.out.ref.below hy).cells.2.2.2.2.2.2
          have hd0 := (Below.refl w5.heap.size w5).drew
          clear hd5 hW5 hb5 hxl hx6 hxz hxD hxC hki
          go_wp2_with fail
          refine wp_region_kept [22] (fun y => Below w5.heap.size w5 y) (by kernel_rfl) (by first | assumption | exact Below.next hH (Below.new _ _)) (fun hH => ?_)
          refine wpK.take (i := 0) (v := _) (by simp only [List.getElem?_toArray, List.getElem?_cons_succ, List.getElem?_cons_zero]; rfl) (by kernel_rfl) (by kernel_rfl) (by kernel_rfl) (by kernel_rfl) (by kernel_rfl) (by exact fun _ _ _ h => h) (by first | exact Or.inl ⟨by rfl, by intro w hSw; go_simp; try with_reducible rfl⟩ | exact Or.inr ⟨by rfl, rfl⟩) hH ?_
          try simp only [Act.put, List.setIfInBounds_toArray, List.set_cons_zero, List.set_cons_succ]
          refine wpK.take (i := 1) (v := _) (by simp only [List.getElem?_toArray, List.getElem?_cons_succ, List.getElem?_cons_zero]; rfl) (by kernel_rfl) (by kernel_rfl) (by kernel_rfl) (by kernel_rfl) (by kernel_rfl) (by exact fun _ _ _ h => h) (by first | exact Or.inl ⟨by rfl, by intro w hSw; go_simp; try with_reducible rfl⟩ | exact Or.inr ⟨by rfl, rfl⟩) hH ?_
          try simp only [Act.put, List.setIfInBounds_toArray, List.set_cons_zero, List.set_cons_succ]
          refine wpK.take (i := 2) (v := _) (by simp only [List.getElem?_toArray, List.getElem?_cons_succ, List.getElem?_cons_zero]; rfl) (by kernel_rfl) (by kernel_rfl) (by kernel_rfl) (by kernel_rfl) (by kernel_rfl) (by exact fun _ _ _ h => h) (by first | exact Or.inl ⟨by rfl, by intro w hSw; go_simp; try with_reducible rfl⟩ | exact Or.inr ⟨by rfl, rfl⟩) hH ?_
          try simp only [Act.put, List.setIfInBounds_toArray, List.set_cons_zero, List.set_cons_succ]
          refine wpK.take (i := 3) (v := _) (by simp only [List.getElem?_toArray, List.getElem?_cons_succ, List.getElem?_cons_zero]; rfl) (by kernel_rfl) (by kernel_rfl) (by kernel_rfl) (by kernel_rfl) (by kernel_rfl) (by exact fun _ _ _ h => h) (by first | exact Or.inl ⟨by rfl, by intro w hSw; go_simp; try with_reducible rfl⟩ | exact Or.inr ⟨by rfl, rfl⟩) hH ?_
          try simp only [Act.put, List.setIfInBounds_toArray, List.set_cons_zero, List.set_cons_succ]
          refine wpK.take (i := 4) (v := _) (by simp only [List.getElem?_toArray, List.getElem?_cons_succ, List.getElem?_cons_zero]; rfl) (by kernel_rfl) (by kernel_rfl) (by kernel_rfl) (by kernel_rfl) (by kernel_rfl) (by exact fun _ _ _ h => h) (by first | exact Or.inl ⟨by rfl, by intro w hSw; go_simp; try with_reducible rfl⟩ | exact Or.inr ⟨by rfl, rfl⟩) hH ?_
          try simp only [Act.put, List.setIfInBounds_toArray, List.set_cons_zero, List.set_cons_succ]
          refine wpK.take (i := 5) (v := _) (by simp only [List.getElem?_toArray, List.getElem?_cons_succ, List.getElem?_cons_zero]; rfl) (by kernel_rfl) (by kernel_rfl) (by kernel_rfl) (by kernel_rfl) (by kernel_rfl) (by exact fun _ _ _ h => h) (by first | exact Or.inl ⟨by rfl, by intro w hSw; go_simp; try with_reducible rfl⟩ | exact Or.inr ⟨by rfl, rfl⟩) hH ?_
          try simp only [Act.put, List.setIfInBounds_toArray, List.set_cons_zero, List.set_cons_succ]
          refine wpK.take (i := 6) (v := _) (by simp only [List.getElem?_toArray, List.getElem?_cons_succ, List.getElem?_cons_zero]; rfl) (by kernel_rfl) (by kernel_rfl) (by kernel_rfl) (by kernel_rfl) (by kernel_rfl) (by exact fun _ _ _ h => h) (by first | exact Or.inl ⟨by rfl, by intro w hSw; go_simp; try with_reducible rfl⟩ | exact Or.inr ⟨by rfl, rfl⟩) hH ?_
          try simp only [Act.put, List.setIfInBounds_toArray, List.set_cons_zero, List.set_cons_succ]
          refine wpK.take (i := 7) (v := _) (by simp only [List.getElem?_toArray, List.getElem?_cons_succ, List.getElem?_cons_zero]; rfl) (by kernel_rfl) (by kernel_rfl) (by kernel_rfl) (by kernel_rfl) (by kernel_rfl) (by exact fun _ _ _ h => h) (by first | exact Or.inl ⟨by rfl, by intro w hSw; go_simp; try with_reducible rfl⟩ | exact Or.inr ⟨by rfl, rfl⟩) hH ?_
          try simp only [Act.put, List.setIfInBounds_toArray, List.set_cons_zero, List.set_cons_succ]
          refine wpK.take (i := 8) (v := _) (by simp only [List.getElem?_toArray, List.getElem?_cons_succ, List.getElem?_cons_zero]; rfl) (by kernel_rfl) (by kernel_rfl) (by kernel_rfl) (by kernel_rfl) (by kernel_rfl) (by exact fun _ _ _ h => h) (by first | exact Or.inl ⟨by rfl, by intro w hSw; go_simp; try with_reducible rfl⟩ | exact Or.inr ⟨by rfl, rfl⟩) hH ?_
          try simp only [Act.put, List.setIfInBounds_toArray, List.set_cons_zero, List.set_cons_succ]
          refine wpK.take (i := 9) (v := _) (by simp only [List.getElem?_toArray, List.getElem?_cons_succ, List.getElem?_cons_zero]; rfl) (by kernel_rfl) (by kernel_rfl) (by kernel_rfl) (by kernel_rfl) (by kernel_rfl) (by exact fun _ _ _ h => h) (by first | exact Or.inl ⟨by rfl, by intro w hSw; go_simp; try with_reducible rfl⟩ | exact Or.inr ⟨by rfl, rfl⟩) hH ?_
          try simp only [Act.put, List.setIfInBounds_toArray, List.set_cons_zero, List.set_cons_succ]
          refine wpK.take (i := 10) (v := _) (by simp only [List.getElem?_toArray, List.getElem?_cons_succ, List.getElem?_cons_zero]; rfl) (by kernel_rfl) (by kernel_rfl) (by kernel_rfl) (by kernel_rfl) (by kernel_rfl) (by exact fun _ _ _ h => h) (by first | exact Or.inl ⟨by rfl, by intro w hSw; go_simp; try with_reducible rfl⟩ | exact Or.inr ⟨by rfl, rfl⟩) hH ?_
          try simp only [Act.put, List.setIfInBounds_toArray, List.set_cons_zero, List.set_cons_succ]
          refine wpK.take (i := 11) (v := _) (by simp only [List.getElem?_toArray, List.getElem?_cons_succ, List.getElem?_cons_zero]; rfl) (by kernel_rfl) (by kernel_rfl) (by kernel_rfl) (by kernel_rfl) (by kernel_rfl) (by exact fun _ _ _ h => h) (by first | exact Or.inl ⟨by rfl, by intro w hSw; go_simp; try with_reducible rfl⟩ | exact Or.inr ⟨by rfl, rfl⟩) hH ?_
          try simp only [Act.put, List.setIfInBounds_toArray, List.set_cons_zero, List.set_cons_succ]
          refine wpK.take (i := 12) (v := _) (by simp only [List.getElem?_toArray, List.getElem?_cons_succ, List.getElem?_cons_zero]; rfl) (by kernel_rfl) (by kernel_rfl) (by kernel_rfl) (by kernel_rfl) (by kernel_rfl) (by exact fun _ _ _ h => h) (by first | exact Or.inl ⟨by rfl, by intro w hSw; go_simp; try with_reducible rfl⟩ | exact Or.inr ⟨by rfl, rfl⟩) hH ?_
          try simp only [Act.put, List.setIfInBounds_toArray, List.set_cons_zero, List.set_cons_succ]
          refine wpK.take (i := 13) (v := _) (by simp only [List.getElem?_toArray, List.getElem?_cons_succ, List.getElem?_cons_zero]; rfl) (by kernel_rfl) (by kernel_rfl) (by kernel_rfl) (by kernel_rfl) (by kernel_rfl) (by exact fun _ _ _ h => h) (by first | exact Or.inl ⟨by rfl, by intro w hSw; go_simp; try with_reducible rfl⟩ | exact Or.inr ⟨by rfl, rfl⟩) hH ?_
          try simp only [Act.put, List.setIfInBounds_toArray, List.set_cons_zero, List.set_cons_succ]
          refine wpK.take (i := 14) (v := _) (by simp only [List.getElem?_toArray, List.getElem?_cons_succ, List.getElem?_cons_zero]; rfl) (by kernel_rfl) (by kernel_rfl) (by kernel_rfl) (by kernel_rfl) (by kernel_rfl) (by exact fun _ _ _ h => h) (by first | exact Or.inl ⟨by rfl, by intro w hSw; go_simp; try with_reducible rfl⟩ | exact Or.inr ⟨by rfl, rfl⟩) hH ?_
          try simp only [Act.put, List.setIfInBounds_toArray, List.set_cons_zero, List.set_cons_succ]
          refine wpK.take (i := 15) (v := _) (by simp only [List.getElem?_toArray, List.getElem?_cons_succ, List.getElem?_cons_zero]; rfl) (by kernel_rfl) (by kernel_rfl) (by kernel_rfl) (by kernel_rfl) (by kernel_rfl) (by exact fun _ _ _ h => h) (by first | exact Or.inl ⟨by rfl, by intro w hSw; go_simp; try with_reducible rfl⟩ | exact Or.inr ⟨by rfl, rfl⟩) hH ?_
          try simp only [Act.put, List.setIfInBounds_toArray, List.set_cons_zero, List.set_cons_succ]
          refine wpK.take (i := 16) (v := _) (by simp only [List.getElem?_toArray, List.getElem?_cons_succ, List.getElem?_cons_zero]; rfl) (by kernel_rfl) (by kernel_rfl) (by kernel_rfl) (by kernel_rfl) (by kernel_rfl) (by exact fun _ _ _ h => h) (by first | exact Or.inl ⟨by rfl, by intro w hSw; go_simp; try with_reducible rfl⟩ | exact Or.inr ⟨by rfl, rfl⟩) hH ?_
          try simp only [Act.put, List.setIfInBounds_toArray, List.set_cons_zero, List.set_cons_succ]
          refine wpK.take (i := 17) (v := _) (by simp only [List.getElem?_toArray, List.getElem?_cons_succ, List.getElem?_cons_zero]; rfl) (by kernel_rfl) (by kernel_rfl) (by kernel_rfl) (by kernel_rfl) (by kernel_rfl) (by exact fun _ _ _ h => h) (by first | exact Or.inl ⟨by rfl, by intro w hSw; go_simp; try with_reducible rfl⟩ | exact Or.inr ⟨by rfl, rfl⟩) hH ?_
          try simp only [Act.put, List.setIfInBounds_toArray, List.set_cons_zero, List.set_cons_succ]
          refine wpK.take (i := 18) (v := _) (by simp only [List.getElem?_toArray, List.getElem?_cons_succ, List.getElem?_cons_zero]; rfl) (by kernel_rfl) (by kernel_rfl) (by kernel_rfl) (by kernel_rfl) (by kernel_rfl) (by exact fun _ _ _ h => h) (by first | exact Or.inl ⟨by rfl, by intro w hSw; go_simp; try with_reducible rfl⟩ | exact Or.inr ⟨by rfl, rfl⟩) hH ?_
          try simp only [Act.put, List.setIfInBounds_toArray, List.set_cons_zero, List.set_cons_succ]
          refine wpK.take (i := 19) (v := _) (by simp only [List.getElem?_toArray, List.getElem?_cons_succ, List.getElem?_cons_zero]; rfl) (by kernel_rfl) (by kernel_rfl) (by kernel_rfl) (by kernel_rfl) (by kernel_rfl) (by exact fun _ _ _ h => h) (by first | exact Or.inl ⟨by rfl, by intro w hSw; go_simp; try with_reducible rfl⟩ | exact Or.inr ⟨by rfl, rfl⟩) hH ?_
          try simp only [Act.put, List.setIfInBounds_toArray, List.set_cons_zero, List.set_cons_succ]
          refine wpK.take (i := 20) (v := _) (by simp only [List.getElem?_toArray, List.getElem?_cons_succ, List.getElem?_cons_zero]; rfl) (by kernel_rfl) (by kernel_rfl) (by kernel_rfl) (by kernel_rfl) (by kernel_rfl) (by exact fun _ _ _ h => h) (by first | exact Or.inl ⟨by rfl, by intro w hSw; go_simp; try with_reducible rfl⟩ | exact Or.inr ⟨by rfl, rfl⟩) hH ?_
          try simp only [Act.put, List.setIfInBounds_toArray, List.set_cons_zero, List.set_cons_succ]
          refine wpK.step (i := 21) (by kernel_rfl) (by simp only [List.getElem?_toArray, List.getElem?_cons_succ, List.getElem?_cons_zero]; rfl) (fun K hK => ?_)
          go_simp
          refine hK.out _ _ (by first | assumption | exact Below.next hH (Below.new _ _)) (fun hH => ?_)
          clear hK K
          try simp only [Act.put, List.setIfInBounds_toArray, List.set_cons_zero, List.set_cons_succ]
          refine wpK.late (i := 22) (by kernel_rfl) (by simp only [List.getElem?_toArray, List.getElem?_cons_succ, List.getElem?_cons_zero]; rfl) (by kernel_rfl) (fun K hK => ?_)
          go_simp
          refine hK.out _ _ ?_
          clear hK K
          try simp only [Act.put, List.setIfInBounds_toArray, List.set_cons_zero, List.set_cons_succ]
          refine wpK.done (by kernel_rfl) ?_ _
          obtain ⟨w7, hw7⟩ : ∃ w7, w7 = (w5.alloc (.cells #[.slice none 0 0, .slice none 0 0, .int .i64 (x.size : Int), .bool x.armed, .bool x.down, .int .i64 x.left, .int .i64 x.done] 94)).drew := ⟨_, rfl⟩
          rw [← hw7]
          have hb7 : Below w5.heap.size w5 w7 := by rw [hw7]; exact (Below.new _ _).drew
          have HYw7 : Hid (Blk w7 w5.heap.size #[.slice none 0 0, .slice none 0 0, .int .i64 (x.size : Int), .bool x.armed, .bool x.down, .int .i64 x.left, .int .i64 x.done]) := hid (by rw [hw7]; exact Blk.below (Below.refl _ _).drew (Blk.new _ _ _))
          have HPw7 := hid (HP5.out.below hb7)
          have HB7 := hid hb7
          have HS7 : Hid (w7.heap.size = w5.heap.size + 1) := hid (by rw [hw7]; simp)
          clear hw7 hb7 hq2 hq3 hq4 hq5 hq6 hd0 hH
          have hz0 : ∀ y, Below w7.heap.size w7 y → y.cell? ⟨w5.heap.size, 0, none⟩ = some (.slice none 0 0) := fun y hy => by rw [(HYw7.out.below hy).cell]; rfl
          have hx0 : ∀ y, Below w7.heap.size w7 y → y.cell? ⟨p.g, 0, none⟩ = some (.slice (some ⟨p.gD, 0, none⟩) x.D.length p.cD) := fun y hy => (HPw7.out.ref.below hy).cells.1
          have hd0 := (Below.refl w7.heap.size w7).drew
          go_wp2_with fail
          refine wp_region_kept [10, 11, 12] (fun y => Below w7.heap.size w7 y) (by kernel_rfl) (by assumption) (fun hH => ?_)
          refine wpK.take (i := 0) (v := _) (by simp only [List.getElem?_toArray, List.getElem?_cons_succ, List.getElem?_cons_zero]; rfl) (by kernel_rfl) (by kernel_rfl) (by kernel_rfl) (by kernel_rfl) (by kernel_rfl) (by exact fun _ _ _ h => h) (by first | exact Or.inl ⟨by rfl, by intro w hSw; go_simp; try with_reducible rfl⟩ | exact Or.inr ⟨by rfl, rfl⟩) hH ?_
          try simp only [Act.put, List.setIfInBounds_toArray, List.set_cons_zero, List.set_cons_succ]
          refine wpK.take (i := 1) (v := _) (by simp only [List.getElem?_toArray, List.getElem?_cons_succ, List.getElem?_cons_zero]; rfl) (by kernel_rfl) (by kernel_rfl) (by kernel_rfl) (by kernel_rfl) (by kernel_rfl) (by exact fun _ _ _ h => h) (by first | exact Or.inl ⟨by rfl, by intro w hSw; go_simp; try with_reducible rfl⟩ | exact Or.inr ⟨by rfl, rfl⟩) hH ?_
          try simp only [Act.put, List.setIfInBounds_toArray, List.set_cons_zero, List.set_cons_succ]
          refine wpK.take (i := 2) (v := _) (by simp only [List.getElem?_toArray, List.getElem?_cons_succ, List.getElem?_cons_zero]; rfl) (by kernel_rfl) (by kernel_rfl) (by kernel_rfl) (by kernel_rfl) (by kernel_rfl) (by exact fun _ _ _ h => h) (by first | exact Or.inl ⟨by rfl, by intro w hSw; go_simp; try with_reducible rfl⟩ | exact Or.inr ⟨by rfl, rfl⟩) hH ?_
          try simp only [Act.put, List.setIfInBounds_toArray, List.set_cons_zero, List.set_cons_succ]
          refine wpK.take (i := 3) (v := _) (by simp only [List.getElem?_toArray, List.getElem?_cons_succ, List.getElem?_cons_zero]; rfl) (by kernel_rfl) (by kernel_rfl) (by kernel_rfl) (by kernel_rfl) (by kernel_rfl) (by exact fun _ _ _ h => h) (by first | exact Or.inl ⟨by rfl, by intro w hSw; go_simp; try with_reducible rfl⟩ | exact Or.inr ⟨by rfl, rfl⟩) hH ?_
          try simp only [Act.put, List.setIfInBounds_toArray, List.set_cons_zero, List.set_cons_succ]
          refine wpK.take (i := 4) (v := _) (by simp only [List.getElem?_toArray, List.getElem?_cons_succ, List.getElem?_cons_zero]; rfl) (by kernel_rfl) (by kernel_rfl) (by kernel_rfl) (by kernel_rfl) (by kernel_rfl) (by exact fun _ _ _ h => h) (by first | exact Or.inl ⟨by rfl, by intro w hSw; go_simp; try with_reducible rfl⟩ | exact Or.inr ⟨by rfl, rfl⟩) hH ?_
          try simp only [Act.put, List.setIfInBounds_toArray, List.set_cons_zero, List.set_cons_succ]
          refine wpK.take (i := 5) (v := _) (by simp only [List.getElem?_toArray, List.getElem?_cons_succ, List.getElem?_cons_zero]; rfl) (by kernel_rfl) (by kernel_rfl) (by kernel_rfl) (by kernel_rfl) (by kernel_rfl) (by exact fun _ _ _ h => h) (by first | exact Or.inl ⟨by rfl, by intro w hSw; go_simp; try with_reducible rfl⟩ | exact Or.inr ⟨by rfl, rfl⟩) hH ?_
          try simp only [Act.put, List.setIfInBounds_toArray, List.set_cons_zero, List.set_cons_succ]
          refine wpK.take (i := 6) (v := _) (by simp only [List.getElem?_toArray, List.getElem?_cons_succ, List.getElem?_cons_zero]; rfl) (by kernel_rfl) (by kernel_rfl) (by kernel_rfl) (by kernel_rfl) (by kernel_rfl) (by exact fun _ _ _ h => h) (by first | exact Or.inl ⟨by rfl, by intro w hSw; go_simp; try with_reducible rfl⟩ | exact Or.inr ⟨by rfl, rfl⟩) hH ?_
          try simp only [Act.put, List.setIfInBounds_toArray, List.set_cons_zero, List.set_cons_succ]
          refine wpK.take (i := 7) (v := _) (by simp only [List.getElem?_toArray, List.getElem?_cons_succ, List.getElem?_cons_zero]; rfl) (by kernel_rfl) (by kernel_rfl) (by kernel_rfl) (by kernel_rfl) (by kernel_rfl) (by exact fun _ _ _ h => h) (by first | exact Or.inl ⟨by rfl, by intro w hSw; go_simp; try with_reducible rfl⟩ | exact Or.inr ⟨by rfl, rfl⟩) hH ?_
          try simp only [Act.put, List.setIfInBounds_toArray, List.set_cons_zero, List.set_cons_succ]
          refine wpK.take (i := 8) (v := _) (by simp only [List.getElem?_toArray, List.getElem?_cons_succ, List.getElem?_cons_zero]; rfl) (by kernel_rfl) (by kernel_rfl) (by kernel_rfl) (by kernel_rfl) (by kernel_rfl) (by exact fun _ _ _ h => h) (by first | exact Or.inl ⟨by rfl, by intro w hSw; go_simp; try with_reducible rfl⟩ | exact Or.inr ⟨by rfl, rfl⟩) hH ?_
          try simp only [Act.put, List.setIfInBounds_toArray, List.set_cons_zero, List.set_cons_succ]
          refine wpK.step (i := 9) (by kernel_rfl) (by simp only [List.getElem?_toArray, List.getElem?_cons_succ, List.getElem?_cons_zero]; rfl) (fun K hK => ?_)
          obtain ⟨aa, cc, ee, -, -, hrd, -⟩ := ownsRow.rd ((HPw7.out.ref.below hH).oD); simp only [Value.slice.injEq, true_and] at ee; obtain ⟨rfl, -⟩ := ee; refine step_appN T_strs rfl _ _ rfl w7.heap.size (.slice none 0 0) 0 [] rfl (World.ownsRow_nil _ _ _ _) (some ⟨p.gD, 0, none⟩) x.D.length p.cD (sv x.D) rfl (by simp [sv]) (fun _ h => nomatch h) hrd (sv_one _) (by have := HX6.out; have := HXL.out; omega) hH.size ?_; intro v9 w9 hown9 hg9 hnil9 hwh9; (replace hown9 : w9.ownsRow w7.heap.size 9 1 v9 x.D.length (sv x.D) := by simpa using hown9); obtain ⟨gD, cD, rfl⟩ := Joins.ownsRow_form hown9 (by have := HX6.out; have := HXL.out; omega); (have hk9 : Below w7.heap.size w7 w9 := hH.grown hg9 hH.size (fun k hk => by simp [Value.ownBlock] at hk)); (have hb9 := HYw7.out.below hk9); have hc9 : w9.cell? ⟨w5.heap.size, 0, none⟩ = some (.slice none 0 0) := (by rw [hb9.cell]; rfl); have hf9 := hb9.unfrozen 0
          refine hK.out _ _ (by assumption) (fun hH => ?_)
          clear hK K
          try simp only [Act.put, List.setIfInBounds_toArray, List.set_cons_zero, List.set_cons_succ]
          refine wpK.late (i := 10) (by kernel_rfl) (by simp only [List.getElem?_toArray, List.getElem?_cons_succ, List.getElem?_cons_zero]; rfl) (by kernel_rfl) (fun K hK => ?_)
          go_simp
          refine hK.out _ _ ?_
          clear hK K
          try simp only [Act.put, List.setIfInBounds_toArray, List.set_cons_zero, List.set_cons_succ]
          refine wpK.late (i := 11) (by kernel_rfl) (by simp only [List.getElem?_toArray, List.getElem?_cons_succ, List.getElem?_cons_zero]; rfl) (by kernel_rfl) (fun K hK => ?_)
          go_simp
          refine hK.out _ _ ?_
          clear hK K
          try simp only [Act.put, List.setIfInBounds_toArray, List.set_cons_zero, List.set_cons_succ]
          refine wpK.late (i := 12) (by kernel_rfl) (by simp only [List.getElem?_toArray, List.getElem?_cons_succ, List.getElem?_cons_zero]; rfl) (by kernel_rfl) (fun K hK => ?_)
          go_simp
          refine hK.out _ _ ?_
          clear hK K
          try simp only [Act.put, List.setIfInBounds_toArray, List.set_cons_zero, List.set_cons_succ]
          refine wpK.done (by kernel_rfl) ?_ _
          have hs10 := Upd.setCell w9 w5.heap.size 0 (.slice (some ⟨gD, 0, none⟩) x.D.length cD)
          have hgD := hown9.lt gD rfl
          obtain ⟨w10, hw10⟩ : ∃ w10, w10 = w9.setCell ⟨w5.heap.size, 0, none⟩ (.slice (some ⟨gD, 0, none⟩) x.D.length cD) := ⟨_, rfl⟩
          have hb10 : Below w5.heap.size w5 w10 := by
            rw [hw10]
            exact (((Below.next HB7.out hk9)).trans (hs10.below (by have := HB7.out.size; have := hk9.size; omega) (fun j _ q => by omega)))
          have HOD10 : Hid (w10.ownsRow w7.heap.size 9 1 (.slice (some ⟨gD, 0, none⟩) x.D.length cD) x.D.length (sv x.D)) := hid (by
            rw [hw10]
            exact hs10.owns hown9 (fun k hk q => by simp [Value.ownBlock] at hk; have := HS7.out; omega))
          have HYw10 : Hid (Blk w10 w5.heap.size #[.slice (some ⟨gD, 0, none⟩) x.D.length cD, .slice none 0 0, .int .i64 (x.size : Int), .bool x.armed, .bool x.down, .int .i64 x.left, .int .i64 x.done]) := hid (by
            rw [hw10]
            simpa using hb9.set 0 (.slice (some ⟨gD, 0, none⟩) x.D.length cD))
          rw [← hw10]
          have HPw10 := hid (HP5.out.below hb10)
          have HB10 := hid hb10
          have HGD : Hid (w7.heap.size ≤ gD ∧ gD < w10.heap.size) := hid ⟨hgD.1, by rw [hw10]; simpa using hgD.2⟩
          clear hw10 hb10 hs10 hgD hown9 hg9 hnil9 hwh9 hk9 hb9 hc9 hf9 hH hz0 hx0 hd0
          have hz1 : ∀ y, Below w10.heap.size w10 y → y.cell? ⟨w5.heap.size, 1, none⟩ = some (.slice none 0 0) := fun y hy => by rw [(HYw10.out.below hy).cell]; rfl
          have hx1 : ∀ y, Below w10.heap.size w10 y → y.cell? ⟨p.g, 1, none⟩ = some (.slice (some ⟨p.gC, 0, none⟩) x.C.length p.cC) := fun y hy => (HPw10.out.ref.below hy).cells.2.1
          have hd0 := (Below.refl w10.heap.size w10).drew
          go_wp2_with fail
          refine wp_region_kept [10, 11, 12] (fun y => Below w10.heap.size w10 y) (by kernel_rfl) (by assumption) (fun hH => ?_)
          refine wpK.take (i := 0) (v := _) (by simp only [List.getElem?_toArray, List.getElem?_cons_succ, List.getElem?_cons_zero]; rfl) (by kernel_rfl) (by kernel_rfl) (by kernel_rfl) (by kernel_rfl) (by kernel_rfl) (by exact fun _ _ _ h => h) (by first | exact Or.inl ⟨by rfl, by intro w hSw; go_simp; try with_reducible rfl⟩ | exact Or.inr ⟨by rfl, rfl⟩) hH ?_
          try simp only [Act.put, List.setIfInBounds_toArray, List.set_cons_zero, List.set_cons_succ]
          refine wpK.take (i := 1) (v := _) (by simp only [List.getElem?_toArray, List.getElem?_cons_succ, List.getElem?_cons_zero]; rfl) (by kernel_rfl) (by kernel_rfl) (by kernel_rfl) (by kernel_rfl) (by kernel_rfl) (by exact fun _ _ _ h => h) (by first | exact Or.inl ⟨by rfl, by intro w hSw; go_simp; try with_reducible rfl⟩ | exact Or.inr ⟨by rfl, rfl⟩) hH ?_
          try simp only [Act.put, List.setIfInBounds_toArray, List.set_cons_zero, List.set_cons_succ]
          refine wpK.take (i := 2) (v := _) (by simp only [List.getElem?_toArray, List.getElem?_cons_succ, List.getElem?_cons_zero]; rfl) (by kernel_rfl) (by kernel_rfl) (by kernel_rfl) (by kernel_rfl) (by kernel_rfl) (by exact fun _ _ _ h => h) (by first | exact Or.inl ⟨by rfl, by intro w hSw; go_simp; try with_reducible rfl⟩ | exact Or.inr ⟨by rfl, rfl⟩) hH ?_
          try simp only [Act.put, List.setIfInBounds_toArray, List.set_cons_zero, List.set_cons_succ]
          refine wpK.take (i := 3) (v := _) (by simp only [List.getElem?_toArray, List.getElem?_cons_succ, List.getElem?_cons_zero]; rfl) (by kernel_rfl) (by kernel_rfl) (by kernel_rfl) (by kernel_rfl) (by kernel_rfl) (by exact fun _ _ _ h => h) (by first | exact Or.inl ⟨by rfl, by intro w hSw; go_simp; try with_reducible rfl⟩ | exact Or.inr ⟨by rfl, rfl⟩) hH ?_
          try simp only [Act.put, List.setIfInBounds_toArray, List.set_cons_zero, List.set_cons_succ]
          refine wpK.take (i := 4) (v := _) (by simp only [List.getElem?_toArray, List.getElem?_cons_succ, List.getElem?_cons_zero]; rfl) (by kernel_rfl) (by kernel_rfl) (by kernel_rfl) (by kernel_rfl) (by kernel_rfl) (by exact fun _ _ _ h => h) (by first | exact Or.inl ⟨by rfl, by intro w hSw; go_simp; try with_reducible rfl⟩ | exact Or.inr ⟨by rfl, rfl⟩) hH ?_
          try simp only [Act.put, List.setIfInBounds_toArray, List.set_cons_zero, List.set_cons_succ]
          refine wpK.take (i := 5) (v := _) (by simp only [List.getElem?_toArray, List.getElem?_cons_succ, List.getElem?_cons_zero]; rfl) (by kernel_rfl) (by kernel_rfl) (by kernel_rfl) (by kernel_rfl) (by kernel_rfl) (by exact fun _ _ _ h => h) (by first | exact Or.inl ⟨by rfl, by intro w hSw; go_simp; try with_reducible rfl⟩ | exact Or.inr ⟨by rfl, rfl⟩) hH ?_
          try simp only [Act.put, List.setIfInBounds_toArray, List.set_cons_zero, List.set_cons_succ]
          refine wpK.take (i := 6) (v := _) (by simp only [List.getElem?_toArray, List.getElem?_cons_succ, List.getElem?_cons_zero]; rfl) (by kernel_rfl) (by kernel_rfl) (by kernel_rfl) (by kernel_rfl) (by kernel_rfl) (by exact fun _ _ _ h => h) (by first | exact Or.inl ⟨by rfl, by intro w hSw; go_simp; try with_reducible rfl⟩ | exact Or.inr ⟨by rfl, rfl⟩) hH ?_
          try simp only [Act.put, List.setIfInBounds_toArray, List.set_cons_zero, List.set_cons_succ]
          refine wpK.take (i := 7) (v := _) (by simp only [List.getElem?_toArray, List.getElem?_cons_succ, List.getElem?_cons_zero]; rfl) (by kernel_rfl) (by kernel_rfl) (by kernel_rfl) (by kernel_rfl) (by kernel_rfl) (by exact fun _ _ _ h => h) (by first | exact Or.inl ⟨by rfl, by intro w hSw; go_simp; try with_reducible rfl⟩ | exact Or.inr ⟨by rfl, rfl⟩) hH ?_
          try simp only [Act.put, List.setIfInBounds_toArray, List.set_cons_zero, List.set_cons_succ]
          refine wpK.take (i := 8) (v := _) (by simp only [List.getElem?_toArray, List.getElem?_cons_succ, List.getElem?_cons_zero]; rfl) (by kernel_rfl) (by kernel_rfl) (by kernel_rfl) (by kernel_rfl) (by kernel_rfl) (by exact fun _ _ _ h => h) (by first | exact Or.inl ⟨by rfl, by intro w hSw; go_simp; try with_reducible rfl⟩ | exact Or.inr ⟨by rfl, rfl⟩) hH ?_
          try simp only [Act.put, List.setIfInBounds_toArray, List.set_cons_zero, List.set_cons_succ]
          refine wpK.step (i := 9) (by kernel_rfl) (by simp only [List.getElem?_toArray, List.getElem?_cons_succ, List.getElem?_cons_zero]; rfl) (fun K hK => ?_)
          obtain ⟨aa, cc, ee, -, -, hrd, -⟩ := ownsRow.rd ((HPw10.out.ref.below hH).oC); simp only [Value.slice.injEq, true_and] at ee; obtain ⟨rfl, -⟩ := ee; refine step_appN T_strs rfl _ _ rfl w10.heap.size (.slice none 0 0) 0 [] rfl (World.ownsRow_nil _ _ _ _) (some ⟨p.gC, 0, none⟩) x.C.length p.cC (sv x.C) rfl (by simp [sv]) (fun _ h => nomatch h) hrd (sv_one _) (by have := HX6.out; have := HXL.out; omega) hH.size ?_; intro v9 w9 hown9 hg9 hnil9 hwh9; (replace hown9 : w9.ownsRow w10.heap.size 9 1 v9 x.C.length (sv x.C) := by simpa using hown9); obtain ⟨gC, cC, rfl⟩ := Joins.ownsRow_form hown9 (by have := HX6.out; have := HXL.out; omega); (have hk9 : Below w10.heap.size w10 w9 := hH.grown hg9 hH.size (fun k hk => by simp [Value.ownBlock] at hk)); (have hb9 := HYw10.out.below hk9); have hc9 : w9.cell? ⟨w5.heap.size, 1, none⟩ = some (.slice none 0 0) := (by rw [hb9.cell]; rfl); have hf9 := hb9.unfrozen 1
          refine hK.out _ _ (by assumption) (fun hH => ?_)
          clear hK K
          try simp only [Act.put, List.setIfInBounds_toArray, List.set_cons_zero, List.set_cons_succ]
          refine wpK.late (i := 10) (by kernel_rfl) (by simp only [List.getElem?_toArray, List.getElem?_cons_succ, List.getElem?_cons_zero]; rfl) (by kernel_rfl) (fun K hK => ?_)
          go_simp
          refine hK.out _ _ ?_
          clear hK K
          try simp only [Act.put, List.setIfInBounds_toArray, List.set_cons_zero, List.set_cons_succ]
          refine wpK.late (i := 11) (by kernel_rfl) (by simp only [List.getElem?_toArray, List.getElem?_cons_succ, List.getElem?_cons_zero]; rfl) (by kernel_rfl) (fun K hK => ?_)
          go_simp
          refine hK.out _ _ ?_
          clear hK K
          try simp only [Act.put, List.setIfInBounds_toArray, List.set_cons_zero, List.set_cons_succ]
          refine wpK.late (i := 12) (by kernel_rfl) (by simp only [List.getElem?_toArray, List.getElem?_cons_succ, List.getElem?_cons_zero]; rfl) (by kernel_rfl) (fun K hK => ?_)
          go_simp
          refine hK.out _ _ ?_
          clear hK K
          try simp only [Act.put, List.setIfInBounds_toArray, List.set_cons_zero, List.set_cons_succ]
          refine wpK.done (by kernel_rfl) ?_ _
          have hs11 := Upd.setCell w9 w5.heap.size 1 (.slice (some ⟨gC, 0, none⟩) x.C.length cC)
          have hgC := hown9.lt gC rfl
          obtain ⟨w11, hw11⟩ : ∃ w11, w11 = w9.setCell ⟨w5.heap.size, 1, none⟩ (.slice (some ⟨gC, 0, none⟩) x.C.length cC) := ⟨_, rfl⟩
          have hb11 : Below w5.heap.size w5 w11 := by
            rw [hw11]
            exact (((Below.next HB10.out hk9)).trans (hs11.below (by have := HB10.out.size; have := hk9.size; omega) (fun j _ q => by omega)))
          have hoC11 : w11.ownsRow w10.heap.size 9 1 (.slice (some ⟨gC, 0, none⟩) x.C.length cC) x.C.length (sv x.C) := by
            rw [hw11]
            exact (hs11.owns hown9 (fun k hk q => by simp [Value.ownBlock] at hk; have := HS7.out; have := HGD.out; omega))
          have hoD11 : w11.ownsRow w7.heap.size 9 1 (.slice (some ⟨gD, 0, none⟩) x.D.length cD) x.D.length (sv x.D) := by
            rw [hw11]
            exact (hs11.owns (owns_below HOD10.out hk9) (fun k hk q => by simp [Value.ownBlock] at hk; have := HS7.out; have := HGD.out; omega))
          have hY11 : Blk w11 w5.heap.size #[.slice (some ⟨gD, 0, none⟩) x.D.length cD, .slice (some ⟨gC, 0, none⟩) x.C.length cC, .int .i64 (x.size : Int), .bool x.armed, .bool x.down, .int .i64 x.left, .int .i64 x.done] := by
            rw [hw11]
            simpa using hb9.set 1 (.slice (some ⟨gC, 0, none⟩) x.C.length cC)
          rw [← hw11]
          obtain ⟨p', hp'⟩ : ∃ p' : RfP, p' = ⟨w5.heap.size, gD, gC, cD, cC⟩ := ⟨_, rfl⟩
          have hpg : w5.heap.size = p'.g := by rw [hp']
          have hRf : RfIs w11 p' x := by
            rw [hp']
            exact ⟨hY11, owns_base hoD11 (Nat.zero_le _), owns_base hoC11 (Nat.zero_le _), by have := HGD.out; have := HS7.out; show w5.heap.size ≠ gD; omega, by have := HGD.out; have := HS7.out; show w5.heap.size ≠ gC; omega, by have := HGD.out; show gD ≠ gC; omega⟩
          have hp5 : ∀ j, RfW p' j → w5.heap.size ≤ j := by
            intro j hj
            rw [hp'] at hj
            have := HGD.out
            have := HS7.out
            rcases hj with q | q | q
            · exact Nat.le_of_eq q.symm
            · rw [q]; show w5.heap.size ≤ gD; omega
            · rw [q]; show w5.heap.size ≤ gC; omega
          have hTwo : Two w11 g W R p s x g' W' R p' s x k k := by
            have hPk := HP5.out.below hb11
            have hlt := HP.out.dlt
            have hle := HBW.out.size
            have hRl := HP.out.rlt.1
            refine ⟨hPk, ⟨HD5.out.below hb11, HP.out.ok, HP.out.rel, hRf, fun j hj => ⟨fun q => by have := hp5 j hj; have := HS5.out j q; omega, fun q => by have := hp5 j hj; have := hRl j q; omega⟩, HP.out.n6, HP.out.sz, HP.out.cl⟩, fun j hj q => ?_, fun j hj q => ?_, fun j hj q => ?_⟩
            · have := hlt j hj
              rcases q with q | q
              · have := HW5.out j q; omega
              · have := hp5 j q; omega
            · rcases hj with z | z
              · obtain ⟨b, dv, V, M, hd⟩ := HP.out.disk; exact hd.wr j z q
              · exact (HP.out.far j z).2 q
            · have := hRl j q
              rcases hj with z | z
              · have := HW5.out j z; omega
              · have := hp5 j z; omega
          have HT := hid hTwo
          have HDWO2 : Hid (∀ j, DW W' p' j → w.heap.size ≤ j) := hid (fun j hj => by
            have := HB.out.size
            have := HB5.out.size
            rcases hj with z | z
            · have := HW5.out j z; omega
            · have := hp5 j z; omega)
          have HB11 := hid (Below.next HB5.out hb11)
          rw [hpg]
          clear hw11 hb11 hs11 hgC hown9 hg9 hnil9 hwh9 hk9 hb9 hc9 hf9 hH hz1 hx1 hd0 hoC11 hoD11 hY11 hp' hpg hRf hp5 hTwo HP HR HB HD5 HW5 HP5 HB5 HS5 HBW HXL HX6 HYw7 HPw7 HB7 HS7 HOD10 HYw10 HPw10 HB10 HGD
          go_wp2_with fail
          go_loopw [102] (fun v102 wr => Cp2 w L2.length g W p g' W' R p' s x k v102 wr) (fun v102 _ => L2.length - (intOf v102).toNat)
          case atStart => exact ⟨0, s, x, R, rfl, by omega, HT.out, HB11.out⟩
          case round =>
            clear HT HB11
            obtain ⟨j, s1, x1, R1, rfl, hj, ht, hb⟩ := hrel
            have HT := hid ht
            have HB := hid hb
            by_cases hlt : j < L2.length
            · obtain ⟨o, ho⟩ : ∃ o, L2[j]? = some o := ⟨_, List.getElem?_eq_getElem hlt⟩
              obtain ⟨ab, off, da, dc, ja, jc, rfl, c0, c1, c2', c3, c4, c5, c6, hsd, hsk⟩ := HL2.out.op05 hb ho
              have hok := List.all_eq_true.1 HALL2.out o (List.mem_of_getElem? ho)
              unfold okOp at hok
              simp only [Bool.and_eq_true, decide_eq_true_eq] at hok
              obtain ⟨ob, hob⟩ : ∃ ob, ob = Obj.cells #[.int .i64 o.kind, .int .i64 o.sec, .int .i64 o.n, .slice da o.data.length dc, .slice ja o.keep.length jc, .int .i64 o.torn, .int .i64 o.cut] 81 := ⟨_, rfl⟩
              have hbn := Below.new wr ob
              have HTn := hid (ht.below hbn)
              have HSTEP := hid (law05_stepIn o hok.1 hok.2 hsd hsk g W R1 p s1 x1 (k + j) (Below.next hb hbn) HTn.out.a HDWO.out)
              have HOB := hid hob
              obtain ⟨kd, sc, nn, dl, kl, tn, ct⟩ := o
              simp only at c0 c1 c2' c3 c4 c5 c6 HSTEP HOB
              have e0 : (0 : Int) ≤ (j : Int) := by omega
              have e1 : (j : Int) < (L2.length : Int) := by omega
              clear ho hsd hsk hok hob hbn hb ht
              go_wp2_with fail
              rw [← HOB.out]
              refine HSTEP.out.mono ?_
              rintro e w12 ⟨s2, x2, R2, rfl, hp5, hr5, hu5⟩
              have HT5 := hid (HTn.out.step hp5 hr5 hu5)
              have HB5 : Hid (Below w.heap.size w w12) := hid ((Below.next HB.out (Below.new wr ob)).trans (hu5.below (by have := HB.out.size; simp; omega) (fun j _ q => HDWO.out j q)))
              clear hp5 hr5 hu5 c0 c1 c2' c3 c4 c5 c6
              go_wp2_with fail
              go_roundw
              case rel => exact ⟨j + 1, s2, x2, R2, by go_num, by omega, HT5.out, HB5.out⟩
              case measure => simp [intOf]; omega
            · have hki : ¬ (j : Int) < (L2.length : Int) := by omega
              have hkj : k + j ≤ 60 := by omega
              clear ht hb hlt hj
              go_wp2_with fail
              refine (law05_same g' W' R p' s x k (by omega) wr HT.out.b).mono ?_
              rintro e w12 ⟨rfl, hb12⟩
              have HT12 := hid (HT.out.below hb12)
              have HB12 := hid (Below.next HB.out hb12)
              obtain ⟨N1, hN1⟩ : ∃ N1, N1 = k + j := ⟨_, rfl⟩
              rw [← hN1] at HT12 hkj
              clear hb12 hN1 HT HB hki
              go_wp2_with fail
              go_loopw [116] (fun v116 wr => Cp3 w g W R1 p s1 x1 g' W' R p' s x N1 k v116 wr) (fun v116 _ => 6 - (intOf v116).toNat)
              case atStart => exact ⟨0, rfl, by omega, HT12.out, HB12.out⟩
              case round =>
                clear HT12 HB12
                obtain ⟨i, rfl, hi, ht, hb⟩ := hrel
                have HT := hid ht
                have HB := hid hb
                clear ht hb
                by_cases hlt : i < 6
                · have k0 : (0 : Int) ≤ (i : Int) := by omega
                  have k1 : (i : Int) < 6 := by omega
                  obtain ⟨l, e0, hrd⟩ : ∃ l e0, dkRead s (i : Int) = (l, e0) := ⟨_, _, rfl⟩
                  have hll := HT.out.b.readLen hrd
                  have HRD := hid hrd
                  clear hrd
                  obtain ⟨wo, rfl⟩ : ∃ wo : World, wo = wr := ⟨_, rfl⟩
                  go_wp2_with fail
                  refine (disk_Read s (i : Int) g' W' R wo HT.out.b.disk l e0 HRD hll).mono ?_
                  rintro e w6 ⟨v6, rfl, hown6, hb6⟩
                  obtain ⟨a6, c6, rfl, -⟩ := ownsRow.rd hown6
                  have HOWN6 := hid hown6
                  have HB6 := hid hb6
                  clear hown6 hb6
                  by_cases he : e0 = 0
                  · subst he
                    go_wp2_with fail
                    go_loopw [129] (fun v129 wr => Cp4 w6 wo.heap.size l.length (.slice a6 l.length c6) v129 wr) (fun v129 _ => l.length - (intOf v129).toNat)
                    case atStart => exact ⟨0, l.map fun c => (c.toNat : Int), rfl, by omega, by simp, by rw [← bv_zs]; exact HOWN6.out, Upd.refl _ _⟩
                    case round =>
                      obtain ⟨q, zs, rfl, hq, hzl, hown, hu⟩ := hrel
                      have HOWN := hid hown
                      have HU := hid hu
                      have HZL := hid hzl
                      clear hown hu hzl
                      by_cases hql : q < l.length
                      · obtain ⟨g6, c6', e6⟩ := Joins.ownsRow_form HOWN.out (by omega)
                        simp only [Value.slice.injEq, true_and] at e6
                        obtain ⟨rfl, rfl⟩ := e6
                        have q0 : (0 : Int) ≤ (q : Int) := by omega
                        have q1 : (q : Int) < (l.length : Int) := by omega
                        have hc0 : wr.cell? ⟨g6, q, none⟩ = some (.int .u8 (zs.getD q 0)) := by
                          rw [HOWN.out.cellAt q (by omega), List.getElem?_map, List.getD_eq_getElem?_getD, List.getElem?_eq_getElem (by have := HZL.out; omega)]; rfl
                        have hf0 : wr.frozen? ⟨g6, q, none⟩ = false := HOWN.out.frozenAt q
                        obtain ⟨z, hz⟩ : ∃ z, z = zs.getD q 0 := ⟨_, rfl⟩
                        rw [← hz] at hc0
                        clear hz
                        go_wp2_with fail
                        go_roundw
                        case rel => exact ⟨q + 1, zs.set q (bits .xor .u8 z 255), by go_num, by omega, by simpa using HZL.out, by have := (HOWN.out.stored q (.int .u8 (bits .xor .u8 z 255))).1; rw [← List.map_set] at this; exact this, HU.out.trans (Upd.setCell wr g6 q _) (fun _ _ h => by rw [h]; rfl)⟩
                        case measure => simp [intOf]; omega
                      · have q1 : ¬ (q : Int) < (l.length : Int) := by omega
                        have hbo : Below wo.heap.size wo wr := HB6.out.trans (HU.out.below HB6.out.size (fun j _ z => (HOWN6.out.lt j z).1))
                        have HT7 := hid (HT.out.below hbo)
                        have HB7 := hid (Below.next HB.out hbo)
                        clear hbo hql hq
                        go_wp2_with fail
                        go_roundw
                        case rel => exact ⟨i + 1, by go_num, by omega, HT7.out, HB7.out⟩
                        case measure => simp [intOf]; omega
                  · have he0 : (e0 == 0) = false := by simpa using he
                    have HT7 := hid (HT.out.below HB6.out)
                    have HB7 := hid (Below.next HB.out HB6.out)
                    clear he
                    go_wp2_with fail
                    go_roundw
                    case rel => exact ⟨i + 1, by go_num, by omega, HT7.out, HB7.out⟩
                    case measure => simp [intOf]; omega
                · have hi6 : ¬ (i : Int) < 6 := by omega
                  clear hlt hi
                  go_wp2_with fail
                  obtain ⟨wo, rfl⟩ : ∃ wo : World, wo = wr := ⟨_, rfl⟩
                  go_loopw [142] (fun v142 wr => Cp5 w L2.length g W R1 p s1 x1 g' W' p' N1 k v142 wr) (fun v142 _ => L2.length - (intOf v142).toNat)
                  case atStart => exact ⟨0, s, x, R, rfl, by omega, HT.out, HB.out⟩
                  case round =>
                    clear HT HB
                    obtain ⟨j, s2, x2, R2, rfl, hj, ht, hb⟩ := hrel
                    have HT := hid ht
                    have HB := hid hb
                    by_cases hlt : j < L2.length
                    · obtain ⟨o, ho⟩ : ∃ o, L2[j]? = some o := ⟨_, List.getElem?_eq_getElem hlt⟩
                      obtain ⟨ab, off, da, dc, ja, jc, rfl, c0, c1, c2', c3, c4, c5, c6, hsd, hsk⟩ := HL2.out.op05 hb ho
                      have hok := List.all_eq_true.1 HALL2.out o (List.mem_of_getElem? ho)
                      unfold okOp at hok
                      simp only [Bool.and_eq_true, decide_eq_true_eq] at hok
                      obtain ⟨kd, sc, nn, dl, kl, tn, ct⟩ := o
                      simp only at c0 c1 c2' c3 c4 c5 c6 hsd hsk hok
                      have HDK := hid hok
                      have HSK := hid hsk
                      obtain ⟨bx, hbx⟩ : ∃ bx, bx = wr.heap.size := ⟨_, rfl⟩
                      obtain ⟨w12, hw12⟩ : ∃ w12, w12 = wr.alloc (.cells #[.int .i64 kd, .int .i64 sc, .int .i64 nn, .slice da dl.length dc, .slice ja kl.length jc, .int .i64 tn, .int .i64 ct] 81) := ⟨_, rfl⟩
                      have hb12 : Below wr.heap.size wr w12 := by rw [hw12]; exact Below.new _ _
                      have hX12 : Blk w12 bx #[.int .i64 kd, .int .i64 sc, .int .i64 nn, .slice da dl.length dc, .slice ja kl.length jc, .int .i64 tn, .int .i64 ct] := by rw [hw12, hbx]; exact Blk.new _ _ _
                      have HBX := hid hbx
                      have HW12 := hid hw12
                      have HB12 := hid hb12
                      have HX12 := hid hX12
                      have hb13 := Below.new w12 (.cells #[] 5)
                      have HX13 := hid (hX12.below hb13)
                      have hown0 : (w12.alloc (.cells #[] 5)).ownsRow w12.heap.size 5 1 (.slice (some ⟨w12.heap.size, 0, none⟩) 0 0) 0 [] := World.ownsRow_made w12 #[] 0 (Nat.le_refl _) (by omega) (by simp)
                      have HOWN0 := hid hown0
                      obtain ⟨a', c', e, -, hr0, -, -, hz0⟩ := (hsd.below (Below.next hb hb12)).below hb13
                      simp only [Value.slice.injEq] at e
                      obtain ⟨rfl, -, rfl⟩ := e
                      have HR0 := hid hr0
                      have e0 : (0 : Int) ≤ (j : Int) := by omega
                      have e1 : (j : Int) < (L2.length : Int) := by omega
                      have hx3 : (w12.alloc (.cells #[] 5)).cell? ⟨bx, 3, none⟩ = some (.slice da dl.length dc) := by rw [HX13.out.cell]; rfl
                      clear ho hsd hsk hw12 hb12 hX12 hb13 hown0 hr0 hb ht hok hlt
                      go_upto_region 37 with fail
                      rw [← HW12.out, ← HBX.out]
                      clear c0 c1 c2' c3 c4 c5 c6 hbx
                      go_wp2_with (at_builtin; refine wpList_appendN T_bytes _ rfl _ _ rfl w12.heap.size _ _ _ rfl HOWN0.out _ _ _ (bv dl) rfl ?c1 (fun _ => hz0) HR0.out (bv_oneCell dl) ?c2 ?c3 ?_)
                      case c1 => simp [bv_length]
                      case c2 => have := HDK.out.1; omega
                      case c3 => simp
                      intro v4 w4 hown4 hg4 hnil4
                      replace hown4 : w4.ownsRow w12.heap.size 5 1 v4 dl.length (bv dl) := by simpa using hown4
                      obtain ⟨g4, c4, rfl⟩ : ∃ g c, v4 = .slice (some ⟨g, 0, none⟩) dl.length c := by
                        rcases hown4.2 with ⟨h, -⟩ | ⟨g, cap, cur, h, -⟩
                        · exact (hnil4 h).elim
                        · exact ⟨g, cap, h⟩
                      have hb4 : Below w12.heap.size w12 w4 := (Below.new w12 _).grown hg4 (by simp) (fun k hk => by simp [Value.ownBlock] at hk; omega)
                      have hX4 := HX12.out.below hb4
                      have hbc3 : w4.cell? ⟨bx, 3, none⟩ = some (.slice da dl.length dc) := by rw [hX4.cell]; rfl
                      have hbf3 := hX4.unfrozen 3
                      have hs15 := Upd.setCell w4 bx 3 (.slice (some ⟨g4, 0, none⟩) dl.length c4)
                      obtain ⟨w15, hw15⟩ : ∃ w15, w15 = w4.setCell ⟨bx, 3, none⟩ (.slice (some ⟨g4, 0, none⟩) dl.length c4) := ⟨_, rfl⟩
                      have hsz15 : w15.heap.size = w4.heap.size := by rw [hw15]; simp
                      have HBL : Hid (bx < w12.heap.size ∧ wr.heap.size = bx ∧ wr.heap.size ≤ w12.heap.size) := hid ⟨HX12.out.lt, HBX.out.symm, HB12.out.size⟩
                      have HG4 : Hid (w12.heap.size ≤ g4 ∧ g4 < w15.heap.size) := hid (by have := hown4.lt g4 rfl; omega)
                      have HX15 : Hid (Blk w15 bx #[.int .i64 kd, .int .i64 sc, .int .i64 nn, .slice (some ⟨g4, 0, none⟩) dl.length c4, .slice ja kl.length jc, .int .i64 tn, .int .i64 ct]) := hid (by rw [hw15]; simpa using hX4.set 3 (.slice (some ⟨g4, 0, none⟩) dl.length c4))
                      have HOWN15 : Hid (w15.ownsRow w12.heap.size 5 1 (.slice (some ⟨g4, 0, none⟩) dl.length c4) dl.length (bv dl)) := hid (by rw [hw15]; exact hs15.owns hown4 (fun i hi q => by simp [Value.ownBlock] at hi; have := HBL.out; have := HG4.out; omega))
                      have HB15 : Hid (Below wr.heap.size wr w15) := hid (by
                        rw [hw15]
                        exact (Below.next HB12.out hb4).trans (hs15.below (Below.next HB12.out hb4).size (fun i _ q => by have := HBL.out; omega)))
                      have HT15 := hid (HT.out.below HB15.out)
                      have HSTEP := hid (law05_step ⟨kd, sc, nn, dl, kl, tn, ct⟩ HDK.out.1 HDK.out.2 (.slice (some ⟨g4, 0, none⟩) dl.length c4) (.slice ja kl.length jc) g' W' R2 p' s2 x2 (k + j) w15 HT15.out.b (ownsRow.slb HOWN15.out (show dl.length ≤ 9223372036854775807 by have := HDK.out.1; omega)) (HSK.out.below (Below.next HB.out HB15.out))
                        (fun i hi => .inr (fun z => by
                          have h1 := HT.out.b.dlt i z
                          simp [Value.ownBlock] at hi
                          have := HG4.out
                          have := HBL.out
                          omega))
                        (fun i hi => (HSK.out.lt i hi).imp id (fun q z => by have := HDWO2.out i z; omega)))
                      have HW15 := hid hw15
                      clear hown4 hg4 hnil4 hb4 hX4 hs15 hw15 hsz15 hx3
                      go_upto_region 38 with fail
                      rw [← HW15.out]
                      obtain ⟨y0, y1, y2, y3, y4, y5, y6⟩ := HX15.out.c7
                      clear hbc3 hbf3 hz0
                      go_wp2_with fail
                      refine HSTEP.out.mono ?_
                      rintro e w16 ⟨s3, x3, R3, rfl, hp6, hr6, hu6⟩
                      have HT16 := hid ((HT15.out.symm.step hp6 hr6 hu6).symm)
                      have HX16 := hid (HX15.out.upd hu6 (fun z => by have := HT.out.b.dlt bx z; have := HBL.out; omega))
                      have HOWN16 := hid (hu6.owns HOWN15.out (fun i hi z => by
                          have h1 := HT.out.b.dlt i z
                          simp [Value.ownBlock] at hi
                          have := HG4.out
                          have := HBL.out
                          omega))
                      have HN : Hid (¬ DW W p g4 ∧ ¬ R1 g4 ∧ ¬ DW W' p' g4 ∧ ¬ R3 g4) := hid (by
                        have h1 := HG4.out
                        have h2 := HBL.out
                        refine ⟨fun z => ?_, fun z => ?_, fun z => ?_, fun z => ?_⟩
                        · have := HT.out.a.dlt g4 z; omega
                        · have := HT.out.a.rlt.1 g4 z; omega
                        · have := HT.out.b.dlt g4 z; omega
                        · rcases hr6 g4 z with q | q
                          · have := HT.out.b.rlt.1 g4 q; omega
                          · omega)
                      have HB16 : Hid (Below w.heap.size w w16) := hid ((Below.next HB.out HB15.out).trans (hu6.below (Below.next HB.out HB15.out).size (fun i _ q => HDWO2.out i q)))
                      have HG4w : Hid (w.heap.size ≤ g4) := hid (by have := HB.out.size; have := HG4.out; have := HBL.out; omega)
                      have hx16 : w16.cell? ⟨bx, 3, none⟩ = some (.slice (some ⟨g4, 0, none⟩) dl.length c4) := HX16.out.c7.2.2.2.1
                      have hd100 : dl.length ≤ 100 := HDK.out.1
                      clear hp6 hr6 hu6 y0 y1 y2 y3 y4 y5 y6
                      go_wp2_with fail
                      go_loopw [159] (fun v159 wr => Cp4 w16 w12.heap.size dl.length (.slice (some ⟨g4, 0, none⟩) dl.length c4) v159 wr) (fun v159 _ => dl.length - (intOf v159).toNat)
                      case atStart => exact ⟨0, dl.map fun c => (c.toNat : Int), rfl, by omega, by simp, by rw [← bv_zs]; exact HOWN16.out, Upd.refl _ _⟩
                      case round =>
                        obtain ⟨q, zs, rfl, hq, hzl, hown, hu⟩ := hrel
                        have HOWN := hid hown
                        have HU := hid hu
                        have HZL := hid hzl
                        clear hown hu hzl hx16
                        by_cases hql : q < dl.length
                        · have q0 : (0 : Int) ≤ (q : Int) := by omega
                          have q1 : (q : Int) < (dl.length : Int) := by omega
                          have hc0 : wr.cell? ⟨g4, q, none⟩ = some (.int .u8 (zs.getD q 0)) := by
                            rw [HOWN.out.cellAt q (by omega), List.getElem?_map, List.getD_eq_getElem?_getD, List.getElem?_eq_getElem (by have := HZL.out; omega)]; rfl
                          have hf0 : wr.frozen? ⟨g4, q, none⟩ = false := HOWN.out.frozenAt q
                          have hxr : wr.cell? ⟨bx, 3, none⟩ = some (.slice (some ⟨g4, 0, none⟩) dl.length c4) := (HX16.out.upd HU.out (fun z => by simp [Value.ownBlock] at z; have := HG4.out; have := HBL.out; omega)).c7.2.2.2.1
                          obtain ⟨z, hz⟩ : ∃ z, z = zs.getD q 0 := ⟨_, rfl⟩
                          rw [← hz] at hc0
                          clear hz
                          go_wp2_with fail
                          go_roundw
                          case rel => exact ⟨q + 1, zs.set q (bits .xor .u8 z 255), by go_num, by omega, by simpa using HZL.out, by have := (HOWN.out.stored q (.int .u8 (bits .xor .u8 z 255))).1; rw [← List.map_set] at this; exact this, HU.out.trans (Upd.setCell wr g4 q _) (fun _ _ h => by rw [h]; rfl)⟩
                          case measure => simp [intOf]; omega
                        · have q1 : ¬ (q : Int) < (dl.length : Int) := by omega
                          have HT17 := hid (HT16.out.upd HU.out (fun i hi => by
                            simp [Value.ownBlock] at hi
                            subst hi
                            exact HN.out))
                          have HB17 : Hid (Below w.heap.size w wr) := hid (HB16.out.trans (HU.out.below HB16.out.size (fun i _ hi => by simp [Value.ownBlock] at hi; have := HG4w.out; omega)))
                          clear hql hq
                          go_wp2_with fail
                          go_roundw
                          case rel => exact ⟨j + 1, s3, x3, R3, by go_num, by omega, HT17.out, HB17.out⟩
                          case measure => simp [intOf]; omega
                    · have hki : ¬ (j : Int) < (L2.length : Int) := by omega
                      have hkj2 : k + j ≤ 60 := by omega
                      clear ht hb hlt hj
                      go_wp2_with fail
                      refine (law05_same g' W' R2 p' s2 x2 (k + j) (by omega) wr HT.out.b).mono ?_
                      rintro e w20 ⟨rfl, hb20⟩
                      have HT20 := hid (HT.out.below hb20)
                      have HB20 := hid (Below.next HB.out hb20)
                      clear hb20
                      go_wp2_with fail
                      refine (law05_same g W R1 p s1 x1 N1 (by omega) w20 HT20.out.a).mono ?_
                      rintro e w21 ⟨rfl, hb21⟩
                      have HB21 := hid (Below.next HB20.out hb21)
                      clear hb21
                      go_wp2_with fail
                      refine (law05_awake w21).mono ?_
                      rintro e w22 ⟨rfl, hb22⟩
                      have HB22 := hid (Below.next HB21.out hb22)
                      clear hb22
                      go_wp2_with fail
                      go_ret
                      exact ⟨rfl, HB22.out⟩
end Go.Proofs.Ytohknblokejldaa
end
