/- Joined texts, in this order: DiskPlays, LayMaps, DiskCopy. Each one's first remark says what it proves; no condition beyond those that its theorems name. -/
import Derived.Test.YtohknblokejldaaJLawDiskCopies26
import Derived.Test.YtohknblokejldaaJLawDiskCopies07
import Derived.Shelf.SlGeneric
import Derived.Ground.SlmcProg
import Derived.Shelf.SlMaps.Clone
import Derived.Test.YtohknblokejldaaProg
import Derived.Test.YtohknblokejldaaJLawDiskCopies05
import Derived.Test.YtohknblokejldaaJLawDiskCopies15
import Derived.Deep.DeepCutAuto
section
/- The law DiskPlays, walked. -/
namespace Go.Proofs.Ytohknblokejldaa
open Go.RowKit
open Go.Lib (hid)
set_option linter.unusedVariables false

def PlL (w : World) (n : Nat) (g : Nat) (W : Nat → Prop) (p : RfP) (v24 : Value) (wr : World) : Prop :=
  ∃ (k : Nat) (s : Dk) (x : Rf) (R : Nat → Prop), v24 = .int .i64 k ∧ k ≤ n ∧ DSt wr g W R p s x k ∧ (∀ j, R j → w.heap.size ≤ j) ∧ Below w.heap.size w wr
def PlR (w : World) (g : Nat) (W : Nat → Prop) (p : RfP) (N : Nat) (v45 : Value) (wr : World) : Prop :=
  ∃ (k : Nat) (s : Dk) (x : Rf) (R : Nat → Prop), v45 = .int .i64 k ∧ k ≤ 6 ∧ DSt wr g W R p s x (N + k) ∧ (∀ j, R j → w.heap.size ≤ j) ∧ Below w.heap.size w wr
/-- what a new pair is -/
theorem DSt.made {w w1 w2 : World} {g : Nat} {W R : Nat → Prop} {p : RfP} (hd : DiskIs w1 g W R (dkNew 6 16)) (hb1 : Below w.heap.size w w1) (hr : RfIs w2 p (rfNew 6 16)) (hp : ∀ k, RfW p k → w1.heap.size ≤ k) (hb2 : Below w1.heap.size w1 w2) : DSt w2 g W R p (dkNew 6 16) (rfNew 6 16) 0 := by
  have hl : (∀ k, R k → k < w1.heap.size) ∧ (∀ k, W k → k < w1.heap.size) := by obtain ⟨b, dv, V, M, h⟩ := hd; exact ⟨h.rlt, h.wlt⟩
  exact ⟨hd.below hb2, dkNew_ok 6 16 (by omega) (by omega) (by omega) (by omega), RfRel.new 6 16, hr, fun k hk => ⟨fun q => by have := hp k hk; have := hl.2 k q; omega, fun q => by have := hp k hk; have := hl.1 k q; omega⟩, rfl, rfl, by simp [dkNew]⟩
set_option maxRecDepth 100000 in
set_option maxHeartbeats 8000000 in
theorem DiskPlays_walk {H : Type} {enc : TypeId × Value → H} {b0 : Nat} {d0 : DataW H} {p0 : List MemPlace} (v0 : Value) (w : World) (ok0 : Value.okWide Try.prog w .any b0 77 v0) (k0 : DataW.Trod enc Try.prog w 0 (fun _ => true) true 77 v0 d0 p0) :
    Calls Try.prog 11 #[v0] w fun e w' => e = .returned (.bool true) ∧ Below w.heap.size w w' := by
  obtain ⟨L, hL⟩ := open_ops05 ok0 k0
  clear ok0 k0
  have HL := hid hL
  obtain ⟨bb, hbb⟩ : ∃ bb, smallB L 60 = bb := ⟨_, rfl⟩
  have HBB := hid hbb
  obtain ⟨a, c, rfl, hlc, hcm, -⟩ := hL
  have hl63 : L.length ≤ 9223372036854775807 := by omega
  clear hlc hcm hbb
  go_enter Try.func11, Try.ntmps11
  go_wp2_with fail
  refine (disk_New 6 16 (by omega) (by omega) (by omega) (by omega) w).mono ?_
  rintro e w1 ⟨g, W, R, rfl, hd1, hW1, hR1, hb1⟩
  have HD1 := hid hd1
  have HWW := hid hW1
  have HR1 := hid hR1
  have HB1 := hid hb1
  clear hd1 hW1 hR1 hb1
  go_wp2_with fail
  refine (rf_New w1).mono ?_
  rintro e w2 ⟨p, rfl, hi2, hp2, hb2⟩
  have HP2 := hid (DSt.made HD1.out HB1.out hi2 hp2 hb2)
  have HPW : Hid (∀ j, RfW p j → w.heap.size ≤ j) := hid (fun j hj => Nat.le_trans HB1.out.size (hp2 j hj))
  have HB2 := hid (Below.next HB1.out hb2)
  clear hi2 hp2 hb2
  go_wp2_with fail
  refine (law05_small L 60 (by omega) _ w2 (HL.out.below opKept HB2.out) bb HBB).mono ?_
  rintro e w3 ⟨rfl, hb3⟩
  have HP3 := hid (HP2.out.below hb3)
  have HB3 := hid (Below.next HB2.out hb3)
  clear hb3
  cases bb with
  | false =>
    go_wp2_with fail
    refine (law05_awake w3).mono ?_
    rintro e w4 ⟨rfl, hb4⟩
    have HB4 := hid (Below.next HB3.out hb4)
    clear hb4
    go_wp2_with fail
    go_ret
    exact ⟨rfl, HB4.out⟩
  | true =>
    have hsm := HBB.out
    unfold smallB at hsm
    simp only [Bool.and_eq_true, decide_eq_true_eq] at hsm
    have hl60 := hsm.2
    have HALL := hid hsm.1
    have HDWO : Hid (∀ j, DW W p j → w.heap.size ≤ j) := hid (fun j hj => by
      rcases hj with q | q
      · exact HWW.out j q
      · exact HPW.out j q)
    clear hsm
    go_wp2_with fail
    go_loopw [24] (fun v24 wr => PlL w L.length g W p v24 wr) (fun v24 _ => L.length - (intOf v24).toNat)
    case atStart => exact ⟨0, _, _, R, rfl, by omega, HP3.out, HR1.out, HB3.out⟩
    case round =>
      clear HP2 HP3 HB2 HB3
      obtain ⟨k, s, x, R, rfl, hk, hp, hR, hb⟩ := hrel
      have HP := hid hp
      have HR := hid hR
      have HB := hid hb
      by_cases hlt : k < L.length
      · obtain ⟨o, ho⟩ : ∃ o, L[k]? = some o := ⟨_, List.getElem?_eq_getElem hlt⟩
        obtain ⟨b, off, da, dc, ka, kc, rfl, c0, c1, c2, c3, c4, c5, c6, hsd, hsk⟩ := HL.out.op05 hb ho
        have hok := List.all_eq_true.1 HALL.out o (List.mem_of_getElem? ho)
        unfold okOp at hok
        simp only [Bool.and_eq_true, decide_eq_true_eq] at hok
        obtain ⟨ob, hob⟩ : ∃ ob, ob = Obj.cells #[.int .i64 o.kind, .int .i64 o.sec, .int .i64 o.n, .slice da o.data.length dc, .slice ka o.keep.length kc, .int .i64 o.torn, .int .i64 o.cut] 81 := ⟨_, rfl⟩
        have hbn := Below.new wr ob
        have HSTEP := hid (law05_step o hok.1 hok.2 (.slice da o.data.length dc) (.slice ka o.keep.length kc) g W R p s x k (wr.alloc ob) (HP.out.below hbn) (hsd.below (Below.next hb hbn)) (hsk.below (Below.next hb hbn))
          (fun j hj => by
            by_cases he : o.data = []
            · exact .inl he
            · right
              intro q
              have h1 := HDWO.out j q
              obtain ⟨aa, cc, ee, -, hrd, -⟩ := hsd
              simp only [Value.slice.injEq, true_and] at ee
              obtain ⟨rfl, rfl⟩ := ee
              obtain ⟨b', o', z, hbz, hcz, -⟩ := hrd.byte 0 (List.length_pos_iff.2 he)
              subst hbz
              have e1 : b' = j := by simpa [Value.ownBlock] using hj
              have := World.block_lt_of_cell? w _ hcz
              simp only at this
              omega)
          (fun j hj => by
            rcases hsk.lt j hj with q | q
            · exact .inl q
            · exact .inr (fun z => by have := HDWO.out j z; omega)))
        have HOB := hid hob
        obtain ⟨kd, sc, nn, dl, kl, tn, ct⟩ := o
        simp only at c0 c1 c2 c3 c4 c5 c6 HSTEP HOB
        have e0 : (0 : Int) ≤ (k : Int) := by omega
        have e1 : (k : Int) < (L.length : Int) := by omega
        clear ho hsd hsk hok hob hbn hb hp hR
        go_wp2_with fail
        rw [← HOB.out]
        refine HSTEP.out.mono ?_
        rintro e w5 ⟨s', x', R', rfl, hp5, hr5, hu5⟩
        have HP5 := hid hp5
        have HR5 : Hid (∀ j, R' j → w.heap.size ≤ j) := hid (fun j hj => by
          rcases hr5 j hj with q | q
          · exact HR.out j q
          · have := HB.out.size; simp at q; omega)
        have HB5 : Hid (Below w.heap.size w w5) := hid ((Below.next HB.out (Below.new wr ob)).trans (hu5.below (by have := HB.out.size; simp; omega) (fun j _ q => HDWO.out j q)))
        clear hp5 hr5 hu5 c0 c1 c2 c3 c4 c5 c6
        go_wp2_with fail
        refine (law05_same g W R' p s' x' (k + 1) (by omega) w5 HP5.out).mono ?_
        rintro e w6 ⟨rfl, hb6⟩
        have HP6 := hid (HP5.out.below hb6)
        have HB6 := hid (Below.next HB5.out hb6)
        clear hb6
        go_wp2_with fail
        go_roundw
        case rel => exact ⟨k + 1, s', x', R', by go_num, by omega, HP6.out, HR5.out, HB6.out⟩
        case measure => simp [intOf]; omega
      · clear hp hR hb
        go_wp2_with fail
        refine (disk_Crash s HP.out.ok [] (-1) 0 (.slice none 0 0) g W R wr HP.out.disk (SlI.nil _) (fun j hj => .inl rfl)).mono ?_
        rintro e w5 ⟨R5, rfl, hd5, hr5, hu5⟩
        have HD5 := hid hd5
        have HR5 := hid hr5
        have HU5 := hid hu5
        obtain ⟨hxl, hx6, hxz, hxD, hxC⟩ := HP.out.len
        have HXL := hid hxl
        have HXD := hid hxD
        have HXC := hid hxC
        clear hd5 hr5 hu5 hxl hxD hxC
        go_wp2_with fail
        refine (rf_Crash p x HXL.out (by omega) (by omega) HXD.out HXC.out [] (-1) 0 (.slice none 0 0) w5 (HP.out.ref.upd HU5.out (fun k hk => (HP.out.far k hk).1)) (SlI.nil _) (fun j hj => .inl rfl)).mono ?_
        rintro e w6 ⟨rfl, hi6, hu6⟩
        obtain ⟨s', x', R', -, hp7, hr7, hu7⟩ := HP.out.next (e := .returned (.bool true)) HD5.out HR5.out HU5.out hi6 hu6 (HP.out.ok.crash [] (-1) 0) (HP.out.rel.crash HP.out.ok [] (-1) 0) (by show (mixF _ s.D s.C []).length = 6; rw [mixF_len]; exact HP.out.n6) HP.out.sz (by show ([] : List (Int × List UInt8)).length ≤ k + 1; simp) rfl
        have HP7 := hid hp7
        have HR7 : Hid (∀ j, R' j → w.heap.size ≤ j) := hid (fun j hj => by
          rcases hr7 j hj with q | q
          · exact HR.out j q
          · have := HB.out.size; omega)
        have HB7 : Hid (Below w.heap.size w w6) := hid (HB.out.trans (hu7.below HB.out.size (fun j _ q => HDWO.out j q)))
        clear hi6 hu6 hp7 hr7 hu7 hxz hx6
        go_wp2_with fail
        go_loopw [45] (fun v45 wr => PlR w g W p (k + 1) v45 wr) (fun v45 _ => 6 - (intOf v45).toNat)
        case atStart => exact ⟨0, _, _, R', rfl, by omega, HP7.out, HR7.out, HB7.out⟩
        case round =>
          clear HP7 HR7 HB7
          obtain ⟨j, s2, x2, R2, rfl, hj, hp2, hR2, hb2⟩ := hrel
          have HP2 := hid hp2
          have HR2 := hid hR2
          have HB2 := hid hb2
          clear hp2 hR2 hb2
          by_cases hj6 : j < 6
          · have j0 : (0 : Int) ≤ (j : Int) := by omega
            have j1 : (j : Int) < 6 := by omega
            have HSTEP := hid (law05_step ⟨3, (j : Int), 0, [], [], 0, 0⟩ (by simp) (by simp) (.slice none 0 0) (.slice none 0 0) g W R2 p s2 x2 (k + 1 + j) wr HP2.out ⟨none, 0, rfl, by simp, Rd.nil _ _, by simp, by omega, fun _ => rfl⟩ (SlI.nil _) (fun _ _ => .inl rfl) (fun _ _ => .inl rfl))
            go_wp2_with fail
            refine HSTEP.out.mono ?_
            rintro e w5 ⟨s', x', R', rfl, hp5, hr5, hu5⟩
            have HP5 := hid hp5
            have HR5 : Hid (∀ j, R' j → w.heap.size ≤ j) := hid (fun j hj => by
              rcases hr5 j hj with q | q
              · exact HR2.out j q
              · have := HB2.out.size; omega)
            have HB5 : Hid (Below w.heap.size w w5) := hid (HB2.out.trans (hu5.below HB2.out.size (fun j _ q => HDWO.out j q)))
            clear hp5 hr5 hu5
            go_wp2_with fail
            go_roundw
            case rel => exact ⟨j + 1, s', x', R', by go_num, by omega, HP5.out, HR5.out, HB5.out⟩
            case measure => simp [intOf]; omega
          · have j1 : ¬ (j : Int) < 6 := by omega
            go_wp2_with fail
            refine (law05_awake wr).mono ?_
            rintro e w4 ⟨rfl, hb4⟩
            have HB4 := hid (Below.next HB2.out hb4)
            clear hb4
            go_wp2_with fail
            go_ret
            exact ⟨rfl, HB4.out⟩
end Go.Proofs.Ytohknblokejldaa
end
section
/- Layings of the shelf's contracts at this dump (printed by the shelf's lay-plain). -/
namespace Go.Proofs
open Go.Shelf
def Try.lays_SlLaysW_n5_90_ren : Go.Shelf.Ren := ⟨fun | 5 => 90 | 7 => 112 | n => n, fun | 23 => 115 | 25 => 3 | 3 => 27 | 4 => 4 | 20 => 20 | n => n, fun | n => n⟩
theorem Try.lays_SlLaysW_n5_90 : Go.Proofs.SlLaysW.n5 Try.prog Try.lays_SlLaysW_n5_90_ren := {
  mixed := by kernel_rfl
  f5 := ⟨Try.f90.name, by decide, Try.func90.trans (congrArg some (by kernel_rfl))⟩
  f7 := Try.func112.trans (congrArg some (by kernel_rfl))
  t4 := Try.underlying4
  a4 := Try.isAgg4
  z4 := Try.sizeOf4
  v4 := Try.zeroValue4
  t20 := Try.underlying20
  a20 := Try.isAgg20
  z20 := Try.sizeOf20
  v20 := Try.zeroValue20
  t23 := Try.underlying115
  a23 := Try.isAgg115
  z23 := Try.sizeOf115
  v23 := Try.zeroValue115 }
end Go.Proofs
end
section
/- Contract of disk.Copy. -/
namespace Go.Proofs.Ytohknblokejldaa
open Go.RowKit
open Go.Lib (hid)
set_option linter.unusedVariables false

theorem owns_base {w : World} {base base' : Nat} {e : TypeId} {size : Nat} {v : Value} {n : Nat} {xs : List Value} (h : w.ownsRow base e size v n xs) (hb : base' ≤ base) : w.ownsRow base' e size v n xs := by
  obtain ⟨h1, h2⟩ := h
  refine ⟨h1, h2.imp id ?_⟩
  rintro ⟨g, cap, cur, a, b, c⟩
  exact ⟨g, cap, cur, a, Nat.le_trans hb b, c⟩
set_option maxRecDepth 100000 in
theorem sl_CloneB (V : List Value) (a : Option Addr) (c : Nat) (w : World) (hrd : Rd w a V) (h1 : ∀ u ∈ V, u.oneCell' = true) (hb : V.length ≤ 1000000) (hc0 : V.length = 0 → a = none → c = 0) : Calls Try.prog 89 #[.slice a V.length c] w fun e w' =>
    ∃ v, e = .returned v ∧ w'.ownsRow w.heap.size 27 1 v V.length V ∧ Below w.heap.size w w' := by
  have hn := fun (w : World) (a : Option Addr) (n c : Nat) => Lib.run_eql_slice_nil (P := Try.prog) w 116 27 a n c 0 0 Try.underlying116
  cases a with
  | none =>
    have := Rd.nil_of_none hrd
    subst this
    go_enter Try.func89, Try.ntmps89
    go_wp2
    go_ret
    exact ⟨_, rfl, World.ownsRow_nil _ _ _ _, Below.refl _ _⟩
  | some ad =>
    have hr2 : Rd (w.alloc (.cells #[] 27)) (some ad) V := hrd.below' ((Below.refl _ _).alloc (Nat.le_refl _) _)
    have hown : (w.alloc (.cells #[] 27)).ownsRow w.heap.size 27 1 (.slice (some ⟨w.heap.size, 0, none⟩) 0 0) 0 [] := World.ownsRow_made w #[] 0 (Nat.le_refl _) (by omega) (by simp)
    go_enter Try.func89, Try.ntmps89
    go_wp2_with (at_builtin; refine wpList_appendN T_secs _ rfl _ _ rfl w.heap.size _ _ _ rfl hown _ _ _ V rfl ?c1 (fun _ h => nomatch h) hr2 h1 ?c2 ?c3 ?_)
    case c1 => simp
    case c2 => omega
    case c3 => simp
    intro v' w' hown' hg hnil
    have hb' : Below w.heap.size w w' := ((Below.refl _ _).alloc (Nat.le_refl _) _).grown hg (by simp) (fun k hk => by simp [Value.ownBlock] at hk; omega)
    clear hg hnil hown
    go_wp2
    go_ret
    exact ⟨_, rfl, hown', hb'⟩
def DCopyPost (w : World) (R : Nat → Prop) (s : Dk) (e : Ending) (w' : World) : Prop :=
  ∃ g' W', e = .returned (.pointer (some ⟨g', 0, none⟩)) ∧ DiskIs w' g' W' R s ∧ (∀ k, W' k → w.heap.size ≤ k) ∧ Below w.heap.size w w'
set_option maxRecDepth 100000 in
set_option maxHeartbeats 2000000 in
theorem disk_Copy (s : Dk) (hn : s.D.length ≤ 4096) (g : Nat) (W R : Nat → Prop) (w : World) (h : DiskIs w g W R s) :
    Calls Try.prog 44 #[.pointer (some ⟨g, 0, none⟩)] w (DCopyPost w R s) := by
  obtain ⟨b, dv, V, M, hd⟩ := h
  have HD := hid hd
  have hVl : V.length = s.D.length := by have := hd.own.1; omega
  have hV1 : ∀ u ∈ V, u.oneCell' = true := by
    intro u hu
    obtain ⟨i, hi⟩ := List.mem_iff_getElem?.1 hu
    have hil : i < s.D.length := by rw [← hVl]; exact (List.getElem?_eq_some_iff.1 hi).1
    obtain ⟨v, h1, ⟨⟨a, c, rfl, -⟩, -⟩⟩ := hd.sec i _ (List.getElem?_eq_getElem hil)
    rw [h1] at hi
    obtain rfl := Option.some.inj hi
    rfl
  obtain ⟨a, c, rfl, hlc, hcm, hrd, hac⟩ := ownsRow.rd hd.own
  obtain ⟨es, clock, hmb, hst, hes⟩ := hd.map
  have hc0 : w.cell? ⟨g, 0, none⟩ = some (.int .i64 (s.size : Int)) := by rw [hd.blk.cell]; rfl
  have hc1 : w.cell? ⟨g, 1, none⟩ = some (.slice a s.D.length c) := by rw [hd.blk.cell]; rfl
  have hc2 : w.cell? ⟨g, 2, none⟩ = some (.map (some b)) := by rw [hd.blk.cell]; rfl
  have hc3 : w.cell? ⟨g, 3, none⟩ = some (.bool s.armed) := by rw [hd.blk.cell]; rfl
  have hc4 : w.cell? ⟨g, 4, none⟩ = some (.int .i64 s.left) := by rw [hd.blk.cell]; rfl
  have hc5 : w.cell? ⟨g, 5, none⟩ = some (.bool s.down) := by rw [hd.blk.cell]; rfl
  have hc6 : w.cell? ⟨g, 6, none⟩ = some (.int .i64 s.done) := by rw [hd.blk.cell]; rfl
  obtain ⟨w1, hw1⟩ : ∃ w1, w1 = w.alloc (.cells #[.int .i64 (s.size : Int), .slice a s.D.length c, .map (some b), .bool s.armed, .int .i64 s.left, .bool s.down, .int .i64 s.done] 118) := ⟨_, rfl⟩
  have HW1 := hid hw1
  have HB1 : Hid (Below w.heap.size w w1) := hid (by rw [hw1]; exact Below.new _ _)
  have HX1 : Hid (Blk w1 w.heap.size #[.int .i64 (s.size : Int), .slice a s.D.length c, .map (some b), .bool s.armed, .int .i64 s.left, .bool s.down, .int .i64 s.done]) := hid (by rw [hw1]; exact Blk.new _ _ _)
  have hc1' : w1.cell? ⟨g, 1, none⟩ = some (.slice a s.D.length c) := by rw [(hd.blk.below HB1.out).cell]; rfl
  have HES := hid (And.intro hst hes)
  have HC2 : Hid (∀ x, Below w.heap.size w x → x.cell? ⟨g, 2, none⟩ = some (.map (some b)) ∧ x.heap[b]? = some (.map es clock)) := hid (fun x hx => ⟨by rw [(hd.blk.below hx).cell]; rfl, by rw [hx.block b (hd.map.lt)]; exact hmb⟩)
  have hcl := sl_CloneB V a c w1 (hrd.below' HB1.out) hV1 (by omega) (fun _ => hac)
  rw [hVl] at hcl
  have HCL := hid hcl
  have HGL : Hid (g < w.heap.size) := hid hd.blk.lt
  clear hd hV1 hrd hac hst hes hmb hcl hw1 hlc hcm
  go_enter Try.func44, Try.ntmps44
  go_upto_region 2 with fail
  rw [← HW1.out]
  clear hc0 hc1 hc2 hc3 hc4 hc5 hc6
  go_wp2_with fail
  refine HCL.out.mono ?_
  rintro e w2 ⟨v2, rfl, hown2, hb2⟩
  obtain ⟨a2, c2, rfl, -⟩ := ownsRow.rd hown2
  have HOWN2 := hid hown2
  have HX2 := hid (HX1.out.below hb2)
  have HB2 := hid (Below.next HB1.out hb2)
  have HB12 := hid hb2
  have hf1 := HX2.out.unfrozen 1
  have hcx1 : w2.cell? ⟨w.heap.size, 1, none⟩ = some (.slice a s.D.length c) := by rw [HX2.out.cell]; rfl
  clear hown2 hb2 hc1'
  have hs2 := Upd.setCell w2 w.heap.size 1 (.slice a2 s.D.length c2)
  have HX3 := hid (HX2.out.set 1 (.slice a2 s.D.length c2))
  have hown3 : (w2.setCell ⟨w.heap.size, 1, none⟩ (.slice a2 s.D.length c2)).ownsRow w1.heap.size 27 1 (.slice a2 s.D.length c2) s.D.length V := hs2.owns HOWN2.out (fun k hk q => by have := (HOWN2.out.lt k hk).1; have := HX1.out.lt; omega)
  have HB3 : Hid (Below w.heap.size w (w2.setCell ⟨w.heap.size, 1, none⟩ (.slice a2 s.D.length c2))) := hid (HB2.out.trans (hs2.below HB2.out.size (fun j _ q => by omega)))
  obtain ⟨w3, hw3⟩ : ∃ w3, w3 = w2.setCell ⟨w.heap.size, 1, none⟩ (.slice a2 s.D.length c2) := ⟨_, rfl⟩
  obtain ⟨hm2, hmh⟩ := HC2.out _ HB3.out
  rw [← hw3] at hown3 HX3 HB3 hmh
  have HOWN3 := hid hown3
  have HSZ : Hid (w1.heap.size ≤ w3.heap.size) := hid (Nat.le_trans HB12.out.size (by rw [hw3]; simp))
  have HMC := hid (AnyW.maps_Clone (Try.lays_SlLaysW_n5_90) b es clock w3 hmh)
  have HW3 := hid hw3
  clear hw3 hs2 hown3 hmh
  go_wp2_with fail
  rw [← HW3.out]
  refine HMC.out.mono ?_
  rintro e w4 ⟨rfl, hw4⟩
  have hb4 : Below w3.heap.size w3 w4 := by rw [hw4]; exact Below.new _ _
  have HME : Hid (MapE w4 w3.heap.size (M.map fun p => (p.1, p.2.1))) := hid ⟨es, clock, by rw [hw4]; exact heap_alloc_new w3 _, HES.out.1, HES.out.2⟩
  have HX4 := hid (HX3.out.below hb4)
  have HOWN4 := hid (owns_below HOWN3.out hb4)
  have HB4 := hid (Below.next HB3.out hb4)
  have hf2 := HX4.out.unfrozen 2
  have hcx2 : w4.cell? ⟨w.heap.size, 2, none⟩ = some (.map (some b)) := by rw [HX4.out.cell]; rfl
  have HLT : Hid (w3.heap.size < w4.heap.size ∧ w1.heap.size ≤ w3.heap.size ∧ w.heap.size < w1.heap.size) := hid ⟨HME.out.lt, HSZ.out, HX1.out.lt⟩
  have hu4 := Upd.setCell w4 w.heap.size 2 (.map (some w3.heap.size))
  have HPOST : Hid (DCopyPost w R s (.returned (.pointer (some ⟨w.heap.size, 0, none⟩))) (w4.setCell ⟨w.heap.size, 2, none⟩ (.map (some w3.heap.size)))) := hid (by
    have hl := HLT.out
    have hWlt : ∀ k, dkW w.heap.size w3.heap.size (.slice a2 s.D.length c2) k → w.heap.size ≤ k ∧ k < w4.heap.size := fun k hk => by
      rcases hk with q | q | q
      · omega
      · omega
      · have := HOWN4.out.lt k q; omega
    have hbf : Below w.heap.size w (w4.setCell ⟨w.heap.size, 2, none⟩ (.map (some w3.heap.size))) := HB4.out.trans (hu4.below HB4.out.size (fun j _ q => by omega))
    refine ⟨w.heap.size, dkW w.heap.size w3.heap.size (.slice a2 s.D.length c2), rfl, ⟨w3.heap.size, .slice a2 s.D.length c2, V, M, ⟨by simpa using HX4.out.set 2 (.map (some w3.heap.size)), owns_base (hu4.owns HOWN4.out (fun k hk q => by have := HOWN4.out.lt k hk; omega)) (Nat.zero_le _), fun i l hi => ?_, HME.out.upd hu4 (fun q => by omega), HD.out.eqC, fun q hq => ?_, .inl rfl, .inr (.inl rfl), fun k hk => ⟨.inr (.inr hk), ?_, ?_⟩, by omega, fun k hk q => ?_, fun k hk => by have := hWlt k hk; simpa using this.2, fun k hk => by have := HD.out.rlt k hk; have := hbf.size; omega⟩⟩, fun k hk => (hWlt k hk).1, hbf⟩
    · obtain ⟨v, h1, h2⟩ := HD.out.sec i l hi
      exact ⟨v, h1, h2.upd (S := fun _ => False) (Upd.of_below hbf) (fun _ _ q => q) (fun _ q => q)⟩
    · exact (HD.out.msec q hq).upd (S := fun _ => False) (Upd.of_below hbf) (fun _ _ q => q) (fun _ q => q)
    · have := HOWN4.out.lt k hk; omega
    · have := HOWN3.out.lt k hk; omega
    · have := (hWlt k hk).1; have := HD.out.rlt k q; omega)
  clear hw4 hb4 hu4
  go_wp2_with fail
  go_ret
  exact HPOST.out
end Go.Proofs.Ytohknblokejldaa
end
