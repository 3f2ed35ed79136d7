/- Joined texts, in this order: ChestRestores. Each one's first remark says what it proves; no condition beyond those that its theorems name. -/
import Derived.Test.YtohknblokejldaaJLawChestRestores26
import Derived.Test.YtohknblokejldaaJLawChestRestores27
import Derived.Test.YtohknblokejldaaJLawChestRestores28
import Derived.Deep.DeepCutAuto
section
/- The law ChestRestores, walked. -/
namespace Go.Proofs.Ytohknblokejldaa
open Go.RowKit Go.ChangeShapes Go.WideShapes Go.Deep Go.Joins
open Go.Lib (hid)
set_option linter.unusedVariables false

set_option maxRecDepth 100000 in
theorem elem_row22 {H : Type} {enc : TypeId × Value → H} {w : World} (n : Nat) (cs : List Value) (x : DataW H × List MemPlace) (h : DataW.trod enc Try.prog w 0 (fun _ => true) true n 68 cs = some x) : ∃ t, RowE w (fun j => cs[j]?) t := by
  obtain ⟨hlen, ys, n', hyl, one⟩ := structE_fields Try.underlying68 (by kernel_rfl) h
  have h2 : Try.prog.cellsOf 68 = 2 := by kernel_rfl
  rw [h2] at hlen
  obtain ⟨c0, c1, rfl⟩ := listOf2 hlen
  have hyl2 : ys.length = 2 := hyl
  obtain ⟨z0, z1, rfl⟩ := listOf2 hyl2
  have g0 : DataW.trod enc Try.prog w 0 (fun _ => true) true n' 3 [c0] = some z0 := one 0 _ rfl
  have g1 : DataW.trod enc Try.prog w 0 (fun _ => true) true n' 22 [c1] = some z1 := one 1 _ rfl
  obtain ⟨hh, e0, -, hw⟩ := DataW.trod_int Try.underlying3 g0
  simp only [List.cons.injEq, and_true] at e0
  subst e0
  obtain ⟨l, hl, -⟩ := open_sliF g1
  exact ⟨(hh, l), rfl, (wf64 hw).2, c1, rfl, hl⟩
set_option maxRecDepth 100000 in
theorem open_rows22 {H : Type} {enc : TypeId × Value → H} {w : World} {b0 : Nat} {d0 : DataW H} {p0 : List MemPlace} {v0 : Value} (ok0 : Value.okWide Try.prog w .any b0 66 v0) (k0 : DataW.Trod enc Try.prog w 0 (fun _ => true) true 66 v0 d0 p0) : ∃ L, SlE RowE 2 w v0 L :=
  open_slE rowKept Try.underlying66 (by kernel_rfl) elem_row22 ok0 k0
theorem SlE.max22 {w : World} {v : Value} {L : List (Int × List Int)} (h : SlE RowE 2 w v L) : ∀ p ∈ L, p.1 ≤ 9223372036854775807 := by
  intro p hp
  obtain ⟨i, hi⟩ := List.getElem?_of_mem hp
  obtain ⟨a, c, -, -, -, -, h5⟩ := h
  obtain ⟨b, off, -, -, -, h6, -⟩ := h5 i p hi
  exact h6
/-- one row that comes in -/
theorem SlE.row22 {w wr : World} {a : Option Addr} {n c : Nat} {L : List (Int × List Int)} (h : SlE RowE 2 w (.slice a n c) L) (hb : Below w.heap.size w wr) {k : Nat} {p : Int × List Int} (hp : L[k]? = some p) :
    ∃ b off au cu, a = some ⟨b, off, none⟩ ∧ wr.cell? ⟨b, off + k * 2, none⟩ = some (.int .i64 p.1) ∧ wr.cell? ⟨b, off + k * 2 + 1, none⟩ = some (.slice au p.2.length cu) ∧ SlI w (.slice au p.2.length cu) p.2 := by
  obtain ⟨a', c', e', -, -, -, hrows⟩ := h
  simp only [Value.slice.injEq] at e'
  obtain ⟨rfl, -, rfl⟩ := e'
  obtain ⟨b, off, rfl, hbs, hc0, -, u, hc1, hsl⟩ := hrows k p hp
  obtain ⟨au, cu, rfl, -⟩ := id hsl
  exact ⟨b, off, au, cu, rfl, by rw [show wr.cell? ⟨b, off + k * 2, none⟩ = w.cell? ⟨b, off + k * 2, none⟩ from World.cell?_of_block (hb.block b hbs)]; exact hc0, by rw [show wr.cell? ⟨b, off + k * 2 + 1, none⟩ = w.cell? ⟨b, off + k * 2 + 1, none⟩ from World.cell?_of_block (hb.block b hbs)]; exact hc1, hsl⟩
theorem flat_append (X Y : List (Int × List Int)) : flat (X ++ Y) = flat X ++ flat Y := by unfold flat; rw [List.flatMap_append]
theorem take_snocL {α : Type} {L : List α} {k : Nat} {p : α} (h : L[k]? = some p) : L.take (k + 1) = L.take k ++ [p] ∧ L.drop k = p :: L.drop (k + 1) := by
  obtain ⟨hk, rfl⟩ := List.getElem?_eq_some_iff.1 h
  exact ⟨List.take_succ_eq_append_getElem hk, List.drop_eq_getElem_cons hk⟩
def OwnX (w : World) (B : Nat) (v : Value) (X : List (Int × Int)) : Prop := w.ownsRow B 71 2 v X.length (pv X)
def ResA (w : World) (L : List (Int × List Int)) (v3 v4 v5 v22 : Value) (wr : World) : Prop :=
  ∃ (k : Nat) (wn : Bool) (last : Int), v3 = .bool wn ∧ v4 = .int .i64 last ∧ v22 = .int .i64 k ∧ k ≤ L.length ∧ OwnX wr w.heap.size v5 (flat (L.take k)) ∧ (∀ p ∈ L.take k, p.2.length ≤ 20) ∧ (wn && wantF last (L.drop k)) = wantF 0 L ∧ Below w.heap.size w wr
def ResB (w : World) (P : List (Int × Int)) (h : Int) (l : List Int) (x : Nat) (c : Array Value) (b1 : Bool) (v3 v5 v55 : Value) (wr : World) : Prop :=
  ∃ (i : Nat) (wn : Bool), v3 = .bool wn ∧ v55 = .int .i64 i ∧ i ≤ l.length ∧ OwnX wr w.heap.size v5 (P ++ (l.take i).map fun n => (h, n)) ∧ (wn && (l.drop i).all needB) = (b1 && l.all needB) ∧ Blk wr x c ∧ (∀ j, v5.ownBlock = some j → j ≠ x) ∧ Below w.heap.size w wr
def ResC (w7 : World) (v : Value) (LL : List (Int × Value × List Int)) (v104 : Value) (wr : World) : Prop :=
  ∃ (k : Nat), v104 = .int .i64 k ∧ k ≤ LL.length ∧ wr.ownsRow w7.heap.size 68 2 v LL.length (rowC LL) ∧ (∀ p ∈ LL.drop k, wr.ownsRow w7.heap.size 3 1 p.2.1 p.2.2.length (iv p.2.2)) ∧ Below w7.heap.size w7 wr
theorem pv_snoc (X : List (Int × Int)) (h n : Int) : pv (X ++ [(h, n)]) = pv X ++ [.int .i64 h, .int .i64 n] := by rw [pv_append, pv_one]
set_option maxRecDepth 100000 in
set_option maxHeartbeats 16000000 in
theorem ChestRestores_walk {H : Type} {enc : TypeId × Value → H} {b0 : Nat} {d0 : DataW H} {p0 : List MemPlace} (v0 : Value) (w : World) (ok0 : Value.okWide Try.prog w .any b0 66 v0) (k0 : DataW.Trod enc Try.prog w 0 (fun _ => true) true 66 v0 d0 p0) :
    Calls Try.prog 8 #[v0] w fun e w' => e = .returned (.bool true) ∧ Below w.heap.size w w' := by
  obtain ⟨L, hL⟩ := open_rows22 ok0 k0
  clear ok0 k0
  have HL := hid hL
  have HMAX := hid hL.max22
  obtain ⟨a, c, rfl, hlc, hcm, -⟩ := hL
  have hl63 : L.length ≤ 9223372036854775807 := by omega
  clear hlc hcm
  by_cases hbig : 40 < L.length
  · have hbi : (40 : Int) < (L.length : Int) := by omega
    go_enter Try.func8, Try.ntmps8
    go_wp2_with (go_at_call 27; (with_reducible refine (law22_awake _).mono ?_); rintro e w2 ⟨rfl, hb2⟩)
    go_ret
    exact ⟨rfl, hb2⟩
  have hl40 : L.length ≤ 40 := by omega
  have hbi : ¬ (40 : Int) < (L.length : Int) := by omega
  clear hbig
  go_enter Try.func8, Try.ntmps8
  go_wp2_with fail
  go_loopw [3, 4, 5, 22] (fun v3 v4 v5 v22 wr => ResA w L v3 v4 v5 v22 wr) (fun _ _ _ v22 _ => L.length - (intOf v22).toNat)
  case atStart => exact ⟨0, true, 0, rfl, rfl, rfl, by omega, World.ownsRow_nil _ _ _ _, by simp, by simp, Below.refl _ _⟩
  case round =>
    obtain ⟨k, wn, last, rfl, rfl, rfl, hk, hown, h20, hwant, hb⟩ := hrel
    have HOWN := hid hown
    have H20 := hid h20
    have HWANT := hid hwant
    have HB := hid hb
    clear h20 hwant
    by_cases hlt : k < L.length
    · obtain ⟨p, hp⟩ : ∃ p, L[k]? = some p := ⟨_, List.getElem?_eq_getElem hlt⟩
      obtain ⟨htk, hdk⟩ := take_snocL hp
      obtain ⟨b, off, au, cu, rfl, hc0, hc1, hsl⟩ := HL.out.row22 hb hp
      obtain ⟨h, l⟩ := p
      simp only at hc0 hc1 hsl
      have HTK := hid htk
      have HDK := hid hdk
      have HSL := hid hsl
      have hlu : l.length ≤ 9223372036854775807 := by obtain ⟨_, _, e, -, h1, h2, -⟩ := hsl; omega
      have e0 : (0 : Int) ≤ (k : Int) := by omega
      have e1 : (k : Int) < (L.length : Int) := by omega
      obtain ⟨av, cv, rfl, -⟩ := ownsRow.rd hown
      have hxl : ∀ j, (Value.slice av (flat (L.take k)).length cv).ownBlock = some j → j ≠ wr.heap.size := fun j hj e => by have := ownBlock_lt hown hj; omega
      have HXL := hid hxl
      have hfl : (flat (L.take k)).length ≤ 800 := by
        have h1 := flat_len (L.take k) 20 H20.out
        have h2 : (L.take k).length ≤ 40 := by rw [List.length_take]; omega
        omega
      clear hp htk hdk hsl hb hown hxl
      go_upto_region 8 with fail
      obtain ⟨w5, hw5⟩ : ∃ w5, w5 = wr.alloc (.cells #[.int .i64 h, .slice au l.length cu] 68) := ⟨_, rfl⟩
      rw [← hw5]
      have hb5 : Below wr.heap.size wr w5 := by rw [hw5]; exact Below.new _ _
      have HX5 : Hid (Blk w5 wr.heap.size #[.int .i64 h, .slice au l.length cu]) := hid (by rw [hw5]; exact Blk.new _ _ _)
      have HB5 := hid (Below.next HB.out hb5)
      have HO5 := hid (owns_below HOWN.out hb5)
      clear hw5 hb5 hc0 hc1
      obtain ⟨hx0, hx1, -⟩ := HX5.out.c2
      by_cases h20 : 20 < l.length
      · have h20i : (20 : Int) < (l.length : Int) := by omega
        go_wp2_with (go_at_call 27; (with_reducible refine (law22_awake _).mono ?_); rintro e w2 ⟨rfl, hb2⟩)
        go_ret
        exact ⟨rfl, Below.next HB5.out hb2⟩
      have h20i : ¬ (20 : Int) < (l.length : Int) := by omega
      go_upto_region 10 with fail
      obtain ⟨b1, hb1⟩ : ∃ b1, (wn && decide (last < h) && decide (1 ≤ l.length) && decide (l.length ≤ 4)) = b1 := ⟨_, rfl⟩
      go_cut [3] (fun c3 wx => c3 = .bool b1 ∧ w5 = wx)
      case first =>
        cases wn with
        | false =>
          simp only [Bool.false_and] at hb1
          subst hb1
          go_wp2_with fail
          go_meet
          exact ⟨rfl, rfl⟩
        | true =>
          by_cases hA : last < h
          · have tA : decide (last < h) = true := by simpa using hA
            by_cases hB : 1 ≤ l.length
            · have tB : decide ((1 : Int) ≤ (l.length : Int)) = true := by simp; omega
              have tB2 : decide (1 ≤ l.length) = true := by simpa using hB
              by_cases hC : l.length ≤ 4
              · have tC : decide ((l.length : Int) ≤ 4) = true := by simp; omega
                have tC2 : decide (l.length ≤ 4) = true := by simpa using hC
                rw [tA, tB2, tC2] at hb1
                simp only [Bool.and_true] at hb1
                subst hb1
                clear tB2 tC2
                go_wp2_with fail
                go_meet
                exact ⟨rfl, rfl⟩
              · have tC : decide ((l.length : Int) ≤ 4) = false := by simp; omega
                have tC2 : decide (l.length ≤ 4) = false := by simpa using hC
                rw [tC2, Bool.and_false] at hb1
                subst hb1
                clear tB2 tC2
                go_wp2_with fail
                go_meet
                exact ⟨rfl, rfl⟩
            · have tB : decide ((1 : Int) ≤ (l.length : Int)) = false := by simp; omega
              have tB2 : decide (1 ≤ l.length) = false := by simpa using hB
              rw [tB2, Bool.and_false, Bool.false_and] at hb1
              subst hb1
              clear tB2
              go_wp2_with fail
              go_meet
              exact ⟨rfl, rfl⟩
          · have tA : decide (last < h) = false := by simpa using hA
            rw [tA] at hb1
            simp only [Bool.and_false, Bool.false_and] at hb1
            subst hb1
            go_wp2_with fail
            go_meet
            exact ⟨rfl, rfl⟩
      case rest =>
      obtain ⟨rfl, rfl⟩ := hcut
      have HB1 := hid hb1
      clear hb1
      go_wp2_with fail
      obtain ⟨wo, rfl⟩ : ∃ wo : World, wo = wr := ⟨_, rfl⟩
      clear hx0 hx1
      go_loopw [3, 5, 55] (fun v3 v5 v55 wr => ResB w (flat (L.take k)) h l wo.heap.size #[.int .i64 h, .slice au l.length cu] b1 v3 v5 v55 wr) (fun _ _ v55 _ => l.length - (intOf v55).toNat)
      case atStart => exact ⟨0, b1, rfl, rfl, by omega, by simpa [OwnX] using HO5.out, by simp, HX5.out, HXL.out, HB5.out⟩
      case round =>
        obtain ⟨i, wn', rfl, rfl, hi, hown, hall, hblk, hne, hb⟩ := hrel
        have HOI := hid hown
        have HALL := hid hall
        have HXI := hid hblk
        have HNE := hid hne
        have HBI := hid hb
        by_cases hli : i < l.length
        · obtain ⟨aa, cc, ee, hrd, -⟩ := HSL.out.below hb
          simp only [Value.slice.injEq, true_and] at ee
          obtain ⟨rfl, rfl⟩ := ee
          obtain ⟨bu, ou, n, rfl, hcn, -, hdn, htn, -⟩ := Rd.int hrd i hli
          have HDN := hid hdn
          have HTN := hid htn
          obtain ⟨av5, cv5, hv5, -⟩ := ownsRow.rd hown
          have hPl : ((flat (L.take k)) ++ (l.take i).map fun n => (h, n)).length ≤ 900 := by
            rw [List.length_append, List.length_map, List.length_take]; omega
          obtain ⟨P, hP⟩ : ∃ P, (flat (L.take k)) ++ ((l.take i).map fun n => (h, n)) = P := ⟨_, rfl⟩
          rw [hP] at HOI hv5 hPl
          have HP := hid hP
          subst hv5
          have i0 : (0 : Int) ≤ (i : Int) := by omega
          have i1 : (i : Int) < (l.length : Int) := by omega
          obtain ⟨hx0, hx1, -⟩ := HXI.out.c2
          obtain ⟨bn, hbn⟩ : ∃ bn, (decide (2 ≤ n) && decide (n ≤ 4)) = bn := ⟨_, rfl⟩
          have HBN := hid hbn
          have HALL2 : Hid ((wn' && bn && (l.drop (i + 1)).all needB) = (b1 && l.all needB)) := hid (by
            have h1 := HALL.out
            rw [HDN.out, List.all_cons] at h1
            have h2 : needB n = bn := hbn
            rw [h2, ← Bool.and_assoc] at h1
            exact h1)
          clear hrd hdn htn hown hall hblk hne hb hP hbn
          have htail : ∀ (b2 : Bool), True := fun _ => trivial
          clear htail
          cases wn' with
          | false =>
            go_wp2_with (at_builtin; refine wpList_append1w T_refchest wr rfl _ _ #[.int .i64 h, .int .i64 n] rfl w.heap.size _ _ _ rfl HOI.out rfl rfl ?h1 ?h2 ?h3 ?_)
            case h1 => first | exact ⟨rfl, rfl⟩ | (intro u hu; simp at hu; rcases hu with rfl | rfl <;> rfl)
            case h2 => omega
            case h3 => exact HBI.out.size
            intro v9 w9 hown9 hg9 hnn9 hwh9
            have hP2 : P ++ [(h, n)] = (flat (L.take k)) ++ (l.take (i + 1)).map fun n => (h, n) := by
              rw [HTN.out, List.map_append, ← List.append_assoc, HP.out]; rfl
            have HO9 : Hid (OwnX w9 w.heap.size v9 ((flat (L.take k)) ++ (l.take (i + 1)).map fun n => (h, n))) := hid (by
              rw [← hP2]; unfold OwnX; rw [pv_snoc, List.length_append]; exact hown9)
            have hug := Upd.of_grown hg9
            have HX9 := hid (HXI.out.upd hug (fun q => HNE.out _ q rfl))
            have HNE9 : Hid (∀ j, v9.ownBlock = some j → j ≠ wo.heap.size) := hid (fun j hj => by
              rcases hwh9 j hj with q | q
              · exact HNE.out j q
              · have := HXI.out.lt; omega)
            have HB9 : Hid (Below w.heap.size w w9) := hid (HBI.out.trans (hug.below HBI.out.size (fun j _ q => (HOI.out.lt j q).1)))
            have HAL9 : Hid ((false && (l.drop (i + 1)).all needB) = (b1 && l.all needB)) := hid (by have := HALL2.out; simpa using this)
            clear hown9 hg9 hnn9 hwh9 hP2 hug
            go_wp2_with fail
            go_roundw
            case rel => exact ⟨i + 1, false, rfl, by go_num, by omega, HO9.out, HAL9.out, HX9.out, HNE9.out, HB9.out⟩
            case measure => simp [intOf]; omega
          | true =>
            go_wp2_with fail
            refine (law22_need n wr).mono ?_
            rintro e w' ⟨rfl, rfl⟩
            rw [HBN.out]
            go_wp2_with (at_builtin; refine wpList_append1w T_refchest wr rfl _ _ #[.int .i64 h, .int .i64 n] rfl w.heap.size _ _ _ rfl HOI.out rfl rfl ?h1 ?h2 ?h3 ?_)
            case h1 => first | exact ⟨rfl, rfl⟩ | (intro u hu; simp at hu; rcases hu with rfl | rfl <;> rfl)
            case h2 => omega
            case h3 => exact HBI.out.size
            intro v9 w9 hown9 hg9 hnn9 hwh9
            have hP2 : P ++ [(h, n)] = (flat (L.take k)) ++ (l.take (i + 1)).map fun n => (h, n) := by
              rw [HTN.out, List.map_append, ← List.append_assoc, HP.out]; rfl
            have HO9 : Hid (OwnX w9 w.heap.size v9 ((flat (L.take k)) ++ (l.take (i + 1)).map fun n => (h, n))) := hid (by
              rw [← hP2]; unfold OwnX; rw [pv_snoc, List.length_append]; exact hown9)
            have hug := Upd.of_grown hg9
            have HX9 := hid (HXI.out.upd hug (fun q => HNE.out _ q rfl))
            have HNE9 : Hid (∀ j, v9.ownBlock = some j → j ≠ wo.heap.size) := hid (fun j hj => by
              rcases hwh9 j hj with q | q
              · exact HNE.out j q
              · have := HXI.out.lt; omega)
            have HB9 : Hid (Below w.heap.size w w9) := hid (HBI.out.trans (hug.below HBI.out.size (fun j _ q => (HOI.out.lt j q).1)))
            have HAL9 : Hid ((bn && (l.drop (i + 1)).all needB) = (b1 && l.all needB)) := hid (by have := HALL2.out; simpa using this)
            clear hown9 hg9 hnn9 hwh9 hP2 hug
            go_wp2_with fail
            go_roundw
            case rel => exact ⟨i + 1, bn, rfl, by go_num, by omega, HO9.out, HAL9.out, HX9.out, HNE9.out, HB9.out⟩
            case measure => simp [intOf]; omega
        · obtain ⟨av5, cv5, hv5, -⟩ := ownsRow.rd hown
          have hil : i = l.length := by omega
          have hPe : (flat (L.take k)) ++ ((l.take i).map fun n => (h, n)) = flat (L.take (k + 1)) := by
            rw [hil, List.take_length, HTK.out, flat_append]
            simp [flat]
          rw [hPe] at hown hv5
          have HO6 := hid hown
          have HW6 : Hid ((wn' && wantF h (L.drop (k + 1))) = wantF 0 L) := hid (by
            have h1 := HALL.out
            rw [List.drop_eq_nil_of_le (by omega)] at h1
            simp only [List.all_nil, Bool.and_true] at h1
            rw [h1, ← HB1.out, ← HWANT.out, HDK.out, wantF]
            unfold rowB
            simp only [Bool.and_assoc])
          have H206 : Hid (∀ p ∈ L.take (k + 1), p.2.length ≤ 20) := hid (by
            rw [HTK.out]
            intro p hp
            rcases List.mem_append.1 hp with hp | hp
            · exact H20.out p hp
            · simp at hp; rw [hp]; show l.length ≤ 20; omega)
          subst hv5
          obtain ⟨hx0, hx1, -⟩ := HXI.out.c2
          clear hown hall hblk hne hb hil hPe
          go_wp2_with fail
          go_roundw
          case rel => exact ⟨k + 1, wn', h, rfl, rfl, by go_num, by omega, HO6.out, H206.out, HW6.out, HBI.out⟩
          case measure => simp [intOf]; omega
    · have hkk : k = L.length := by omega
      subst hkk
      have hw2 : wn = wantF 0 L := by
        have h1 := HWANT.out
        rw [List.drop_eq_nil_of_le (Nat.le_refl _), wantF, Bool.and_true] at h1
        exact h1
      have hX : flat (L.take L.length) = flat L := by rw [List.take_length]
      rw [hX] at hown
      have hfl : (flat L).length ≤ 800 := by
        have h1 := flat_len L 20 (fun p hp => H20.out p (by rw [List.take_length]; exact hp))
        omega
      have HW2 := hid hw2
      obtain ⟨av, cv, rfl, -⟩ := ownsRow.rd hown
      obtain ⟨X, hXX⟩ : ∃ X, flat L = X := ⟨_, rfl⟩
      rw [hXX] at hown hfl
      simp only [hX, hXX]
      have HX := hid hXX
      have HO := hid hown
      have hrs := restore_want L 0 [] (by omega) (by simp)
      rw [← hw2, List.nil_append] at hrs
      have HRS := hid hrs
      clear hw2 hX hXX hown hrs hb hk hlt
      cases wn with
      | false =>
        have HRC := hid (chest_Restore L (.slice a L.length c) wr (HL.out.below rowKept HB.out) (by omega) none (by rw [HRS.out]; rfl))
        go_wp2_with fail
        refine HRC.out.mono ?_
        rintro e w6 ⟨rfl, hb6⟩
        have HB6 := hid (Below.next HB.out hb6)
        clear hb6
        go_wp2_with fail
        refine (law22_awake w6).mono ?_
        rintro e w7 ⟨rfl, hb7⟩
        have HB7 := hid (Below.next HB6.out hb7)
        clear hb7
        go_wp2_with fail
        go_ret
        exact ⟨rfl, HB7.out⟩
      | true =>
        have hwant : wantF 0 L = true := HW2.out.symm
        have HWT := hid hwant
        have HINV := hid (want_inv hwant HMAX.out)
        have HND := hid (want_nodup hwant)
        have HRL : Hid (ChRel L X) := hid (by rw [← HX.out]; exact flat_rel L HND.out)
        have HROWS := hid (want_rows hwant)
        have HRC := hid (chest_Restore L (.slice a L.length c) wr (HL.out.below rowKept HB.out) (by omega) (some L) (by rw [HRS.out]; rfl))
        clear hwant
        go_wp2_with fail
        refine HRC.out.mono ?_
        rintro e w6 ⟨g, F, rfl, hc6, hF6, hb6⟩
        have HP6 : Hid (StepPre w6 g (fun j => F j ∧ j < w6.heap.size) L (.slice av X.length cv) X) := hid ⟨hc6.lt, fun j hj => hj.2, (SlP.of_own HO.out).below hb6, fun j hj => ⟨fun q => by have := ownBlock_lt HO.out hj; have := hF6 j q.1; omega, Nat.lt_of_lt_of_le (ownBlock_lt HO.out hj) hb6.size⟩, HRL.out, by omega⟩
        have HB6 := hid (Below.next HB.out hb6)
        clear hc6 hF6 hb6
        go_wp2_with fail
        refine (law22_same g _ L _ X w6 HP6.out HINV.out).mono ?_
        rintro e w7 ⟨rfl, hb7⟩
        have HP7 := hid (HP6.out.below hb7)
        have HB7 := hid (Below.next HB6.out hb7)
        clear hb7
        have hof : ∀ k, (chOf L k).length ≤ 1000 := fun k => by have := liOf_le X k; rw [HRL.out k]; omega
        have HR7 := hid (chest_Rows g _ L w7 HP7.out.ch HINV.out (by omega) hof)
        have HOF := hid hof
        clear hof
        go_wp2_with fail
        refine HR7.out.mono ?_
        rintro e w8 ⟨v8, LL, rfl, hra, hLL, hb8⟩
        rw [HROWS.out] at hLL
        have HRA := hid hra
        have HLL := hid hLL
        obtain ⟨a8, c8, rfl, -⟩ := ownsRow.rd hra.own
        have hLLl : LL.length ≤ 40 := by have := congrArg List.length hLL; rw [List.length_map] at this; omega
        have HB8 := hid hb8
        clear hra hLL hb8
        go_wp2_with fail
        obtain ⟨wo, rfl⟩ : ∃ wo : World, wo = wr := ⟨_, rfl⟩
        go_loopw [104] (fun v104 wr => ResC w7 (.slice a8 LL.length c8) LL v104 wr) (fun v104 _ => LL.length - (intOf v104).toNat)
        case atStart => exact ⟨0, rfl, by omega, HRA.out.own, fun p hp => (HRA.out.one p (by simpa using hp)).1, HB8.out⟩
        case round =>
          obtain ⟨k, rfl, hk, hown, hrest, hb⟩ := hrel
          have HOC := hid hown
          have HRE := hid hrest
          have HBC := hid hb
          by_cases hlt : k < LL.length
          · obtain ⟨p, hp⟩ : ∃ p, LL[k]? = some p := ⟨_, List.getElem?_eq_getElem hlt⟩
            obtain ⟨htk, hdk⟩ := take_snocL hp
            have hmem := List.mem_of_getElem? hp
            obtain ⟨h, u, l⟩ := p
            have hlpos : 1 ≤ l.length := by
              have h1 : (h, l) ∈ L := by rw [← HLL.out]; exact List.mem_map.2 ⟨_, hmem, rfl⟩
              exact ((want_sorted L 0 HWT.out).2 _ h1).2.1
            have hou := hrest (h, u, l) (by rw [hdk]; simp)
            simp only at hou
            obtain ⟨gu, cu, rfl⟩ := Joins.ownsRow_form hou (by omega)
            obtain ⟨g8, c8', e⟩ := Joins.ownsRow_form hown (by omega)
            simp only [Value.slice.injEq, true_and] at e
            obtain ⟨rfl, rfl⟩ := e
            have hat := rowC_at LL k _ hp
            have c0 : wr.cell? ⟨g8, k * 2, none⟩ = some (.int .i64 h) := by rw [hown.cellAt (k * 2) (by omega)]; exact hat.1
            have c1 : wr.cell? ⟨g8, k * 2 + 1, none⟩ = some (.slice (some ⟨gu, 0, none⟩) l.length cu) := by rw [hown.cellAt (k * 2 + 1) (by omega)]; exact hat.2
            have hnew : Below wr.heap.size wr (wr.alloc (.cells #[.int .i64 h, .slice (some ⟨gu, 0, none⟩) l.length cu] 68)) := Below.new _ _
            obtain ⟨w5, hw5⟩ : ∃ w5, w5 = wr.alloc (.cells #[.int .i64 h, .slice (some ⟨gu, 0, none⟩) l.length cu] 68) := ⟨_, rfl⟩
            rw [← hw5] at hnew
            have HX5 : Hid (Blk w5 wr.heap.size #[.int .i64 h, .slice (some ⟨gu, 0, none⟩) l.length cu]) := hid (by rw [hw5]; exact Blk.new _ _ _)
            have hou5 := owns_below hou hnew
            have hcu : w5.cell? ⟨gu, 0, none⟩ = some (.int .i64 (l.getD 0 0)) := by
              rw [hou5.cellAt 0 (by omega)]
              cases l with
              | nil => simp at hlpos
              | cons x l => rfl
            have hfu : w5.frozen? ⟨gu, 0, none⟩ = false := hou5.frozenAt 0
            have hgB := (hou.lt gu rfl).1
            have HO9 : Hid ((w5.setCell ⟨gu, 0, none⟩ (.int .i64 9)).ownsRow w7.heap.size 68 2 (.slice (some ⟨g8, 0, none⟩) LL.length c8) LL.length (rowC LL)) := hid (ownsRow_setCell_other (owns_below hown hnew) (fun q => (HRA.out.one _ hmem).2 gu rfl q) _)
            have HR9 : Hid (∀ q ∈ LL.drop (k + 1), (w5.setCell ⟨gu, 0, none⟩ (.int .i64 9)).ownsRow w7.heap.size 3 1 q.2.1 q.2.2.length (iv q.2.2)) := hid (by
              intro q hq
              refine ownsRow_setCell_other (owns_below (hrest q (by rw [hdk]; exact List.mem_cons_of_mem _ hq)) hnew) (fun z => ?_) _
              have h1 := HRA.out.far
              rw [← List.take_append_drop k LL, hdk, List.pairwise_append] at h1
              exact (List.pairwise_cons.1 h1.2.1).1 q hq gu rfl z)
            have HB9 : Hid (Below w7.heap.size w7 (w5.setCell ⟨gu, 0, none⟩ (.int .i64 9))) := hid ((Below.next hb hnew).setCell (p := ⟨gu, 0, none⟩) hgB _)
            have HW5 := hid hw5
            have k0 : (0 : Int) ≤ (k : Int) := by omega
            have k1 : (k : Int) < (LL.length : Int) := by omega
            have k2 : (0 : Int) < (l.length : Int) := by omega
            clear hp htk hdk hmem hou hat hnew hw5 hou5 hgB hown hrest hb
            go_upto_region 27 with fail
            rw [← HW5.out]
            obtain ⟨hx0, hx1, -⟩ := HX5.out.c2
            clear c0 c1
            go_wp2_with fail
            go_roundw
            case rel => exact ⟨k + 1, by go_num, by omega, HO9.out, HR9.out, HB9.out⟩
            case measure => simp [intOf]; omega
          · have HP9 := hid (HP7.out.below hb)
            have HB9 := hid (Below.next HB7.out hb)
            clear hown hrest hb hk
            have HR9 := hid (chest_Rows g _ L wr HP9.out.ch HINV.out (by omega) HOF.out)
            go_wp2_with fail
            refine HR9.out.mono ?_
            rintro e w9 ⟨v9, LL9, rfl, hra9, hLL9, hb9⟩
            rw [HROWS.out] at hLL9
            have hsl9 := hra9.slE (fun p hp => by
              have h1 : (p.1, p.2.2) ∈ L := by rw [← hLL9]; exact List.mem_map.2 ⟨p, hp, rfl⟩
              exact HMAX.out _ h1)
            rw [hLL9] at hsl9
            have HRC9 := hid (chest_Restore L v9 w9 hsl9 (by omega) (some L) (by rw [HRS.out]; rfl))
            obtain ⟨a9, c9, rfl, -⟩ := ownsRow.rd hra9.own
            have HP10 := hid (HP9.out.below hb9)
            have HB10 := hid (Below.next HB9.out hb9)
            clear hra9 hLL9 hsl9 hb9
            go_wp2_with fail
            refine HRC9.out.mono ?_
            rintro e w10 ⟨g2, F2, rfl, hc10, hF10, hb10⟩
            have HP11 := hid (HP10.out.below hb10)
            have HD11 : Hid (StepPre w10 g2 (fun j => F2 j ∧ j < w10.heap.size) L (.slice av X.length cv) X) := hid ⟨hc10.lt, fun j hj => hj.2, HP10.out.sl.below hb10, fun j hj => ⟨fun q => by have := (HP10.out.far j hj).2; have := hF10 j q.1; omega, Nat.lt_of_lt_of_le (HP10.out.far j hj).2 hb10.size⟩, HRL.out, by omega⟩
            have HB11 := hid (Below.next HB10.out hb10)
            clear hc10 hF10 hb10
            go_wp2_with fail
            refine (law22_same g2 _ L _ X w10 HD11.out HINV.out).mono ?_
            rintro e w11 ⟨rfl, hb11⟩
            have HP12 := hid (HP11.out.below hb11)
            have HB12 := hid (Below.next HB11.out hb11)
            clear hb11
            go_wp2_with fail
            refine (law22_same g _ L _ X w11 HP12.out HINV.out).mono ?_
            rintro e w12 ⟨rfl, hb12⟩
            have HB13 := hid (Below.next HB12.out hb12)
            clear hb12
            go_wp2_with fail
            refine (law22_awake w12).mono ?_
            rintro e w13 ⟨rfl, hb13⟩
            have HB14 := hid (Below.next HB13.out hb13)
            clear hb13
            go_wp2_with fail
            go_ret
            exact ⟨rfl, HB14.out⟩
end Go.Proofs.Ytohknblokejldaa
end
