/- Joined texts, in this order: ChestRestore. Each one's first remark says what it proves; no condition beyond those that its theorems name. -/
import Derived.Test.YtohknblokejldaaJLawChestRestores21
import Derived.Test.YtohknblokejldaaJLawChestRestores23
import Derived.Test.YtohknblokejldaaJLawChestRestores24
import Derived.Test.YtohknblokejldaaJLawChestRestores25
section
/- Contract of chest.Restore. -/
namespace Go.Proofs.Ytohknblokejldaa
open Go.RowKit Go.ChangeShapes Go.WideShapes Go.Deep Go.Joins
open Go.Lib (hid)
set_option linter.unusedVariables false

/-- a row in memory -/
def RowE (w : World) (f : Nat → Option Value) (p : Int × List Int) : Prop := f 0 = some (.int .i64 p.1) ∧ p.1 ≤ 9223372036854775807 ∧ ∃ u, f 1 = some u ∧ SlI w u p.2
theorem rowKept : Kept RowE 2 :=
  ⟨fun hb hf h => ⟨hf 0 _ (by omega) h.1, h.2.1, by obtain ⟨u, h1, h2⟩ := h.2.2; exact ⟨u, hf 1 _ (by omega) h1, h2.below hb⟩⟩, fun h => ⟨_, h.1⟩⟩
theorem RowsAre.slE {w : World} {B : Nat} {v : Value} {L : List (Int × Value × List Int)} (h : RowsAre w B v L) (hw : ∀ p ∈ L, p.1 ≤ 9223372036854775807) : SlE RowE 2 w v (L.map fun p => (p.1, p.2.2)) := by
  obtain ⟨a, c, rfl, h1, h2, h3, h4⟩ := ownsRow.rd h.own
  refine ⟨a, c, by rw [List.length_map], by rw [List.length_map]; exact h1, by unfold maxLen at h2; omega, h4, fun i x hx => ?_⟩
  rw [List.getElem?_map] at hx
  cases hp : L[i]? with
  | none => rw [hp] at hx; cases hx
  | some p =>
    rw [hp] at hx
    simp only [Option.map_some, Option.some.injEq] at hx
    subst hx
    have hi : i < L.length := (List.getElem?_eq_some_iff.1 hp).1
    have hmem := List.mem_of_getElem? hp
    obtain ⟨hc0, hc1⟩ := rowC_at L i p hp
    obtain ⟨b, off, rfl, q0⟩ := h3 (i * 2) (by rw [rowC_length]; omega)
    obtain ⟨b', off', e, q1⟩ := h3 (i * 2 + 1) (by rw [rowC_length]; omega)
    simp only [Option.some.injEq, Addr.mk.injEq, and_true] at e
    obtain ⟨rfl, rfl⟩ := e
    have hb : b < w.heap.size := World.block_lt_of_cell? w _ (q0.trans hc0)
    exact ⟨b, off, rfl, hb, by show w.cell? ⟨b, off + i * 2 + 0, none⟩ = _; rw [Nat.add_zero]; exact q0.trans hc0, hw p hmem, p.2.1, by show w.cell? ⟨b, off + i * 2 + 1, none⟩ = _; rw [Nat.add_assoc]; exact q1.trans hc1, SlI.of_own (h.one p hmem).1⟩
def RestPost (w : World) (r : Option (List (Int × List Int))) (e : Ending) (w' : World) : Prop :=
  match r with
  | none => e = .returned (.tuple #[.pointer none, .bool false]) ∧ Below w.heap.size w w'
  | some m => ∃ g F, e = .returned (.tuple #[.pointer (some ⟨g, 0, none⟩), .bool true]) ∧ ChestIs w' g F m ∧ (∀ j, F j → w.heap.size ≤ j) ∧ Below w.heap.size w w'
def RestL (w : World) (g : Nat) (L : List (Int × List Int)) (r : Option (List (Int × List Int))) (v5 v15 : Value) (wr : World) : Prop :=
  ∃ (k : Nat) (last : Int) (m : List (Int × List Int)), v5 = .int .i64 last ∧ v15 = .int .i64 k ∧ k ≤ L.length ∧ ChestIs wr g (fun j => w.heap.size ≤ j) m ∧ restoreF (L.drop k) last m = r ∧ Below w.heap.size w wr
def RestI (w : World) (g : Nat) (h : Int) (l : List Int) (x : Nat) (c : Array Value) (q : Option (List (Int × List Int))) (v34 : Value) (wr : World) : Prop :=
  ∃ (i : Nat) (m : List (Int × List Int)), v34 = .int .i64 i ∧ i ≤ l.length ∧ ChestIs wr g (fun j => w.heap.size ≤ j ∧ j ≠ x) m ∧ addNeeds h (l.drop i) m = q ∧ Blk wr x c ∧ Below w.heap.size w wr
set_option maxRecDepth 100000 in
set_option maxHeartbeats 4000000 in
theorem chest_Restore (L : List (Int × List Int)) (v : Value) (w : World) (h : SlE RowE 2 w v L) (hl : L.length ≤ 1000000) (r : Option (List (Int × List Int))) (hr : restoreF L 0 [] = r) :
    Calls Try.prog 31 #[v] w (RestPost w r) := by
  have HE := hid h
  have HR0 := hid hr
  obtain ⟨a, c, rfl, -⟩ := h
  clear hr
  go_enter Try.func31, Try.ntmps31
  go_wp2_with fail
  refine (chest_New _).mono ?_
  rintro e w1 ⟨g, rfl, hc, hb⟩
  have HC := hid hc
  have HB := hid hb
  clear hc hb
  go_wp2_with fail
  go_loopw [5, 15] (fun v5 v15 wr => RestL w g L r v5 v15 wr) (fun _ v15 _ => L.length - (intOf v15).toNat)
  case atStart => exact ⟨0, 0, [], rfl, rfl, by omega, HC.out, HR0.out, HB.out⟩
  case round =>
    clear HC HB HR0
    obtain ⟨k, last, m, rfl, rfl, hk, hch, hrf, hbr⟩ := hrel
    have HCH := hid hch
    have HBR := hid hbr
    by_cases hlt : k < L.length
    · obtain ⟨p, hp⟩ : ∃ p, L[k]? = some p := ⟨_, List.getElem?_eq_getElem hlt⟩
      obtain ⟨h, l⟩ := p
      have hdr : L.drop k = (h, l) :: L.drop (k + 1) := by
        rw [List.drop_eq_getElem_cons hlt]
        congr 1
        exact (List.getElem?_eq_some_iff.1 hp).2
      rw [hdr, restoreF] at hrf
      simp only at hrf
      obtain ⟨a', c', e', -, -, -, hrows⟩ := HE.out
      simp only [Value.slice.injEq, true_and] at e'
      obtain ⟨rfl, rfl⟩ := e'
      obtain ⟨b, off, rfl, hbs, hc0', -, u, hc1', hsl⟩ := hrows k _ hp
      have hc0 : wr.cell? ⟨b, off + k * 2, none⟩ = some (.int .i64 h) := by
        have : w.cell? ⟨b, off + k * 2, none⟩ = some (.int .i64 h) := hc0'
        rw [← this]; exact World.cell?_of_block (hbr.block b hbs)
      have hc1 : wr.cell? ⟨b, off + k * 2 + 1, none⟩ = some u := by
        have : w.cell? ⟨b, off + k * 2 + 1, none⟩ = some u := hc1'
        rw [← this]; exact World.cell?_of_block (hbr.block b hbs)
      obtain ⟨au, cu, hu, hrdu, hlu, hmu, -⟩ := id hsl
      simp only at hu hlu hmu hsl
      subst hu
      have HSL := hid hsl
      have HRF := hid hrf
      have hl63 : l.length ≤ 9223372036854775807 := by omega
      have e0 : (0 : Int) ≤ (k : Int) := by omega
      have e1 : (k : Int) < (L.length : Int) := by omega
      clear hp hdr hrf hrows hc0' hc1' hsl hrdu hlu hmu hch hbr hbs
      go_upto_region 6 with fail
      obtain ⟨w5, hw5⟩ : ∃ w5, w5 = wr.alloc (.cells #[.int .i64 h, .slice au l.length cu] 68) := ⟨_, rfl⟩
      rw [← hw5]
      have hb5 : Below wr.heap.size wr w5 := by rw [hw5]; exact Below.new _ _
      have HX5 : Hid (Blk w5 wr.heap.size #[.int .i64 h, .slice au l.length cu]) := hid (by rw [hw5]; exact Blk.new _ _ _)
      have HB5 := hid (Below.next HBR.out hb5)
      have HC5 := hid (HCH.out.below hb5)
      have HC5' : Hid (ChestIs w5 g (fun j => w.heap.size ≤ j ∧ j ≠ wr.heap.size) m) := hid ((HCH.out.lt.weaken (fun j hj => ⟨hj.1, by have := hj.2; omega⟩)).below hb5)
      clear hw5 hb5 hc0 hc1
      obtain ⟨hx0, hx1, -⟩ := HX5.out.c2
      by_cases hbad : h ≤ last ∨ l.length = 0
      · have hrn : none = r := by have := HRF.out; rw [if_pos hbad] at this; exact this
        subst hrn
        clear HRF
        rcases hbad with h1 | h1
        · have hd1 : decide (h ≤ last) = true := by simpa using h1
          go_wp2_with fail
          go_ret2
          exact ⟨rfl, HB5.out⟩
        · by_cases h2 : h ≤ last
          · have hd1 : decide (h ≤ last) = true := by simpa using h2
            go_wp2_with fail
            go_ret2
            exact ⟨rfl, HB5.out⟩
          · have hd1 : decide (h ≤ last) = false := by simpa using h2
            have hd2 : ((l.length : Int) == 0) = true := by obtain rfl : l = [] := List.eq_nil_of_length_eq_zero h1; rfl
            go_wp2_with fail
            go_ret2
            exact ⟨rfl, HB5.out⟩
      · have hd1 : decide (h ≤ last) = false := by simp; omega
        have hd2 : ((l.length : Int) == 0) = false := by
          cases l with
          | nil => exact absurd (.inr rfl) hbad
          | cons x l => simp; omega
        have h3 := HRF.out
        rw [if_neg hbad] at h3
        obtain ⟨q, hq⟩ : ∃ q, addNeeds h l m = q := ⟨_, rfl⟩
        rw [hq] at h3
        have HQ := hid hq
        have H3 := hid h3
        clear hbad h3 hq HRF
        go_wp2_with fail
        obtain ⟨wo, rfl⟩ : ∃ wo : World, wo = wr := ⟨_, rfl⟩
        clear hx0 hx1
        go_loopw [34] (fun v34 wr => RestI w g h l wo.heap.size #[.int .i64 h, .slice au l.length cu] q v34 wr) (fun v34 _ => l.length - (intOf v34).toNat)
        case atStart => exact ⟨0, m, rfl, by omega, HC5'.out, HQ.out, HX5.out, HB5.out⟩
        case round =>
          obtain ⟨i, m', rfl, hi, hch', hadd, hblk, hbr⟩ := hrel
          have HCI := hid hch'
          have HBI := hid hbr
          have HXI := hid hblk
          have hle := HB5.out.size
          have hxl := hblk.lt
          by_cases hli : i < l.length
          · have hslw := HSL.out.below (Below.trans hbr (Below.refl _ _))
            obtain ⟨aa, cc, ee, hrd, -⟩ := hslw
            simp only [Value.slice.injEq, true_and] at ee
            obtain ⟨rfl, rfl⟩ := ee
            obtain ⟨bu, ou, n, rfl, hcn, -, hdn, -, -⟩ := Rd.int hrd i hli
            rw [hdn, addNeeds] at hadd
            obtain ⟨r0, er, m2, hbu⟩ : ∃ r0 er m2, chBuild m' h n = (r0, er, m2) := ⟨_, _, _, rfl⟩
            rw [hbu] at hadd
            simp only at hadd
            have HADD := hid hadd
            have HBU := hid hbu
            have i0 : (0 : Int) ≤ (i : Int) := by omega
            have i1 : (i : Int) < (l.length : Int) := by omega
            obtain ⟨hx0, hx1, -⟩ := HXI.out.c2
            clear hrd hdn hadd hbu hch' hbr hblk
            go_wp2_with fail
            refine (chest_Build h n g _ m' wr HCI.out r0 er m2 HBU).mono ?_
            rintro e w6 ⟨rfl, hci, hu⟩
            have HC6 : Hid (ChestIs w6 g (fun j => w.heap.size ≤ j ∧ j ≠ wo.heap.size) m2) := hid (hci.weaken (fun j hj => by
              rcases hj with hj | hj
              · exact hj
              · have := HBI.out.size; exact ⟨by omega, by omega⟩))
            have HX6 := hid (HXI.out.upd hu (fun q => q.2 rfl))
            have HB6 : Hid (Below w.heap.size w w6) := hid (HBI.out.trans (hu.below HBI.out.size (fun j _ q => q.1)))
            clear hci hu hx0 hx1
            by_cases her : er = 0
            · subst her
              have HA2 : Hid (addNeeds h (l.drop (i + 1)) m2 = q) := hid (by have := HADD.out; rw [if_pos rfl] at this; exact this)
              go_wp2_with fail
              go_roundw
              case rel => exact ⟨i + 1, m2, by go_num, by omega, HC6.out, HA2.out, HX6.out, HB6.out⟩
              case measure => simp [intOf]; omega
            · have hqn : none = q := by have := HADD.out; rw [if_neg her] at this; exact this
              subst hqn
              have hrn : none = r := H3.out
              subst hrn
              have hbe : (er != 0) = true := by simpa using her
              go_wp2_with fail
              go_ret2
              exact ⟨rfl, HB6.out⟩
          · have hil : l.drop i = [] := List.drop_eq_nil_of_le (by omega)
            rw [hil, addNeeds] at hadd
            subst hadd
            have hcw := hch'.weaken (F' := fun j => w.heap.size ≤ j) (fun j hj => hj.1)
            have HCW := hid hcw
            obtain ⟨hx0, hx1, -⟩ := HXI.out.c2
            clear hcw hch' hbr hblk hil
            go_wp2_with fail
            go_roundw
            case rel => exact ⟨k + 1, h, m', rfl, by go_num, by omega, HCW.out, H3.out, HBI.out⟩
            case measure => simp [intOf]; omega
    · have hkl : L.drop k = [] := List.drop_eq_nil_of_le (by omega)
      rw [hkl, restoreF] at hrf
      subst hrf
      clear hkl hch hbr
      go_wp2_with fail
      go_ret2
      exact ⟨g, _, rfl, HCH.out, fun j hj => hj, HBR.out⟩
end Go.Proofs.Ytohknblokejldaa
end
