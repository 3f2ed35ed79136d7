/- Joined texts, in this order: FolkRestore. Each one's first remark says what it proves; no condition beyond those that its theorems name. -/
import Derived.Test.YtcjdlckfbkdibaaDoorJLawFolkRestores25
import Derived.Test.YtcjdlckfbkdibaaDoorJLawFolkRestores22
section
/- Contract of folk.Restore. -/
namespace Go.Proofs.YtcjdlckfbkdibaaDoor
open Go.RowKit Go.ChangeShapes Go.WideShapes Go.Deep Go.Joins
open Go.Lib (hid)
set_option linter.unusedVariables false

/-- rows, one behind the other, into accounts -/
def restL : List (List UInt8 × Int) → List (List UInt8 × Int) → Int → Option (List (List UInt8 × Int))
  | [], M, _ => some M
  | p :: L, M, h => if addFE M p.1 = 0 then (if (gop 2 (addFI M p.1) 0 p.2 (addFL M p.1) h).1 = 0 then restL L (gop 2 (addFI M p.1) 0 p.2 (addFL M p.1) h).2.1 h else none) else none
def restF (L : List (List UInt8 × Int)) (h : Int) : Option (List (List UInt8 × Int)) := if goldR h then restL L [] h else none
theorem gop2_held (a b n : Int) (L : List (List UInt8 × Int)) (h : Int) : (gop 2 a b n L h).2.2 = h := by
  by_cases hc : checkE L a n = 0
  · rw [gop_2 hc]; split <;> rfl
  · rw [gop_bad hc]
theorem nameB_len {x : List UInt8} (h : nameB x = true) : x.length ≤ 16 := by
  unfold nameB at h
  simp only [Bool.and_eq_true, decide_eq_true_eq] at h
  omega
theorem restL_own : ∀ (L M : List (List UInt8 × Int)) (h : Int), FkOk (M ++ L) h → restL L M h = some (M ++ L)
  | [], M, h, _ => by simp [restL]
  | (x, y) :: L, M, h, hok => by
    have hlen := hok.len
    simp only [List.length_append, List.length_cons] at hlen
    have hn : nameB x = true := hok.names (x, y) (by simp)
    have hy : 0 ≤ y := hok.pos (x, y) (by simp)
    have hs : sumG (M ++ (x, y) :: L) = sumG M + y + sumG L := by simp [sumG]; omega
    have hM : 0 ≤ sumG M := sumG_nonneg (fun p hp => hok.pos p (by simp [hp]))
    have hL : 0 ≤ sumG L := sumG_nonneg (fun p hp => hok.pos p (by simp [hp]))
    have ht := hok.tot
    have hh := hok.h0
    rw [hs] at ht
    have hf : fkFind M x = 0 := by
      rw [fkFind_zero]
      intro p hp e
      have := hok.nodup
      rw [List.map_append, List.nodup_append] at this
      exact this.2.2 p.1 (List.mem_map_of_mem hp) x (by simp) e
    have e0 : addFE M x = 0 := by unfold addFE; rw [if_pos hn, if_pos hf, if_pos (by omega)]
    have e1 : addFL M x = M ++ [(x, 0)] := by unfold addFL; rw [if_pos e0]
    have e2 : addFI M x = (M.length : Int) + 1 := by unfold addFI; rw [if_pos e0]; omega
    have hx : (M ++ [(x, (0 : Int))])[M.length]? = some (x, 0) := by simp
    obtain ⟨f1, f2⟩ := gAt_at hx (id := (M.length : Int) + 1) rfl
    have hc : checkE (M ++ [(x, (0 : Int))]) ((M.length : Int) + 1) y = 0 := by
      unfold checkE
      rw [if_pos (by simp; omega), if_pos (by omega)]
    have hs2 : sumG (M ++ [(x, (0 : Int))]) = sumG M := by rw [sumG_append]; omega
    have hq : gop 2 ((M.length : Int) + 1) 0 y (M ++ [(x, 0)]) h = (0, M ++ [(x, y)], h) := by
      rw [gop_2 hc, if_neg (by rw [hs2]; omega), f1, f2]
      simp
    rw [restL]
    simp only
    rw [if_pos e0, e1, e2, hq]
    simp only [if_true]
    rw [restL_own L (M ++ [(x, y)]) h (by simpa using hok)]
    simp
theorem restF_own (L : List (List UInt8 × Int)) (h : Int) (hok : FkOk L h) : restF L h = some L := by
  unfold restF
  rw [if_pos (goldR_true hok.held), restL_own L [] h (by simpa using hok)]
  rfl
def RowFE (w : World) (f : Nat → Option Value) (p : List UInt8 × Int) : Prop := f 0 = some (.string ⟨p.1.toArray⟩) ∧ f 1 = some (.int .i64 p.2)
theorem rowFKept : Kept RowFE 2 := ⟨fun hb hf h => ⟨hf 0 _ (by omega) h.1, hf 1 _ (by omega) h.2⟩, fun h => ⟨_, h.1⟩⟩
theorem rowF_own {w : World} {B : Nat} {v : Value} {L : List (List UInt8 × Int)} (h : w.ownsRow B 52 2 v L.length (rvF L)) : SlE RowFE 2 w v L := by
  obtain ⟨a, c, rfl, h1, h2, h3, h4⟩ := ownsRow.rd h
  refine ⟨a, c, rfl, h1, by unfold maxLen at h2; omega, h4, fun i x hx => ?_⟩
  have hi : i < L.length := (List.getElem?_eq_some_iff.1 hx).1
  obtain ⟨hc0, hc1⟩ := rvF_at L i x hx
  obtain ⟨b, off, rfl, q0⟩ := h3 (i * 2) (by rw [rvF_length]; omega)
  obtain ⟨b', off', e, q1⟩ := h3 (i * 2 + 1) (by rw [rvF_length]; omega)
  simp only [Option.some.injEq, Addr.mk.injEq, and_true] at e
  obtain ⟨rfl, rfl⟩ := e
  have hb : b < w.heap.size := World.block_lt_of_cell? w _ (q0.trans hc0)
  exact ⟨b, off, rfl, hb, by show w.cell? ⟨b, off + i * 2 + 0, none⟩ = _; rw [Nat.add_zero]; exact q0.trans hc0, by show w.cell? ⟨b, off + i * 2 + 1, none⟩ = _; rw [Nat.add_assoc]; exact q1.trans hc1⟩
theorem SlE.rowF {w wr : World} {a : Option Addr} {n c : Nat} {L : List (List UInt8 × Int)} (h : SlE RowFE 2 w (.slice a n c) L) (hb : Below w.heap.size w wr) {k : Nat} {p : List UInt8 × Int} (hp : L[k]? = some p) :
    ∃ b off, a = some ⟨b, off, none⟩ ∧ wr.cell? ⟨b, off + k * 2, none⟩ = some (.string ⟨p.1.toArray⟩) ∧ wr.cell? ⟨b, off + k * 2 + 1, none⟩ = some (.int .i64 p.2) := by
  obtain ⟨a', c', e', -, -, -, hrows⟩ := h
  simp only [Value.slice.injEq] at e'
  obtain ⟨rfl, -, rfl⟩ := e'
  obtain ⟨b, off, rfl, hbs, hc0, hc1⟩ := hrows k p hp
  exact ⟨b, off, rfl, by rw [show wr.cell? ⟨b, off + k * 2, none⟩ = w.cell? ⟨b, off + k * 2, none⟩ from World.cell?_of_block (hb.block b hbs)]; exact hc0, by rw [show wr.cell? ⟨b, off + k * 2 + 1, none⟩ = w.cell? ⟨b, off + k * 2 + 1, none⟩ from World.cell?_of_block (hb.block b hbs)]; exact hc1⟩
def FRestPost (w : World) (held : Int) (r : Option (List (List UInt8 × Int))) (e : Ending) (w' : World) : Prop :=
  match r with
  | none => e = .returned (.tuple #[.pointer none, .bool false]) ∧ Below w.heap.size w w'
  | some M => ∃ g b v, e = .returned (.tuple #[.pointer (some ⟨g, 0, none⟩), .bool true]) ∧ FkIs w' g b v M held (held + sumG M) ∧ FkOk M held ∧ Below w.heap.size w w'
def FRestL (w : World) (g b : Nat) (L : List (List UInt8 × Int)) (held : Int) (r : Option (List (List UInt8 × Int))) (v25 : Value) (wr : World) : Prop :=
  ∃ (k : Nat) (M : List (List UInt8 × Int)) (v : Value), v25 = .int .i64 (k : Int) ∧ k ≤ L.length ∧ Hid (FkIs wr g b v M held (held + sumG M)) ∧ Hid (FkOk M held) ∧ Hid (restL (L.drop k) M held = r) ∧ Hid (Below w.heap.size w wr ∧ ∀ k, v.ownBlock = some k → w.heap.size ≤ k)
set_option maxRecDepth 100000 in
set_option maxHeartbeats 4000000 in
theorem folk_Restore (L : List (List UInt8 × Int)) (v : Value) (held : Int) (w : World) (h : SlE RowFE 2 w v L) (hl : L.length ≤ 1000) (hn : ∀ p ∈ L, p.1.length ≤ 1000) (r : Option (List (List UInt8 × Int))) (hr : Hid (restF L held = r)) :
    Calls Tryd.prog 21 #[v, .int .i64 held] w (FRestPost w held r) := by
  have HE := hid h
  have HN := hid hn
  obtain ⟨a, c, rfl, -⟩ := h
  clear hn
  by_cases hg : goldR held = true
  · have hr2 : restL L [] held = r := by rw [← hr.out]; unfold restF; rw [if_pos hg]
    have HR := hid hr2
    have hg2 : 0 ≤ held ∧ held ≤ 1099511627776 := by unfold goldR at hg; simpa using hg
    have HOK0 : Hid (FkOk [] held) := hid ⟨by simp, by simp, by simp, hg2.1, by simpa [sumG] using hg2.2, by simp⟩
    clear hr2 hg2
    go_enter Tryd.func21, Tryd.ntmps21
    go_wp2_with fail
    refine (folk_New w).mono ?_
    rintro e w1 ⟨g, b, rfl, hf, hgg, hbb, hb1⟩
    have HG := hid (And.intro hgg hbb)
    have HF1 := hid hf
    have HB1 := hid hb1
    obtain ⟨-, -, c2, -⟩ := hf.blk.cells4
    have f2 : w1.frozen? ⟨g, 2, none⟩ = false := hf.blk.unfrozen 2
    obtain ⟨-, -, -, c3⟩ := (hf.setHeld held).blk.cells4
    have f3 : (w1.setCell ⟨g, 2, none⟩ (.int .i64 held)).frozen? ⟨g, 3, none⟩ = false := (hf.setHeld held).blk.unfrozen 3
    clear hf hgg hbb hb1
    go_wp2_with fail
    refine (gold_Right held w1).mono ?_
    rintro e w2 ⟨rfl, rfl⟩
    rw [hg]
    go_upto_region 5 with fail
    have HF2 : Hid (FkIs ((w1.setCell ⟨g, 2, none⟩ (.int .i64 held)).setCell ⟨g, 3, none⟩ (.int .i64 held)) g b (.slice none 0 0) [] held (held + sumG [])) := hid (by
      have := (HF1.out.setHeld held).setTotal held
      simpa [sumG] using this)
    have HB2 : Hid (Below w.heap.size w ((w1.setCell ⟨g, 2, none⟩ (.int .i64 held)).setCell ⟨g, 3, none⟩ (.int .i64 held))) := hid (by
      have h1 := HB1.out.trans ((Upd.setCell w1 g 2 (.int .i64 held)).below HB1.out.size (fun k _ q => by subst q; exact HG.out.1))
      exact h1.trans ((Upd.setCell _ g 3 (.int .i64 held)).below h1.size (fun k _ q => by subst q; exact HG.out.1)))
    generalize World.setCell (World.setCell w1 _ _) _ _ = w2 at HF2 HB2
    clear c2 f2 c3 f3 HF1 HB1
    go_wp2_with fail
    go_loopw [25] (fun v25 wr => FRestL w g b L held r v25 wr) (fun v25 _ => L.length - (intOf v25).toNat)
    case atStart => exact ⟨0, [], _, rfl, by omega, HF2, HOK0, by rw [List.drop_zero]; exact HR, hid ⟨HB2.out, fun k hk => by simp [Value.ownBlock] at hk⟩⟩
    case round =>
      clear HF2 HB2 HOK0 HR
      obtain ⟨k, M, v, rfl, hk, HF, HOK, HRL, HB⟩ := hrel
      by_cases hlt : k < L.length
      · obtain ⟨⟨x, y⟩, hp⟩ : ∃ p, L[k]? = some p := ⟨_, List.getElem?_eq_getElem hlt⟩
        have hdr : L.drop k = (x, y) :: L.drop (k + 1) := by
          rw [List.drop_eq_getElem_cons hlt]
          congr 1
          exact (List.getElem?_eq_some_iff.1 hp).2
        have hrl := HRL.out
        rw [hdr, restL] at hrl
        simp only at hrl
        obtain ⟨br, orr, rfl, q0, q1⟩ := HE.out.rowF HB.out.1 hp
        simp only at q0 q1
        have HX : Hid (x.length ≤ 1000) := hid (HN.out (x, y) (List.mem_of_getElem? hp))
        have e0 : (0 : Int) ≤ (k : Int) := by omega
        have e1 : (k : Int) < (L.length : Int) := by omega
        have HRL2 := hid hrl
        clear hp hdr hrl HRL
        go_upto_region 8 with fail
        obtain ⟨w5, hw5⟩ : ∃ w5, w5 = wr.alloc (.cells #[.string ⟨x.toArray⟩, .int .i64 y] 52) := ⟨_, rfl⟩
        rw [← hw5]
        have hb5 : Below wr.heap.size wr w5 := by rw [hw5]; exact Below.new _ _
        obtain ⟨bb, hbb⟩ : ∃ bb, bb = wr.heap.size := ⟨_, rfl⟩
        have HX5 : Hid (Blk w5 bb #[.string ⟨x.toArray⟩, .int .i64 y]) := hid (by rw [hw5, hbb]; exact Blk.new _ _ _)
        have HB5 := hid (Below.next HB.out.1 hb5)
        have HF5 := hid (HF.out.below hb5)
        have HLB : Hid (∀ k, (k = g ∨ k = b ∨ v.ownBlock = some k) → k ≠ bb) := hid (fun k hk => by have := HF.out.lt k hk; omega)
        have cx0 : w5.cell? ⟨bb, 0, none⟩ = some (.string ⟨x.toArray⟩) := by rw [HX5.out.cell]; rfl
        rw [← hbb]
        clear q0 q1 hw5 hb5 hbb
        obtain ⟨E, hE⟩ : ∃ E, addFE M x = E := ⟨_, rfl⟩
        obtain ⟨I, hI⟩ : ∃ I, addFI M x = I := ⟨_, rfl⟩
        have HEE := hid hE
        have HII := hid hI
        clear hE hI
        go_wp2_with fail
        refine (folk_Add g b v M held _ w5 HF5.out HOK.out.len x HX.out).mono ?_
        rintro e w6 ⟨v6, rfl, hf6, hs6⟩
        rw [HEE.out, HII.out]
        obtain ⟨hok6, hsum6⟩ := addF_ok HOK.out x
        have HF6 : Hid (FkIs w6 g b v6 (addFL M x) held (held + sumG (addFL M x))) := hid (by rw [hsum6]; exact hf6)
        have HOK6 := hid hok6
        have HB6 : Hid (Below w.heap.size w w6 ∧ ∀ k, v6.ownBlock = some k → w.heap.size ≤ k) := hid (hs6.belowX HB5.out HG.out.1 HG.out.2 HB.out.2)
        have HX6 := hid (HX5.out.upd hs6.upd (fun q => HLB.out bb q rfl))
        have cx1 : w6.cell? ⟨bb, 1, none⟩ = some (.int .i64 y) := by rw [HX6.out.cell]; rfl
        clear hf6 hs6 hok6 hsum6 cx0
        by_cases hE0 : E = 0
        · subst hE0
          have hrl := HRL2.out
          rw [if_pos HEE.out, HII.out] at hrl
          obtain ⟨q, hq⟩ : ∃ q, gop 2 I 0 y (addFL M x) held = q := ⟨_, rfl⟩
          rw [hq] at hrl
          have HQ := hid hq
          have HQ2 : Hid (q.2.2 = held) := hid (by rw [← hq]; exact gop2_held _ _ _ _ _)
          have HOK7 : Hid (FkOk q.2.1 q.2.2) := hid (by rw [← hq]; exact gop_ok 2 I 0 y _ held (by omega) HOK6.out)
          have HRL3 := hid hrl
          obtain ⟨E2, M2, H2⟩ := q
          simp only at HQ2 HOK7 HRL3
          obtain rfl : H2 = held := HQ2.out
          clear hq hrl
          go_wp2_with fail
          refine (folk_MintAll g b v6 (addFL M x) H2 w6 HF6.out HOK6.out I y 0).mono ?_
          intro e w7 hp7
          rw [HQ.out] at hp7
          obtain ⟨v7, rfl, hf7, hs7⟩ := hp7
          simp only at hf7
          have HF7 := hid hf7
          have HB7 : Hid (Below w.heap.size w w7 ∧ ∀ k, v7.ownBlock = some k → w.heap.size ≤ k) := hid (hs7.belowX HB6.out.1 HG.out.1 HG.out.2 HB6.out.2)
          clear hf7 hs7 cx1
          by_cases hE2 : E2 = 0
          · subst hE2
            have HRL4 : Hid (restL (L.drop (k + 1)) M2 H2 = r) := hid (by have := HRL3.out; rw [if_pos rfl] at this; exact this)
            go_wp2_with fail
            go_roundw
            case rel => exact ⟨k + 1, M2, v7, by go_num, by omega, HF7, HOK7, HRL4, HB7⟩
            case measure => simp [intOf]; omega
          · have hrn : none = r := by have := HRL3.out; rw [if_neg hE2] at this; exact this
            subst hrn
            have e3 : (E2 == 0) = false := by simpa using hE2
            have e4 : (E2 != 0) = true := by simp [hE2]
            clear hE2
            go_wp2_with fail
            go_ret2
            exact ⟨rfl, HB7.out.1⟩
        · have hrn : none = r := by have := HRL2.out; rw [if_neg (by rw [HEE.out]; exact hE0)] at this; exact this
          subst hrn
          have e3 : (E == 0) = false := by simpa using hE0
          have e4 : (E != 0) = true := by simp [hE0]
          clear hE0
          go_wp2_with fail
          go_ret2
          exact ⟨rfl, HB6.out.1⟩
      · have e1 : ¬ (k : Int) < (L.length : Int) := by omega
        have hrr : some M = r := by have := HRL.out; rw [List.drop_of_length_le (by omega)] at this; exact this
        subst hrr
        clear HRL
        go_wp2_with fail
        go_ret2
        exact ⟨g, b, v, rfl, HF.out, HOK.out, HB.out.1⟩
  · have hg2 : goldR held = false := by simpa using hg
    have hrn : none = r := by rw [← hr.out]; unfold restF; rw [hg2]; rfl
    subst hrn
    clear hg
    go_enter Tryd.func21, Tryd.ntmps21
    go_wp2_with fail
    refine (folk_New w).mono ?_
    rintro e w1 ⟨g, b, rfl, hf, hgg, hbb, hb1⟩
    have HB1 := hid hb1
    clear hf hgg hbb hb1
    go_wp2_with fail
    refine (gold_Right held w1).mono ?_
    rintro e w2 ⟨rfl, rfl⟩
    rw [hg2]
    go_wp2_with fail
    go_ret2
    exact ⟨rfl, HB1.out⟩
end Go.Proofs.YtcjdlckfbkdibaaDoor
end
