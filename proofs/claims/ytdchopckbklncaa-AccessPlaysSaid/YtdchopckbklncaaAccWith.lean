/- Contracts: the document's With and Without; wrong; Set in full. -/
import Derived.Test.YtdchopckbklncaaAccSetG
import Derived.Test.YtdchopckbklncaaAccLists
import Derived.Test.YtdchopckbklncaaAccess
namespace Go.Proofs.Ytdchopckbklncaa
open Go.RowKit
open Go.Lib (hid)
set_option linter.unusedVariables false

def withF : List Int → Int → Bool → List Int
  | [], p, d => if d = true then [] else [p]
  | x :: l, p, d => if d = true then x :: withF l p true else if p < x then p :: x :: withF l p true else x :: withF l p false
theorem own_app {w : World} {B : Nat} {v : Value} {acc : List Int} {x : Int} (h : w.ownsRow B 3 1 v (acc.length + 1) (iv acc ++ (#[Value.int .i64 x] : Array Value).toList)) : OwnI w B v (acc ++ [x]) := by
  unfold OwnI
  simpa [iv] using h
theorem oc1 (y : Int) : ∀ u ∈ (#[Value.int .i64 y] : Array Value).toList, u.oneCell' = true := by
  intro u hu
  simp at hu
  subst hu
  rfl
set_option maxRecDepth 100000 in
set_option maxHeartbeats 1000000 in
theorem ref18_Without (l : List Int) (v : Value) (p : Int) (w : World) (hs : SlI w v l) (hl : l.length ≤ 1000) :
    Calls Try.prog 61 #[v, .int .i64 p] w fun e w' => ∃ u, e = .returned u ∧ OwnI w' w.heap.size u (l.filter (fun x => x != p)) ∧ Below w.heap.size w w' := by
  have HS := hid hs
  obtain ⟨a, c, rfl, -⟩ := hs
  obtain ⟨fin, hfin⟩ : ∃ fin, fin = l.filter (fun x => x != p) := ⟨_, rfl⟩
  rw [← hfin]
  have HF := hid hfin
  clear hfin
  go_enter Try.func61, Try.ntmps61
  go_wp2
  go_loopw [5, 6] (fun v5 v6 wr => ∃ (k : Nat) (acc : List Int), v6 = .int .i64 k ∧ k ≤ l.length ∧ acc.length ≤ k ∧ Hid (acc ++ (l.drop k).filter (fun x => x != p) = fin) ∧ Hid (OwnI wr w.heap.size v5 acc) ∧ Hid (Below w.heap.size w wr)) (fun _ v6 _ => l.length - (intOf v6).toNat)
  case atStart => exact ⟨0, [], rfl, by omega, by simp, hid HF.out.symm, hid (World.ownsRow_nil _ _ _ _), hid (Below.refl _ _)⟩
  case round =>
    obtain ⟨k, acc, rfl, hk, hak, hm, HO, HB⟩ := hrel
    by_cases hlt : k < l.length
    · obtain ⟨a', c', e1, hr1, -⟩ := HS.out.below HB.out
      simp only [Value.slice.injEq] at e1
      obtain ⟨rfl, -, rfl⟩ := e1
      obtain ⟨b1, o1, y, rfl, hc1, -, hd1, -, -⟩ := hr1.int k hlt
      have hm2 := hm.out
      rw [hd1] at hm2
      have hbsz := HB.out.size
      by_cases hx : y = p
      · have hxb : (y != p) = false := by simpa using hx
        have hm3 : acc ++ (l.drop (k + 1)).filter (fun x => x != p) = fin := by rw [← hm2, List.filter_cons, if_neg (by simpa using hx)]
        have HM := hid hm3
        clear hm2 hm3 hx hd1 hr1 hbsz
        go_wp2_with fail
        go_roundw
        case rel => exact ⟨k + 1, acc, by go_num, by omega, by omega, HM, HO, HB⟩
        case measure => simp [intOf]; omega
      · have hxb : (y != p) = true := by simpa using hx
        have hm3 : (acc ++ [y]) ++ (l.drop (k + 1)).filter (fun x => x != p) = fin := by rw [← hm2, List.filter_cons, if_pos (by simpa using hx)]; simp
        have HM := hid hm3
        have hby : (acc.length + 1) * 8 ≤ 140737488355328 := by omega
        clear hm2 hm3 hx hd1 hr1
        go_wp2_with (at_builtin; refine wpList_append1w T_ints18 _ rfl _ _ #[.int .i64 y] rfl w.heap.size _ _ _ rfl HO.out rfl rfl (oc1 y) hby hbsz ?_)
        intro v' w4 hown4 hgrow hne hwh
        have HO4 := hid (own_app hown4)
        have HB4 := hid (HB.out.grown hgrow hbsz (fun j hj => (HO.out.lt j hj).1))
        clear hown4 hgrow hwh hne
        go_wp2_with fail
        go_roundw
        case rel => exact ⟨k + 1, acc ++ [y], by go_num, by omega, by simp; omega, HM, HO4, HB4⟩
        case measure => simp [intOf]; omega
    · have h1 := hm.out
      rw [List.drop_of_length_le (by omega), List.filter_nil, List.append_nil] at h1
      subst h1
      go_wp2_with fail
      go_ret
      exact ⟨_, rfl, HO.out, HB.out⟩
set_option maxRecDepth 100000 in
set_option maxHeartbeats 2000000 in
theorem ref18_With (l : List Int) (v : Value) (p : Int) (w : World) (hs : SlI w v l) (hl : l.length ≤ 1000) :
    Calls Try.prog 60 #[v, .int .i64 p] w fun e w' => ∃ u, e = .returned u ∧ OwnI w' w.heap.size u (withF l p false) ∧ Below w.heap.size w w' := by
  have HS := hid hs
  obtain ⟨a, c, rfl, -⟩ := hs
  obtain ⟨fin, hfin⟩ : ∃ fin, fin = withF l p false := ⟨_, rfl⟩
  rw [← hfin]
  have HF := hid hfin
  clear hfin
  go_enter Try.func60, Try.ntmps60
  go_wp2
  go_loopw [5, 6, 7] (fun v5 v6 v7 wr => ∃ (k : Nat) (acc : List Int) (d : Bool), v7 = .int .i64 k ∧ v6 = .bool d ∧ k ≤ l.length ∧ acc.length ≤ k + 1 ∧ Hid (acc ++ withF (l.drop k) p d = fin) ∧ Hid (d = false → acc.length ≤ k) ∧ Hid (OwnI wr w.heap.size v5 acc) ∧ Hid (Below w.heap.size w wr)) (fun _ _ v7 _ => l.length - (intOf v7).toNat)
  case atStart => exact ⟨0, [], false, rfl, rfl, by omega, by simp, hid HF.out.symm, hid (fun _ => Nat.le_refl _), hid (World.ownsRow_nil _ _ _ _), hid (Below.refl _ _)⟩
  case round =>
    obtain ⟨k, acc, d, rfl, rfl, hk, hak, hm, HD, HO, HB⟩ := hrel
    have hbsz := HB.out.size
    by_cases hlt : k < l.length
    · obtain ⟨a', c', e1, hr1, -⟩ := HS.out.below HB.out
      simp only [Value.slice.injEq] at e1
      obtain ⟨rfl, -, rfl⟩ := e1
      have HSW := hid (HS.out.below HB.out)
      obtain ⟨b1, o1, y, rfl, hc1, -, hd1, -, -⟩ := hr1.int k hlt
      have hm2 := hm.out
      rw [hd1] at hm2
      have HCELL : Hid (∀ x : World, Below w.heap.size w x → x.cell? ⟨b1, o1 + k, none⟩ = some (.int .i64 y)) := hid (fun x hx => by
        obtain ⟨a', c', e1, hr1, -⟩ := HS.out.below hx
        simp only [Value.slice.injEq] at e1
        obtain ⟨rfl, -, rfl⟩ := e1
        obtain ⟨b', o', y', e2, hc1', -, hd', -, -⟩ := hr1.int k hlt
        simp only [Option.some.injEq, Addr.mk.injEq, and_true] at e2
        obtain ⟨rfl, rfl⟩ := e2
        rw [hd1] at hd'
        simp only [List.cons.injEq, and_true] at hd'
        rw [hd']; exact hc1')
      by_cases hcase : d = false ∧ p < y
      · obtain ⟨rfl, hpy⟩ := hcase
        have hm3 : (acc ++ [p] ++ [y]) ++ withF (l.drop (k + 1)) p true = fin := by rw [← hm2, withF, if_neg (by simp), if_pos hpy]; simp
        have HM := hid hm3
        have hak2 := HD.out rfl
        clear hm2 hm3 hd1 hr1
        have hby : (acc.length + 1) * 8 ≤ 140737488355328 := by omega
        go_wp2_with (at_builtin; refine wpList_append1w T_ints18 _ rfl _ _ #[.int .i64 p] rfl w.heap.size _ _ _ rfl HO.out rfl rfl (oc1 p) hby hbsz ?_)
        clear hby
        intro v' w4 hown4 hgrow hne hwh
        have HO4 := hid (own_app hown4)
        have HB4 := hid (HB.out.grown hgrow hbsz (fun j hj => (HO.out.lt j hj).1))
        have hc4 := HCELL.out w4 HB4.out
        have hbsz4 := HB4.out.size
        have hpl : (acc ++ [p]).length = acc.length + 1 := by simp
        clear hown4 hgrow hwh hne
        have hby : ((acc ++ [p]).length + 1) * 8 ≤ 140737488355328 := by rw [hpl]; omega
        go_wp2_with (at_builtin; refine wpList_append1w T_ints18 _ rfl _ _ #[.int .i64 y] rfl w.heap.size _ _ _ rfl HO4.out rfl rfl (oc1 y) hby hbsz4 ?_)
        clear hby
        intro v' w5 hown5 hgrow hne hwh
        have HO5 : Hid (OwnI w5 w.heap.size v' (acc ++ [p] ++ [y])) := hid (own_app (by rw [hpl]; exact hown5))
        have HB5 := hid (HB4.out.grown hgrow hbsz4 (fun j hj => (HO4.out.lt j hj).1))
        clear hown5 hgrow hwh hne hpl
        go_wp2_with fail
        go_roundw
        case rel => exact ⟨k + 1, acc ++ [p] ++ [y], true, by go_num, rfl, by omega, by simp; omega, HM, hid (fun h => by cases h), HO5, HB5⟩
        case measure => simp [intOf]; omega
      · have hm3 : (acc ++ [y]) ++ withF (l.drop (k + 1)) p d = fin := by
          rw [← hm2, withF]
          cases d with
          | true => rw [if_pos rfl]; simp
          | false => rw [if_neg (by simp), if_neg (fun h => hcase ⟨rfl, h⟩)]; simp
        have HM := hid hm3
        have hpy : d = false → decide (y > p) = false := fun h => decide_eq_false (fun q => hcase ⟨h, q⟩)
        have HPY := hid hpy
        clear hm2 hm3 hd1 hr1 hcase hpy
        have htail : ∀ (x : Int), True := fun _ => trivial
        cases d with
        | true =>
          have hby : (acc.length + 1) * 8 ≤ 140737488355328 := by omega
          go_wp2_with (at_builtin; refine wpList_append1w T_ints18 _ rfl _ _ #[.int .i64 y] rfl w.heap.size _ _ _ rfl HO.out rfl rfl (oc1 y) hby hbsz ?_)
          clear hby
          intro v' w4 hown4 hgrow hne hwh
          have HO4 := hid (own_app hown4)
          have HB4 := hid (HB.out.grown hgrow hbsz (fun j hj => (HO.out.lt j hj).1))
          clear hown4 hgrow hwh hne
          go_wp2_with fail
          go_roundw
          case rel => exact ⟨k + 1, acc ++ [y], true, by go_num, rfl, by omega, by simp; omega, HM, hid (fun h => by cases h), HO4, HB4⟩
          case measure => simp [intOf]; omega
        | false =>
          have hp1 := HPY.out rfl
          have hp2 : ¬ p < y := by simpa using hp1
          have hak2 := HD.out rfl
          have hby : (acc.length + 1) * 8 ≤ 140737488355328 := by omega
          go_wp2_with (at_builtin; refine wpList_append1w T_ints18 _ rfl _ _ #[.int .i64 y] rfl w.heap.size _ _ _ rfl HO.out rfl rfl (oc1 y) hby hbsz ?_)
          clear hby
          intro v' w4 hown4 hgrow hne hwh
          have HO4 := hid (own_app hown4)
          have HB4 := hid (HB.out.grown hgrow hbsz (fun j hj => (HO.out.lt j hj).1))
          clear hown4 hgrow hwh hne
          go_wp2_with fail
          go_roundw
          case rel => exact ⟨k + 1, acc ++ [y], false, by go_num, rfl, by omega, by simp; omega, HM, hid (fun _ => by simp; omega), HO4, HB4⟩
          case measure => simp [intOf]; omega
    · have h1 := hm.out
      rw [List.drop_of_length_le (by omega), withF] at h1
      cases d with
      | true =>
        rw [if_pos rfl, List.append_nil] at h1
        subst h1
        go_wp2_with fail
        go_ret
        exact ⟨_, rfl, HO.out, HB.out⟩
      | false =>
        rw [if_neg (by simp)] at h1
        subst h1
        have hby : (acc.length + 1) * 8 ≤ 140737488355328 := by omega
        go_wp2_with (at_builtin; refine wpList_append1w T_ints18 _ rfl _ _ #[.int .i64 p] rfl w.heap.size _ _ _ rfl HO.out rfl rfl (oc1 p) hby hbsz ?_)
        clear hby
        intro v' w4 hown4 hgrow hne hwh
        have HO4 := hid (own_app hown4)
        have HB4 := hid (HB.out.grown hgrow hbsz (fun j hj => (HO.out.lt j hj).1))
        clear hown4 hgrow hwh hne
        go_wp2_with fail
        go_ret
        exact ⟨_, rfl, HO4.out, HB4.out⟩
def wrongF (o : Int) (lc lf lb : List Int) (n p : Int) (on : Bool) : Int := if n < 1 ∨ 3 < n ∨ p < 1 ∨ 256 < p then 11 else errS o (pickL n.toNat lc lf lb) p on
def SetAny (o : Int) (lc lf lb : List Int) (n p : Int) (on : Bool) (w : World) (e : Ending) (w' : World) : Prop :=
  ∃ v err, e = .returned (.tuple #[v, .int .i64 err]) ∧ err = wrongF o lc lf lb n p on ∧ Below w.heap.size w w' ∧
    ((err ≠ 0 ∧ v = .agg #[.int .i64 0, .slice none 0 0, .slice none 0 0, .slice none 0 0]) ∨
     (err = 0 ∧ ∃ uc uf ub, v = .agg #[.int .i64 o, uc, uf, ub] ∧ OwnI w' w.heap.size uc (if n = 1 then newL lc p on else lc) ∧ OwnI w' w.heap.size uf (if n = 2 then newL lf p on else lf) ∧ OwnI w' w.heap.size ub (if n = 3 then newL lb p on else lb)))
theorem acc_personNo (n : Int) (w : World) (h : n < 1 ∨ 256 < n) : Calls Try.prog 93 #[.int .i64 n] w fun e w' => e = .returned (.bool false) ∧ w = w' := by
  rcases h with h | h
  · have h1 : ¬ 1 ≤ n := by omega
    have d1 : decide (1 ≤ n) = false := decide_eq_false h1
    go_enter Try.func93, Try.ntmps93
    go_wp2
    go_ret
    exact ⟨rfl, rfl⟩
  · have h1 : 1 ≤ n := by omega
    have d1 : decide (n ≤ 256) = false := decide_eq_false (by omega)
    go_enter Try.func93, Try.ntmps93
    go_wp2
    go_ret
    exact ⟨rfl, rfl⟩
set_option maxRecDepth 100000 in
set_option maxHeartbeats 1000000 in
theorem acc_SetRange (o n p : Int) (on : Bool) (lc lf lb : List Int) (vc vf vb : Value) (w : World) (hc : SlI w vc lc) (hf : SlI w vf lf) (hb : SlI w vb lb) (h : n < 1 ∨ 3 < n ∨ p < 1 ∨ 256 < p) :
    Calls Try.prog 58 #[.agg #[.int .i64 o, vc, vf, vb], .int .i64 n, .int .i64 p, .bool on] w (SetAny o lc lf lb n p on w) := by
  have HR := hid h
  clear h
  obtain ⟨a1, c1, rfl, -⟩ := hc
  obtain ⟨a2, c2, rfl, -⟩ := hf
  obtain ⟨a3, c3, rfl, -⟩ := hb
  obtain ⟨wb, hwb⟩ : ∃ wb, wb = w.alloc (.cells #[.int .i64 o, .slice a1 lc.length c1, .slice a2 lf.length c2, .slice a3 lb.length c3] 69) := ⟨_, rfl⟩
  obtain ⟨wq, hwq⟩ : ∃ wq, wq = wb.alloc (.cells #[.int .i64 0, .slice none 0 0, .slice none 0 0, .slice none 0 0] 69) := ⟨_, rfl⟩
  have hbb : Below w.heap.size w wb := by rw [hwb]; exact Below.new _ _
  have hbq : Below wb.heap.size wb wq := by rw [hwq]; exact Below.new _ _
  have hsb : wb.heap.size = w.heap.size + 1 := by rw [hwb]; simp
  have hres : Blk wq (w.heap.size + 1) #[.int .i64 0, .slice none 0 0, .slice none 0 0, .slice none 0 0] := by rw [hwq, ← hsb]; exact Blk.new _ _ _
  have HBQ := hid (Below.next hbb hbq)
  have HRES := hid hres
  rw [hwb] at hwq
  have HWQ := hid hwq
  clear hwb hwq hbb hbq hsb
  have HEND : Hid (∃ wf, wf = ((((wq.setCell ⟨w.heap.size + 1, 0, none⟩ (.int .i64 0)).setCell ⟨w.heap.size + 1, 1, none⟩ (.slice none 0 0)).setCell ⟨w.heap.size + 1, 2, none⟩ (.slice none 0 0)).setCell ⟨w.heap.size + 1, 3, none⟩ (.slice none 0 0)) ∧
      Blk wf (w.heap.size + 1) #[.int .i64 0, .slice none 0 0, .slice none 0 0, .slice none 0 0] ∧ SetAny o lc lf lb n p on w (.returned (.tuple #[.agg #[.int .i64 0, .slice none 0 0, .slice none 0 0, .slice none 0 0], .int .i64 11])) wf) := hid (by
    obtain ⟨wf, hwf, hblkF, huF⟩ := set4_of (x := wq) HRES.out (.int .i64 0) (.slice none 0 0) (.slice none 0 0) (.slice none 0 0)
    exact ⟨wf, hwf, hblkF, _, _, rfl, by rw [wrongF, if_pos HR.out], Below.trans HBQ.out (huF.below HBQ.out.size (fun j _ q => by omega)), .inl ⟨by omega, rfl⟩⟩)
  obtain ⟨hr0, hr1, hr2, hr3, hs0, hs1, hs2, hs3⟩ := hres.c4
  clear hres
  go_enter Try.func58, Try.ntmps58
  go_wp2_with fail
  rw [← HWQ.out]
  by_cases hn : n < 1 ∨ 3 < n
  · refine (acc_threeNo n _ hn).mono ?_
    rintro e w' ⟨rfl, rfl⟩
    clear hn
    go_wp2_with fail
    obtain ⟨wf, hwf, hblkF, hpost⟩ := HEND.out
    rw [← hwf]
    obtain ⟨hF0, hF1, hF2, hF3, -⟩ := hblkF.c4
    clear hwf hblkF
    (try simp only [Exit.inBlock, Exit.then])
    refine bodyPost_ret (results_cell_tmp rfl _ _ _ rfl (by go_simp; rfl)) rfl ?_
    exact hpost
  · refine (acc_three n _ (by omega) (by omega)).mono ?_
    rintro e w' ⟨rfl, rfl⟩
    have hp : p < 1 ∨ 256 < p := by have := HR.out; omega
    clear hn
    go_wp2_with fail
    refine (acc_personNo p _ hp).mono ?_
    rintro e w' ⟨rfl, rfl⟩
    clear hp
    go_wp2_with fail
    obtain ⟨wf, hwf, hblkF, hpost⟩ := HEND.out
    rw [← hwf]
    obtain ⟨hF0, hF1, hF2, hF3, -⟩ := hblkF.c4
    clear hwf hblkF
    (try simp only [Exit.inBlock, Exit.then])
    refine bodyPost_ret (results_cell_tmp rfl _ _ _ rfl (by go_simp; rfl)) rfl ?_
    exact hpost
/-- Set, whatever the list and the person -/
theorem acc_Set (o n p : Int) (on : Bool) (lc lf lb : List Int) (vc vf vb : Value) (w : World) (hc : SlI w vc lc) (hf : SlI w vf lf) (hb : SlI w vb lb) (hl1 : lc.length ≤ 1000) (hl2 : lf.length ≤ 1000) (hl3 : lb.length ≤ 1000) (s1 : lc.Pairwise (· ≤ ·)) (s2 : lf.Pairwise (· ≤ ·)) (s3 : lb.Pairwise (· ≤ ·)) :
    Calls Try.prog 58 #[.agg #[.int .i64 o, vc, vf, vb], .int .i64 n, .int .i64 p, .bool on] w (SetAny o lc lf lb n p on w) := by
  by_cases h : n < 1 ∨ 3 < n ∨ p < 1 ∨ 256 < p
  · exact acc_SetRange o n p on lc lf lb vc vf vb w hc hf hb h
  · obtain ⟨m, rfl⟩ : ∃ m : Nat, n = (m : Int) := ⟨n.toNat, by omega⟩
    refine (acc_SetG o p m on lc lf lb vc vf vb w hc hf hb hl1 hl2 hl3 (by omega) (by omega) (by omega) (by omega) (by unfold pickL; split; exact s1; split; exact s2; exact s3)).mono ?_
    rintro e w' ⟨v, err, rfl, he, hB, hv⟩
    refine ⟨v, err, rfl, by rw [he, wrongF, if_neg h, Int.toNat_natCast], hB, ?_⟩
    rcases hv with hv | ⟨h0, uc, uf, ub, rfl, q1, q2, q3⟩
    · exact .inl hv
    · have e1 : ((m : Int) = 1) = (m = 1) := by apply propext; omega
      have e2 : ((m : Int) = 2) = (m = 2) := by apply propext; omega
      have e3 : ((m : Int) = 3) = (m = 3) := by apply propext; omega
      exact .inr ⟨h0, uc, uf, ub, rfl, by simpa only [e1] using q1, by simpa only [e2] using q2, by simpa only [e3] using q3⟩
theorem idxS_1 (a1 a2 a3 : Option Addr) (l1 l2 l3 c1 c2 c3 : Nat) (w : World) : (Instr.index 89 (.agg #[.slice a1 l1 c1, .slice a2 l2 c2, .slice a3 l3 c3]) (.int .i64 (IntKind.i64.wrap 0))).run Try.prog w = .ok (.slice a1 l1 c1) w := by kernel_rfl
theorem idxS_2 (a1 a2 a3 : Option Addr) (l1 l2 l3 c1 c2 c3 : Nat) (w : World) : (Instr.index 89 (.agg #[.slice a1 l1 c1, .slice a2 l2 c2, .slice a3 l3 c3]) (.int .i64 (IntKind.i64.wrap 1))).run Try.prog w = .ok (.slice a2 l2 c2) w := by kernel_rfl
theorem idxS_3 (a1 a2 a3 : Option Addr) (l1 l2 l3 c1 c2 c3 : Nat) (w : World) : (Instr.index 89 (.agg #[.slice a1 l1 c1, .slice a2 l2 c2, .slice a3 l3 c3]) (.int .i64 (IntKind.i64.wrap 2))).run Try.prog w = .ok (.slice a3 l3 c3) w := by kernel_rfl
theorem idxS_n (m : Nat) (h1 : 1 ≤ m) (h3 : m ≤ 3) (a1 a2 a3 : Option Addr) (l1 l2 l3 c1 c2 c3 : Nat) (w : World) : (Instr.index 89 (.agg #[.slice a1 l1 c1, .slice a2 l2 c2, .slice a3 l3 c3]) (.int .i64 ((m : Int) - 1))).run Try.prog w = .ok (pickL m (.slice a1 l1 c1) (.slice a2 l2 c2) (.slice a3 l3 c3)) w := by
  obtain rfl | rfl | rfl : m = 1 ∨ m = 2 ∨ m = 3 := by omega
  · exact idxS_1 _ _ _ _ _ _ _ _ _ w
  · exact idxS_2 _ _ _ _ _ _ _ _ _ w
  · exact idxS_3 _ _ _ _ _ _ _ _ _ w
set_option maxRecDepth 100000 in
set_option maxHeartbeats 2000000 in
theorem law18_wrong (o n p : Int) (on : Bool) (lc lf lb : List Int) (vc vf vb : Value) (w : World) (hc : SlI w vc lc) (hf : SlI w vf lf) (hb : SlI w vb lb) (hl1 : lc.length ≤ 1000) (hl2 : lf.length ≤ 1000) (hl3 : lb.length ≤ 1000) (r : Int) (hr : Hid (wrongF o lc lf lb n p on = r)) :
    Calls Try.prog 59 #[.agg #[.int .i64 o, vc, vf, vb], .int .i64 n, .int .i64 p, .bool on] w fun e w' => e = .returned (.int .i64 r) ∧ Below w.heap.size w w' := by
  have HC := hid hc
  have HF := hid hf
  have HB := hid hb
  obtain ⟨a1, c1, rfl, -⟩ := hc
  obtain ⟨a2, c2, rfl, -⟩ := hf
  obtain ⟨a3, c3, rfl, -⟩ := hb
  have h := hr.out
  have HK : Hid (∀ x, Below w.heap.size w (w.alloc x)) := hid fun x => Below.new w x
  unfold wrongF at h
  by_cases g1 : n < 1
  · rw [if_pos (.inl g1)] at h; subst h
    go_enter Try.func59, Try.ntmps59
    go_wp2_with fail
    go_ret
    exact ⟨rfl, HK.out _⟩
  by_cases g2 : 3 < n
  · rw [if_pos (.inr (.inl g2))] at h; subst h
    go_enter Try.func59, Try.ntmps59
    go_wp2_with fail
    go_ret
    exact ⟨rfl, HK.out _⟩
  by_cases g3 : p < 1
  · rw [if_pos (.inr (.inr (.inl g3)))] at h; subst h
    go_enter Try.func59, Try.ntmps59
    go_wp2_with fail
    go_ret
    exact ⟨rfl, HK.out _⟩
  by_cases g4 : 256 < p
  · rw [if_pos (.inr (.inr (.inr g4)))] at h; subst h
    go_enter Try.func59, Try.ntmps59
    go_wp2_with fail
    go_ret
    exact ⟨rfl, HK.out _⟩
  rw [if_neg (by omega)] at h
  obtain ⟨m, rfl⟩ : ∃ m : Nat, n = (m : Int) := ⟨n.toNat, by omega⟩
  rw [Int.toNat_natCast] at h
  have hm1 : 1 ≤ m := by omega
  have hm3 : m ≤ 3 := by omega
  obtain ⟨ln, hln⟩ : ∃ ln, ln = pickL m lc lf lb := ⟨_, rfl⟩
  obtain ⟨un, hun⟩ : ∃ un, un = pickL m (Value.slice a1 lc.length c1) (Value.slice a2 lf.length c2) (Value.slice a3 lb.length c3) := ⟨_, rfl⟩
  have hs : SlI w un ln := by
    rw [hln, hun]; unfold pickL
    split; exact HC.out; split; exact HF.out; exact HB.out
  have hlen : ln.length ≤ 1000 := by rw [hln]; unfold pickL; split; exact hl1; split; exact hl2; exact hl3
  have hidx := idxS_n m hm1 hm3 a1 a2 a3 lc.length lf.length lb.length c1 c2 c3
  rw [← hun] at hidx
  rw [← hln] at h
  have HS := hid hs
  obtain ⟨qa, qc, rfl, -⟩ := hs
  have i1 : (1 : Int) ≤ (m : Int) := by omega
  have i2 : (m : Int) ≤ 3 := by omega
  obtain ⟨there, hth⟩ : ∃ there, decide (p ∈ ln) = there := ⟨_, rfl⟩
  have HTH := hid hth
  unfold errS at h
  have e3 : (p ∈ ln) = (there = true) := by rw [← hth]; simp
  simp only [e3] at h
  clear hr hln hun hth e3 HC HF HB hl1 hl2 hl3
  have hb0 : ∀ y, SlI (w.alloc y) (.slice qa ln.length qc) ln := fun y => HS.out.below (HK.out y)
  have HB0 := hid hb0
  clear hb0
  by_cases hpo : p = o
  · rw [if_pos hpo] at h; subst h
    have b1 : (p == o) = true := by simpa using hpo
    clear hpo
    go_enter Try.func59, Try.ntmps59
    go_wp2_with fail
    refine (ref18_On ln _ p _ (HB0.out _) there HTH).mono ?_
    rintro e w' ⟨rfl, rfl⟩
    go_wp2_with fail
    go_ret
    exact ⟨rfl, HK.out _⟩
  rw [if_neg hpo] at h
  have b1 : (p == o) = false := by simpa using hpo
  clear hpo
  cases on with
  | true =>
    rw [if_pos rfl] at h
    cases there with
    | true =>
      rw [if_pos rfl] at h; subst h
      go_enter Try.func59, Try.ntmps59
      go_wp2_with fail
      refine (ref18_On ln _ p _ (HB0.out _) true HTH).mono ?_
      rintro e w' ⟨rfl, rfl⟩
      go_wp2_with fail
      go_ret
      exact ⟨rfl, HK.out _⟩
    | false =>
      rw [if_neg (by simp)] at h
      by_cases hbig : 16 ≤ ln.length
      · rw [if_pos hbig] at h; subst h
        go_enter Try.func59, Try.ntmps59
        go_wp2_with fail
        refine (ref18_On ln _ p _ (HB0.out _) false HTH).mono ?_
        rintro e w' ⟨rfl, rfl⟩
        go_wp2_with fail
        go_ret
        exact ⟨rfl, HK.out _⟩
      · rw [if_neg hbig] at h; subst h
        go_enter Try.func59, Try.ntmps59
        go_wp2_with fail
        refine (ref18_On ln _ p _ (HB0.out _) false HTH).mono ?_
        rintro e w' ⟨rfl, rfl⟩
        go_wp2_with fail
        go_ret
        exact ⟨rfl, HK.out _⟩
  | false =>
    rw [if_neg (by simp)] at h
    cases there with
    | true =>
      rw [if_pos rfl] at h; subst h
      go_enter Try.func59, Try.ntmps59
      go_wp2_with fail
      refine (ref18_On ln _ p _ (HB0.out _) true HTH).mono ?_
      rintro e w' ⟨rfl, rfl⟩
      go_wp2_with fail
      go_ret
      exact ⟨rfl, HK.out _⟩
    | false =>
      rw [if_neg (by simp)] at h; subst h
      go_enter Try.func59, Try.ntmps59
      go_wp2_with fail
      refine (ref18_On ln _ p _ (HB0.out _) false HTH).mono ?_
      rintro e w' ⟨rfl, rfl⟩
      go_wp2_with fail
      go_ret
      exact ⟨rfl, HK.out _⟩
end Go.Proofs.Ytdchopckbklncaa
