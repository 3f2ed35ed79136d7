/- Joined texts, in this order: RtAdd, RtPut, RtSeq. Each one's first remark says what it proves; no condition beyond those that its theorems name. -/
import Derived.Test.YtjbnfppnmljbmaaGreatJLawLandFinds07
import Derived.RangeFuncNested
import Derived.RangeFuncBound
import Derived.RangeFuncCalls
import Derived.RangeFuncLeaves
import Derived.Shelf.Abstract
import Derived.Shelf.RegionOpen
import Derived.OwnWalkIn
import Derived.TacticsInMore
import Derived.LoopNIn
import Derived.LoopIn
import Derived.Maps.OwnIn
import Derived.Stop.RegionWithIn
import Derived.WalkArith
section
/- Contract of rtree's add. -/
namespace Go.Proofs.YtjbnfppnmljbmaaGreat
open Go.RowKit
open Go.Lib (hid)
set_option linter.unusedVariables false

def AddP (d e : Nat) (n x : Nd) (k : Nat) : Prop := k ∈ blkN (d + 1) n ∨ k ∈ blkN e x
def AddPost (d e : Nat) (n x : Nd) (w : World) (ed : Ending) (w' : World) : Prop :=
  ∃ n' o, ed = .returned (optP o) ∧ AddOk d w w' n (AddP d e n x) (thgN (d + 1) n ++ thgN e x) n' o
def AddSpec (d : Nat) : Prop := ∀ (e : Nat) (n x : Nd) (w : World), e ≤ d → d ≤ 1000 → NodeAt (d + 1) w n → NodeAt e w x → (blkN (d + 1) n ++ blkN e x).Nodup → Shape1 d n → (e < d → 1 ≤ n.ks.length) → ShapeN e x →
  Calls Tryz.prog 99 #[ptrN n, ptrN x] w (AddPost d e n x w)
theorem AddOk.base {d : Nat} {w w1 w' : World} {n n' : Nd} {P : Nat → Prop} {T : List Tg} {o : Option Nd} (h : AddOk d w1 w' n P T n' o) (hb : Below w.heap.size w w1) (hz : w1.heap.size = w.heap.size) : AddOk d w w' n P T n' o :=
  ⟨h.p, h.v, h.at', h.sh, h.two, h.nd, fun k hk => by have := h.fr k hk; rw [hz] at this; exact this, h.th, h.cnt, h.cnt1, h.two2, (Upd.of_below hb).trans h.upd (fun _ _ q => q)⟩
theorem RAt.upd {S : Nat → Prop} {w w' : World} {p : Nat} {r : R4} (h : RAt w p r) (hu : Upd S w w') (hn : ¬ S p) : RAt w' p r := by
  have hb := hu.block p (World.block_lt_of_cell? w _ h.1) hn
  exact ⟨(World.cell?_of_block hb).trans h.1, (World.cell?_of_block hb).trans h.2.1, (World.cell?_of_block hb).trans h.2.2.1, (World.cell?_of_block hb).trans h.2.2.2⟩
theorem Mid.apart {d : Nat} {w w1 : World} {n : Nd} {P : Nat → Prop} {ks : List Nd} {kv : Value} (h : Mid d w w1 n P ks kv) : ∀ k ∈ ks, k.p ≠ n.p := fun k hk e =>
  (List.nodup_cons.1 h.nd).1 (by rw [← e]; exact List.mem_append_right _ (List.mem_flatMap.2 ⟨k, hk, blkN_p d k⟩))
def MidR (d e : Nat) (w : World) (n x : Nd) (wx : World) : Prop :=
  ∃ ks1 a1 c1, Mid d w wx n (AddP d e n x) ks1 (.slice a1 ks1.length c1) ∧ ks1.length ≤ 5 ∧ 1 ≤ ks1.length ∧ n.ks.length ≤ ks1.length ∧ (thgF d ks1).Perm (thgN (d + 1) n ++ thgN e x)
theorem Mid.rat {d : Nat} {w w1 : World} {n : Nd} {P : Nat → Prop} {ks : List Nd} {kv : Value} (h : Mid d w w1 n P ks kv) : ∀ k ∈ ks, RAt w1 k.p k.r := fun k hk => (h.at' k hk).rat
theorem Mid.base {d : Nat} {w1 w2 w3 : World} {n : Nd} {P : Nat → Prop} {ks : List Nd} {kv : Value} (h : Mid d w2 w3 n P ks kv) (hb : Below w1.heap.size w1 w2) : Mid d w1 w3 n P ks kv :=
  ⟨h.blk, h.own, h.at', h.sh, h.nd, fun k hk => (h.fr k hk).imp id (fun q => Nat.le_trans hb.size q), (Upd.of_below hb).trans h.upd (fun k hk q => q)⟩
theorem perm_repl {L1 L2 K K' O X : List Tg} (h : (K' ++ O).Perm (K ++ X)) : ((L1 ++ (K' ++ L2)) ++ O).Perm ((L1 ++ (K ++ L2)) ++ X) := by
  rw [List.perm_iff_count] at h ⊢
  intro a
  have := h a
  simp only [List.count_append] at this ⊢
  omega
theorem thgF_mid (d : Nat) (l1 l2 : List Nd) (k : Nd) : thgF d (l1 ++ k :: l2) = thgF d l1 ++ (thgN d k ++ thgF d l2) := by simp [thgF, List.flatMap_append, List.flatMap_cons]
set_option maxRecDepth 100000 in
set_option maxHeartbeats 8000000 in
theorem rt_add_step (d : Nat) (ih : ∀ d', d = d' + 1 → AddSpec d') : AddSpec d := by
  intro e n x w he hd hn hx hnd hsh h1 hxs
  obtain ⟨D, hD⟩ : ∃ D : Int, ((d + 1 : Nat) : Int) = D := ⟨_, rfl⟩
  obtain ⟨E, hE⟩ : ∃ E : Int, (e : Int) = E := ⟨_, rfl⟩
  have hwE : IntKind.i64.wrap (E + 1) = E + 1 := by rw [IntKind.wrap_i64]; omega
  have hb6 := hn.blk.c7.2.2.2
  have hx6 := hx.blk.c7.2.2.2
  rw [hD] at hb6
  rw [hE] at hx6
  have HN := hid hn
  have HX := hid hx
  have HND := hid hnd
  have HSH := hid hsh
  have HXS := hid hxs
  have H1 := hid h1
  have HDE := hid (And.intro hD (And.intro hE (And.intro he hd)))
  have HIH := hid ih
  obtain ⟨p, hp⟩ : ∃ p, n.p = p := ⟨_, rfl⟩
  obtain ⟨q, hq⟩ : ∃ q, x.p = q := ⟨_, rfl⟩
  rw [hp] at hb6
  rw [hq] at hx6
  have HP := hid hp
  have HQ := hid hq
  obtain ⟨tb, htb⟩ : ∃ tb, (D == E + 1) = tb := ⟨_, rfl⟩
  have HTB : Hid (tb = true ↔ e = d) := hid (by rw [← htb]; simp; omega)
  unfold ptrN
  rw [hp, hq]
  clear hD hE hn hx hnd hsh hxs h1 he hd ih hp hq
  go_enter Tryz.func99, Tryz.ntmps99
  go_upto_region 1 with fail
  replace hb6 := fun (z : World) (hz : Below w.heap.size w z) => cellOf_belowR hz hb6
  replace hx6 := fun (z : World) (hz : Below w.heap.size w z) => cellOf_belowR hz hx6
  have hyd := (Below.refl w.heap.size w).drew
  refine wp_region_kept [] (fun z => Below w.heap.size w z) (by kernel_rfl) (by assumption) (fun hH => ?_)
  refine wpK.take (i := 0) (v := _) (by simp only [List.getElem?_toArray, List.getElem?_cons_succ, List.getElem?_cons_zero]; rfl) (by kernel_rfl) (by kernel_rfl) (by kernel_rfl) (by kernel_rfl) (by kernel_rfl) (by exact fun _ _ _ h => h) (by first | exact Or.inl ⟨by rfl, by intro w hSw; go_simp; try with_reducible rfl⟩ | exact Or.inr ⟨by rfl, rfl⟩) hH ?_
  try simp only [Act.put, List.setIfInBounds_toArray, List.set_cons_zero, List.set_cons_succ]
  refine wpK.take (i := 1) (v := _) (by simp only [List.getElem?_toArray, List.getElem?_cons_succ, List.getElem?_cons_zero]; rfl) (by kernel_rfl) (by kernel_rfl) (by kernel_rfl) (by kernel_rfl) (by kernel_rfl) (by exact fun _ _ _ h => h) (by first | exact Or.inl ⟨by rfl, by intro w hSw; go_simp; try with_reducible rfl⟩ | exact Or.inr ⟨by rfl, rfl⟩) hH ?_
  try simp only [Act.put, List.setIfInBounds_toArray, List.set_cons_zero, List.set_cons_succ]
  refine wpK.take (i := 2) (v := _) (by simp only [List.getElem?_toArray, List.getElem?_cons_succ, List.getElem?_cons_zero]; rfl) (by kernel_rfl) (by kernel_rfl) (by kernel_rfl) (by kernel_rfl) (by kernel_rfl) (by exact fun _ _ _ h => h) (by first | exact Or.inl ⟨by rfl, by intro w hSw; go_simp; try with_reducible rfl⟩ | exact Or.inr ⟨by rfl, rfl⟩) hH ?_
  try simp only [Act.put, List.setIfInBounds_toArray, List.set_cons_zero, List.set_cons_succ]
  refine wpK.take (i := 3) (v := _) (by simp only [List.getElem?_toArray, List.getElem?_cons_succ, List.getElem?_cons_zero]; rfl) (by kernel_rfl) (by kernel_rfl) (by kernel_rfl) (by kernel_rfl) (by kernel_rfl) (by exact fun _ _ _ h => h) (by first | exact Or.inl ⟨by rfl, by intro w hSw; go_simp; try with_reducible rfl⟩ | exact Or.inr ⟨by rfl, rfl⟩) hH ?_
  try simp only [Act.put, List.setIfInBounds_toArray, List.set_cons_zero, List.set_cons_succ]
  refine wpK.take (i := 4) (v := _) (by simp only [List.getElem?_toArray, List.getElem?_cons_succ, List.getElem?_cons_zero]; rfl) (by kernel_rfl) (by kernel_rfl) (by kernel_rfl) (by kernel_rfl) (by kernel_rfl) (by exact fun _ _ _ h => h) (by first | exact Or.inl ⟨by rfl, by intro w hSw; go_simp; try with_reducible rfl⟩ | exact Or.inr ⟨by rfl, rfl⟩) hH ?_
  try simp only [Act.put, List.setIfInBounds_toArray, List.set_cons_zero, List.set_cons_succ]
  refine wpK.take (i := 5) (v := _) (by simp only [List.getElem?_toArray, List.getElem?_cons_succ, List.getElem?_cons_zero]; rfl) (by kernel_rfl) (by kernel_rfl) (by kernel_rfl) (by kernel_rfl) (by kernel_rfl) (by exact fun _ _ _ h => h) (by first | exact Or.inl ⟨by rfl, by intro w hSw; go_simp; try with_reducible rfl⟩ | exact Or.inr ⟨by rfl, rfl⟩) hH ?_
  try simp only [Act.put, List.setIfInBounds_toArray, List.set_cons_zero, List.set_cons_succ]
  refine wpK.take (i := 6) (v := _) (by simp only [List.getElem?_toArray, List.getElem?_cons_succ, List.getElem?_cons_zero]; rfl) (by kernel_rfl) (by kernel_rfl) (by kernel_rfl) (by kernel_rfl) (by kernel_rfl) (by exact fun _ _ _ h => h) (by first | exact Or.inl ⟨by rfl, by intro w hSw; go_simp; try with_reducible rfl⟩ | exact Or.inr ⟨by rfl, rfl⟩) hH ?_
  try simp only [Act.put, List.setIfInBounds_toArray, List.set_cons_zero, List.set_cons_succ]
  refine wpK.take (i := 7) (v := _) (by simp only [List.getElem?_toArray, List.getElem?_cons_succ, List.getElem?_cons_zero]; rfl) (by kernel_rfl) (by kernel_rfl) (by kernel_rfl) (by kernel_rfl) (by kernel_rfl) (by exact fun _ _ _ h => h) (by first | exact Or.inl ⟨by rfl, by intro w hSw; go_simp; try with_reducible rfl⟩ | exact Or.inr ⟨by rfl, rfl⟩) hH ?_
  try simp only [Act.put, List.setIfInBounds_toArray, List.set_cons_zero, List.set_cons_succ]
  refine wpK.take (i := 8) (v := _) (by simp only [List.getElem?_toArray, List.getElem?_cons_succ, List.getElem?_cons_zero]; rfl) (by kernel_rfl) (by kernel_rfl) (by kernel_rfl) (by kernel_rfl) (by kernel_rfl) (by exact fun _ _ _ h => h) (by first | exact Or.inl ⟨by rfl, by intro w hSw; go_simp; try with_reducible rfl⟩ | exact Or.inr ⟨by rfl, rfl⟩) hH ?_
  try simp only [Act.put, List.setIfInBounds_toArray, List.set_cons_zero, List.set_cons_succ]
  refine wpK.take (i := 9) (v := _) (by simp only [List.getElem?_toArray, List.getElem?_cons_succ, List.getElem?_cons_zero]; rfl) (by kernel_rfl) (by kernel_rfl) (by kernel_rfl) (by kernel_rfl) (by kernel_rfl) (by exact fun _ _ _ h => h) (by first | exact Or.inl ⟨by rfl, by intro w hSw; go_simp; try with_reducible rfl⟩ | exact Or.inr ⟨by rfl, rfl⟩) hH ?_
  try simp only [Act.put, List.setIfInBounds_toArray, List.set_cons_zero, List.set_cons_succ]
  refine wpK.done (by kernel_rfl) ?_ _
  obtain ⟨w1, hw1⟩ : ∃ w1, w1 = w.drew := ⟨_, rfl⟩
  try rw [← hw1]
  have HB1 : Hid (Below w.heap.size w w1) := hid (by rw [hw1]; exact hyd)
  have HZ1 : Hid (w1.heap.size = w.heap.size) := hid (by rw [hw1]; rfl)
  clear hw1 hyd hH hb6 hx6 htb hwE
  have HN1 := hid (HN.out.below HB1.out)
  have HX1 := hid (HX.out.below HB1.out)
  have HM1 : Hid (Mid d w1 w1 n (AddP d e n x) n.ks n.kv) := hid (Mid.start HN1.out HSH.out (List.nodup_append.1 HND.out).1 (fun k hk => .inl hk))
  obtain ⟨a, c, hkv, -⟩ := SlN.of_own HN1.out.2.1 (fun k hk => (HN1.out.2.2 k hk).rat)
  obtain ⟨m, hm⟩ : ∃ m, n.ks.length = m := ⟨_, rfl⟩
  have HKV : Hid (n.kv = .slice a m c ∧ n.ks.length = m) := hid ⟨by rw [hkv, hm], hm⟩
  have HOWN : Hid (w1.ownsRow 0 111 1 (.slice a m c) m (ptrs n.ks)) := hid (by
    have := HN1.out.2.1
    rw [HKV.out.1] at this
    rw [← hm]; rw [← hm] at this; exact this)
  have hm4 : m ≤ 4 := by rw [← hm]; exact HSH.out.len
  have c4 : w1.cell? ⟨p, 4, none⟩ = some (.slice a m c) := by rw [← HKV.out.1, ← HP.out]; exact HN1.out.blk.c7.2.1
  have HAP : Hid (∀ k ∈ blkN e x, k ∉ blkN (d + 1) n) := hid (fun k hk q2 => (List.nodup_append.1 HND.out).2.2 k q2 k hk rfl)
  clear hkv hm
  go_upto_if 19 with fail
  go_cut [4] (fun v4 wx => v4 = .pointer none ∧ Hid (MidR d e w1 n x wx))
  case first =>
    cases tb with
    | true =>
      have hed := HTB.out.1 rfl
      go_wp2_with (at_builtin; refine wpList_append1w T_nodes _ rfl _ _ #[.pointer (some ⟨q, 0, none⟩)] rfl 0 _ _ _ rfl HOWN.out rfl rfl (by intro u hu; simp at hu; subst hu; rfl) ?c11 ?c12 ?_)
      case c11 => omega
      try (case c12 => omega)
      intro v' w2 hown' hg hne hwh
      have HG2 := hid hg
      obtain ⟨aN, cN, rfl, -⟩ := own_form hown'
      obtain ⟨w3, hw3⟩ : ∃ w3, w3 = w2.setCell ⟨p, 4, none⟩ (.slice aN (m + 1) cN) := ⟨_, rfl⟩
      have HW3 := hid hw3
      have hpo : ∀ k, (Value.slice a m c).ownBlock = some k → k ≠ p := fun k hk e0 => by
        have := HM1.out.nd
        rw [List.nodup_cons, HKV.out.1] at this
        exact this.1 (by rw [HP.out, ← e0]; simp [hk])
      have hblk2 : Blk w2 p (cells7 n.r (.slice a m c) n.v ((d + 1 : Nat) : Int)) := by
        have := HM1.out.blk
        rw [HP.out, HKV.out.1] at this
        exact this.upd (Upd.of_grown hg) (fun e0 => hpo p e0 rfl)
      have HMID : Hid (MidR d e w1 n x w3) := hid (by
        subst hed
        have hl : (n.ks ++ [x]).length = m + 1 := by rw [List.length_append, HKV.out.2]; rfl
        refine ⟨n.ks ++ [x], aN, cN, ?_, by omega, by omega, by simp, by simp [thgF, thgN, List.flatMap_append]⟩
        rw [hl]
        have hkv := HKV.out.1
        refine HM1.out.app HX1.out HXS.out (List.nodup_append.1 HND.out).2.1 (fun k hk q2 => HAP.out k hk q2) (fun k hk => .inl (.inr hk)) ?_ (by rw [hkv]; exact hg) (fun k hk => by rw [hkv]; exact hwh k hk) (by rw [HP.out]; exact hw3)
        show w2.ownsRow 0 _ 1 _ (n.ks ++ [x]).length ((n.ks ++ [x]).map ptrN)
        rw [hl, List.map_append, List.map_cons, List.map_nil]
        have e1 : ptrN x = .pointer (some ⟨q, 0, none⟩) := by unfold ptrN; rw [HQ.out]
        rw [e1]; exact hown')
      have k4 : w2.cell? ⟨p, 4, none⟩ = some (.slice a m c) := hblk2.c7.2.1
      have f4 : w2.frozen? ⟨p, 4, none⟩ = false := hblk2.unfrozen 4
      clear hown' hg hne hwh hw3 hpo hblk2 c4 hed
      go_wp2_with fail
      rw [← HW3.out]
      go_meet
      exact ⟨rfl, HMID⟩
    | false =>
      have hed : e < d := by
        have h1 : ¬ e = d := fun q2 => by have := HTB.out.2 q2; cases this
        have := HDE.out.2.2.1; omega
      obtain ⟨d', hd'⟩ : ∃ d', d = d' + 1 := ⟨d - 1, by omega⟩
      subst hd'
      have hm1 : 1 ≤ m := by have := H1.out hed; rw [HKV.out.2] at this; exact this
      have HED := hid hed
      clear hed
      obtain ⟨xr, hxr⟩ : ∃ r, x.r = r := ⟨_, rfl⟩
      have hrx := HX1.out.rat
      rw [hxr, HQ.out] at hrx
      obtain ⟨xx, xy, xa, xb⟩ := xr
      obtain ⟨x0, x1, x2, x3⟩ := hrx
      simp only at x0 x1 x2 x3
      have hblk1 : Blk w1 p (cells7 n.r (.slice a m c) n.v ((d' + 1 + 1 : Nat) : Int)) := by
        have := HM1.out.blk
        rw [HP.out, HKV.out.1] at this
        exact this
      have hsl1 : SlN w1 a m c n.ks := slN_of (by have := HM1.out.own; rw [HKV.out.1] at this; exact this) HM1.out.rat
      have hpk := rt_pick n.ks a m c p n.v _ n.r (xx, xy, xa, xb) w1 hblk1 hsl1 (by omega) (by omega)
      simp only [rV] at hpk
      have HPK := hid hpk
      clear hblk1 hsl1 hpk hxr
      go_wp2_with fail
      refine HPK.out.mono ?_
      rintro e2 w2 ⟨k, hk, rfl, hb2⟩
      have HK := hid hk
      have HB2 := hid hb2
      clear hk hb2 x0 x1 x2 x3 c4
      have HN2 := hid (HN1.out.below HB2.out)
      have HM2 : Hid (Mid (d' + 1) w2 w2 n (AddP (d' + 1) e n x) n.ks n.kv) := hid (Mid.start HN2.out HSH.out (List.nodup_append.1 HND.out).1 (fun k hk => .inl hk))
      have HKS : Hid (ShapeN (d' + 1) k) := hid (HSH.out.kids k HK.out)
      have HKN : Hid ((blkN (d' + 1) k ++ blkN e x).Nodup) := hid (by
        obtain ⟨n1, n2, n3⟩ := List.nodup_append.1 HND.out
        obtain ⟨-, n5⟩ := List.nodup_cons.1 n1
        obtain ⟨-, n6⟩ := nodup_own.1 n5
        rw [List.nodup_append]
        refine ⟨?_, n2, fun i hi j hj => n3 i ?_ j hj⟩
        · obtain ⟨l1, l2, e0⟩ := List.append_of_mem HK.out
          rw [e0] at n6
          simp only [blkF, List.flatMap_append, List.flatMap_cons] at n6
          exact (List.nodup_append.1 (List.nodup_append.1 n6).2.1).1
        · rw [blkN_succ]
          exact List.mem_cons_of_mem _ (List.mem_append_right _ (List.mem_flatMap.2 ⟨k, HK.out, hi⟩)))
      have hadd := (HIH.out d' rfl) e k x w2 (by have := HED.out; omega) (by have := HDE.out.2.2.2; omega) (HN2.out.2.2 k HK.out) (HX1.out.below HB2.out) HKN.out HKS.out.one (fun _ => by have := HKS.out.1.1; omega) HXS.out
      obtain ⟨pk, hpk⟩ : ∃ z, k.p = z := ⟨_, rfl⟩
      have HPKK := hid hpk
      unfold ptrN at hadd ⊢
      rw [hpk] at hadd ⊢
      rw [HQ.out] at hadd
      have HADD := hid hadd
      clear hadd hpk
      go_wp2_with fail
      refine HADD.out.mono ?_
      rintro e3 w3 ⟨k', o, rfl, ha⟩
      obtain ⟨l1, l2, hks⟩ := List.append_of_mem HK.out
      have HREP := hid (HM2.out.repl hks ha (fun j hj => by
        rcases hj with z | z
        · exact .inl z
        · exact .inr ⟨.inr z, fun q2 => HAP.out j z (by rw [blkN_succ]; exact q2)⟩) (by
        have := HKS.out.1.1
        rcases ha.cnt with z | z
        · omega
        · exact z))
      have HA := hid ha
      have HKS2 := hid hks
      have HLL : Hid ((l1 ++ k' :: l2).length = m) := hid (by rw [← HKV.out.2, hks]; simp)
      obtain ⟨vo, hvo⟩ : ∃ vo, optP o = vo := ⟨_, rfl⟩
      rw [hvo]
      clear ha hks
      cases o with
      | none =>
        obtain rfl : vo = .pointer none := hvo.symm
        have HMID : Hid (MidR (d' + 1) e w1 n x w3) := hid (by
          refine ⟨l1 ++ k' :: l2, a, c, ?_, by rw [HLL.out]; omega, by rw [HLL.out]; omega, by rw [HLL.out, HKV.out.2]; omega, ?_⟩
          · rw [HLL.out, ← HKV.out.1]; exact HREP.out.1.base HB2.out
          · have h1 := perm_repl (L1 := thgF (d' + 1) l1) (L2 := thgF (d' + 1) l2) HA.out.th
            simp only [Option.toList_none, List.flatMap_nil, List.append_nil] at h1
            rw [thgF_mid]
            have h2 : thgN (d' + 1 + 1) n = thgF (d' + 1) n.ks := rfl
            rw [h2, HKS2.out, thgF_mid]
            exact h1)
        clear hvo
        go_wp2_with fail
        go_meet
        exact ⟨rfl, HMID⟩
      | some y =>
        obtain ⟨py, hpy⟩ : ∃ z, y.p = z := ⟨_, rfl⟩
        have HPY := hid hpy
        obtain rfl : vo = .pointer (some ⟨py, 0, none⟩) := by rw [← hvo, ← hpy]; rfl
        obtain ⟨lk, hlk⟩ : ∃ l, l = l1 ++ k' :: l2 := ⟨_, rfl⟩
        have HLK := hid hlk
        have HOWN3 : Hid (w3.ownsRow 0 111 1 (.slice a m c) m (ptrs lk)) := hid (by
          have := HREP.out.1.own
          rw [HKV.out.1] at this
          have h2 : w3.ownsRow 0 111 1 (.slice a m c) (l1 ++ k' :: l2).length (ptrs (l1 ++ k' :: l2)) := this
          rw [HLL.out, ← hlk] at h2; exact h2)
        clear hlk
        have hblk3 : Blk w3 p (cells7 n.r (.slice a m c) n.v ((d' + 1 + 1 : Nat) : Int)) := by
          have := HREP.out.1.blk
          rw [HP.out, HKV.out.1] at this
          exact this
        have HBLK3 := hid hblk3
        have c4 : w3.cell? ⟨p, 4, none⟩ = some (.slice a m c) := hblk3.c7.2.1
        clear hvo hpy hblk3
        go_wp2_with (at_builtin; refine wpList_append1w T_nodes _ rfl _ _ #[.pointer (some ⟨py, 0, none⟩)] rfl 0 _ _ _ rfl HOWN3.out rfl rfl (by intro u hu; simp at hu; subst hu; rfl) ?c21 ?c22 ?_)
        case c21 => omega
        try (case c22 => omega)
        intro v' w4 hown' hg hne hwh
        obtain ⟨aN, cN, rfl, -⟩ := own_form hown'
        obtain ⟨w5, hw5⟩ : ∃ w5, w5 = w4.setCell ⟨p, 4, none⟩ (.slice aN (m + 1) cN) := ⟨_, rfl⟩
        have HW5 := hid hw5
        have hpo : ∀ k, (Value.slice a m c).ownBlock = some k → k ≠ p := fun k hk e0 => by
          have := HREP.out.1.nd
          rw [List.nodup_cons, HKV.out.1] at this
          exact this.1 (by rw [HP.out, ← e0]; simp [hk])
        have hblk4 : Blk w4 p (cells7 n.r (.slice a m c) n.v ((d' + 1 + 1 : Nat) : Int)) := HBLK3.out.upd (Upd.of_grown hg) (fun e0 => hpo p e0 rfl)
        have HMID : Hid (MidR (d' + 1) e w1 n x w5) := hid (by
          have hl : ((l1 ++ k' :: l2) ++ [y]).length = m + 1 := by rw [List.length_append, HLL.out]; rfl
          refine ⟨(l1 ++ k' :: l2) ++ [y], aN, cN, ?_, by rw [hl]; omega, by rw [hl]; omega, by rw [hl, HKV.out.2]; omega, ?_⟩
          · rw [hl]
            obtain ⟨t1, t2⟩ := HA.out.two y rfl
            obtain ⟨t3, t4, t5⟩ := HREP.out.2 y rfl
            have hkv := HKV.out.1
            refine Mid.base (HREP.out.1.app t1 t2 t3 t4 t5 ?_ (by rw [hkv]; exact hg) (fun k hk => by rw [hkv]; exact hwh k hk) (by rw [HP.out]; exact hw5)) HB2.out
            show w4.ownsRow 0 _ 1 _ ((l1 ++ k' :: l2) ++ [y]).length (((l1 ++ k' :: l2) ++ [y]).map ptrN)
            rw [hl, ← HLK.out, List.map_append, List.map_cons, List.map_nil]
            have e1 : ptrN y = .pointer (some ⟨py, 0, none⟩) := by unfold ptrN; rw [HPY.out]
            rw [e1]; exact hown'
          · have h1 := perm_repl (L1 := thgF (d' + 1) l1) (L2 := thgF (d' + 1) l2) HA.out.th
            have e3 : thgF (d' + 1) ((l1 ++ k' :: l2) ++ [y]) = (thgF (d' + 1) l1 ++ (thgN (d' + 1) k' ++ thgF (d' + 1) l2)) ++ thgN (d' + 1) y := by
              rw [← thgF_mid]; simp [thgF, List.flatMap_append]
            rw [e3]
            have h2 : thgN (d' + 1 + 1) n = thgF (d' + 1) n.ks := rfl
            rw [h2, HKS2.out, thgF_mid]
            simpa using h1)
        have k4 : w4.cell? ⟨p, 4, none⟩ = some (.slice a m c) := hblk4.c7.2.1
        have f4 : w4.frozen? ⟨p, 4, none⟩ = false := hblk4.unfrozen 4
        clear hown' hg hne hwh hw5 hpo hblk4 c4
        go_wp2_with fail
        rw [← HW5.out]
        go_meet
        exact ⟨rfl, HMID⟩
  case rest =>
  obtain ⟨rfl, HMR⟩ := hcut
  obtain ⟨ks, a1, c1, hmid, h5, hk1, hc0, hth⟩ := HMR.out
  obtain ⟨m1, hm1⟩ : ∃ m, ks.length = m := ⟨_, rfl⟩
  have HC := hid (And.intro h5 (And.intro hk1 (And.intro hc0 hth)))
  have HML := hid hm1
  rw [hm1] at hmid h5 hk1
  have HMID := hid hmid
  have hblk : Blk wc p (cells7 n.r (.slice a1 m1 c1) n.v D) := by
    have := hmid.blk
    rw [HP.out, HDE.out.1] at this
    exact this
  have HBLK := hid hblk
  have HSL : Hid (SlN wc a1 m1 c1 ks) := hid (slN_of hmid.own hmid.rat)
  obtain ⟨-, c4', -⟩ := hblk.c7
  have HMB := hid (fun (w9 : World) (n' : Nd) (o : Option Nd) (h : AddOk d w1 w9 n (AddP d e n x) (thgN (d + 1) n ++ thgN e x) n' o) => h.base HB1.out HZ1.out)
  clear HMR hmid hc0 hth hm1 hblk c4
  by_cases h4 : m1 ≤ 4
  · have h4i : ¬ (4 : Int) < (m1 : Int) := by omega
    have hfit := rt_fit ks a1 m1 c1 p n.r n.v D wc HBLK.out HSL.out (by omega)
    have HFIT := hid hfit
    clear hfit
    go_wp2_with fail
    refine HFIT.out.mono ?_
    rintro e9 w9 ⟨rfl, hb9, hu9⟩
    have HR : Hid (AddPost d e n x w (.returned (.pointer none)) w9) := hid (by
      refine ⟨_, none, rfl, HMB.out _ _ _ (HMID.out.fit (by rw [HML.out]; exact h4) (by rw [HML.out]; exact hk1) HC.out.2.2.1 HC.out.2.2.2 ?_ ?_)⟩
      · rw [HP.out, HDE.out.1]; exact hb9
      · rw [HP.out]; exact hu9)
    clear hb9 hu9 c4'
    go_wp2_with fail
    go_ret
    exact HR.out
  · have h4i : (4 : Int) < (m1 : Int) := by omega
    obtain rfl : m1 = 5 := by omega
    have hpart := rt_part ks a1 c1 wc HSL.out
    have HPART := hid hpart
    clear hpart
    go_wp2_with fail
    refine HPART.out.mono ?_
    rintro e6 w2 ⟨la, lb, a2, c2, a3, c3, rfl, hoa, hob, hab, hpm, hla2, hlb2, hb2⟩
    obtain ⟨X, hX⟩ : ∃ X, la.length = X := ⟨_, rfl⟩
    obtain ⟨Y, hY⟩ : ∃ Y, lb.length = Y := ⟨_, rfl⟩
    rw [hX] at hoa
    rw [hY] at hob
    rw [hX, hY]
    have HOA := hid hoa
    have HOB := hid hob
    have HXY := hid (And.intro hX (And.intro hY (And.intro hla2 (And.intro hlb2 hpm))))
    have HAB := hid hab
    have HB2 := hid hb2
    have hX4 : X ≤ 4 := by have h9 := hpm.length_eq; rw [List.length_append, HML.out, hX, hY] at h9; omega
    have hY4 : Y ≤ 4 := by have h9 := hpm.length_eq; rw [List.length_append, HML.out, hX, hY] at h9; omega
    have hblk2 := HBLK.out.below hb2
    have HBLK2 := hid hblk2
    obtain ⟨-, k4, -, k6⟩ := hblk2.c7
    have f4 : w2.frozen? ⟨p, 4, none⟩ = false := hblk2.unfrozen 4
    have hblk3 : Blk (w2.setCell ⟨p, 4, none⟩ (.slice a2 X c2)) p (cells7 n.r (.slice a2 X c2) n.v D) := by simpa [cells7] using hblk2.set 4 (.slice a2 X c2)
    have k6' : (w2.setCell ⟨p, 4, none⟩ (.slice a2 X c2)).cell? ⟨p, 6, none⟩ = some (.int .i64 D) := hblk3.c7.2.2.2
    have HBLK3 := hid hblk3
    clear hX hY hla2 hlb2 hpm hoa hob hab hb2 hblk2 hblk3 c4'
    go_upto_region 12 with fail
    clear k4 k6 k6' f4
    obtain ⟨w3, hw3⟩ : ∃ w3, w3 = w2.setCell ⟨p, 4, none⟩ (.slice a2 X c2) := ⟨_, rfl⟩
    rw [← hw3] at HBLK3 ⊢
    have hu3 : Upd (fun k => k = p) w2 w3 := by rw [hw3]; exact Upd.setCell w2 p 4 _
    obtain ⟨w4, hw4⟩ : ∃ w4, w4 = w3.alloc (.cells #[.int .i64 0, .int .i64 0, .int .i64 0, .int .i64 0, .slice a3 Y c3, .int .i64 0, .int .i64 D] 120) := ⟨_, rfl⟩
    try rw [← hw4]
    obtain ⟨p2, hp2⟩ : ∃ g, g = w3.heap.size := ⟨_, rfl⟩
    have hp2b : p2 = w2.heap.size := by rw [hp2, hw3]; simp
    try rw [← hp2]
    try rw [← hp2b]
    have hb4 : Below w3.heap.size w3 w4 := by rw [hw4]; exact Below.new _ _
    have hs4 : Blk w4 p2 (cells7 zR (.slice a3 Y c3) 0 D) := by rw [hw4, hp2]; exact Blk.new _ _ _
    have HU3 := hid hu3
    have HB4 := hid hb4
    have HS4 := hid hs4
    have HP2 := hid (And.intro hp2 hp2b)
    have HNP : Hid (∀ k ∈ ks, k.p ≠ p) := hid (fun k hk => by rw [← HP.out]; exact HMID.out.apart k hk)
    have HPL : Hid (p < wc.heap.size) := hid HBLK.out.lt
    have HR4 : Hid (∀ k ∈ ks, RAt w4 k.p k.r) := hid (fun k hk => (((HMID.out.rat k hk).below HB2.out).upd hu3 (HNP.out k hk)).below hb4)
    have HOA4 : Hid (ownP w4 (.slice a2 X c2) la) := hid (owns_below (owns_base0 (hu3.owns HOA.out (fun k hk e0 => by have := (HOA.out.lt k hk).1; have := HPL.out; omega)) (Nat.zero_le _)) hb4)
    have HOB4 : Hid (ownP w4 (.slice a3 Y c3) lb) := hid (owns_below (owns_base0 (hu3.owns HOB.out (fun k hk e0 => by have := (HOB.out.lt k hk).1; have := HPL.out; omega)) (Nat.zero_le _)) hb4)
    have HMA : Hid ((∀ k ∈ la, k ∈ ks) ∧ (∀ k ∈ lb, k ∈ ks)) := hid ⟨fun k hk => HXY.out.2.2.2.2.mem_iff.1 (by simp [hk]), fun k hk => HXY.out.2.2.2.2.mem_iff.1 (by simp [hk])⟩
    have hfit := rt_fit lb a3 Y c3 p2 zR 0 D w4 HS4.out (slN_of HOB4.out (fun k hk => HR4.out k (HMA.out.2 k hk))) (by omega)
    have HFIT := hid hfit
    clear hfit hw3 hu3 hw4 hp2 hp2b hb4 hs4
    go_wp2_with fail
    refine HFIT.out.mono ?_
    rintro e7 w5 ⟨rfl, hb5, hu5⟩
    have HB5 := hid hb5
    have HU5 := hid hu5
    have HPP : Hid (p ≠ p2 ∧ (∀ k ∈ ks, k.p ≠ p2) ∧ wc.heap.size ≤ p2 ∧ (∀ k, (Value.slice a2 X c2).ownBlock = some k → k ≠ p2)) := hid (by
      have z1 := HP2.out.2
      have z2 := HB2.out.size
      have z3 := HPL.out
      refine ⟨by omega, fun k hk e0 => ?_, by omega, fun k hk e0 => ?_⟩
      · have := (HMID.out.at' k hk).blk.lt; omega
      · have := (HOA.out.lt k hk).2; omega)
    have hblk5 : Blk w5 p (cells7 n.r (.slice a2 X c2) n.v D) := (HBLK3.out.below HB4.out).upd hu5 HPP.out.1
    have hfit := rt_fit la a2 X c2 p n.r n.v D w5 hblk5 (slN_of (hu5.owns HOA4.out (fun k hk e0 => HPP.out.2.2.2 k hk e0)) (fun k hk => (HR4.out k (HMA.out.1 k hk)).upd hu5 (HPP.out.2.1 k (HMA.out.1 k hk)))) (by omega)
    have HFIT2 := hid hfit
    clear hfit hb5 hu5 hblk5
    go_wp2_with fail
    refine HFIT2.out.mono ?_
    rintro e8 w6 ⟨rfl, hb6, hu6⟩
    have HR : Hid (AddPost d e n x w (.returned (.pointer (some ⟨p2, 0, none⟩))) w6) := hid (by
      refine ⟨_, some ⟨p2, boundR (lb.map (·.r)), .slice a3 Y c3, 0, lb⟩, rfl, HMB.out _ _ _ (HMID.out.part (by rw [HML.out]; omega) HC.out.2.2.2 HXY.out.2.2.2.2 HXY.out.2.2.1 HXY.out.2.2.2.1 HB2.out HOA.out HOB.out (fun k hk q2 => HAB.out k (by rw [obk_of] at hk; exact hk) (by rw [obk_of] at q2; exact q2)) (by rw [HP.out]; exact HU3.out) HB4.out HP2.out.1 HU5.out ?_ (by rw [HP.out]; exact hu6) ?_)⟩
      · rw [HDE.out.1]; exact HB5.out
      · rw [HP.out, HDE.out.1]; exact hb6)
    clear hb6 hu6
    go_wp2_with fail
    go_ret
    exact HR.out
theorem rt_add : ∀ (d : Nat), AddSpec d
  | 0 => rt_add_step 0 (fun d' h => by omega)
  | d + 1 => rt_add_step (d + 1) (fun d' h => by
    obtain rfl : d = d' := by omega
    exact rt_add d)
end Go.Proofs.YtjbnfppnmljbmaaGreat
end
section
/- Contract of rtree's put. -/
namespace Go.Proofs.YtjbnfppnmljbmaaGreat
open Go.RowKit
open Go.Lib (hid)
set_option linter.unusedVariables false

/-- a tree in memory: its own block, its root of depth d + 1 -/
structure TreeAt (w : World) (s d : Nat) (n : Nd) (cnt : Int) : Prop where
  blk : Blk w s #[ptrN n, .int .i64 cnt]
  node : NodeAt (d + 1) w n
  nd : (s :: blkN (d + 1) n).Nodup
  sh : Shape1 d n
theorem TreeAt.lt {w : World} {s d : Nat} {n : Nd} {cnt : Int} (h : TreeAt w s d n cnt) : ∀ k ∈ s :: blkN (d + 1) n, k < w.heap.size := fun k hk => by
  rcases List.mem_cons.1 hk with rfl | hk
  · exact h.blk.lt
  · exact h.node.lt k hk
theorem TreeAt.upd {S : Nat → Prop} {w w' : World} {s d : Nat} {n : Nd} {cnt : Int} (h : TreeAt w s d n cnt) (hu : Upd S w w') (hS : ∀ k ∈ s :: blkN (d + 1) n, ¬ S k) : TreeAt w' s d n cnt :=
  ⟨h.blk.upd hu (hS s (by simp)), h.node.upd hu (fun k hk => hS k (by simp [hk])), h.nd, h.sh⟩
theorem TreeAt.below {w w' : World} {s d : Nat} {n : Nd} {cnt : Int} (h : TreeAt w s d n cnt) (hb : Below w.heap.size w w') : TreeAt w' s d n cnt := h.upd (S := fun _ => False) (Upd.of_below hb) (fun _ _ q => q)
/-- what put leaves -/
structure PutOk (w w' : World) (s d : Nat) (n : Nd) (cnt : Int) (P : Nat → Prop) (T : List Tg) (d' : Nat) (n' : Nd) : Prop where
  tree : TreeAt w' s d' n' cnt
  dep : d ≤ d' ∧ d' ≤ d + 1
  fr : ∀ k ∈ blkN (d' + 1) n', P k ∨ w.heap.size ≤ k
  th : (thgN (d' + 1) n').Perm T
  cnt1 : 1 ≤ n'.ks.length
  cnt2 : n.ks.length ≤ n'.ks.length ∨ 2 ≤ n'.ks.length
  up : d < d' → 2 ≤ n'.ks.length
  upd : Upd (fun k => k = s ∨ P k) w w'
def PutPost (d e s : Nat) (n x : Nd) (cnt : Int) (w : World) (ed : Ending) (w' : World) : Prop :=
  ed = .returned (.tuple #[]) ∧ ∃ d' n', PutOk w w' s d n cnt (AddP d e n x) (thgN (d + 1) n ++ thgN e x) d' n'
theorem lit_ptr2 (p q : Nat) (W : World) : (Instr.buildSlice 118 2 #[(0, .pointer (some ⟨p, 0, none⟩)), (1, .pointer (some ⟨q, 0, none⟩))]).run Tryz.prog W = .ok (.slice (some ⟨W.heap.size, 0, none⟩) 2 2) (W.alloc (.cells #[.pointer (some ⟨p, 0, none⟩), .pointer (some ⟨q, 0, none⟩)] 111)) := by kernel_rfl
set_option maxRecDepth 100000 in
set_option maxHeartbeats 4000000 in
theorem rt_put (d e s : Nat) (n x : Nd) (cnt : Int) (w : World) (he : e ≤ d) (hd : d ≤ 1000) (ht : TreeAt w s d n cnt) (hx : NodeAt e w x) (hnd : (s :: (blkN (d + 1) n ++ blkN e x)).Nodup) (h1 : e < d → 1 ≤ n.ks.length) (hxs : ShapeN e x) :
    Calls Tryz.prog 73 #[.pointer (some ⟨s, 0, none⟩), ptrN x] w (PutPost d e s n x cnt w) := by
  obtain ⟨hn1, hn2⟩ := List.nodup_cons.1 hnd
  have hadd := rt_add d e n x w he hd ht.node hx hn2 ht.sh h1 hxs
  obtain ⟨p, hp⟩ : ∃ z, n.p = z := ⟨_, rfl⟩
  obtain ⟨q, hq⟩ : ∃ z, x.p = z := ⟨_, rfl⟩
  unfold ptrN at hadd ⊢
  rw [hp, hq] at hadd
  rw [hq]
  have HADD := hid hadd
  have HT := hid ht
  have HP := hid hp
  have HS : Hid (∀ k, AddP d e n x k → k ≠ s) := hid (fun k hk e0 => hn1 (by rw [← e0]; simp only [List.mem_append]; exact hk))
  have hb := ht.blk
  unfold ptrN at hb
  rw [hp] at hb
  have HB := hid hb
  obtain ⟨c0, c1, -, -⟩ := hb.c2
  have HD := hid hd
  clear hadd hn1 hn2 hnd hx hxs h1 he hd ht hp hq hb
  go_enter Tryz.func73, Tryz.ntmps73
  go_wp2_with fail
  refine HADD.out.mono ?_
  rintro e1 w1 ⟨n', o, rfl, ha⟩
  have HA := hid ha
  have hb1 : Blk w1 s #[.pointer (some ⟨p, 0, none⟩), .int .i64 cnt] := HB.out.upd ha.upd (fun z => HS.out s z rfl)
  have HB1 := hid hb1
  obtain ⟨vo, hvo⟩ : ∃ vo, optP o = vo := ⟨_, rfl⟩
  rw [hvo]
  clear ha c0 c1
  cases o with
  | none =>
    obtain rfl : vo = .pointer none := hvo.symm
    have HR : Hid (PutPost d e s n x cnt w (.returned (.tuple #[])) w1) := hid (by
      have hnd := HA.out.nd
      have hth := HA.out.th
      have hfr := HA.out.fr
      simp only [Option.toList_none, List.flatMap_nil, List.append_nil] at hnd hth hfr
      refine ⟨rfl, d, n', ⟨?_, HA.out.at', ?_, HA.out.sh⟩, ⟨Nat.le_refl _, Nat.le_succ _⟩, hfr, hth, HA.out.cnt1, HA.out.cnt, fun z => absurd z (Nat.lt_irrefl _), HA.out.upd.mono (fun k _ z => .inr z)⟩
      · have e2 : ptrN n' = .pointer (some ⟨p, 0, none⟩) := by unfold ptrN; rw [HA.out.p, HP.out]
        rw [e2]; exact HB1.out
      · rw [List.nodup_cons]
        refine ⟨fun z => ?_, hnd⟩
        rcases hfr s z with y | y
        · exact HS.out s y rfl
        · have := HB.out.lt; omega)
    clear hvo hb1
    go_wp2_with fail
    go_end0
    exact HR.out
  | some y =>
    obtain ⟨py, hpy⟩ : ∃ z, y.p = z := ⟨_, rfl⟩
    have HPY := hid hpy
    obtain rfl : vo = .pointer (some ⟨py, 0, none⟩) := by rw [← hvo, ← hpy]; rfl
    have hnb : Blk w1 p (cells7 n'.r n'.kv n'.v ((d + 1 : Nat) : Int)) := by
      have := HA.out.at'.blk
      rw [HA.out.p, HP.out] at this
      exact this
    have c0 : ∀ z, Below w1.heap.size w1 z → z.cell? ⟨s, 0, none⟩ = some (.pointer (some ⟨p, 0, none⟩)) := fun z hz => by rw [(HB1.out.below hz).cell]; rfl
    have hc6 := hnb.c7.2.2.2
    obtain ⟨D, hD⟩ : ∃ D : Int, ((d + 1 : Nat) : Int) = D := ⟨_, rfl⟩
    rw [hD] at hc6
    have HDD := hid hD
    have c6 : ∀ z, Below w1.heap.size w1 z → z.cell? ⟨p, 6, none⟩ = some (.int .i64 D) := fun z hz => cellOf_belowR hz hc6
    have hwD : IntKind.i64.wrap (D + 1) = D + 1 := by rw [IntKind.wrap_i64]; have := HD.out; omega
    clear hvo hpy hnb hc6 hD hb1
    go_upto_region 2 with fail
    have hyd := (Below.refl w1.heap.size w1).drew
    refine wp_region_kept [17, 18, 19] (fun z => Below w1.heap.size w1 z) (by kernel_rfl) (by assumption) (fun hH => ?_)
    refine wpK.take (i := 0) (v := _) (by simp only [List.getElem?_toArray, List.getElem?_cons_succ, List.getElem?_cons_zero]; rfl) (by kernel_rfl) (by kernel_rfl) (by kernel_rfl) (by kernel_rfl) (by kernel_rfl) (by exact fun _ _ _ h => h) (by first | exact Or.inl ⟨by rfl, by intro w hSw; go_simp; try with_reducible rfl⟩ | exact Or.inr ⟨by rfl, rfl⟩) hH ?_
    try simp only [Act.put, List.setIfInBounds_toArray, List.set_cons_zero, List.set_cons_succ]
    refine wpK.take (i := 1) (v := _) (by simp only [List.getElem?_toArray, List.getElem?_cons_succ, List.getElem?_cons_zero]; rfl) (by kernel_rfl) (by kernel_rfl) (by kernel_rfl) (by kernel_rfl) (by kernel_rfl) (by exact fun _ _ _ h => h) (by first | exact Or.inl ⟨by rfl, by intro w hSw; go_simp; try with_reducible rfl⟩ | exact Or.inr ⟨by rfl, rfl⟩) hH ?_
    try simp only [Act.put, List.setIfInBounds_toArray, List.set_cons_zero, List.set_cons_succ]
    refine wpK.take (i := 2) (v := _) (by simp only [List.getElem?_toArray, List.getElem?_cons_succ, List.getElem?_cons_zero]; rfl) (by kernel_rfl) (by kernel_rfl) (by kernel_rfl) (by kernel_rfl) (by kernel_rfl) (by exact fun _ _ _ h => h) (by first | exact Or.inl ⟨by rfl, by intro w hSw; go_simp; try with_reducible rfl⟩ | exact Or.inr ⟨by rfl, rfl⟩) hH ?_
    try simp only [Act.put, List.setIfInBounds_toArray, List.set_cons_zero, List.set_cons_succ]
    refine wpK.take (i := 3) (v := _) (by simp only [List.getElem?_toArray, List.getElem?_cons_succ, List.getElem?_cons_zero]; rfl) (by kernel_rfl) (by kernel_rfl) (by kernel_rfl) (by kernel_rfl) (by kernel_rfl) (by exact fun _ _ _ h => h) (by first | exact Or.inl ⟨by rfl, by intro w hSw; go_simp; try with_reducible rfl⟩ | exact Or.inr ⟨by rfl, rfl⟩) hH ?_
    try simp only [Act.put, List.setIfInBounds_toArray, List.set_cons_zero, List.set_cons_succ]
    refine wpK.take (i := 4) (v := _) (by simp only [List.getElem?_toArray, List.getElem?_cons_succ, List.getElem?_cons_zero]; rfl) (by kernel_rfl) (by kernel_rfl) (by kernel_rfl) (by kernel_rfl) (by kernel_rfl) (by exact fun _ _ _ h => h) (by first | exact Or.inl ⟨by rfl, by intro w hSw; go_simp; try with_reducible rfl⟩ | exact Or.inr ⟨by rfl, rfl⟩) hH ?_
    try simp only [Act.put, List.setIfInBounds_toArray, List.set_cons_zero, List.set_cons_succ]
    refine wpK.take (i := 5) (v := _) (by simp only [List.getElem?_toArray, List.getElem?_cons_succ, List.getElem?_cons_zero]; rfl) (by kernel_rfl) (by kernel_rfl) (by kernel_rfl) (by kernel_rfl) (by kernel_rfl) (by exact fun _ _ _ h => h) (by first | exact Or.inl ⟨by rfl, by intro w hSw; go_simp; try with_reducible rfl⟩ | exact Or.inr ⟨by rfl, rfl⟩) hH ?_
    try simp only [Act.put, List.setIfInBounds_toArray, List.set_cons_zero, List.set_cons_succ]
    refine wpK.take (i := 7) (v := _) (by simp only [List.getElem?_toArray, List.getElem?_cons_succ, List.getElem?_cons_zero]; rfl) (by kernel_rfl) (by kernel_rfl) (by kernel_rfl) (by kernel_rfl) (by kernel_rfl) (by exact fun _ _ _ h => h) (by first | exact Or.inl ⟨by rfl, by intro w hSw; go_simp; try with_reducible rfl⟩ | exact Or.inr ⟨by rfl, rfl⟩) hH ?_
    try simp only [Act.put, List.setIfInBounds_toArray, List.set_cons_zero, List.set_cons_succ]
    refine wpK.take (i := 8) (v := _) (by simp only [List.getElem?_toArray, List.getElem?_cons_succ, List.getElem?_cons_zero]; rfl) (by kernel_rfl) (by kernel_rfl) (by kernel_rfl) (by kernel_rfl) (by kernel_rfl) (by exact fun _ _ _ h => h) (by first | exact Or.inl ⟨by rfl, by intro w hSw; go_simp; try with_reducible rfl⟩ | exact Or.inr ⟨by rfl, rfl⟩) hH ?_
    try simp only [Act.put, List.setIfInBounds_toArray, List.set_cons_zero, List.set_cons_succ]
    refine wpK.take (i := 9) (v := _) (by simp only [List.getElem?_toArray, List.getElem?_cons_succ, List.getElem?_cons_zero]; rfl) (by kernel_rfl) (by kernel_rfl) (by kernel_rfl) (by kernel_rfl) (by kernel_rfl) (by exact fun _ _ _ h => h) (by first | exact Or.inl ⟨by rfl, by intro w hSw; go_simp; try with_reducible rfl⟩ | exact Or.inr ⟨by rfl, rfl⟩) hH ?_
    try simp only [Act.put, List.setIfInBounds_toArray, List.set_cons_zero, List.set_cons_succ]
    refine wpK.take (i := 10) (v := _) (by simp only [List.getElem?_toArray, List.getElem?_cons_succ, List.getElem?_cons_zero]; rfl) (by kernel_rfl) (by kernel_rfl) (by kernel_rfl) (by kernel_rfl) (by kernel_rfl) (by exact fun _ _ _ h => h) (by first | exact Or.inl ⟨by rfl, by intro w hSw; go_simp; try with_reducible rfl⟩ | exact Or.inr ⟨by rfl, rfl⟩) hH ?_
    try simp only [Act.put, List.setIfInBounds_toArray, List.set_cons_zero, List.set_cons_succ]
    refine wpK.take (i := 11) (v := _) (by simp only [List.getElem?_toArray, List.getElem?_cons_succ, List.getElem?_cons_zero]; rfl) (by kernel_rfl) (by kernel_rfl) (by kernel_rfl) (by kernel_rfl) (by kernel_rfl) (by exact fun _ _ _ h => h) (by first | exact Or.inl ⟨by rfl, by intro w hSw; go_simp; try with_reducible rfl⟩ | exact Or.inr ⟨by rfl, rfl⟩) hH ?_
    try simp only [Act.put, List.setIfInBounds_toArray, List.set_cons_zero, List.set_cons_succ]
    refine wpK.take (i := 12) (v := _) (by simp only [List.getElem?_toArray, List.getElem?_cons_succ, List.getElem?_cons_zero]; rfl) (by kernel_rfl) (by kernel_rfl) (by kernel_rfl) (by kernel_rfl) (by kernel_rfl) (by exact fun _ _ _ h => h) (by first | exact Or.inl ⟨by rfl, by intro w hSw; go_simp; try with_reducible rfl⟩ | exact Or.inr ⟨by rfl, rfl⟩) hH ?_
    try simp only [Act.put, List.setIfInBounds_toArray, List.set_cons_zero, List.set_cons_succ]
    refine wpK.take (i := 13) (v := _) (by simp only [List.getElem?_toArray, List.getElem?_cons_succ, List.getElem?_cons_zero]; rfl) (by kernel_rfl) (by kernel_rfl) (by kernel_rfl) (by kernel_rfl) (by kernel_rfl) (by exact fun _ _ _ h => h) (by first | exact Or.inl ⟨by rfl, by intro w hSw; go_simp; try with_reducible rfl⟩ | exact Or.inr ⟨by rfl, rfl⟩) hH ?_
    try simp only [Act.put, List.setIfInBounds_toArray, List.set_cons_zero, List.set_cons_succ]
    refine wpK.take (i := 14) (v := _) (by simp only [List.getElem?_toArray, List.getElem?_cons_succ, List.getElem?_cons_zero]; rfl) (by kernel_rfl) (by kernel_rfl) (by kernel_rfl) (by kernel_rfl) (by kernel_rfl) (by exact fun _ _ _ h => h) (by first | exact Or.inl ⟨by rfl, by intro w hSw; go_simp; try with_reducible rfl⟩ | exact Or.inr ⟨by rfl, rfl⟩) hH ?_
    try simp only [Act.put, List.setIfInBounds_toArray, List.set_cons_zero, List.set_cons_succ]
    refine wpK.step (i := 6) (by kernel_rfl) (by simp only [List.getElem?_toArray, List.getElem?_cons_succ, List.getElem?_cons_zero]; rfl) (fun K hK => ?_)
    refine step_lit (us := #[.pointer (some ⟨p, 0, none⟩), .pointer (some ⟨py, 0, none⟩)]) (e := 111) (size := 1) (ps := #[(0, .pointer (some ⟨p, 0, none⟩)), (1, .pointer (some ⟨py, 0, none⟩))]) rfl rfl (by simp only [List.map_toArray, List.map_cons, List.map_nil]; rfl) (lit_ptr2 p py _) rfl (by omega) ?_; intro g1 w4 hg1 hb4 hz4 ho4; (have hk4 : Below w1.heap.size w1 w4 := Below.next hH hb4)
    refine hK.out _ _ (by assumption) (fun hH => ?_)
    clear hK K
    try simp only [Act.put, List.setIfInBounds_toArray, List.set_cons_zero, List.set_cons_succ]
    refine wpK.take (i := 15) (v := _) (by simp only [List.getElem?_toArray, List.getElem?_cons_succ, List.getElem?_cons_zero]; rfl) (by kernel_rfl) (by kernel_rfl) (by kernel_rfl) (by kernel_rfl) (by kernel_rfl) (by exact fun _ _ _ h => h) (by first | exact Or.inl ⟨by rfl, by intro w hSw; go_simp; try with_reducible rfl⟩ | exact Or.inr ⟨by rfl, rfl⟩) hH ?_
    try simp only [Act.put, List.setIfInBounds_toArray, List.set_cons_zero, List.set_cons_succ]
    refine wpK.step (i := 16) (by kernel_rfl) (by simp only [List.getElem?_toArray, List.getElem?_cons_succ, List.getElem?_cons_zero]; rfl) (fun K hK => ?_)
    go_simp
    (first | refine K_alloc (K := K) ?_ | refine K_allocD (K := K) ?_); intro g8 w8 hg8 hs8 hb8 hblk8; (have HG8 := hid hg8); (have hk8 : Below w1.heap.size w1 w8 := Below.next hk4 hb8); (have q0 : w8.cell? ⟨s, 0, none⟩ = some (.pointer (some ⟨p, 0, none⟩)) := by rw [(HB1.out.below hk8).cell]; rfl); (have f0 : w8.frozen? ⟨s, 0, none⟩ = false := (HB1.out.below hk8).unfrozen 0)
    refine hK.out _ _ (by assumption) (fun hH => ?_)
    clear hK K
    try simp only [Act.put, List.setIfInBounds_toArray, List.set_cons_zero, List.set_cons_succ]
    refine wpK.late (i := 17) (by kernel_rfl) (by simp only [List.getElem?_toArray, List.getElem?_cons_succ, List.getElem?_cons_zero]; rfl) (by kernel_rfl) (fun K hK => ?_)
    go_simp
    refine hK.out _ _ ?_
    clear hK K
    try simp only [Act.put, List.setIfInBounds_toArray, List.set_cons_zero, List.set_cons_succ]
    refine wpK.late (i := 18) (by kernel_rfl) (by simp only [List.getElem?_toArray, List.getElem?_cons_succ, List.getElem?_cons_zero]; rfl) (by kernel_rfl) (fun K hK => ?_)
    go_simp
    refine hK.out _ _ ?_
    clear hK K
    try simp only [Act.put, List.setIfInBounds_toArray, List.set_cons_zero, List.set_cons_succ]
    refine wpK.late (i := 19) (by kernel_rfl) (by simp only [List.getElem?_toArray, List.getElem?_cons_succ, List.getElem?_cons_zero]; rfl) (by kernel_rfl) (fun K hK => ?_)
    go_simp
    refine hK.out _ _ ?_
    clear hK K
    try simp only [Act.put, List.setIfInBounds_toArray, List.set_cons_zero, List.set_cons_succ]
    refine wpK.done (by kernel_rfl) ?_ _
    have e8 : g8 = g1 + 1 := by omega
    rw [← e8]
    obtain ⟨w9, hw9⟩ : ∃ w9, w9 = w8.setCell ⟨s, 0, none⟩ (.pointer (some ⟨g8, 0, none⟩)) := ⟨_, rfl⟩
    rw [← hw9]
    have hu9 : Upd (fun k => k = s) w8 w9 := by rw [hw9]; exact Upd.setCell w8 s 0 _
    have HU9 := hid hu9
    have HK8 := hid hk8
    have HS9 : Hid (Blk w9 s #[.pointer (some ⟨g8, 0, none⟩), .int .i64 cnt]) := hid (by rw [hw9]; simpa using (HB1.out.below hk8).set 0 (.pointer (some ⟨g8, 0, none⟩)))
    have HSZ : Hid (s < w1.heap.size ∧ w1.heap.size ≤ g1 ∧ g1 < g8 ∧ g8 < w8.heap.size) := hid (by
      have h1 : w1.drew.heap.size = w1.heap.size := rfl
      have := HB1.out.lt
      omega)
    have HG9 : Hid (Blk w9 g8 (cells7 zR (.slice (some ⟨g1, 0, none⟩) 2 2) 0 (D + 1))) := hid (by
      have h1 : Blk w8 g8 (cells7 zR (.slice (some ⟨g1, 0, none⟩) 2 2) 0 (D + 1)) := hblk8
      exact h1.upd hu9 (fun z => by have := HSZ.out; omega))
    have hpn : ptrN n' = .pointer (some ⟨p, 0, none⟩) := by unfold ptrN; rw [HA.out.p, HP.out]
    have hpy : ptrN y = .pointer (some ⟨py, 0, none⟩) := by unfold ptrN; rw [HPY.out]
    have HO9 : Hid (w9.ownsRow 0 111 1 (.slice (some ⟨g1, 0, none⟩) 2 2) 2 [ptrN n', ptrN y]) := hid (by
      rw [hpn, hpy]
      exact owns_base0 (hu9.owns (owns_below ho4 hb8) (fun k hk z => by have e0 : g1 = k := Option.some.inj hk; have := HSZ.out; omega)) (Nat.zero_le _))
    have HTW := hid (HA.out.two y rfl)
    have hnl : ∀ k ∈ blkN (d + 1) n' ++ blkN (d + 1) y, k < w1.heap.size ∧ k ≠ s := fun k hk => by
      refine ⟨?_, fun z => ?_⟩
      · rcases List.mem_append.1 hk with hk | hk
        · exact HA.out.at'.lt k hk
        · exact HTW.out.1.lt k hk
      · rcases HA.out.fr k (by simpa using hk) with y2 | y2
        · exact HS.out k y2 z
        · have := HB.out.lt; omega
    have HNL := hid hnl
    have HN9 : Hid (NodeAt (d + 1) w9 n') := hid ((HA.out.at'.below hk8).upd hu9 (fun k hk => (hnl k (List.mem_append_left _ hk)).2))
    have HY9 : Hid (NodeAt (d + 1) w9 y) := hid ((HTW.out.1.below hk8).upd hu9 (fun k hk => (hnl k (List.mem_append_right _ hk)).2))
    have hfit := rt_fit [n', y] (some ⟨g1, 0, none⟩) 2 2 g8 zR 0 (D + 1) w9 HG9.out (slN_of HO9.out (by
      intro k hk
      simp only [List.mem_cons, List.not_mem_nil, or_false] at hk
      rcases hk with rfl | rfl
      · exact HN9.out.rat
      · exact HY9.out.rat)) (by omega)
    have HFIT := hid hfit
    have q1 : w9.cell? ⟨s, 0, none⟩ = some (.pointer (some ⟨g8, 0, none⟩)) := by rw [HS9.out.cell]; rfl
    clear hfit hw9 hu9 hpn hpy hnl hyd hH hk8 hk4 hb8 hb4 hz4 ho4 hblk8 hs8 hg8 hg1 e8 q0 f0 c0 c6 hwD
    go_wp2_with fail
    refine HFIT.out.mono ?_
    rintro e2 w10 ⟨rfl, hb10, hu10⟩
    have HR : Hid (PutPost d e s n x cnt w (.returned (.tuple #[])) w10) := hid (by
      have z := HSZ.out
      have hz1 := HA.out.upd.size
      have hz8 := HK8.out.size
      have hnd := HA.out.nd
      have hth := HA.out.th
      have hfr := HA.out.fr
      simp only [Option.toList_some, List.flatMap_cons, List.flatMap_nil, List.append_nil] at hnd hth hfr
      have hk2 : 2 ≤ n'.ks.length ∨ n'.ks.length < 2 := by omega
      have e2 : blkF (d + 1) [n', y] = blkN (d + 1) n' ++ blkN (d + 1) y := by simp [blkF]
      have ht2 : thgN (d + 1 + 1) ⟨g8, boundR ([n', y].map (·.r)), .slice (some ⟨g1, 0, none⟩) 2 2, 0, [n', y]⟩ = thgN (d + 1) n' ++ thgN (d + 1) y := by simp [thgN]
      have hb2 : blkN (d + 1 + 1) ⟨g8, boundR ([n', y].map (·.r)), .slice (some ⟨g1, 0, none⟩) 2 2, 0, [n', y]⟩ = g8 :: g1 :: (blkN (d + 1) n' ++ blkN (d + 1) y) := by rw [blkN_succ]; simp only [e2]; rfl
      have hn2 : 2 ≤ n'.ks.length := HA.out.two2 (by simp)
      refine ⟨rfl, d + 1, ⟨g8, boundR ([n', y].map (·.r)), .slice (some ⟨g1, 0, none⟩) 2 2, 0, [n', y]⟩, ⟨?_, ⟨?_, ?_, ?_⟩, ?_, ?_⟩, ⟨Nat.le_succ _, Nat.le_refl _⟩, ?_, ?_, by simp, .inr (by simp), fun _ => by simp, ?_⟩
      · exact HS9.out.upd hu10 (fun q => by omega)
      · have e3 : ((d + 1 + 1 : Nat) : Int) = D + 1 := by have := HDD.out; omega
        show Blk w10 g8 (cells7 _ _ _ ((d + 1 + 1 : Nat) : Int))
        rw [e3]; exact hb10
      · exact hu10.owns HO9.out (fun k hk q => by have e0 : g1 = k := Option.some.inj hk; omega)
      · intro k hk
        simp only [List.mem_cons, List.not_mem_nil, or_false] at hk
        rcases hk with rfl | rfl
        · exact HN9.out.upd hu10 (fun j hj q => by have := (HNL.out j (List.mem_append_left _ hj)).1; omega)
        · exact HY9.out.upd hu10 (fun j hj q => by have := (HNL.out j (List.mem_append_right _ hj)).1; omega)
      · rw [hb2]
        simp only [List.nodup_cons, List.mem_cons, not_or]
        exact ⟨⟨by omega, by omega, fun q => (HNL.out s q).2 rfl⟩, ⟨by omega, fun q => by have := (HNL.out g8 q).1; omega⟩, fun q => by have := (HNL.out g1 q).1; omega, hnd⟩
      · exact ⟨by simp, rfl, fun k hk => by
          simp only [List.mem_cons, List.not_mem_nil, or_false] at hk
          rcases hk with rfl | rfl
          · exact HA.out.sh.two hn2
          · exact HTW.out.2⟩
      · intro k hk
        rw [hb2] at hk
        simp only [List.mem_cons] at hk
        rcases hk with rfl | rfl | hk
        · right; omega
        · right; omega
        · exact hfr k hk
      · rw [ht2]; exact hth
      · have h1 : Upd (fun k => k = s ∨ AddP d e n x k) w w1 := HA.out.upd.mono (fun k _ z => .inr z)
        have h2 := h1.trans (Upd.of_below (S := fun k => k = s ∨ AddP d e n x k) HK8.out) (fun _ _ q => q)
        have h3 := h2.trans HU9.out (fun k _ q => .inl q)
        exact h3.trans hu10 (fun k hk q => by omega))
    clear hb10 hu10 q1
    go_wp2_with fail
    go_end0
    exact HR.out
end Go.Proofs.YtjbnfppnmljbmaaGreat
end
section
/- Iterators over a tree: what a round keeps. -/
namespace Go.Proofs.YtjbnfppnmljbmaaGreat
open Go.RowKit
open Go.Lib (hid)
set_option linter.unusedVariables false

/-- what a round keeps: all that lay below n0 -/
structure KeepR (n0 B : Nat) (W W' : World) : Prop where
  os : W'.os = W.os
  tape : W'.tape = W.tape
  output : W'.output = W.output
  size : W.heap.size ≤ W'.heap.size
  low : ∀ k, k < n0 → W'.heap[k]? = W.heap[k]?
theorem KeepR.refl (n0 B : Nat) (W : World) : KeepR n0 B W W := ⟨rfl, rfl, rfl, Nat.le_refl _, fun _ _ => rfl⟩
theorem KeepR.trans {n0 B : Nat} {X Y Z : World} (h : KeepR n0 B X Y) (k : KeepR n0 B Y Z) : KeepR n0 B X Z :=
  ⟨k.os.trans h.os, k.tape.trans h.tape, k.output.trans h.output, Nat.le_trans h.size k.size, fun i hi => (k.low i hi).trans (h.low i hi)⟩
theorem KeepR.put {n0 B : Nat} (hn : n0 ≤ B) (W : World) (l : Nat) (o o' : Obj) (hl : B ≤ l) (h : W.heap[l]? = some o) (hc : o.isCells = false) : KeepR n0 B W (W.putObj l o') :=
  ⟨rfl, rfl, rfl, by simp, fun k hk => World.putObj_heap_other (by omega)⟩
theorem KeepR.of_upd {n0 B : Nat} {S : Nat → Prop} {W W' : World} (h : Upd S W W') (hn : n0 ≤ W.heap.size) (hS : ∀ k, k < W.heap.size → S k → n0 ≤ k) : KeepR n0 B W W' :=
  ⟨h.os, h.tape, h.output, h.size, fun k hk => h.block k (by omega) (fun q => by have := hS k (by omega) q; omega)⟩
theorem KeepR.of_below {n0 B : Nat} {W W' : World} (h : Below W.heap.size W W') (hn : n0 ≤ W.heap.size) : KeepR n0 B W W' := .of_upd (Upd.of_below (S := fun _ => False) h) hn (fun _ _ q => q.elim)
theorem KeepR.upd {n0 B : Nat} {W W' : World} (h : KeepR n0 B W W') : Upd (fun k => n0 ≤ k) W W' := ⟨h.os, h.tape, h.output, h.size, fun k _ hk => h.low k (by omega)⟩
theorem grown_belowR {W W' : World} (h : Below W.heap.size W W') : W.grownBy W' none := ⟨h.os, h.tape, h.output, h.size, fun k hk _ => h.block k hk⟩
theorem yieldAt_any {m m' : Nat} {P : Program} {l : Nat} {args : Array Value} {W : World} {R : Ending → World → Prop} (h : YieldAt Fence.wide m P l args W R) : YieldAt Fence.wide m' P l args W R := by
  obtain ⟨fn, tmps, assign, body, h1, h2, h3⟩ := h
  exact ⟨fn, tmps, assign, body, h1, h2, fun c cs _ => h3 c cs (room_wide _)⟩
/-- the things that a test lets by -/
def flR (t : R4 → Bool) (l : List Tg) : List Tg := l.filter (fun x => t x.1)
theorem flR_append (t : R4 → Bool) (a b : List Tg) : flR t (a ++ b) = flR t a ++ flR t b := List.filter_append _ _
end Go.Proofs.YtjbnfppnmljbmaaGreat
end
