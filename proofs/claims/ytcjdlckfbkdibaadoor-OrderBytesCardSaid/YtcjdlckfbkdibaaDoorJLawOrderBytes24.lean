/- Joined texts, in this order: OrdReply, OrdAwake, OrdUses. Each one's first remark says what it proves; no condition beyond those that its theorems name. -/
import Derived.Test.YtcjdlckfbkdibaaDoorJLawOrderBytes22
import Derived.Test.YtcjdlckfbkdibaaDoorJLawOrderBytes23
import Derived.Test.YtcjdlckfbkdibaaDoorJLawOrderBytes13
import Derived.Test.YtcjdlckfbkdibaaDoorJLawOrderBytes01
import Derived.Test.YtcjdlckfbkdibaaDoorProg
section
/- Contracts of order.Reply and order.Bad. -/
namespace Go.Proofs.YtcjdlckfbkdibaaDoor
open Go.RowKit
open Go.Lib (hid)
set_option linter.unusedVariables false

theorem Rd.ltI {w : World} {a : Option Addr} {l : List Int} (h : Rd w a (iv l)) (h0 : 0 < l.length) (b off : Nat) (ha : a = some ⟨b, off, none⟩) : b < w.heap.size := by
  obtain ⟨b', off', x, e, hc, -⟩ := h.int 0 h0
  rw [ha] at e
  simp only [Option.some.injEq, Addr.mk.injEq, and_true] at e
  obtain ⟨rfl, rfl⟩ := e
  exact World.block_lt_of_cell? w _ hc
/-- a reply's bytes -/
def replyL (e n : Int) (li : List Int) : List UInt8 := enc (zz e) ++ enc (zz n) ++ (enc (zz (li.length : Int)) ++ encs li)
set_option maxRecDepth 100000 in
set_option maxHeartbeats 4000000 in
theorem order_Reply (e n : Int) (he : Hid (-9223372036854775808 ≤ e ∧ e ≤ 9223372036854775807)) (hn : Hid (-9223372036854775808 ≤ n ∧ n ≤ 9223372036854775807)) (li : List Int) (hbd : Hid (∀ x ∈ li, -9223372036854775808 ≤ x ∧ x ≤ 9223372036854775807)) (a : Option Addr) (c : Nat) (hli : li.length ≤ 10000) (w : World) (hr : Rd w a (iv li)) (all : List UInt8) (hall : Hid (all = replyL e n li)) :
    Calls Tryd.prog 36 #[.agg #[.int .i64 e, .int .i64 n, .slice a li.length c]] w fun e w' => ∃ u, e = .returned u ∧ w'.ownsRow w.heap.size 5 1 u all.length (bv all) ∧ Below w.heap.size w w' := by
  have HR := hid hr
  have HBL : Hid (0 < li.length → ∀ b off, a = some ⟨b, off, none⟩ → b < w.heap.size) := hid (fun h0 b off e => hr.ltI h0 b off e)
  clear hr
  go_enter Tryd.func36, Tryd.ntmps36
  go_wp2_with fail
  obtain ⟨cs, hcs⟩ : ∃ cs : Array Value, cs = #[.int .i64 e, .int .i64 n, .slice a li.length c] := ⟨_, rfl⟩
  have hs1 : (w.alloc (.cells cs 77)).heap.size = w.heap.size + 1 := by simp
  have HW : ∃ w3 g, w3 = (w.alloc (.cells cs 77)).alloc (.cells #[.slice none 0 0] 96) ∧ g = w.heap.size + 1 ∧ ByW w g cs (.slice none 0 0) [] w3 :=
    ⟨_, _, rfl, rfl, ⟨Below.next (Below.new _ _) (Below.new _ _), Blk.below (Below.new _ _) (Blk.new _ _ _), by rw [← hs1]; exact OutIs.fresh _, fun k hk => by simp [Value.ownBlock] at hk, by omega⟩⟩
  obtain ⟨w3, g, hw3, hg, hw⟩ := HW
  have HW3 := hid hw
  rw [hcs] at hw3
  rw [← hw3, ← hg]
  have HCS := hid hcs
  have HG := hid hg
  clear hw hw3 hg hcs hs1
  obtain ⟨bb, hbb⟩ : ∃ bb, bb = w.heap.size := ⟨_, rfl⟩
  have k0 : ∀ y, Blk y bb cs → y.cell? ⟨bb, 0, none⟩ = some (.int .i64 e) := fun y hy => by rw [hy.cell, HCS.out]; rfl
  have k1 : ∀ y, Blk y bb cs → y.cell? ⟨bb, 1, none⟩ = some (.int .i64 n) := fun y hy => by rw [hy.cell, HCS.out]; rfl
  have k2 : ∀ y, Blk y bb cs → y.cell? ⟨bb, 2, none⟩ = some (.slice a li.length c) := fun y hy => by rw [hy.cell, HCS.out]; rfl
  have hK3 := HW3.out.cm
  rw [← hbb] at hK3
  rw [← hbb]
  have HBB := hid hbb
  clear hbb
  have hK3d : Blk w3.drew bb cs := hK3.below (Below.refl _ _).drew
  have HE10 := hid (enc_len10 (zz e) (zz_lt _ he.out.1 he.out.2))
  have HN10 := hid (enc_len10 (zz n) (zz_lt _ hn.out.1 hn.out.2))
  have HL10 := hid (enc_len10 (zz (li.length : Int)) (zz_lt _ (by omega) (by omega)))
  have HES := hid (encs_le li hbd.out)
  have HUB : Hid (∀ (v : Value) (m : List UInt8) (y : World), ByW w g cs v m y → (0 < li.length → ∀ b off, a = some ⟨b, off, none⟩ → b ≠ g ∧ v.ownBlock ≠ some b) ∧ Rd y a (iv li)) := hid (fun v m y hy => by
    refine ⟨fun h0 b off ea => ?_, HR.out.below' hy.bl⟩
    have h1 := HBL.out h0 b off ea
    have h2 := hy.ord
    exact ⟨by omega, fun hk => by have := hy.far _ hk; omega⟩)
  refine wp_region_kept [10] (fun y => Blk y bb cs) (by kernel_rfl) (by assumption) (fun hH => ?_)
  refine wpK.take (i := 0) (v := _) (by simp only [List.getElem?_toArray, List.getElem?_cons_succ, List.getElem?_cons_zero]; rfl) (by kernel_rfl) (by kernel_rfl) (by kernel_rfl) (by kernel_rfl) (by kernel_rfl) (by exact fun _ _ _ h => h) (by first | exact Or.inl ⟨by rfl, by intro w hSw; go_simp; try with_reducible rfl⟩ | exact Or.inr ⟨by rfl, rfl⟩) hH ?_
  try simp only [Act.put, List.setIfInBounds_toArray, List.set_cons_zero, List.set_cons_succ]
  refine wpK.take (i := 1) (v := _) (by simp only [List.getElem?_toArray, List.getElem?_cons_succ, List.getElem?_cons_zero]; rfl) (by kernel_rfl) (by kernel_rfl) (by kernel_rfl) (by kernel_rfl) (by kernel_rfl) (by exact fun _ _ _ h => h) (by first | exact Or.inl ⟨by rfl, by intro w hSw; go_simp; try with_reducible rfl⟩ | exact Or.inr ⟨by rfl, rfl⟩) hH ?_
  try simp only [Act.put, List.setIfInBounds_toArray, List.set_cons_zero, List.set_cons_succ]
  refine wpK.take (i := 3) (v := _) (by simp only [List.getElem?_toArray, List.getElem?_cons_succ, List.getElem?_cons_zero]; rfl) (by kernel_rfl) (by kernel_rfl) (by kernel_rfl) (by kernel_rfl) (by kernel_rfl) (by exact fun _ _ _ h => h) (by first | exact Or.inl ⟨by rfl, by intro w hSw; go_simp; try with_reducible rfl⟩ | exact Or.inr ⟨by rfl, rfl⟩) hH ?_
  try simp only [Act.put, List.setIfInBounds_toArray, List.set_cons_zero, List.set_cons_succ]
  refine wpK.take (i := 4) (v := _) (by simp only [List.getElem?_toArray, List.getElem?_cons_succ, List.getElem?_cons_zero]; rfl) (by kernel_rfl) (by kernel_rfl) (by kernel_rfl) (by kernel_rfl) (by kernel_rfl) (by exact fun _ _ _ h => h) (by first | exact Or.inl ⟨by rfl, by intro w hSw; go_simp; try with_reducible rfl⟩ | exact Or.inr ⟨by rfl, rfl⟩) hH ?_
  try simp only [Act.put, List.setIfInBounds_toArray, List.set_cons_zero, List.set_cons_succ]
  refine wpK.take (i := 6) (v := _) (by simp only [List.getElem?_toArray, List.getElem?_cons_succ, List.getElem?_cons_zero]; rfl) (by kernel_rfl) (by kernel_rfl) (by kernel_rfl) (by kernel_rfl) (by kernel_rfl) (by exact fun _ _ _ h => h) (by first | exact Or.inl ⟨by rfl, by intro w hSw; go_simp; try with_reducible rfl⟩ | exact Or.inr ⟨by rfl, rfl⟩) hH ?_
  try simp only [Act.put, List.setIfInBounds_toArray, List.set_cons_zero, List.set_cons_succ]
  refine wpK.take (i := 7) (v := _) (by simp only [List.getElem?_toArray, List.getElem?_cons_succ, List.getElem?_cons_zero]; rfl) (by kernel_rfl) (by kernel_rfl) (by kernel_rfl) (by kernel_rfl) (by kernel_rfl) (by exact fun _ _ _ h => h) (by first | exact Or.inl ⟨by rfl, by intro w hSw; go_simp; try with_reducible rfl⟩ | exact Or.inr ⟨by rfl, rfl⟩) hH ?_
  try simp only [Act.put, List.setIfInBounds_toArray, List.set_cons_zero, List.set_cons_succ]
  refine wpK.step (i := 2) (by kernel_rfl) (by simp only [List.getElem?_toArray, List.getElem?_cons_succ, List.getElem?_cons_zero]; rfl) (fun K hK => ?_)
  go_simp
  (refine (var_Out_Int e he.out.1 he.out.2 g (.slice none 0 0) [] _ (HW3.out.below (Below.refl _ _).drew).out (by simp)).mono ?_); rintro e1 w4 ⟨v4, rfl, ho4, hs4, -⟩; (have hw4 := (HW3.out.below (Below.refl _ _).drew).step ho4 hs4); (have hK4 : Blk w4 bb cs := by rw [HBB.out]; exact hw4.cm); (have HW4 := hid hw4); clear ho4 hs4 hw4; go_simp
  refine hK.out _ _ (by assumption) (fun hH => ?_)
  clear hK K
  try simp only [Act.put, List.setIfInBounds_toArray, List.set_cons_zero, List.set_cons_succ]
  refine wpK.step (i := 5) (by kernel_rfl) (by simp only [List.getElem?_toArray, List.getElem?_cons_succ, List.getElem?_cons_zero]; rfl) (fun K hK => ?_)
  go_simp
  (refine (var_Out_Int n hn.out.1 hn.out.2 g v4 _ _ HW4.out.out (by rw [List.nil_append]; have := HE10.out; omega)).mono ?_); rintro e2 w5 ⟨v5, rfl, ho5, hs5, -⟩; (have hw5 := HW4.out.step ho5 hs5); (have hK5 : Blk w5 bb cs := by rw [HBB.out]; exact hw5.cm); (have HW5 := hid hw5); clear ho5 hs5 hw5; go_simp
  refine hK.out _ _ (by assumption) (fun hH => ?_)
  clear hK K
  try simp only [Act.put, List.setIfInBounds_toArray, List.set_cons_zero, List.set_cons_succ]
  refine wpK.step (i := 8) (by kernel_rfl) (by simp only [List.getElem?_toArray, List.getElem?_cons_succ, List.getElem?_cons_zero]; rfl) (fun K hK => ?_)
  go_simp
  (refine (out_Ints li hbd a li.length c rfl hli g v5 _ _ HW5.out.out (by simp only [List.nil_append, List.length_append]; have := HE10.out; have := HN10.out; omega) (HUB.out _ _ _ HW5.out).2 (hid (HUB.out _ _ _ HW5.out).1) all (hid (by rw [hall.out]; unfold replyL; simp only [List.nil_append, List.append_assoc]))).mono ?_); rintro e3 w6 ⟨v6, rfl, ho6, hs6⟩; (have hw6 := HW5.out.step ho6 hs6); (have hK6 : Blk w6 bb cs := by rw [HBB.out]; exact hw6.cm); (have HW6 := hid hw6); clear ho6 hs6 hw6; go_simp
  refine hK.out _ _ (by assumption) (fun hH => ?_)
  clear hK K
  try simp only [Act.put, List.setIfInBounds_toArray, List.set_cons_zero, List.set_cons_succ]
  refine wpK.step (i := 9) (by kernel_rfl) (by simp only [List.getElem?_toArray, List.getElem?_cons_succ, List.getElem?_cons_zero]; rfl) (fun K hK => ?_)
  go_simp
  (refine (out_All g v6 all _ HW6.out.out (by rw [hall.out]; unfold replyL; simp only [List.length_append]; have := HE10.out; have := HN10.out; have := HL10.out; have := HES.out; omega)).mono ?_); rintro e4 w7 ⟨u, rfl, hu, hb7⟩; (have hK7 : Blk w7 bb cs := by rw [HBB.out]; exact (HW6.out.below hb7).cm); (have HU := hid (ownsRow_base hu (HW6.out.bl.size))); (have HB7 := hid (Below.next HW6.out.bl hb7)); clear hu hb7; go_simp
  refine hK.out _ _ (by assumption) (fun hH => ?_)
  clear hK K
  try simp only [Act.put, List.setIfInBounds_toArray, List.set_cons_zero, List.set_cons_succ]
  refine wpK.late (i := 10) (by kernel_rfl) (by simp only [List.getElem?_toArray, List.getElem?_cons_succ, List.getElem?_cons_zero]; rfl) (by kernel_rfl) (fun K hK => ?_)
  go_simp
  refine hK.out _ _ ?_
  clear hK K
  try simp only [Act.put, List.setIfInBounds_toArray, List.set_cons_zero, List.set_cons_succ]
  refine wpK.done (by kernel_rfl) ?_ _
  go_wp2_with fail
  go_ret
  exact ⟨_, rfl, HU.out, HB7.out⟩
theorem order_Bad (w : World) (all : List UInt8) (hall : Hid (all = [60, 0, 0])) :
    Calls Tryd.prog 59 #[] w fun e w' => ∃ u, e = .returned u ∧ w'.ownsRow w.heap.size 5 1 u all.length (bv all) ∧ Below w.heap.size w w' := by
  go_enter Tryd.func59, Tryd.ntmps59
  go_wp2_with fail
  refine (order_Reply 30 0 (hid (by omega)) (hid (by omega)) [] (hid (by simp)) none 0 (by simp) w (Rd.nil _ _) all (hid (by rw [hall.out]; unfold replyL encs; rw [show zz 30 = 60 from rfl, show zz 0 = 0 from rfl, show zz (([] : List Int).length : Int) = 0 from rfl, enc_small 60 (by omega), enc_small 0 (by omega)]; rfl))).mono ?_
  rintro e w1 ⟨u, rfl, hu, hb⟩
  have HU := hid hu
  have HB := hid hb
  clear hu hb
  go_wp2_with fail
  go_ret
  exact ⟨_, rfl, HU.out, HB.out⟩
end Go.Proofs.YtcjdlckfbkdibaaDoor
end
section
/- The fixed answer of the laws of orders. -/
namespace Go.Proofs.YtcjdlckfbkdibaaDoor
open Go.RowKit
open Go.Lib (hid)
set_option linter.unusedVariables false

theorem slb_one {w : World} {g : Nat} {x : UInt8} (h : Blk w g #[.int .u8 (x.toNat : Int)]) : SlB w (.slice (some ⟨g, 0, none⟩) 1 1) [x] :=
  ⟨_, 1, rfl, by simp, fun i hi => ⟨g, 0, rfl, by
    obtain rfl : i = 0 := by simp [bv] at hi; omega
    rw [Nat.zero_add, h.cell]; rfl⟩, by simp, by omega, nofun⟩
theorem aw_right : (cmOf 1 0 24 0 0 0 0 ⟨#[]⟩ ⟨#[]⟩).right = true := by decide
theorem aw_bytes : (cmOf 1 0 24 0 0 0 0 ⟨#[]⟩ ⟨#[]⟩).bytes = [2, 48] := by
  unfold Cm.bytes cmOf
  simp only
  rw [show zz 1 = 2 from rfl, show zz 24 = 48 from rfl, enc_small 2 (by omega), enc_small 48 (by omega)]
  rfl
theorem aw_ok : (cmOf 1 0 24 0 0 0 0 ⟨#[]⟩ ⟨#[]⟩).Ok := ⟨by decide, by decide, by decide, by decide, rfl, by decide⟩
theorem aw_parse : parseV [2] = none := by
  unfold parseV parseCm
  rw [if_neg (by decide), if_neg]
  intro h
  have : (readCm [2]).left = none := by decide
  rw [this] at h
  simp at h
set_option maxRecDepth 100000 in
set_option maxHeartbeats 2000000 in
theorem law27_awake (w : World) : Calls Tryd.prog 27 #[] w fun e w' => e = .returned (.bool true) ∧ Below w.heap.size w w' := by
  go_enter Tryd.func27, Tryd.ntmps27
  go_wp2_with fail
  refine (order_BytesYes 1 0 24 0 0 0 0 ⟨#[]⟩ ⟨#[]⟩ w (by decide) (by decide) (hid aw_ok) (hid aw_right) [2, 48] (hid aw_bytes)).mono ?_
  rintro e w1 ⟨v1, rfl, ho1, hb1⟩
  have HS1 := hid (ownsRow.slb ho1 (by decide))
  have HB1 := hid hb1
  obtain ⟨a1, c1, rfl, -⟩ := HS1.out
  clear ho1 hb1
  go_wp2_with fail
  have hb2 : Below w1.heap.size w1 (w1.alloc (.cells #[.int .u8 2] 5)) := Below.new _ _
  refine (order_Parse [2] _ _ (slb_one (x := 2) (Blk.new w1 _ _)) (by decide)).mono ?_
  rintro e w2 ⟨V, E, rfl, hpv, hb3⟩
  obtain ⟨rfl, rfl⟩ : V = cmV ⟨0, 0, 0, [], [], []⟩ ∧ E = 30 := by
    rcases hpv with ⟨-, h1, h2⟩ | ⟨c, h1, -⟩
    · exact ⟨h1, h2⟩
    · rw [aw_parse] at h1; simp at h1
  have HB2 := hid (Below.next hb2 hb3)
  unfold cmV
  clear hb2 hb3 hpv
  go_upto_region 3 with fail
  generalize hw3 : World.alloc w2 _ = w3
  have hb3 : Below w1.heap.size w1 w3 := by rw [← hw3]; exact Below.next HB2.out (Below.new _ _)
  have HS3 := hid (HS1.out.below hb3)
  have HB3 := hid (Below.next HB1.out hb3)
  have hst : (convert 28 9 (.slice a1 2 c1)).run Tryd.prog w3 = .ok (.string ⟨#[2, 48]⟩) w3 := HS3.out.str w3 (Below.refl _ _)
  clear hw3 hb3
  go_wp2_with fail
  refine (order_Bad w3 [60, 0, 0] (hid rfl)).mono ?_
  rintro e w4 ⟨u, rfl, hu, hb4⟩
  have HU := hid (ownsRow.slb hu (by decide))
  have HB4 := hid (Below.next HB3.out hb4)
  obtain ⟨a4, c4, rfl, -⟩ := HU.out
  clear hu hb4 hst
  have hst : (convert 28 9 (.slice a4 3 c4)).run Tryd.prog w4 = .ok (.string ⟨#[60, 0, 0]⟩) w4 := HU.out.str w4 (Below.refl _ _)
  go_wp2_with fail
  go_ret
  exact ⟨rfl, HB4.out⟩
end Go.Proofs.YtcjdlckfbkdibaaDoor
end
section
/- Contract of the document's Uses. -/
namespace Go.Proofs.YtcjdlckfbkdibaaDoor
open Go.RowKit
open Go.Lib (hid)
set_option linter.unusedVariables false

set_option maxRecDepth 100000 in
set_option maxHeartbeats 4000000 in
theorem ref_Uses (k : Int) (w : World) (n : Nat) (t : Bool) (hn : Hid (n = usesN k)) (ht : Hid (t = usesT k)) : Calls Tryd.prog 34 #[.int .i64 k] w fun e w' => e = .returned (.tuple #[.int .i64 (n : Int), .bool t]) ∧ w = w' := by
  go_enter Tryd.func34, Tryd.ntmps34
  go_wp2_with fail
  all_goals
    go_ret2
    have h1 := hn.out
    have h2 := ht.out
    refine ⟨?_, rfl⟩
    clear hn ht
    simp only [beq_eq_false_iff_ne, ne_eq, beq_iff_eq] at *
    first
      | (obtain ⟨rfl, rfl⟩ : n = 0 ∧ t = true := ⟨by rw [h1]; unfold usesN; (repeat' split) <;> omega, by rw [h2]; unfold usesT; simp; omega⟩
         rfl)
      | (obtain ⟨rfl, rfl⟩ : n = 4 ∧ t = false := ⟨by rw [h1]; unfold usesN; (repeat' split) <;> omega, by rw [h2]; unfold usesT; simp; omega⟩
         rfl)
      | (obtain ⟨rfl, rfl⟩ : n = 3 ∧ t = false := ⟨by rw [h1]; unfold usesN; (repeat' split) <;> omega, by rw [h2]; unfold usesT; simp; omega⟩
         rfl)
      | (obtain ⟨rfl, rfl⟩ : n = 2 ∧ t = false := ⟨by rw [h1]; unfold usesN; (repeat' split) <;> omega, by rw [h2]; unfold usesT; simp; omega⟩
         rfl)
      | (obtain ⟨rfl, rfl⟩ : n = 0 ∧ t = false := ⟨by rw [h1]; unfold usesN; (repeat' split) <;> omega, by rw [h2]; unfold usesT; simp; omega⟩
         rfl)
      | (obtain ⟨rfl, rfl⟩ : n = 1 ∧ t = false := ⟨by rw [h1]; unfold usesN; (repeat' split) <;> omega, by rw [h2]; unfold usesT; simp; omega⟩
         rfl)
end Go.Proofs.YtcjdlckfbkdibaaDoor
end
