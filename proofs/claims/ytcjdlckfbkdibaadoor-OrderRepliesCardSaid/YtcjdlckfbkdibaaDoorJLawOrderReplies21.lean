/- Joined texts, in this order: OrdReply, OrdAwake, OrdPReply. Each one's first remark says what it proves; no condition beyond those that its theorems name. -/
import Derived.Test.YtcjdlckfbkdibaaDoorJLawOrderReplies19
import Derived.Test.YtcjdlckfbkdibaaDoorJLawOrderReplies20
import Derived.Test.YtcjdlckfbkdibaaDoorJLawOrderReplies08
section
/- Contracts of order.Reply and order.Bad. -/
namespace Go.Proofs.YtcjdlckfbkdibaaDoor
open Go.RowKit
open Go.Lib (hid)
set_option linter.unusedVariables false

theorem Rd.ltI {w : World} {a : Option Addr} {l : List Int} (h : Rd w a (iv l)) (h0 : 0 < l.length) (b off : Nat) (ha : a = some ⟨b, off, none⟩) : b < w.heap.size := by
  obtain ⟨b', off', x, e, hc, -⟩ := h.int 0 h0
  rw [ha] at e
  simp only [Option.some.injEq, Addr.mk.injEq, and_true] at e
  obtain ⟨rfl, rfl⟩ := e
  exact World.block_lt_of_cell? w _ hc
/-- a reply's bytes -/
def replyL (e n : Int) (li : List Int) : List UInt8 := enc (zz e) ++ enc (zz n) ++ (enc (zz (li.length : Int)) ++ encs li)
set_option maxRecDepth 100000 in
set_option maxHeartbeats 4000000 in
theorem order_Reply (e n : Int) (he : Hid (-9223372036854775808 ≤ e ∧ e ≤ 9223372036854775807)) (hn : Hid (-9223372036854775808 ≤ n ∧ n ≤ 9223372036854775807)) (li : List Int) (hbd : Hid (∀ x ∈ li, -9223372036854775808 ≤ x ∧ x ≤ 9223372036854775807)) (a : Option Addr) (c : Nat) (hli : li.length ≤ 10000) (w : World) (hr : Rd w a (iv li)) (all : List UInt8) (hall : Hid (all = replyL e n li)) :
    Calls Tryd.prog 36 #[.agg #[.int .i64 e, .int .i64 n, .slice a li.length c]] w fun e w' => ∃ u, e = .returned u ∧ w'.ownsRow w.heap.size 5 1 u all.length (bv all) ∧ Below w.heap.size w w' := by
  have HR := hid hr
  have HBL : Hid (0 < li.length → ∀ b off, a = some ⟨b, off, none⟩ → b < w.heap.size) := hid (fun h0 b off e => hr.ltI h0 b off e)
  clear hr
  go_enter Tryd.func36, Tryd.ntmps36
  go_wp2_with fail
  obtain ⟨cs, hcs⟩ : ∃ cs : Array Value, cs = #[.int .i64 e, .int .i64 n, .slice a li.length c] := ⟨_, rfl⟩
  have hs1 : (w.alloc (.cells cs 77)).heap.size = w.heap.size + 1 := by simp
  have HW : ∃ w3 g, w3 = (w.alloc (.cells cs 77)).alloc (.cells #[.slice none 0 0] 96) ∧ g = w.heap.size + 1 ∧ ByW w g cs (.slice none 0 0) [] w3 :=
    ⟨_, _, rfl, rfl, ⟨Below.next (Below.new _ _) (Below.new _ _), Blk.below (Below.new _ _) (Blk.new _ _ _), by rw [← hs1]; exact OutIs.fresh _, fun k hk => by simp [Value.ownBlock] at hk, by omega⟩⟩
  obtain ⟨w3, g, hw3, hg, hw⟩ := HW
  have HW3 := hid hw
  rw [hcs] at hw3
  rw [← hw3, ← hg]
  have HCS := hid hcs
  have HG := hid hg
  clear hw hw3 hg hcs hs1
  obtain ⟨bb, hbb⟩ : ∃ bb, bb = w.heap.size := ⟨_, rfl⟩
  have k0 : ∀ y, Blk y bb cs → y.cell? ⟨bb, 0, none⟩ = some (.int .i64 e) := fun y hy => by rw [hy.cell, HCS.out]; rfl
  have k1 : ∀ y, Blk y bb cs → y.cell? ⟨bb, 1, none⟩ = some (.int .i64 n) := fun y hy => by rw [hy.cell, HCS.out]; rfl
  have k2 : ∀ y, Blk y bb cs → y.cell? ⟨bb, 2, none⟩ = some (.slice a li.length c) := fun y hy => by rw [hy.cell, HCS.out]; rfl
  have hK3 := HW3.out.cm
  rw [← hbb] at hK3
  rw [← hbb]
  have HBB := hid hbb
  clear hbb
  have hK3d : Blk w3.drew bb cs := hK3.below (Below.refl _ _).drew
  have HE10 := hid (enc_len10 (zz e) (zz_lt _ he.out.1 he.out.2))
  have HN10 := hid (enc_len10 (zz n) (zz_lt _ hn.out.1 hn.out.2))
  have HL10 := hid (enc_len10 (zz (li.length : Int)) (zz_lt _ (by omega) (by omega)))
  have HES := hid (encs_le li hbd.out)
  have HUB : Hid (∀ (v : Value) (m : List UInt8) (y : World), ByW w g cs v m y → (0 < li.length → ∀ b off, a = some ⟨b, off, none⟩ → b ≠ g ∧ v.ownBlock ≠ some b) ∧ Rd y a (iv li)) := hid (fun v m y hy => by
    refine ⟨fun h0 b off ea => ?_, HR.out.below' hy.bl⟩
    have h1 := HBL.out h0 b off ea
    have h2 := hy.ord
    exact ⟨by omega, fun hk => by have := hy.far _ hk; omega⟩)
  refine wp_region_kept [10] (fun y => Blk y bb cs) (by kernel_rfl) (by assumption) (fun hH => ?_)
  refine wpK.take (i := 0) (v := _) (by simp only [List.getElem?_toArray, List.getElem?_cons_succ, List.getElem?_cons_zero]; rfl) (by kernel_rfl) (by kernel_rfl) (by kernel_rfl) (by kernel_rfl) (by kernel_rfl) (by exact fun _ _ _ h => h) (by first | exact Or.inl ⟨by rfl, by intro w hSw; go_simp; try with_reducible rfl⟩ | exact Or.inr ⟨by rfl, rfl⟩) hH ?_
  try simp only [Act.put, List.setIfInBounds_toArray, List.set_cons_zero, List.set_cons_succ]
  refine wpK.take (i := 1) (v := _) (by simp only [List.getElem?_toArray, List.getElem?_cons_succ, List.getElem?_cons_zero]; rfl) (by kernel_rfl) (by kernel_rfl) (by kernel_rfl) (by kernel_rfl) (by kernel_rfl) (by exact fun _ _ _ h => h) (by first | exact Or.inl ⟨by rfl, by intro w hSw; go_simp; try with_reducible rfl⟩ | exact Or.inr ⟨by rfl, rfl⟩) hH ?_
  try simp only [Act.put, List.setIfInBounds_toArray, List.set_cons_zero, List.set_cons_succ]
  refine wpK.take (i := 3) (v := _) (by simp only [List.getElem?_toArray, List.getElem?_cons_succ, List.getElem?_cons_zero]; rfl) (by kernel_rfl) (by kernel_rfl) (by kernel_rfl) (by kernel_rfl) (by kernel_rfl) (by exact fun _ _ _ h => h) (by first | exact Or.inl ⟨by rfl, by intro w hSw; go_simp; try with_reducible rfl⟩ | exact Or.inr ⟨by rfl, rfl⟩) hH ?_
  try simp only [Act.put, List.setIfInBounds_toArray, List.set_cons_zero, List.set_cons_succ]
  refine wpK.take (i := 4) (v := _) (by simp only [List.getElem?_toArray, List.getElem?_cons_succ, List.getElem?_cons_zero]; rfl) (by kernel_rfl) (by kernel_rfl) (by kernel_rfl) (by kernel_rfl) (by kernel_rfl) (by exact fun _ _ _ h => h) (by first | exact Or.inl ⟨by rfl, by intro w hSw; go_simp; try with_reducible rfl⟩ | exact Or.inr ⟨by rfl, rfl⟩) hH ?_
  try simp only [Act.put, List.setIfInBounds_toArray, List.set_cons_zero, List.set_cons_succ]
  refine wpK.take (i := 6) (v := _) (by simp only [List.getElem?_toArray, List.getElem?_cons_succ, List.getElem?_cons_zero]; rfl) (by kernel_rfl) (by kernel_rfl) (by kernel_rfl) (by kernel_rfl) (by kernel_rfl) (by exact fun _ _ _ h => h) (by first | exact Or.inl ⟨by rfl, by intro w hSw; go_simp; try with_reducible rfl⟩ | exact Or.inr ⟨by rfl, rfl⟩) hH ?_
  try simp only [Act.put, List.setIfInBounds_toArray, List.set_cons_zero, List.set_cons_succ]
  refine wpK.take (i := 7) (v := _) (by simp only [List.getElem?_toArray, List.getElem?_cons_succ, List.getElem?_cons_zero]; rfl) (by kernel_rfl) (by kernel_rfl) (by kernel_rfl) (by kernel_rfl) (by kernel_rfl) (by exact fun _ _ _ h => h) (by first | exact Or.inl ⟨by rfl, by intro w hSw; go_simp; try with_reducible rfl⟩ | exact Or.inr ⟨by rfl, rfl⟩) hH ?_
  try simp only [Act.put, List.setIfInBounds_toArray, List.set_cons_zero, List.set_cons_succ]
  refine wpK.step (i := 2) (by kernel_rfl) (by simp only [List.getElem?_toArray, List.getElem?_cons_succ, List.getElem?_cons_zero]; rfl) (fun K hK => ?_)
  go_simp
  (refine (var_Out_Int e he.out.1 he.out.2 g (.slice none 0 0) [] _ (HW3.out.below (Below.refl _ _).drew).out (by simp)).mono ?_); rintro e1 w4 ⟨v4, rfl, ho4, hs4, -⟩; (have hw4 := (HW3.out.below (Below.refl _ _).drew).step ho4 hs4); (have hK4 : Blk w4 bb cs := by rw [HBB.out]; exact hw4.cm); (have HW4 := hid hw4); clear ho4 hs4 hw4; go_simp
  refine hK.out _ _ (by assumption) (fun hH => ?_)
  clear hK K
  try simp only [Act.put, List.setIfInBounds_toArray, List.set_cons_zero, List.set_cons_succ]
  refine wpK.step (i := 5) (by kernel_rfl) (by simp only [List.getElem?_toArray, List.getElem?_cons_succ, List.getElem?_cons_zero]; rfl) (fun K hK => ?_)
  go_simp
  (refine (var_Out_Int n hn.out.1 hn.out.2 g v4 _ _ HW4.out.out (by rw [List.nil_append]; have := HE10.out; omega)).mono ?_); rintro e2 w5 ⟨v5, rfl, ho5, hs5, -⟩; (have hw5 := HW4.out.step ho5 hs5); (have hK5 : Blk w5 bb cs := by rw [HBB.out]; exact hw5.cm); (have HW5 := hid hw5); clear ho5 hs5 hw5; go_simp
  refine hK.out _ _ (by assumption) (fun hH => ?_)
  clear hK K
  try simp only [Act.put, List.setIfInBounds_toArray, List.set_cons_zero, List.set_cons_succ]
  refine wpK.step (i := 8) (by kernel_rfl) (by simp only [List.getElem?_toArray, List.getElem?_cons_succ, List.getElem?_cons_zero]; rfl) (fun K hK => ?_)
  go_simp
  (refine (out_Ints li hbd a li.length c rfl hli g v5 _ _ HW5.out.out (by simp only [List.nil_append, List.length_append]; have := HE10.out; have := HN10.out; omega) (HUB.out _ _ _ HW5.out).2 (hid (HUB.out _ _ _ HW5.out).1) all (hid (by rw [hall.out]; unfold replyL; simp only [List.nil_append, List.append_assoc]))).mono ?_); rintro e3 w6 ⟨v6, rfl, ho6, hs6⟩; (have hw6 := HW5.out.step ho6 hs6); (have hK6 : Blk w6 bb cs := by rw [HBB.out]; exact hw6.cm); (have HW6 := hid hw6); clear ho6 hs6 hw6; go_simp
  refine hK.out _ _ (by assumption) (fun hH => ?_)
  clear hK K
  try simp only [Act.put, List.setIfInBounds_toArray, List.set_cons_zero, List.set_cons_succ]
  refine wpK.step (i := 9) (by kernel_rfl) (by simp only [List.getElem?_toArray, List.getElem?_cons_succ, List.getElem?_cons_zero]; rfl) (fun K hK => ?_)
  go_simp
  (refine (out_All g v6 all _ HW6.out.out (by rw [hall.out]; unfold replyL; simp only [List.length_append]; have := HE10.out; have := HN10.out; have := HL10.out; have := HES.out; omega)).mono ?_); rintro e4 w7 ⟨u, rfl, hu, hb7⟩; (have hK7 : Blk w7 bb cs := by rw [HBB.out]; exact (HW6.out.below hb7).cm); (have HU := hid (ownsRow_base hu (HW6.out.bl.size))); (have HB7 := hid (Below.next HW6.out.bl hb7)); clear hu hb7; go_simp
  refine hK.out _ _ (by assumption) (fun hH => ?_)
  clear hK K
  try simp only [Act.put, List.setIfInBounds_toArray, List.set_cons_zero, List.set_cons_succ]
  refine wpK.late (i := 10) (by kernel_rfl) (by simp only [List.getElem?_toArray, List.getElem?_cons_succ, List.getElem?_cons_zero]; rfl) (by kernel_rfl) (fun K hK => ?_)
  go_simp
  refine hK.out _ _ ?_
  clear hK K
  try simp only [Act.put, List.setIfInBounds_toArray, List.set_cons_zero, List.set_cons_succ]
  refine wpK.done (by kernel_rfl) ?_ _
  go_wp2_with fail
  go_ret
  exact ⟨_, rfl, HU.out, HB7.out⟩
theorem order_Bad (w : World) (all : List UInt8) (hall : Hid (all = [60, 0, 0])) :
    Calls Tryd.prog 59 #[] w fun e w' => ∃ u, e = .returned u ∧ w'.ownsRow w.heap.size 5 1 u all.length (bv all) ∧ Below w.heap.size w w' := by
  go_enter Tryd.func59, Tryd.ntmps59
  go_wp2_with fail
  refine (order_Reply 30 0 (hid (by omega)) (hid (by omega)) [] (hid (by simp)) none 0 (by simp) w (Rd.nil _ _) all (hid (by rw [hall.out]; unfold replyL encs; rw [show zz 30 = 60 from rfl, show zz 0 = 0 from rfl, show zz (([] : List Int).length : Int) = 0 from rfl, enc_small 60 (by omega), enc_small 0 (by omega)]; rfl))).mono ?_
  rintro e w1 ⟨u, rfl, hu, hb⟩
  have HU := hid hu
  have HB := hid hb
  clear hu hb
  go_wp2_with fail
  go_ret
  exact ⟨_, rfl, HU.out, HB.out⟩
end Go.Proofs.YtcjdlckfbkdibaaDoor
end
section
/- The fixed answer of the laws of orders. -/
namespace Go.Proofs.YtcjdlckfbkdibaaDoor
open Go.RowKit
open Go.Lib (hid)
set_option linter.unusedVariables false

theorem slb_one {w : World} {g : Nat} {x : UInt8} (h : Blk w g #[.int .u8 (x.toNat : Int)]) : SlB w (.slice (some ⟨g, 0, none⟩) 1 1) [x] :=
  ⟨_, 1, rfl, by simp, fun i hi => ⟨g, 0, rfl, by
    obtain rfl : i = 0 := by simp [bv] at hi; omega
    rw [Nat.zero_add, h.cell]; rfl⟩, by simp, by omega, nofun⟩
theorem aw_right : (cmOf 1 0 24 0 0 0 0 ⟨#[]⟩ ⟨#[]⟩).right = true := by decide
theorem aw_bytes : (cmOf 1 0 24 0 0 0 0 ⟨#[]⟩ ⟨#[]⟩).bytes = [2, 48] := by
  unfold Cm.bytes cmOf
  simp only
  rw [show zz 1 = 2 from rfl, show zz 24 = 48 from rfl, enc_small 2 (by omega), enc_small 48 (by omega)]
  rfl
theorem aw_ok : (cmOf 1 0 24 0 0 0 0 ⟨#[]⟩ ⟨#[]⟩).Ok := ⟨by decide, by decide, by decide, by decide, rfl, by decide⟩
theorem aw_parse : parseV [2] = none := by
  unfold parseV parseCm
  rw [if_neg (by decide), if_neg]
  intro h
  have : (readCm [2]).left = none := by decide
  rw [this] at h
  simp at h
set_option maxRecDepth 100000 in
set_option maxHeartbeats 2000000 in
theorem law27_awake (w : World) : Calls Tryd.prog 27 #[] w fun e w' => e = .returned (.bool true) ∧ Below w.heap.size w w' := by
  go_enter Tryd.func27, Tryd.ntmps27
  go_wp2_with fail
  refine (order_BytesYes 1 0 24 0 0 0 0 ⟨#[]⟩ ⟨#[]⟩ w (by decide) (by decide) (hid aw_ok) (hid aw_right) [2, 48] (hid aw_bytes)).mono ?_
  rintro e w1 ⟨v1, rfl, ho1, hb1⟩
  have HS1 := hid (ownsRow.slb ho1 (by decide))
  have HB1 := hid hb1
  obtain ⟨a1, c1, rfl, -⟩ := HS1.out
  clear ho1 hb1
  go_wp2_with fail
  have hb2 : Below w1.heap.size w1 (w1.alloc (.cells #[.int .u8 2] 5)) := Below.new _ _
  refine (order_Parse [2] _ _ (slb_one (x := 2) (Blk.new w1 _ _)) (by decide)).mono ?_
  rintro e w2 ⟨V, E, rfl, hpv, hb3⟩
  obtain ⟨rfl, rfl⟩ : V = cmV ⟨0, 0, 0, [], [], []⟩ ∧ E = 30 := by
    rcases hpv with ⟨-, h1, h2⟩ | ⟨c, h1, -⟩
    · exact ⟨h1, h2⟩
    · rw [aw_parse] at h1; simp at h1
  have HB2 := hid (Below.next hb2 hb3)
  unfold cmV
  clear hb2 hb3 hpv
  go_upto_region 3 with fail
  generalize hw3 : World.alloc w2 _ = w3
  have hb3 : Below w1.heap.size w1 w3 := by rw [← hw3]; exact Below.next HB2.out (Below.new _ _)
  have HS3 := hid (HS1.out.below hb3)
  have HB3 := hid (Below.next HB1.out hb3)
  have hst : (convert 28 9 (.slice a1 2 c1)).run Tryd.prog w3 = .ok (.string ⟨#[2, 48]⟩) w3 := HS3.out.str w3 (Below.refl _ _)
  clear hw3 hb3
  go_wp2_with fail
  refine (order_Bad w3 [60, 0, 0] (hid rfl)).mono ?_
  rintro e w4 ⟨u, rfl, hu, hb4⟩
  have HU := hid (ownsRow.slb hu (by decide))
  have HB4 := hid (Below.next HB3.out hb4)
  obtain ⟨a4, c4, rfl, -⟩ := HU.out
  clear hu hb4 hst
  have hst : (convert 28 9 (.slice a4 3 c4)).run Tryd.prog w4 = .ok (.string ⟨#[60, 0, 0]⟩) w4 := HU.out.str w4 (Below.refl _ _)
  go_wp2_with fail
  go_ret
  exact ⟨rfl, HB4.out⟩
end Go.Proofs.YtcjdlckfbkdibaaDoor
end
section
/- Contract of order.ParseReply. -/
namespace Go.Proofs.YtcjdlckfbkdibaaDoor
open Go.RowKit
open Go.Lib (hid)
set_option linter.unusedVariables false

/-- the reply of bytes -/
def parseR (l : List UInt8) : Option (Int × Int × List Int) :=
  if (inInts 4096 (inInt (inInt (some l)).2).2).2 = some [] then some ((inInt (some l)).1, (inInt (inInt (some l)).2).1, (inInts 4096 (inInt (inInt (some l)).2).2).1) else none
def PR (w0 : World) (w : World) (l : List UInt8) (V : Value) (ok : Bool) : Prop :=
  (parseR l = none ∧ ok = false ∧ V = .agg #[.int .i64 0, .int .i64 0, .slice none 0 0]) ∨
  ∃ e n li v, parseR l = some (e, n, li) ∧ ok = true ∧ V = .agg #[.int .i64 e, .int .i64 n, v] ∧ w.ownsRow w0.heap.size 3 1 v li.length (iv li)
theorem Blk.cells3 {w : World} {g : Nat} {c0 c1 c2 : Value} (h : Blk w g #[c0, c1, c2]) : w.cell? ⟨g, 0, none⟩ = some c0 ∧ w.cell? ⟨g, 1, none⟩ = some c1 ∧ w.cell? ⟨g, 2, none⟩ = some c2 ∧ w.frozen? ⟨g, 0, none⟩ = false ∧ w.frozen? ⟨g, 1, none⟩ = false ∧ w.frozen? ⟨g, 2, none⟩ = false :=
  ⟨by rw [h.cell]; rfl, by rw [h.cell]; rfl, by rw [h.cell]; rfl, h.unfrozen _, h.unfrozen _, h.unfrozen _⟩
theorem Blk.all3 {w : World} {g : Nat} {c0 c1 c2 : Value} (h : Blk w g #[c0, c1, c2]) (u0 u1 u2 : Value) : ∃ wz, wz = ((w.setCell ⟨g, 0, none⟩ u0).setCell ⟨g, 1, none⟩ u1).setCell ⟨g, 2, none⟩ u2 ∧ Blk wz g #[u0, u1, u2] ∧ Upd (fun k => k = g) w wz :=
  ⟨_, rfl, by simpa using ((h.set 0 u0).set 1 u1).set 2 u2, ((Upd.setCell w g 0 u0).set2 rfl 1 u1).set2 rfl 2 u2⟩
set_option maxRecDepth 100000 in
set_option maxHeartbeats 4000000 in
theorem order_ParseReply (l : List UInt8) (u : Value) (w : World) (hl : SlB w u l) (hb : l.length ≤ 10000) :
    Calls Tryd.prog 37 #[u] w fun e w' => ∃ V ok, e = .returned (.tuple #[V, .bool ok]) ∧ PR w w' l V ok ∧ Below w.heap.size w w' := by
  have HL := hid hl
  obtain ⟨a, c, rfl, -⟩ := hl
  obtain ⟨e1, s1, h1⟩ : ∃ x y, inInt (some l) = (x, y) := ⟨_, _, rfl⟩
  obtain ⟨n1, s2, h2⟩ : ∃ x y, inInt s1 = (x, y) := ⟨_, _, rfl⟩
  obtain ⟨li, s3, h3⟩ : ∃ x y, inInts 4096 s2 = (x, y) := ⟨_, _, rfl⟩
  have hp : parseR l = if s3 = some [] then some (e1, n1, li) else none := by unfold parseR; rw [h1]; simp only; rw [h2]; simp only; rw [h3]
  have hl1 : (s1.getD []).length ≤ l.length := by have := inInt_le (some l); rw [h1] at this; exact this
  have hl2 : (s2.getD []).length ≤ (s1.getD []).length := by have := inInt_le s1; rw [h2] at this; exact this
  have H1 := hid h1
  have H2 := hid h2
  have H3 := hid h3
  have HP := hid hp
  have HL2 := hid (Nat.le_trans hl2 hl1)
  clear h1 h2 h3 hp hl1 hl2
  go_enter Tryd.func37, Tryd.ntmps37
  go_wp2_with fail
  generalize hw0 : World.alloc w _ = w0
  have HB0 : Hid (Below w.heap.size w w0) := hid (by rw [← hw0]; exact Below.new _ _)
  have HR0 : Hid (Blk w0 w.heap.size #[.int .i64 0, .int .i64 0, .slice none 0 0]) := hid (by rw [← hw0]; exact Blk.new w _ _)
  clear hw0
  refine (var_NewIn l _ w0 (HL.out.below HB0.out) (by omega)).mono ?_
  rintro e w1 ⟨g, D0, rfl, hi1, hg1, hD1, hb1⟩
  obtain ⟨D, hiD, hDl⟩ : ∃ D, InIs w1 g D (some l) ∧ D < w1.heap.size := by
    by_cases hd : D0 < w1.heap.size
    · exact ⟨D0, hi1, hd⟩
    · have := HR0.out.lt
      exact ⟨w.heap.size, hi1.redo hd _ (by omega), by have := hb1.size; omega⟩
  have HI1 := hid hiD
  have HD1 := hid hDl
  have HG1 : Hid (w.heap.size < g) := hid (by have := HR0.out.lt; omega)
  have HB1 := hid (Below.next HB0.out hb1)
  have HR1 := hid (Blk.below hb1 HR0.out)
  clear hi1 hg1 hD1 hiD hDl hb1 HR0 HB0
  go_wp2_with fail
  refine (in_Int (some l) g D w1 HI1.out e1 s1 H1).mono ?_
  rintro e w2 ⟨rfl, hi2, hu2⟩
  have HI2 := hid hi2
  have HU2 := hid hu2
  clear hi2 hu2
  go_wp2_with fail
  refine (in_Int s1 g D w2 HI2.out n1 s2 H2).mono ?_
  rintro e w3 ⟨rfl, hi3, hu3⟩
  have HI3 := hid hi3
  have HU3 := hid (HU2.out.trans hu3 (fun _ _ x => x))
  have HB3 : Hid (Below w.heap.size w w3) := hid (HB1.out.trans (HU3.out.below HB1.out.size (fun k _ e => by have := HG1.out; omega)))
  have HR3 := hid (HR1.out.upd HU3.out (by have := HG1.out; omega))
  have HGL : Hid (g < w3.heap.size ∧ D < w3.heap.size) := hid ⟨hi3.lt, by have := HD1.out; have := HU3.out.size; omega⟩
  clear hi3 hu3 HI1 HI2 HU2 HB1 HR1 HD1
  go_wp2_with fail
  generalize hw4 : World.alloc w3 _ = w4
  obtain ⟨bc, hbc⟩ : ∃ bc, bc = w3.heap.size := ⟨_, rfl⟩
  rw [← hbc]
  have HC4 : Hid (Blk w4 bc #[.int .i64 e1, .int .i64 n1, .slice none 0 0]) := hid (by rw [← hw4, hbc]; exact Blk.new w3 _ _)
  have hb4 : Below w3.heap.size w3 w4 := by rw [← hw4]; exact Below.new _ _
  have HB4 := hid (Below.next HB3.out hb4)
  have HR4 := hid (Blk.below hb4 HR3.out)
  have HI4 := hid (HI3.out.below hb4)
  have HBC : Hid (g < bc ∧ D < bc ∧ w.heap.size < bc) := hid (by rw [hbc]; exact ⟨HGL.out.1, HGL.out.2, HR3.out.lt⟩)
  clear hw4 hbc hb4 HI3 HU3 HB3 HR3 HGL
  refine (in_Ints 4096 s2 g D w4 HI4.out (by have := HL2.out; omega) li s3 H3).mono ?_
  rintro e w5 ⟨v5, rfl, ho5, hi5, hu5⟩
  have HO5 := hid (ownsRow_base ho5 (show w.heap.size ≤ w4.heap.size from HB4.out.size))
  have HOB : Hid (v5.ownBlock ≠ some bc ∧ v5.ownBlock ≠ some w.heap.size) := hid ⟨fun hk => by have := (ho5.lt _ hk).1; have := HC4.out.lt; omega, fun hk => by have := (ho5.lt _ hk).1; have := HR4.out.lt; omega⟩
  have HI5 := hid hi5
  have HB5 : Hid (Below w.heap.size w w5) := hid (HB4.out.trans (hu5.below HB4.out.size (fun k _ e => by have := HG1.out; omega)))
  have HR5 := hid (HR4.out.upd hu5 (by have := HG1.out; omega))
  have HC5 := hid (HC4.out.upd hu5 (by have := HBC.out; omega))
  obtain ⟨a5, c5, rfl, -⟩ := ownsRow.rd ho5
  clear ho5 hi5 hu5 HI4 HB4 HR4 HC4
  obtain ⟨c0, c1, c2, f0, f1, f2⟩ := HC5.out.cells3
  go_upto_region 4 with fail
  have HC6 : Hid (Blk (w5.setCell ⟨bc, 2, none⟩ (.slice a5 li.length c5)) bc #[.int .i64 e1, .int .i64 n1, .slice a5 li.length c5]) := hid (by simpa using HC5.out.set 2 (.slice a5 li.length c5))
  have hu6 := Upd.setCell w5 bc 2 (.slice a5 li.length c5)
  have HU6 := hid hu6
  generalize World.setCell w5 _ _ = w6 at HC6 HU6 hu6
  have HO6 := hid (hu6.owns HO5.out (fun k hk e => by subst e; exact HOB.out.1 hk))
  have HI6 := hid (HI5.out.upd hu6 (by have := HBC.out; omega) (fun _ => by have := HBC.out; omega))
  have HB6 : Hid (Below w.heap.size w w6) := hid (HB5.out.trans (hu6.below HB5.out.size (fun k _ e => by have := HBC.out; omega)))
  have HR6 := hid (HR5.out.upd hu6 (by have := HBC.out; omega))
  clear hu6 HU6 HO5 HI5 HB5 HR5 HC5 c0 c1 c2 f0 f1 f2
  obtain ⟨c0, c1, c2, f0, f1, f2⟩ := HC6.out.cells3
  obtain ⟨r0, r1, r2, g0, g1, g2⟩ := HR6.out.cells3
  go_wp2_with fail
  refine (in_Done _ g D _ HI6.out).mono ?_
  rintro e w' ⟨rfl, rfl⟩
  cases hdn : inDone s3 with
  | false =>
    have hpn : parseR l = none := by
      rw [HP.out, if_neg]
      intro hh; rw [hh] at hdn; simp [inDone] at hdn
    have HPN := hid hpn
    obtain ⟨wz, hwz, hbz, huz⟩ := HR6.out.all3 (.int .i64 0) (.int .i64 0) (.slice none 0 0)
    have HWZ := hid hwz
    have HBZ := hid hbz
    have HBF : Hid (Below w.heap.size w wz) := hid (HB6.out.trans (huz.below HB6.out.size (fun k _ e => by omega)))
    clear hdn hpn hwz hbz huz
    go_wp2_with fail
    rw [← HWZ.out]
    clear c0 c1 c2 f0 f1 f2 r0 r1 r2 g0 g1 g2
    obtain ⟨z0, z1, z2, -⟩ := HBZ.out.cells3
    (try simp only [Exit.inBlock, Exit.then])
    refine bodyPost_ret (res_cell_tmp rfl _ _ _ rfl (by go_simp; rfl)) rfl ?_
    exact ⟨_, _, rfl, .inl ⟨HPN.out, rfl, rfl⟩, HBF.out⟩
  | true =>
    have hds : s3 = some [] := by simpa [inDone] using hdn
    have hpy : parseR l = some (e1, n1, li) := by rw [HP.out, if_pos hds]
    have HPY := hid hpy
    obtain ⟨wz, hwz, hbz, huz⟩ := HR6.out.all3 (.int .i64 e1) (.int .i64 n1) (.slice a5 li.length c5)
    have HWZ := hid hwz
    have HBZ := hid hbz
    have HBF : Hid (Below w.heap.size w wz) := hid (HB6.out.trans (huz.below HB6.out.size (fun k _ e => by omega)))
    have HOZ := hid (huz.owns HO6.out (fun k hk e => by subst e; exact HOB.out.2 hk))
    clear hdn hpy hds hwz hbz huz
    go_wp2_with fail
    rw [← HWZ.out]
    clear c0 c1 c2 f0 f1 f2 r0 r1 r2 g0 g1 g2
    obtain ⟨z0, z1, z2, -⟩ := HBZ.out.cells3
    (try simp only [Exit.inBlock, Exit.then])
    refine bodyPost_ret (res_cell_tmp rfl _ _ _ rfl (by go_simp; rfl)) rfl ?_
    exact ⟨_, _, rfl, .inr ⟨_, _, _, _, HPY.out, rfl, rfl, HOZ.out⟩, HBF.out⟩
end Go.Proofs.YtcjdlckfbkdibaaDoor
end
