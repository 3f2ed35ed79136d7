/- Joined texts, in this order: SealFit, SealPart. Each one's first remark says what it proves; no condition beyond those that its theorems name. -/
import Derived.Test.YtohknblokejldaaJLawDiskCopies13
import Derived.Laws.CopyOwn
import Derived.Deep.DeepCutAuto
import Derived.Deep.QuietTactic
import Derived.BigQuiet
section
/- Contract: seal.Fit. -/
namespace Go.Proofs.Ytohknblokejldaa
open Go.RowKit
open Go.Lib (hid)
set_option linter.unusedVariables false

theorem seal_Fit_no (l : List UInt8) (u : Value) (w : World) (hl : SlB w u l) (size : Int) (hs1 : -9223372036854775808 ≤ size) (hs2 : size ≤ 9223372036854775807) (h : size < 6 ∨ 65536 < size ∨ size < (l.length : Int) + 6) :
    Calls Try.prog 45 #[u, .int .i64 size] w fun e w' => e = .returned (.tuple #[.slice none 0 0, .bool false]) ∧ w = w' := by
  obtain ⟨a, c, rfl, h1, -⟩ := hl
  by_cases c1 : size < 6
  · clear h
    go_enter Try.func45, Try.ntmps45
    go_wp2
    go_ret2
    exact ⟨rfl, rfl⟩
  · by_cases c2 : 65536 < size
    · clear h
      go_enter Try.func45, Try.ntmps45
      go_wp2
      go_ret2
      exact ⟨rfl, rfl⟩
    · have c3 : size < (l.length : Int) + 6 := by omega
      clear h
      go_enter Try.func45, Try.ntmps45
      go_wp2
      go_ret2
      exact ⟨rfl, rfl⟩

theorem fit_row (l : List UInt8) (size : Nat) (h6 : l.length + 6 ≤ size) (cur : List Value) (z x y : Value) (hc : cur.length = size) (ht : cur.take (size - 4) = List.replicate (size - 4) z) :
    (splice ((cur.set 0 x).set 1 y) 2 (bv l)).take (size - 4) = [x, y] ++ bv l ++ List.replicate (size - 6 - l.length) z := by
  obtain ⟨r, hr⟩ : ∃ r, cur = List.replicate (size - 4) z ++ r := ⟨cur.drop (size - 4), by rw [← ht, List.take_append_drop]⟩
  have e : size - 4 = (size - 6) + 2 := by omega
  have e2 : size - 6 = l.length + (size - 6 - l.length) := by omega
  rw [hr, e, List.replicate_succ, List.replicate_succ]
  simp only [List.cons_append, List.set_cons_zero, List.set_cons_succ, splice, List.take_succ_cons, List.take_zero, List.nil_append, bv_length]
  rw [show 2 + l.length = l.length + 2 by omega]
  simp only [List.drop_succ_cons]
  congr 2
  obtain ⟨q, hq⟩ : ∃ q, q = size - 6 - l.length := ⟨_, rfl⟩
  rw [← hq] at e2 ⊢
  rw [e2, ← List.replicate_append_replicate, List.append_assoc]
  rw [show (List.replicate l.length z ++ (List.replicate q z ++ r)).drop l.length = List.replicate q z ++ r from List.drop_left' (by simp)]
  rw [← List.append_assoc]
  exact List.take_left' (by simp [bv_length])

theorem bv_two (n : Nat) (h : n < 65536) : bv (lowB n 2) = [.int .u8 ((n : Int) % 256), .int .u8 ((n : Int) / 256)] := by
  simp [lowB, bv]
  omega
theorem bv_zeros (n : Nat) : bv (List.replicate n 0) = List.replicate n (.int .u8 0) := by simp [bv]

attribute [local irreducible] crc lowB
set_option maxHeartbeats 800000 in
theorem seal_Fit_yes (l : List UInt8) (u : Value) (w : World) (hl : SlB w u l) (size : Nat) (S : Int) (hS : S = (size : Int)) (h6 : l.length + 6 ≤ size) (hsz : size ≤ 65536) (f : List UInt8) (hf : Hid (f = fitL l size)) :
    Calls Try.prog 45 #[u, .int .i64 S] w fun e w' => ∃ v, e = .returned (.tuple #[v, .bool true]) ∧ w'.ownsRow w.heap.size 5 1 v (f ++ lowB (crc f) 4).length (bv (f ++ lowB (crc f) 4)) ∧ Below w.heap.size w w' := by
  subst hS
  have HL := hid hl
  obtain ⟨a, c, rfl, h1, h2, -, -, h5⟩ := hl
  have HR := hid h2
  have H5 := hid h5
  have hflen : f.length = size - 4 := by rw [hf.out]; exact fitL_length l size h6
  have HFL := hid hflen
  clear h2 h5 hflen
  go_enter Try.func45, Try.ntmps45
  go_wp2_with (at_make; refine wpList_make T_bytes rfl _ rfl _ _ rfl w.heap.size _ _ _ _ (size - 4) size rfl rfl ?b0 rfl (by omega) ?b1 (Nat.le_refl _) ?_)
  case b0 => omega
  case b1 => omega
  intro w1 hown1 hg1
  have hb1 : Below w.heap.size w w1 := (Below.refl _ _).grown hg1 (Nat.le_refl _) (fun k h => by cases h)
  have HB1 := hid hb1
  have hx0 : w1.cell? ⟨w.heap.size, 0, none⟩ = some (.int .u8 0) := by rw [hown1.cellAt 0 (by omega), List.getElem?_replicate, if_pos (by omega)]
  have hx1 : w1.cell? ⟨w.heap.size, 1, none⟩ = some (.int .u8 0) := by rw [hown1.cellAt 1 (by omega), List.getElem?_replicate, if_pos (by omega)]
  have hf0 : w1.frozen? ⟨w.heap.size, 0, none⟩ = false := hown1.frozenAt 0
  have hf1 : w1.frozen? ⟨w.heap.size, 1, none⟩ = false := hown1.frozenAt 1
  have HO1 := hid hown1
  have hsize4 : ((size : Int) - 4).toNat = size - 4 := by omega
  clear hown1 hg1 hb1
  go_upto_region 5 with fail
  obtain ⟨g, hgw⟩ : ∃ g, g = w.heap.size := ⟨_, rfl⟩
  obtain ⟨x, hx⟩ : ∃ x, x = Value.int .u8 ((l.length : Int) % 256) := ⟨_, rfl⟩
  obtain ⟨y, hy⟩ : ∃ y, y = Value.int .u8 ((l.length : Int) / 256) := ⟨_, rfl⟩
  obtain ⟨w2, hw2⟩ : ∃ w2, w2 = (w1.setCell ⟨w.heap.size, 0, none⟩ (.int .u8 ((l.length : Int) % 256))).setCell ⟨w.heap.size, 1, none⟩ (.int .u8 ((l.length : Int) / 256)) := ⟨_, rfl⟩
  rw [← hw2]
  obtain ⟨cur, hcl, hct, hg2⟩ : ∃ cur : List Value, cur.length = size ∧ cur.take (size - 4) = List.replicate (size - 4) (.int .u8 0) ∧ w2.heap[w.heap.size]? = some (.cells ((cur.set 0 x).set 1 y).toArray 5 (0, 0)) := by
    rcases HO1.out.2 with ⟨e, -⟩ | ⟨g', cap, cur, e, -, hg, -, -, hcs, htake⟩
    · simp at e
    · simp only [Value.slice.injEq, Option.some.injEq, Addr.mk.injEq, and_true, true_and] at e
      obtain ⟨rfl, rfl⟩ := e
      refine ⟨cur.toList, by simpa using hcs, by simpa using htake, ?_⟩
      have := heap_setCell_same _ _ 1 _ _ (.int .u8 ((l.length : Int) / 256)) (heap_setCell_same w1 _ 0 cur _ (.int .u8 ((l.length : Int) % 256)) hg)
      rw [hw2, this, hx, hy]
      congr 2
      apply Array.ext'
      simp
  have hb2 : Below w.heap.size w w2 := by rw [hw2]; exact (HB1.out.setCell (Nat.le_refl _) _).setCell (Nat.le_refl _) _
  have HFR := hid (fit_row l size h6 cur (.int .u8 0) x y hcl hct)
  obtain ⟨Lc, hLc⟩ : ∃ Lc, Lc = (cur.set 0 x).set 1 y := ⟨_, rfl⟩
  rw [← hLc] at hg2 HFR
  have hLl : Lc.length = size := by rw [hLc]; simpa using hcl
  have HG2 := hid hg2
  have HB2 := hid hb2
  have HR2 := hid (HR.out.below' hb2)
  have HLL := hid hLl
  have HBF : Hid (bv f = [x, y] ++ bv l ++ List.replicate (size - 6 - l.length) (.int .u8 0)) := hid (by
    rw [hf.out]; unfold fitL; rw [bv_append, bv_append, bv_two _ (by omega), bv_zeros, hx, hy])
  clear hg2 hb2 hLl hLc hcl hct hw2 hx hy hx0 hx1 hf0 hf1 HO1 HB1 hgw
  go_wp2_with (with_reducible refine wpList_copy_splice rfl (.tmp 36) (.tmp 37) 27 27 rfl 5 (by kernel_rfl) (by kernel_rfl) (some ⟨w.heap.size, 2, none⟩) a (size - 4 - 2) (size - 2) l.length c rfl rfl w.heap.size 2 Lc 5 HG2.out (bv l) ?d1 ?d2 ?d3 (bv_oneCell l) w.heap.size w HB2.out (Nat.le_refl _) ?_)
  case d1 => rw [bv_length]; exact (Nat.min_eq_left (by omega)).symm
  case d2 =>
    intro h0
    replace h0 : 0 < l.length := by simpa [bv_length] using h0
    obtain ⟨b, off, ha, -⟩ := HR2.out 0 (by rw [bv_length]; exact h0)
    refine ⟨_, ha, fun j v hv => ?_⟩
    obtain ⟨b', off', ha', hc'⟩ := HR2.out j (List.getElem?_eq_some_iff.1 hv).1
    rw [ha] at ha'
    simp only [Option.some.injEq, Addr.mk.injEq, and_true] at ha'
    obtain ⟨rfl, rfl⟩ := ha'
    rw [Addr.add_lit, hc', hv]
  case d3 => rw [bv_length, HLL.out]; omega
  intro w3 hg3 hb3
  have hown3 : w3.ownsRow w.heap.size 5 1 (.slice (some ⟨w.heap.size, 0, none⟩) (size - 4) size) f.length (bv f) := by
    refine ⟨by simp [bv_length], .inr ⟨w.heap.size, size, _, by rw [HFL.out], Nat.le_refl _, hg3.out, by rw [HFL.out]; omega, by unfold maxLen; omega, ?_, ?_⟩⟩
    · rw [List.size_toArray, length_splice _ _ _ (by rw [bv_length, HLL.out]; omega), HLL.out, Nat.mul_one]
    · rw [Nat.mul_one, HFL.out, HFR.out, HBF.out]
  have HO3 := hid hown3
  have HB3 := hid hb3
  have HS3 : Hid (SlB w3 (.slice (some ⟨w.heap.size, 0, none⟩) (size - 4) size) f) := hid (ownsRow.slb hown3 (by have := HFL.out; omega))
  have hcrc : crc f < 4294967296 := by unfold crc; omega
  clear hown3 hb3 hg3
  go_wp2_with fail
  refine (seal_Sum1 f _ w3.heap.size _ (cell_block0 _ _ _) (HS3.out.below (Below.new _ _))).mono ?_
  rintro e w4 ⟨rfl, hb4⟩
  have hb4' := Below.next (Below.new w3 (.cells #[.slice (some ⟨w.heap.size, 0, none⟩) (size - 4) size] 27)) hb4
  have HO4 := hid (ownsRow_below HO3.out hb4')
  have HB4 := hid (Below.next HB3.out hb4')
  clear hb4 hb4'
  go_wp2_with fail
  refine (seal_low (crc f) hcrc _).mono ?_
  rintro e w5 ⟨rfl, hlow, hb5⟩
  have HO5 := hid (ownsRow_below HO4.out hb5)
  have HB5 := hid (Below.next HB4.out hb5)
  obtain ⟨a5, cap5, ha5, -, -, hr5, -⟩ := ownsRow.rd hlow
  simp only [Value.slice.injEq] at ha5
  obtain ⟨rfl, -, rfl⟩ := ha5
  have HR5 := hid hr5
  have hsz5 := HB5.out.size
  clear hlow hb5 hr5
  go_wp2_with (at_builtin; refine wpList_appendN T_bytes _ rfl _ _ rfl w.heap.size _ _ _ rfl (by have h := HO5.out; rw [HFL.out] at h; exact h) _ _ _ (bv (lowB (crc f) 4)) rfl ?c1 (fun h => nomatch h) HR5.out (bv_oneCell _) ?c2 hsz5 ?_)
  case c1 => simp [bv_length, lowB_length]
  case c2 => omega
  intro v6 w6 hown6 hg6 hnil6
  have HB6 := hid (HB5.out.grown hg6 hsz5 (fun k hk => (HO5.out.lt k hk).1))
  have HO6 : Hid (w6.ownsRow w.heap.size 5 1 v6 (f ++ lowB (crc f) 4).length (bv (f ++ lowB (crc f) 4))) := hid (by rw [bv_append, List.length_append, lowB_length, HFL.out]; exact hown6)
  clear hown6 hg6 hnil6
  go_wp2_with fail
  go_ret2
  exact ⟨_, rfl, HO6.out, HB6.out⟩
end Go.Proofs.Ytohknblokejldaa
end
section
/- Contract: seal.Part. -/
namespace Go.Proofs.Ytohknblokejldaa
open Go.RowKit
open Go.Lib (hid)
set_option linter.unusedVariables false

theorem or_i64 (x y : Nat) (hx : x < 256) (hy : y < 256) : bits .or .i64 (x : Int) ((y : Int) * 256) = ((x + 256 * y : Nat) : Int) := by
  show IntKind.i64.wrap ((BitVec.ofInt 64 (x : Int) ||| BitVec.ofInt 64 ((y : Int) * 256)).toNat : Int) = _
  have e : ((y : Int) * 256) = ((y * 256 : Nat) : Int) := by omega
  rw [e, BitVec.ofInt_natCast, BitVec.ofInt_natCast, BitVec.toNat_or, BitVec.toNat_ofNat, BitVec.toNat_ofNat, Nat.mod_eq_of_lt (by omega), Nat.mod_eq_of_lt (by omega), IntKind.wrap_i64]
  have h := Nat.two_pow_add_eq_or_of_lt (i := 8) (b := x) (by omega) y
  rw [Nat.or_comm, show y * 256 = 2 ^ 8 * y by omega, ← h]
  omega
theorem bv_drop_take (l : List UInt8) (i n : Nat) : ((bv l).drop i).take n = bv ((l.drop i).take n) := by
  unfold bv; rw [List.map_take, List.map_drop]
theorem ownsRow_slice {w : World} {base : Nat} {e : TypeId} {v : Value} {n : Nat} {xs : List Value} {size : Nat} (h : w.ownsRow base e size v n xs) : ∃ a c, v = .slice a n c := by
  rcases h.2 with ⟨rfl, rfl⟩ | ⟨g, cap, cur, rfl, -⟩
  · exact ⟨_, _, rfl⟩
  · exact ⟨_, _, rfl⟩
/-- what is fitted, with its sum -/
def fitted (l : List UInt8) (size : Nat) : List UInt8 := fitL l size ++ lowB (crc (fitL l size)) 4
def partN (l : List UInt8) : Nat := (l.getD 0 0).toNat + 256 * (l.getD 1 0).toNat
def partL (l : List UInt8) : Option (List UInt8) :=
  if 6 ≤ l.length ∧ l.length ≤ 65536 ∧ partN l + 6 ≤ l.length ∧ fitted ((l.drop 2).take (partN l)) l.length = l then some ((l.drop 2).take (partN l)) else none

attribute [local irreducible] crc lowB
set_option maxHeartbeats 800000 in
theorem seal_Part (l : List UInt8) (u : Value) (w : World) (hl : SlB w u l) (r : Option (List UInt8)) (hr : Hid (partL l = r)) :
    Calls Try.prog 55 #[u] w fun e w' => ∃ v, e = .returned (.tuple #[v, .bool r.isSome]) ∧ w'.ownsRow w.heap.size 5 1 v (r.getD []).length (bv (r.getD [])) ∧ Below w.heap.size w w' := by
  have HL := hid hl
  obtain ⟨a, c, rfl, h1, h2, h3, h4, h5⟩ := hl
  have HR := hid h2
  by_cases c1 : l.length < 6
  · obtain rfl : r = none := by rw [← hr.out, partL, if_neg (by omega)]
    clear h2 h5
    go_enter Try.func55, Try.ntmps55
    go_wp2
    go_ret2
    exact ⟨_, rfl, World.ownsRow_nil _ _ _ _, Below.refl _ _⟩
  by_cases c2 : 65536 < l.length
  · obtain rfl : r = none := by rw [← hr.out, partL, if_neg (by omega)]
    clear h2 h5
    go_enter Try.func55, Try.ntmps55
    go_wp2
    go_ret2
    exact ⟨_, rfl, World.ownsRow_nil _ _ _ _, Below.refl _ _⟩
  obtain ⟨b, off, x0, rfl, hc0, hx0, -⟩ := h2.byte 0 (by omega)
  obtain ⟨b', off', x1, e1, hc1, hx1, -⟩ := h2.byte 1 (by omega)
  simp only [Option.some.injEq, Addr.mk.injEq, and_true] at e1
  obtain ⟨rfl, rfl⟩ := e1
  rw [Nat.add_zero] at hc0
  have HX0 := hid hx0
  have HX1 := hid hx1
  have hor : bits .or .i64 (wrap64 (x0.toNat : Int)) (wrap64 (wrap64 (x1.toNat : Int) * 256)) = ((x0.toNat + 256 * x1.toNat : Nat) : Int) := by
    have q0 : x0.toNat < 256 := x0.toNat_lt
    have q1 : x1.toNat < 256 := x1.toNat_lt
    rw [← or_i64 x0.toNat x1.toNat q0 q1]
    have e1 : wrap64 (x0.toNat : Int) = x0.toNat := by unfold wrap64; omega
    have e2 : wrap64 (x1.toNat : Int) = x1.toNat := by unfold wrap64; omega
    have e3 : wrap64 ((x1.toNat : Int) * 256) = (x1.toNat : Int) * 256 := by unfold wrap64; omega
    rw [e1, e2, e3]
  obtain ⟨n, hn⟩ : ∃ n, n = x0.toNat + 256 * x1.toNat := ⟨_, rfl⟩
  rw [← hn] at hor
  have HN : Hid (partN l = n) := hid (by unfold partN; rw [List.getD_eq_getElem?_getD, List.getD_eq_getElem?_getD, hx0, hx1, hn]; rfl)
  have hn64 : n < 65536 := by have := x0.toNat_lt; have := x1.toNat_lt; omega
  have HNN := hid hn
  clear h2 h5 hx0 hx1 hn
  go_enter Try.func55, Try.ntmps55
  go_wp2_with fail
  go_quiet (fail)
  have hb1 := Below.drawn w nq
  obtain ⟨w1, hw1⟩ : ∃ w1, w1 = w.drewN nq := ⟨_, rfl⟩
  rw [← hw1] at hb1 ⊢
  have HB1 := hid hb1
  clear hb1 hw1 hc0 hc1
  by_cases c3 : n + 6 ≤ l.length
  · obtain ⟨x, hx⟩ : ∃ x, x = (l.drop 2).take n := ⟨_, rfl⟩
    have hxl : x.length = n := by rw [hx, List.length_take, List.length_drop]; omega
    have hsub := (HR.out.below' HB1.out).sub 2 n
    rw [bv_drop_take, ← hx] at hsub
    have sx : SlB w1 (.slice (some ⟨b, off + 2, none⟩) n (c - 2)) x := ⟨_, _, by rw [hxl], by omega, hsub, by omega, by omega, nofun⟩
    have HSX := hid sx
    have hne : ¬ c = 2 := by omega
    have HX := hid hx
    have HXL := hid hxl
    clear hsub sx hx hxl
    go_wp2_with fail
    refine (bytes_Clone x _ w1 HSX.out (by have := HXL.out; omega)).mono ?_
    rintro e w2 ⟨v2, rfl, hown2, hb2⟩
    have HO2 := hid hown2
    have HS2 := hid (ownsRow.slb hown2 (by have := HXL.out; omega))
    have HB2 := hid (Below.next HB1.out hb2)
    obtain ⟨a2, k2, rfl⟩ := ownsRow_slice hown2
    clear hown2 hb2
    go_wp2_with fail
    refine (seal_Fit_yes x _ w2 HS2.out l.length _ rfl (by have := HXL.out; omega) (by omega) (fitL x l.length) (hid rfl)).mono ?_
    rintro e w3 ⟨v3, rfl, hown3, hb3⟩
    obtain ⟨F, hF⟩ : ∃ F, F = fitL x l.length ++ lowB (crc (fitL x l.length)) 4 := ⟨_, rfl⟩
    rw [← hF] at hown3
    have hFl : F.length = l.length := by rw [hF, List.length_append, lowB_length, fitL_length _ _ (by have := HXL.out; omega)]; omega
    have HF := hid hF
    have HS3 := hid (ownsRow.slb hown3 (by omega))
    have HO3 := hid (ownsRow_base (ownsRow_below HO2.out hb3) HB1.out.size)
    have HB3 := hid (Below.next HB2.out hb3)
    obtain ⟨a3, k3, rfl⟩ := ownsRow_slice hown3
    clear hown3 hb3 hF hFl
    by_cases hq : F = l
    · have hqb : (F == l) = true := by simpa using hq
      have HQ := hid (show partL l = some x by unfold partL; rw [HN.out, ← HX.out, if_pos ⟨by omega, by omega, c3, by unfold fitted; rw [← HF.out]; exact hq⟩])
      clear hq
      go_wp2_with (go_at_call 60; (with_reducible refine (bytes_Equal F l _ _ _ HS3.out (HL.out.below HB3.out)).mono ?_); rintro e w' ⟨rfl, rfl⟩)
      go_ret2
      obtain rfl := HQ.out.symm.trans hr.out
      exact ⟨_, rfl, HO3.out, HB3.out⟩
    · have hqb : (F == l) = false := by simpa using hq
      have HQ := hid (show partL l = none by unfold partL; rw [HN.out, ← HX.out, if_neg (fun h => hq (by rw [HF.out]; exact h.2.2.2))])
      clear hq
      go_wp2_with (go_at_call 60; (with_reducible refine (bytes_Equal F l _ _ _ HS3.out (HL.out.below HB3.out)).mono ?_); rintro e w' ⟨rfl, rfl⟩)
      go_ret2
      obtain rfl := HQ.out.symm.trans hr.out
      exact ⟨_, rfl, World.ownsRow_nil _ _ _ _, HB3.out⟩
  · obtain rfl : r = none := by rw [← hr.out, partL, if_neg (by have := HN.out; omega)]
    go_wp2_with fail
    go_ret2
    exact ⟨_, rfl, World.ownsRow_nil _ _ _ _, HB1.out⟩
end Go.Proofs.Ytohknblokejldaa
end
