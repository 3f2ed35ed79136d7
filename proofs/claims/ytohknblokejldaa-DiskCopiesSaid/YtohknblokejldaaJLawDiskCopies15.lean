/- Joined texts, in this order: Slots2, Ends. Each one's first remark says what it proves; no condition beyond those that its theorems name. -/
import Derived.Test.YtohknblokejldaaJLawDiskCopies12
import Derived.Test.YtohknblokejldaaJLawDiskCopies14
import Derived.Deep.DeepCutAuto
import Derived.Test.YtohknblokejldaaJLawDiskCopies03
import Derived.Test.YtohknblokejldaaJLawDiskCopies01
section
/- Contracts of the package slots: Equal, Bytes. -/
namespace Go.Proofs.Ytohknblokejldaa
open Go.RowKit
open Go.Lib (hid)
set_option linter.unusedVariables false

def plainR (e : Int) (l : List Int) : List UInt8 := enc (zz e) ++ enc (zz (l.length : Int)) ++ encs l
def be8 (e : Int) : List UInt8 := (lowB e.toNat 8).reverse
def bytesR (e : Int) (l : List Int) (size : Int) : Option (List UInt8) := if size < 14 ∨ 65544 < size ∨ size < ((plainR e l).length : Int) + 14 then none else some (fitted (plainR e l) (size - 8).toNat ++ be8 e)
theorem be8_len (e : Int) : (be8 e).length = 8 := by simp [be8, lowB_length]
theorem be8_eq (n : Nat) : be8 (n : Int) = [UInt8.ofNat (n / 72057594037927936 % 256), UInt8.ofNat (n / 281474976710656 % 256), UInt8.ofNat (n / 1099511627776 % 256), UInt8.ofNat (n / 4294967296 % 256), UInt8.ofNat (n / 16777216 % 256), UInt8.ofNat (n / 65536 % 256), UInt8.ofNat (n / 256 % 256), UInt8.ofNat (n % 256)] := by
  simp only [be8, Int.toNat_natCast, lowB, List.reverse_cons, List.reverse_nil, List.nil_append, List.cons_append, Nat.div_div_eq_div_mul]
theorem oneU8 (x : Int) : ∀ u ∈ (#[Value.int .u8 x] : Array Value).toList, u.oneCell' = true := by
  intro u hu
  simp at hu
  subst hu
  rfl
theorem be8_step (n k : Nat) (hk : k < 8) : (be8 n).take (k + 1) = (be8 n).take k ++ [UInt8.ofNat (n / 256 ^ (7 - k) % 256)] := by
  rw [be8_eq]
  obtain rfl | rfl | rfl | rfl | rfl | rfl | rfl | rfl : k = 0 ∨ k = 1 ∨ k = 2 ∨ k = 3 ∨ k = 4 ∨ k = 5 ∨ k = 6 ∨ k = 7 := by omega
  all_goals simp
theorem own_app8 {w : World} {B : Nat} {v : Value} {f acc : List UInt8} (n k : Nat) {x : Int} (hacc : acc = f ++ (be8 n).take k) (h : w.ownsRow B 5 1 v (acc.length + 1) (bv acc ++ [Value.int .u8 x])) (hk : k < 8) (hx : x = ((n / 256 ^ (7 - k) % 256 : Nat) : Int)) :
    w.ownsRow B 5 1 v (f ++ (be8 n).take (k + 1)).length (bv (f ++ (be8 n).take (k + 1))) := by
  rw [be8_step n k hk, ← List.append_assoc, ← hacc, bv_append, List.length_append]
  have e : bv [UInt8.ofNat (n / 256 ^ (7 - k) % 256)] = [Value.int .u8 x] := by
    rw [bv_one, hx]
    simp
  rw [e]
  exact h
theorem Rd.lt0 {w : World} {a : Option Addr} {l : List Int} (h : Rd w a (iv l)) (h0 : 0 < l.length) (b off : Nat) (ha : a = some ⟨b, off, none⟩) : b < w.heap.size := by
  obtain ⟨b', off', x, e, hc, -⟩ := h.int 0 h0
  rw [ha] at e
  simp only [Option.some.injEq, Addr.mk.injEq, and_true] at e
  obtain ⟨rfl, rfl⟩ := e
  exact World.block_lt_of_cell? w _ hc
theorem Rd.updI {S : Nat → Prop} {w w' : World} {a : Option Addr} {l : List Int} (h : Rd w a (iv l)) (hu : Upd S w w') (hn : 0 < l.length → ∀ b off, a = some ⟨b, off, none⟩ → ¬ S b) : Rd w' a (iv l) := by
  cases l with
  | nil => exact Rd.nil _ _
  | cons x l => exact hu.rd h (hn (by simp))
theorem right_bd {e : Int} {l : List Int} (h : rightR e l = true) : 1 ≤ e ∧ e ≤ 1099511627776 ∧ l.length ≤ 64 ∧ ∀ x ∈ l, 0 ≤ x ∧ x < 4096 := by
  unfold rightR at h
  simp only [Bool.and_eq_true, decide_eq_true_eq, Bool.not_eq_true', List.any_eq_false] at h
  obtain ⟨⟨⟨h1, h2⟩, h3⟩, h4⟩ := h
  refine ⟨h1, h2, h3, fun x hx => ?_⟩
  have := h4 x hx
  unfold badN at this
  simp at this
  omega
theorem plain_len {e : Int} {l : List Int} (h : rightR e l = true) : (plainR e l).length ≤ 700 := by
  obtain ⟨h1, h2, h3, h4⟩ := right_bd h
  have a1 := enc_len10 (zz e) (zz_lt e (by omega) (by omega))
  have a2 := enc_len10 (zz (l.length : Int)) (zz_lt _ (by omega) (by omega))
  have a3 := encs_le l (fun x hx => by have := h4 x hx; omega)
  unfold plainR
  simp only [List.length_append]
  omega
set_option maxRecDepth 100000 in
theorem slots_Equal (e1 e2 : Int) (l1 l2 : List Int) (v1 v2 : Value) (w : World) (h1 : SlI w v1 l1) (h2 : SlI w v2 l2) (b0 b1 : Bool) (hb0 : (e1 == e2) = b0) (hb1 : Hid (decide (l1 = l2) = b1)) :
    Calls Try.prog 17 #[.agg #[.int .i64 e1, v1], .agg #[.int .i64 e2, v2]] w fun e w' => e = .returned (.bool (b0 && b1)) ∧ Below w.heap.size w w' := by
  have H1 := hid h1
  have H2 := hid h2
  obtain ⟨a1, c1, rfl, -⟩ := h1
  obtain ⟨a2, c2, rfl, -⟩ := h2
  have HK : Hid (∀ x y, Below w.heap.size w ((w.alloc x).alloc y)) := hid fun x y => Below.next (Below.new w x) (Below.new _ y)
  cases b0 with
  | true =>
    go_enter Try.func17, Try.ntmps17
    go_wp2_with fail
    refine (sl_EqualI l1 l2 _ _ _ (H1.out.below (HK.out _ _)) (H2.out.below (HK.out _ _)) b1 hb1).mono ?_
    rintro e w3 ⟨rfl, hb3⟩
    have HB := hid (Below.next (HK.out _ _) hb3)
    clear hb3
    go_wp2_with fail
    go_ret
    exact ⟨by simp, HB.out⟩
  | false =>
    go_enter Try.func17, Try.ntmps17
    go_wp2_with fail
    go_ret
    exact ⟨rfl, HK.out _ _⟩
def FitMid (w : World) (e : Int) (l : List Int) (a : Option Addr) (c : Nat) (size : Int) (bo : Option (List UInt8)) (c7 c8 : Value) (wx : World) : Prop :=
  Blk wx w.heap.size #[.int .i64 e, .slice a l.length c] ∧ Below w.heap.size w wx ∧ ((bo = none ∧ c8 = .bool false ∧ c7 = .slice none 0 0) ∨ (∃ bb, bo = some bb ∧ c8 = .bool true ∧ wx.ownsRow w.heap.size 5 1 c7 (fitted (plainR e l) (size - 8).toNat).length (bv (fitted (plainR e l) (size - 8).toNat)) ∧ ∀ k, c7.ownBlock = some k → k ≠ w.heap.size))
/-- what Bytes tells -/
def outB (e : Int) (l : List Int) (size : Int) : List UInt8 × Int := if rightR e l = true then (match bytesR e l size with | none => ([], 12) | some b => (b, 0)) else ([], 10)
set_option maxRecDepth 100000 in
set_option maxHeartbeats 4000000 in
theorem slots_Bytes (e : Int) (l : List Int) (v : Value) (size : Int) (w : World) (hs : SlI w v l) (hz1 : -9223372036854775808 ≤ size) (hz2 : size ≤ 9223372036854775807) (r : List UInt8) (er : Int) (hr : Hid (outB e l size = (r, er))) :
    Calls Try.prog 15 #[.agg #[.int .i64 e, v], .int .i64 size] w fun en w' => ∃ u, en = .returned (.tuple #[u, .int .i64 er]) ∧ w'.ownsRow w.heap.size 5 1 u r.length (bv r) ∧ Below w.heap.size w w' := by
  have HS0 := hid hs
  obtain ⟨a, c, rfl, -⟩ := hs
  obtain ⟨wb, hwb⟩ : ∃ wb, wb = w.alloc (.cells #[.int .i64 e, .slice a l.length c] 24) := ⟨_, rfl⟩
  have HWB := hid hwb
  have HKB : Hid (Below w.heap.size w wb) := hid (by rw [hwb]; exact Below.new _ _)
  have HBX : Hid (Blk wb w.heap.size #[.int .i64 e, .slice a l.length c]) := hid (by rw [hwb]; exact Blk.new _ _ _)
  have HS := hid (HS0.out.below HKB.out)
  clear hwb
  have h0 := hr.out
  unfold outB at h0
  obtain ⟨b, hb⟩ : ∃ b, rightR e l = b := ⟨_, rfl⟩
  have HR := hid hb
  have hx0 : wb.cell? ⟨w.heap.size, 0, none⟩ = some (.int .i64 e) := by rw [HBX.out.cell]; rfl
  have hx1 : wb.cell? ⟨w.heap.size, 1, none⟩ = some (.slice a l.length c) := by rw [HBX.out.cell]; rfl
  cases b with
  | false =>
    rw [if_neg (by rw [hb]; simp)] at h0
    simp only [Prod.mk.injEq] at h0
    obtain ⟨rfl, rfl⟩ := h0
    clear hb
    go_enter Try.func15, Try.ntmps15
    go_wp2_with fail
    rw [← HWB.out]
    refine (slots_Right e l _ _ HS.out false HR).mono ?_
    rintro en w1 ⟨rfl, hb1⟩
    have HB1 := hid (Below.next HKB.out hb1)
    clear hb1
    go_wp2_with fail
    go_ret2
    exact ⟨_, rfl, World.ownsRow_nil _ _ _ _, HB1.out⟩
  | true =>
    rw [if_pos hb] at h0
    obtain ⟨q1, q2, q3, q4⟩ := right_bd hb
    have HPL := hid (plain_len hb)
    have HQ4 := hid q4
    have H0 := hid h0
    clear hb h0 q4
    go_enter Try.func15, Try.ntmps15
    go_wp2_with fail
    rw [← HWB.out]
    refine (slots_Right e l _ _ HS.out true HR).mono ?_
    rintro en w1 ⟨rfl, hb1⟩
    have HB1 := hid hb1
    have HBX1 := hid (HBX.out.below hb1)
    clear hb1 hx0 hx1
    go_upto_region 4 with fail
    obtain ⟨w2, hw2⟩ : ∃ w2, w2 = w1.alloc (.cells #[.slice none 0 0] 97) := ⟨_, rfl⟩
    rw [← hw2]
    have HB2 : Hid (Below w1.heap.size w1 w2) := hid (by rw [hw2]; exact Below.new _ _)
    have HO2 : Hid (OutIs w2 w1.heap.size (.slice none 0 0) []) := hid (by rw [hw2]; exact OutIs.new w1)
    have HBX2 := hid (HBX1.out.below HB2.out)
    have HS2 := hid ((HS.out.below HB1.out).below HB2.out)
    have hlt : w.heap.size < w1.heap.size := HBX1.out.lt
    have HLT := hid hlt
    obtain ⟨M, hM, hM2⟩ : ∃ M : Int, (if size < 8 then (8 : Int) else size) = M ∧ ((size ≤ 8 ∧ M = 8) ∨ (8 < size ∧ M = size)) := ⟨_, rfl, by split <;> omega⟩
    have hwr : IntKind.i64.wrap (M - 8) = M - 8 := by rw [IntKind.wrap_i64]; omega
    have HM2 := hid hM2
    have hM0 : 8 ≤ M := by omega
    have hM1 : M ≤ 9223372036854775807 := by omega
    have HRD : Hid (Rd w2.drew a (iv l)) := hid (by
      obtain ⟨a', c', e1, h1, -⟩ := HS2.out
      simp only [Value.slice.injEq] at e1
      obtain ⟨rfl, -, rfl⟩ := e1
      exact h1.below' ((Below.refl _ _).drew))
    have HBL : Hid (0 < l.length → ∀ b off, a = some ⟨b, off, none⟩ → b < w1.heap.size) := hid (fun h0 b off hab => by
      obtain ⟨a', c', e1, h1, -⟩ := HS0.out
      simp only [Value.slice.injEq] at e1
      obtain ⟨rfl, -, rfl⟩ := e1
      have := h1.lt0 h0 b off hab
      omega)
    have HDR : Hid (w1.heap.size < w2.drew.heap.size) := hid HO2.out.blk.lt
    clear hw2 hlt hM2
    obtain ⟨bo, hbo⟩ : ∃ bo, bytesR e l size = bo := ⟨_, rfl⟩
    have HBO := hid hbo
    rw [hbo] at H0
    have HFIT : Hid ((bo = none → M - 8 < 6 ∨ 65536 < M - 8 ∨ M - 8 < ((plainR e l).length : Int) + 6) ∧ (∀ bb, bo = some bb → M - 8 = (((size - 8).toNat : Nat) : Int) ∧ (plainR e l).length + 6 ≤ (size - 8).toNat ∧ (size - 8).toNat ≤ 65536 ∧ bb = fitted (plainR e l) (size - 8).toNat ++ be8 e)) := hid (by
      have hm := HM2.out
      unfold bytesR at hbo
      by_cases hc : size < 14 ∨ 65544 < size ∨ size < ((plainR e l).length : Int) + 14
      · rw [if_pos hc] at hbo
        subst hbo
        exact ⟨fun _ => (by omega), fun bb h => (by cases h)⟩
      · rw [if_neg hc] at hbo
        subst hbo
        refine ⟨fun h => (by cases h), fun bb h => ?_⟩
        simp only [Option.some.injEq] at h
        exact ⟨by omega, by omega, by omega, h.symm⟩)
    clear hbo
    go_cut [7, 8] (fun c7 c8 wx => FitMid w e l a c size bo c7 c8 wx)
    case first =>
      have hq0 : ∀ x : World, Blk x w.heap.size #[.int .i64 e, .slice a l.length c] → x.cell? ⟨w.heap.size, 0, none⟩ = some (.int .i64 e) := fun x hx => by rw [hx.cell]; rfl
      have hq1 : ∀ x : World, Blk x w.heap.size #[.int .i64 e, .slice a l.length c] → x.cell? ⟨w.heap.size, 1, none⟩ = some (.slice a l.length c) := fun x hx => by rw [hx.cell]; rfl
      have hbox0 : Blk w2.drew w.heap.size #[.int .i64 e, .slice a l.length c] := HBX2.out.below ((Below.refl _ _).drew)
      cases bo with
      | none =>
        refine wp_region_kept [] (fun x => Blk x w.heap.size #[.int .i64 e, .slice a l.length c]) (by kernel_rfl) (by assumption) (fun hH => ?_)
        refine wpK.take (i := 0) (v := _) (by simp only [List.getElem?_toArray, List.getElem?_cons_succ, List.getElem?_cons_zero]; rfl) (by kernel_rfl) (by kernel_rfl) (by kernel_rfl) (by kernel_rfl) (by kernel_rfl) (by exact fun _ _ _ h => h) (by first | exact Or.inl ⟨by rfl, by intro w hSw; go_simp; try with_reducible rfl⟩ | exact Or.inr ⟨by rfl, rfl⟩) hH ?_
        try simp only [Act.put, List.setIfInBounds_toArray, List.set_cons_zero, List.set_cons_succ]
        refine wpK.take (i := 1) (v := _) (by simp only [List.getElem?_toArray, List.getElem?_cons_succ, List.getElem?_cons_zero]; rfl) (by kernel_rfl) (by kernel_rfl) (by kernel_rfl) (by kernel_rfl) (by kernel_rfl) (by exact fun _ _ _ h => h) (by first | exact Or.inl ⟨by rfl, by intro w hSw; go_simp; try with_reducible rfl⟩ | exact Or.inr ⟨by rfl, rfl⟩) hH ?_
        try simp only [Act.put, List.setIfInBounds_toArray, List.set_cons_zero, List.set_cons_succ]
        refine wpK.take (i := 3) (v := _) (by simp only [List.getElem?_toArray, List.getElem?_cons_succ, List.getElem?_cons_zero]; rfl) (by kernel_rfl) (by kernel_rfl) (by kernel_rfl) (by kernel_rfl) (by kernel_rfl) (by exact fun _ _ _ h => h) (by first | exact Or.inl ⟨by rfl, by intro w hSw; go_simp; try with_reducible rfl⟩ | exact Or.inr ⟨by rfl, rfl⟩) hH ?_
        try simp only [Act.put, List.setIfInBounds_toArray, List.set_cons_zero, List.set_cons_succ]
        refine wpK.take (i := 4) (v := _) (by simp only [List.getElem?_toArray, List.getElem?_cons_succ, List.getElem?_cons_zero]; rfl) (by kernel_rfl) (by kernel_rfl) (by kernel_rfl) (by kernel_rfl) (by kernel_rfl) (by exact fun _ _ _ h => h) (by first | exact Or.inl ⟨by rfl, by intro w hSw; go_simp; try with_reducible rfl⟩ | exact Or.inr ⟨by rfl, rfl⟩) hH ?_
        try simp only [Act.put, List.setIfInBounds_toArray, List.set_cons_zero, List.set_cons_succ]
        refine wpK.take (i := 7) (v := _) (by simp only [List.getElem?_toArray, List.getElem?_cons_succ, List.getElem?_cons_zero]; rfl) (by kernel_rfl) (by kernel_rfl) (by kernel_rfl) (by kernel_rfl) (by kernel_rfl) (by exact fun _ _ _ h => h) (by first | exact Or.inl ⟨by rfl, by intro w hSw; go_simp; try with_reducible rfl⟩ | exact Or.inr ⟨by rfl, rfl⟩) hH ?_
        try simp only [Act.put, List.setIfInBounds_toArray, List.set_cons_zero, List.set_cons_succ]
        refine wpK.take (i := 8) (v := _) (by simp only [List.getElem?_toArray, List.getElem?_cons_succ, List.getElem?_cons_zero]; rfl) (by kernel_rfl) (by kernel_rfl) (by kernel_rfl) (by kernel_rfl) (by kernel_rfl) (by exact fun _ _ _ h => h) (by first | exact Or.inl ⟨by rfl, by intro w hSw; go_simp; try with_reducible rfl⟩ | exact Or.inr ⟨by rfl, rfl⟩) hH ?_
        try simp only [Act.put, List.setIfInBounds_toArray, List.set_cons_zero, List.set_cons_succ]
        refine wpK.take (i := 9) (v := _) (by simp only [List.getElem?_toArray, List.getElem?_cons_succ, List.getElem?_cons_zero]; rfl) (by kernel_rfl) (by kernel_rfl) (by kernel_rfl) (by kernel_rfl) (by kernel_rfl) (by exact fun _ _ _ h => h) (by first | exact Or.inl ⟨by rfl, by intro w hSw; go_simp; try with_reducible rfl⟩ | exact Or.inr ⟨by rfl, rfl⟩) hH ?_
        try simp only [Act.put, List.setIfInBounds_toArray, List.set_cons_zero, List.set_cons_succ]
        refine wpK.step (i := 2) (by kernel_rfl) (by simp only [List.getElem?_toArray, List.getElem?_cons_succ, List.getElem?_cons_zero]; rfl) (fun K hK => ?_)
        go_simp
        (refine (var_Out_Int e (by omega) (by omega) w1.heap.size _ [] _ (HO2.out.below ((Below.refl _ _).drew)) (by simp)).mono ?_); rintro en w3 ⟨v3, rfl, ho3, hs3, -⟩; rw [List.nil_append] at ho3; (have hbox3 := hH.upd hs3.upd (fun h => by have := HLT.out; rcases h with h | h; omega; cases h)); (have HO3 := hid ho3); (have HS3 := hid hs3); clear ho3 hs3; go_simp
        refine hK.out _ _ (by assumption) (fun hH => ?_)
        clear hK K
        try simp only [Act.put, List.setIfInBounds_toArray, List.set_cons_zero, List.set_cons_succ]
        refine wpK.step (i := 5) (by kernel_rfl) (by simp only [List.getElem?_toArray, List.getElem?_cons_succ, List.getElem?_cons_zero]; rfl) (fun K hK => ?_)
        go_simp
        (refine (out_Ints l (hid (fun x hx => by have := HQ4.out x hx; omega)) a _ c rfl (by omega) w1.heap.size v3 (enc (zz e)) _ HO3.out (by have := enc_len10 (zz e) (zz_lt e (by omega) (by omega)); omega) (HRD.out.updI HS3.out.upd (fun h0 b off hab h => by have := HBL.out h0 b off hab; rcases h with h | h; omega; cases h)) (hid (fun hp b off hb => by have := HBL.out hp b off hb; have := HDR.out; refine ⟨by omega, fun h => ?_⟩; rcases HS3.out.wh b h with h | h; cases h; omega)) (plainR e l) (hid (by rw [plainR]))).mono ?_); rintro en w4 ⟨v4, rfl, ho4, hs4⟩; (have HO4 := hid ho4); (have HS4 := hid (HS3.out.trans hs4)); (have hbox4 := hH.upd hs4.upd (fun h => by have := HLT.out; have := HDR.out; rcases h with h | h; omega; rcases HS3.out.wh _ h with h | h; cases h; omega)); clear ho4 hs4; go_simp
        refine hK.out _ _ (by assumption) (fun hH => ?_)
        clear hK K
        try simp only [Act.put, List.setIfInBounds_toArray, List.set_cons_zero, List.set_cons_succ]
        refine wpK.step (i := 6) (by kernel_rfl) (by simp only [List.getElem?_toArray, List.getElem?_cons_succ, List.getElem?_cons_zero]; rfl) (fun K hK => ?_)
        go_simp
        (refine (out_All w1.heap.size v4 (plainR e l) _ HO4.out (by have := HPL.out; omega)).mono ?_); rintro en w5 ⟨v5, rfl, hown5, hb5⟩; (have hbox5 := hH.below hb5); (have HOWN5 := hid hown5); (have HB5 := hid hb5); clear hown5 hb5; go_simp
        refine hK.out _ _ (by assumption) (fun hH => ?_)
        clear hK K
        try simp only [Act.put, List.setIfInBounds_toArray, List.set_cons_zero, List.set_cons_succ]
        refine wpK.step (i := 10) (by kernel_rfl) (by simp only [List.getElem?_toArray, List.getElem?_cons_succ, List.getElem?_cons_zero]; rfl) (fun K hK => ?_)
        go_simp
        (refine (seal_Fit_no (plainR e l) v5 _ (ownsRow.slb HOWN5.out (by have := HPL.out; omega)) (M - 8) (by omega) (by omega) (HFIT.out.1 rfl)).mono ?_); rintro en w6 ⟨rfl, rfl⟩; go_simp
        refine hK.out _ _ (by assumption) (fun hH => ?_)
        clear hK K
        try simp only [Act.put, List.setIfInBounds_toArray, List.set_cons_zero, List.set_cons_succ]
        refine wpK.take (i := 11) (v := _) (by simp only [List.getElem?_toArray, List.getElem?_cons_succ, List.getElem?_cons_zero]; rfl) (by kernel_rfl) (by kernel_rfl) (by kernel_rfl) (by kernel_rfl) (by kernel_rfl) (by exact fun _ _ _ h => h) (by first | exact Or.inl ⟨by rfl, by intro w hSw; go_simp; try with_reducible rfl⟩ | exact Or.inr ⟨by rfl, rfl⟩) hH ?_
        try simp only [Act.put, List.setIfInBounds_toArray, List.set_cons_zero, List.set_cons_succ]
        refine wpK.take (i := 12) (v := _) (by simp only [List.getElem?_toArray, List.getElem?_cons_succ, List.getElem?_cons_zero]; rfl) (by kernel_rfl) (by kernel_rfl) (by kernel_rfl) (by kernel_rfl) (by kernel_rfl) (by exact fun _ _ _ h => h) (by first | exact Or.inl ⟨by rfl, by intro w hSw; go_simp; try with_reducible rfl⟩ | exact Or.inr ⟨by rfl, rfl⟩) hH ?_
        try simp only [Act.put, List.setIfInBounds_toArray, List.set_cons_zero, List.set_cons_succ]
        refine wpK.take (i := 13) (v := _) (by simp only [List.getElem?_toArray, List.getElem?_cons_succ, List.getElem?_cons_zero]; rfl) (by kernel_rfl) (by kernel_rfl) (by kernel_rfl) (by kernel_rfl) (by kernel_rfl) (by exact fun _ _ _ h => h) (by first | exact Or.inl ⟨by rfl, by intro w hSw; go_simp; try with_reducible rfl⟩ | exact Or.inr ⟨by rfl, rfl⟩) hH ?_
        try simp only [Act.put, List.setIfInBounds_toArray, List.set_cons_zero, List.set_cons_succ]
        refine wpK.take (i := 14) (v := _) (by simp only [List.getElem?_toArray, List.getElem?_cons_succ, List.getElem?_cons_zero]; rfl) (by kernel_rfl) (by kernel_rfl) (by kernel_rfl) (by kernel_rfl) (by kernel_rfl) (by exact fun _ _ _ h => h) (by first | exact Or.inl ⟨by rfl, by intro w hSw; go_simp; try with_reducible rfl⟩ | exact Or.inr ⟨by rfl, rfl⟩) hH ?_
        try simp only [Act.put, List.setIfInBounds_toArray, List.set_cons_zero, List.set_cons_succ]
        refine wpK.take (i := 15) (v := _) (by simp only [List.getElem?_toArray, List.getElem?_cons_succ, List.getElem?_cons_zero]; rfl) (by kernel_rfl) (by kernel_rfl) (by kernel_rfl) (by kernel_rfl) (by kernel_rfl) (by exact fun _ _ _ h => h) (by first | exact Or.inl ⟨by rfl, by intro w hSw; go_simp; try with_reducible rfl⟩ | exact Or.inr ⟨by rfl, rfl⟩) hH ?_
        try simp only [Act.put, List.setIfInBounds_toArray, List.set_cons_zero, List.set_cons_succ]
        refine wpK.done (by kernel_rfl) ?_ _
        have hB2 : Below w.heap.size w w2.drew := Below.next (Below.next (Below.next HKB.out HB1.out) HB2.out) ((Below.refl _ _).drew)
        have hB4 : Below w.heap.size w w4 := hB2.trans (HS4.out.upd.below hB2.size (fun k _ h => by rcases h with h | h; have := HLT.out; omega; cases h))
        have hB5 := Below.next hB4 HB5.out
        have HX := hid (And.intro hbox5 hB5)
        clear hB2 hB4 hB5 hbox0 hbox3 hbox4 hbox5 hq0 hq1 hH
        go_wp2_with fail
        go_meet
        exact ⟨HX.out.1, HX.out.2, .inl ⟨rfl, rfl, rfl⟩⟩
      | some bb =>
        refine wp_region_kept [] (fun x => Blk x w.heap.size #[.int .i64 e, .slice a l.length c]) (by kernel_rfl) (by assumption) (fun hH => ?_)
        refine wpK.take (i := 0) (v := _) (by simp only [List.getElem?_toArray, List.getElem?_cons_succ, List.getElem?_cons_zero]; rfl) (by kernel_rfl) (by kernel_rfl) (by kernel_rfl) (by kernel_rfl) (by kernel_rfl) (by exact fun _ _ _ h => h) (by first | exact Or.inl ⟨by rfl, by intro w hSw; go_simp; try with_reducible rfl⟩ | exact Or.inr ⟨by rfl, rfl⟩) hH ?_
        try simp only [Act.put, List.setIfInBounds_toArray, List.set_cons_zero, List.set_cons_succ]
        refine wpK.take (i := 1) (v := _) (by simp only [List.getElem?_toArray, List.getElem?_cons_succ, List.getElem?_cons_zero]; rfl) (by kernel_rfl) (by kernel_rfl) (by kernel_rfl) (by kernel_rfl) (by kernel_rfl) (by exact fun _ _ _ h => h) (by first | exact Or.inl ⟨by rfl, by intro w hSw; go_simp; try with_reducible rfl⟩ | exact Or.inr ⟨by rfl, rfl⟩) hH ?_
        try simp only [Act.put, List.setIfInBounds_toArray, List.set_cons_zero, List.set_cons_succ]
        refine wpK.take (i := 3) (v := _) (by simp only [List.getElem?_toArray, List.getElem?_cons_succ, List.getElem?_cons_zero]; rfl) (by kernel_rfl) (by kernel_rfl) (by kernel_rfl) (by kernel_rfl) (by kernel_rfl) (by exact fun _ _ _ h => h) (by first | exact Or.inl ⟨by rfl, by intro w hSw; go_simp; try with_reducible rfl⟩ | exact Or.inr ⟨by rfl, rfl⟩) hH ?_
        try simp only [Act.put, List.setIfInBounds_toArray, List.set_cons_zero, List.set_cons_succ]
        refine wpK.take (i := 4) (v := _) (by simp only [List.getElem?_toArray, List.getElem?_cons_succ, List.getElem?_cons_zero]; rfl) (by kernel_rfl) (by kernel_rfl) (by kernel_rfl) (by kernel_rfl) (by kernel_rfl) (by exact fun _ _ _ h => h) (by first | exact Or.inl ⟨by rfl, by intro w hSw; go_simp; try with_reducible rfl⟩ | exact Or.inr ⟨by rfl, rfl⟩) hH ?_
        try simp only [Act.put, List.setIfInBounds_toArray, List.set_cons_zero, List.set_cons_succ]
        refine wpK.take (i := 7) (v := _) (by simp only [List.getElem?_toArray, List.getElem?_cons_succ, List.getElem?_cons_zero]; rfl) (by kernel_rfl) (by kernel_rfl) (by kernel_rfl) (by kernel_rfl) (by kernel_rfl) (by exact fun _ _ _ h => h) (by first | exact Or.inl ⟨by rfl, by intro w hSw; go_simp; try with_reducible rfl⟩ | exact Or.inr ⟨by rfl, rfl⟩) hH ?_
        try simp only [Act.put, List.setIfInBounds_toArray, List.set_cons_zero, List.set_cons_succ]
        refine wpK.take (i := 8) (v := _) (by simp only [List.getElem?_toArray, List.getElem?_cons_succ, List.getElem?_cons_zero]; rfl) (by kernel_rfl) (by kernel_rfl) (by kernel_rfl) (by kernel_rfl) (by kernel_rfl) (by exact fun _ _ _ h => h) (by first | exact Or.inl ⟨by rfl, by intro w hSw; go_simp; try with_reducible rfl⟩ | exact Or.inr ⟨by rfl, rfl⟩) hH ?_
        try simp only [Act.put, List.setIfInBounds_toArray, List.set_cons_zero, List.set_cons_succ]
        refine wpK.take (i := 9) (v := _) (by simp only [List.getElem?_toArray, List.getElem?_cons_succ, List.getElem?_cons_zero]; rfl) (by kernel_rfl) (by kernel_rfl) (by kernel_rfl) (by kernel_rfl) (by kernel_rfl) (by exact fun _ _ _ h => h) (by first | exact Or.inl ⟨by rfl, by intro w hSw; go_simp; try with_reducible rfl⟩ | exact Or.inr ⟨by rfl, rfl⟩) hH ?_
        try simp only [Act.put, List.setIfInBounds_toArray, List.set_cons_zero, List.set_cons_succ]
        refine wpK.step (i := 2) (by kernel_rfl) (by simp only [List.getElem?_toArray, List.getElem?_cons_succ, List.getElem?_cons_zero]; rfl) (fun K hK => ?_)
        go_simp
        (refine (var_Out_Int e (by omega) (by omega) w1.heap.size _ [] _ (HO2.out.below ((Below.refl _ _).drew)) (by simp)).mono ?_); rintro en w3 ⟨v3, rfl, ho3, hs3, -⟩; rw [List.nil_append] at ho3; (have hbox3 := hH.upd hs3.upd (fun h => by have := HLT.out; rcases h with h | h; omega; cases h)); (have HO3 := hid ho3); (have HS3 := hid hs3); clear ho3 hs3; go_simp
        refine hK.out _ _ (by assumption) (fun hH => ?_)
        clear hK K
        try simp only [Act.put, List.setIfInBounds_toArray, List.set_cons_zero, List.set_cons_succ]
        refine wpK.step (i := 5) (by kernel_rfl) (by simp only [List.getElem?_toArray, List.getElem?_cons_succ, List.getElem?_cons_zero]; rfl) (fun K hK => ?_)
        go_simp
        (refine (out_Ints l (hid (fun x hx => by have := HQ4.out x hx; omega)) a _ c rfl (by omega) w1.heap.size v3 (enc (zz e)) _ HO3.out (by have := enc_len10 (zz e) (zz_lt e (by omega) (by omega)); omega) (HRD.out.updI HS3.out.upd (fun h0 b off hab h => by have := HBL.out h0 b off hab; rcases h with h | h; omega; cases h)) (hid (fun hp b off hb => by have := HBL.out hp b off hb; have := HDR.out; refine ⟨by omega, fun h => ?_⟩; rcases HS3.out.wh b h with h | h; cases h; omega)) (plainR e l) (hid (by rw [plainR]))).mono ?_); rintro en w4 ⟨v4, rfl, ho4, hs4⟩; (have HO4 := hid ho4); (have HS4 := hid (HS3.out.trans hs4)); (have hbox4 := hH.upd hs4.upd (fun h => by have := HLT.out; have := HDR.out; rcases h with h | h; omega; rcases HS3.out.wh _ h with h | h; cases h; omega)); clear ho4 hs4; go_simp
        refine hK.out _ _ (by assumption) (fun hH => ?_)
        clear hK K
        try simp only [Act.put, List.setIfInBounds_toArray, List.set_cons_zero, List.set_cons_succ]
        refine wpK.step (i := 6) (by kernel_rfl) (by simp only [List.getElem?_toArray, List.getElem?_cons_succ, List.getElem?_cons_zero]; rfl) (fun K hK => ?_)
        go_simp
        (refine (out_All w1.heap.size v4 (plainR e l) _ HO4.out (by have := HPL.out; omega)).mono ?_); rintro en w5 ⟨v5, rfl, hown5, hb5⟩; (have hbox5 := hH.below hb5); (have HOWN5 := hid hown5); (have HB5 := hid hb5); clear hown5 hb5; go_simp
        refine hK.out _ _ (by assumption) (fun hH => ?_)
        clear hK K
        try simp only [Act.put, List.setIfInBounds_toArray, List.set_cons_zero, List.set_cons_succ]
        refine wpK.step (i := 10) (by kernel_rfl) (by simp only [List.getElem?_toArray, List.getElem?_cons_succ, List.getElem?_cons_zero]; rfl) (fun K hK => ?_)
        go_simp
        (refine (seal_Fit_yes (plainR e l) v5 _ (ownsRow.slb HOWN5.out (by have := HPL.out; omega)) (size - 8).toNat (M - 8) (HFIT.out.2 bb rfl).1 (HFIT.out.2 bb rfl).2.1 (HFIT.out.2 bb rfl).2.2.1 _ (hid rfl)).mono ?_); rintro en w6 ⟨v6, rfl, hown6, hb6⟩; (have hbox6 := hH.below hb6); (have HOWN6 := hid hown6); (have HB6 := hid hb6); clear hown6 hb6; go_simp
        refine hK.out _ _ (by assumption) (fun hH => ?_)
        clear hK K
        try simp only [Act.put, List.setIfInBounds_toArray, List.set_cons_zero, List.set_cons_succ]
        refine wpK.take (i := 11) (v := _) (by simp only [List.getElem?_toArray, List.getElem?_cons_succ, List.getElem?_cons_zero]; rfl) (by kernel_rfl) (by kernel_rfl) (by kernel_rfl) (by kernel_rfl) (by kernel_rfl) (by exact fun _ _ _ h => h) (by first | exact Or.inl ⟨by rfl, by intro w hSw; go_simp; try with_reducible rfl⟩ | exact Or.inr ⟨by rfl, rfl⟩) hH ?_
        try simp only [Act.put, List.setIfInBounds_toArray, List.set_cons_zero, List.set_cons_succ]
        refine wpK.take (i := 12) (v := _) (by simp only [List.getElem?_toArray, List.getElem?_cons_succ, List.getElem?_cons_zero]; rfl) (by kernel_rfl) (by kernel_rfl) (by kernel_rfl) (by kernel_rfl) (by kernel_rfl) (by exact fun _ _ _ h => h) (by first | exact Or.inl ⟨by rfl, by intro w hSw; go_simp; try with_reducible rfl⟩ | exact Or.inr ⟨by rfl, rfl⟩) hH ?_
        try simp only [Act.put, List.setIfInBounds_toArray, List.set_cons_zero, List.set_cons_succ]
        refine wpK.take (i := 13) (v := _) (by simp only [List.getElem?_toArray, List.getElem?_cons_succ, List.getElem?_cons_zero]; rfl) (by kernel_rfl) (by kernel_rfl) (by kernel_rfl) (by kernel_rfl) (by kernel_rfl) (by exact fun _ _ _ h => h) (by first | exact Or.inl ⟨by rfl, by intro w hSw; go_simp; try with_reducible rfl⟩ | exact Or.inr ⟨by rfl, rfl⟩) hH ?_
        try simp only [Act.put, List.setIfInBounds_toArray, List.set_cons_zero, List.set_cons_succ]
        refine wpK.take (i := 14) (v := _) (by simp only [List.getElem?_toArray, List.getElem?_cons_succ, List.getElem?_cons_zero]; rfl) (by kernel_rfl) (by kernel_rfl) (by kernel_rfl) (by kernel_rfl) (by kernel_rfl) (by exact fun _ _ _ h => h) (by first | exact Or.inl ⟨by rfl, by intro w hSw; go_simp; try with_reducible rfl⟩ | exact Or.inr ⟨by rfl, rfl⟩) hH ?_
        try simp only [Act.put, List.setIfInBounds_toArray, List.set_cons_zero, List.set_cons_succ]
        refine wpK.take (i := 15) (v := _) (by simp only [List.getElem?_toArray, List.getElem?_cons_succ, List.getElem?_cons_zero]; rfl) (by kernel_rfl) (by kernel_rfl) (by kernel_rfl) (by kernel_rfl) (by kernel_rfl) (by exact fun _ _ _ h => h) (by first | exact Or.inl ⟨by rfl, by intro w hSw; go_simp; try with_reducible rfl⟩ | exact Or.inr ⟨by rfl, rfl⟩) hH ?_
        try simp only [Act.put, List.setIfInBounds_toArray, List.set_cons_zero, List.set_cons_succ]
        refine wpK.done (by kernel_rfl) ?_ _
        have hB2 : Below w.heap.size w w2.drew := Below.next (Below.next (Below.next HKB.out HB1.out) HB2.out) ((Below.refl _ _).drew)
        have hB4 : Below w.heap.size w w4 := hB2.trans (HS4.out.upd.below hB2.size (fun k _ h => by rcases h with h | h; have := HLT.out; omega; cases h))
        have hB5 := Below.next hB4 HB5.out
        have HX := hid (And.intro hbox6 (And.intro (Below.next hB5 HB6.out) (And.intro (ownsRow_base HOWN6.out hB5.size) (show ∀ k, v6.ownBlock = some k → k ≠ w.heap.size from fun k hk => by have := (HOWN6.out.lt k hk).1; have := hbox5.lt; omega))))
        clear hB2 hB4 hB5 hbox0 hbox3 hbox4 hbox5 hbox6 hq0 hq1 hH
        go_wp2_with fail
        go_meet
        exact ⟨HX.out.1, HX.out.2.1, .inr ⟨bb, rfl, rfl, HX.out.2.2.1, HX.out.2.2.2⟩⟩
    case rest =>
    obtain ⟨hbx, hBx, hcase⟩ := hcut
    have HBX' := hid hBx
    rcases hcase with ⟨rfl, rfl, rfl⟩ | ⟨bb, rfl, rfl, hown, hne⟩
    · have h0 := H0.out
      simp only [Prod.mk.injEq] at h0
      obtain ⟨rfl, rfl⟩ := h0
      clear hbx hBx
      go_wp2_with fail
      go_ret2
      exact ⟨_, rfl, World.ownsRow_nil _ _ _ _, HBX'.out⟩
    · have h0 := H0.out
      simp only [Prod.mk.injEq] at h0
      obtain ⟨rfl, rfl⟩ := h0
      obtain ⟨f, hf⟩ : ∃ f, fitted (plainR e l) (size - 8).toNat = f := ⟨_, rfl⟩
      rw [hf] at hown
      have hbb : bb = f ++ be8 e := by rw [← hf]; exact (HFIT.out.2 bb rfl).2.2.2
      have hfl : f.length ≤ 65536 := by
        obtain ⟨-, g1, g2, -⟩ := HFIT.out.2 bb rfl
        rw [← hf]; unfold fitted
        rw [List.length_append, fitL_length _ _ g1, lowB_length]; omega
      obtain ⟨n, rfl⟩ : ∃ n : Nat, e = (n : Int) := ⟨e.toNat, by omega⟩
      have hn : n ≤ 1099511627776 := by omega
      have HBB := hid hbb
      have HOWN := hid hown
      have HNE := hid hne
      have HBXX := hid hbx
      have HFL := hid hfl
      clear hbx hBx hown hne hf hbb H0 hfl
      go_wp2_with fail
      go_loopw [7, 29] (fun v7 v29 wr => ∃ (k : Nat), v29 = .int .i64 k ∧ k ≤ 8 ∧ Hid (wr.ownsRow w.heap.size 5 1 v7 (f ++ (be8 n).take k).length (bv (f ++ (be8 n).take k))) ∧ Hid (∀ j, v7.ownBlock = some j → j ≠ w.heap.size) ∧ Hid (Blk wr w.heap.size #[.int .i64 (n : Int), .slice a l.length c]) ∧ Hid (Below w.heap.size w wr)) (fun _ v29 _ => 8 - (intOf v29).toNat)
      case atStart => exact ⟨0, rfl, by omega, hid (by simpa using HOWN.out), HNE, HBXX, HBX'⟩
      case round =>
        obtain ⟨k, rfl, hk, HO, HN, HBK, HBE⟩ := hrel
        have hc0 : wr.cell? ⟨w.heap.size, 0, none⟩ = some (.int .i64 (n : Int)) := by rw [HBK.out.cell]; rfl
        by_cases hlt : k < 8
        · have hsz := HBE.out.size
          obtain ⟨acc, hacc⟩ : ∃ acc, acc = f ++ (be8 n).take k := ⟨_, rfl⟩
          have HA := hid hacc
          have HOA : Hid (wr.ownsRow w.heap.size 5 1 u7 acc.length (bv acc)) := hid (by rw [hacc]; exact HO.out)
          have hby : (acc.length + 1) * 1 ≤ 140737488355328 := by have := HFL.out; rw [hacc]; simp; omega
          clear hacc
          obtain rfl | rfl | rfl | rfl | rfl | rfl | rfl | rfl : k = 0 ∨ k = 1 ∨ k = 2 ∨ k = 3 ∨ k = 4 ∨ k = 5 ∨ k = 6 ∨ k = 7 := by omega
          all_goals
            go_wp2_with (at_builtin; refine wpList_append1w T_bytes _ rfl _ _ _ rfl w.heap.size _ _ _ rfl HOA.out rfl rfl (oneU8 _) hby hsz ?_)
            intro v' w4 hown4 hgrow hne' hwh
            have t1 := own_app8 n _ HA.out hown4
            have t2 := t1 (by omega)
            have HO4 := hid (t2 (by simp only [Nat.reducePow, Nat.reduceSub]; omega))
            clear t1 t2
            have HB4 := hid (HBE.out.grown hgrow hsz (fun j hj => (HOA.out.lt j hj).1))
            have HBK4 := hid (HBK.out.upd (Upd.of_grown hgrow) (fun h => HN.out _ h rfl))
            have HN4 : Hid (∀ j, v'.ownBlock = some j → j ≠ w.heap.size) := hid (fun j hj => by rcases hwh j hj with h | h; exact HN.out j h; have := HBK.out.lt; omega)
            clear hown4 hgrow hne' hwh hby hc0
            go_wp2_with fail
            go_roundw
            case rel => exact ⟨_, by go_num, by omega, HO4, HN4, HBK4, HB4⟩
            case measure => simp [intOf]
        · have hfin : f ++ (be8 n).take k = bb := by rw [List.take_of_length_le (by rw [be8_len]; omega)]; exact HBB.out.symm
          have HO2 := HO.out
          rw [hfin] at HO2
          have HO3 := hid HO2
          clear HO2 hfin hc0
          go_wp2_with fail
          go_ret2
          exact ⟨_, rfl, HO3.out, HBE.out⟩
end Go.Proofs.Ytohknblokejldaa
end
section
/- The ends of functions whose result is a struct in memory. No program in sight. -/
namespace Go.Proofs.Ytohknblokejldaa
open Go.RowKit
open Go.Lib (hid)
set_option linter.unusedVariables false

theorem results_cell1 {fn : Func} {a : Tmp} {t : TypeId} (h : fn.results = #[.cell a t]) (tmps : Array Value) (P : Program) (w : World) {x : Addr} {v : Value} (ha : tmps.getD a undef = .pointer (some x)) (hl : (loadVar t x).run P w = .ok v w) : (results fn tmps).run P w = .ok v w := by
  have ha' : tmps[a]?.getD undef = .pointer (some x) := by rw [← ha]; simp
  simp [results, h, ha', asAddr, hl, Result.andThen]
theorem results_cell_tmp {fn : Func} {a u : Tmp} {t : TypeId} (h : fn.results = #[.cell a t, .tmp u]) (tmps : Array Value) (P : Program) (w : World) {x : Addr} {v : Value} (ha : tmps.getD a undef = .pointer (some x)) (hl : (loadVar t x).run P w = .ok v w) : (results fn tmps).run P w = .ok (.tuple #[v, tmps.getD u undef]) w := by
  have ha' : tmps[a]?.getD undef = .pointer (some x) := by rw [← ha]; simp
  simp [results, h, ha', asAddr, hl, Result.andThen]
theorem K_alloc {K : Act → World → Prop} {a : Act} {x : World} {cs : Array Value} {e : TypeId} (h : ∀ (g : Nat) (wn : World), g = x.heap.size → wn.heap.size = g + 1 → Below x.heap.size x wn → Blk wn g cs → K a wn) : K a (x.alloc (.cells cs e)) :=
  h x.heap.size _ rfl (by simp) (Below.new _ _) (Blk.new _ _ _)
theorem K_allocD {K : Act → World → Prop} {a : Act} {x : World} {cs : Array Value} {e : TypeId} (h : ∀ (g : Nat) (wn : World), g = x.heap.size → wn.heap.size = g + 1 → Below x.heap.size x wn → Blk wn g cs → K a wn) : K a (x.alloc (.cells cs e)).drew :=
  h x.heap.size _ rfl (by simp) (Below.new _ _).drew (Blk.new _ _ _)
theorem Blk.c2 {w : World} {g : Nat} {a b : Value} (h : Blk w g #[a, b]) : w.cell? ⟨g, 0, none⟩ = some a ∧ w.cell? ⟨g, 1, none⟩ = some b ∧ w.frozen? ⟨g, 0, none⟩ = false ∧ w.frozen? ⟨g, 1, none⟩ = false :=
  ⟨by rw [h.cell]; rfl, by rw [h.cell]; rfl, h.unfrozen _, h.unfrozen _⟩
theorem set2_of {x : World} {g : Nat} {c0 c1 : Value} (h : Blk x g #[c0, c1]) (u0 u1 : Value) : ∃ wz, wz = (x.setCell ⟨g, 0, none⟩ u0).setCell ⟨g, 1, none⟩ u1 ∧ Blk wz g #[u0, u1] ∧ Upd (fun k => k = g) x wz :=
  ⟨_, rfl, by simpa using (h.set 0 u0).set 1 u1, (Upd.setCell x g 0 u0).trans (Upd.setCell _ g 1 u1) (fun _ _ q => q)⟩
end Go.Proofs.Ytohknblokejldaa
end
