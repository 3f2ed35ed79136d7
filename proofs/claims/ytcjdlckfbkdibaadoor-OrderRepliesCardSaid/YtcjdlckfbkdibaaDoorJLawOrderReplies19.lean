/- Joined texts, in this order: OrdBytes. Each one's first remark says what it proves; no condition beyond those that its theorems name. -/
import Derived.Test.YtcjdlckfbkdibaaDoorJLawOrderReplies17
import Derived.Test.YtcjdlckfbkdibaaDoorJLawOrderReplies18
section
/- Contract of Command.Bytes. -/
namespace Go.Proofs.YtcjdlckfbkdibaaDoor
open Go.RowKit
open Go.Lib (hid)
set_option linter.unusedVariables false

theorem out_TextQ (q : ByteArray) (hlb : q.data.toList.length ≤ 40000) (g : Nat) (v : Value) (l : List UInt8) (w : World) (h : OutIs w g v l) (hl : l.length ≤ 900000) (all : List UInt8) (hall : Hid (all = l ++ encB q.data.toList)) :
    Calls Tryd.prog 61 #[.pointer (some ⟨g, 0, none⟩), .string q] w fun e w' => ∃ v', e = .returned (.pointer (some ⟨g, 0, none⟩)) ∧ OutIs w' g v' all ∧ OutStep g v v' w w' :=
  out_Text q.data.toList hlb g v l w h hl all (hid (by rw [hall.out]; unfold encB; rw [List.append_assoc]))
theorem OutIs.fresh (w : World) : OutIs (w.alloc (.cells #[.slice none 0 0] 96)) w.heap.size (.slice none 0 0) [] :=
  ⟨Blk.new _ _ _, World.ownsRow_nil _ _ _ _, by simp [Value.ownBlock]⟩
/-- what stands while a command is written -/
structure ByW (w0 : World) (g : Nat) (cs : Array Value) (v : Value) (m : List UInt8) (w : World) : Prop where
  bl : Below w0.heap.size w0 w
  cm : Blk w w0.heap.size cs
  out : OutIs w g v m
  far : ∀ k, v.ownBlock = some k → w0.heap.size < k
  ord : w0.heap.size < g
theorem ByW.step {w0 w1 w2 : World} {g : Nat} {cs : Array Value} {v v' : Value} {m m' : List UInt8} (h : ByW w0 g cs v m w1) (ho : OutIs w2 g v' m') (hs : OutStep g v v' w1 w2) : ByW w0 g cs v' m' w2 := by
  have hlt := h.cm.lt
  have ho' := h.ord
  refine ⟨h.bl.trans (hs.upd.below h.bl.size (fun k _ e => by rcases e with rfl | e; omega; have := h.far k e; omega)), h.cm.upd hs.upd (fun e => by rcases e with e | e; omega; have := h.far _ e; omega), ho, fun k hk => ?_, h.ord⟩
  rcases hs.wh k hk with q | q
  · exact h.far k q
  · omega
theorem ByW.below {w0 w1 w2 : World} {g : Nat} {cs : Array Value} {v : Value} {m : List UInt8} (h : ByW w0 g cs v m w1) (hb : Below w1.heap.size w1 w2) : ByW w0 g cs v m w2 :=
  ⟨Below.next h.bl hb, h.cm.below hb, h.out.below hb, h.far, h.ord⟩
theorem OutIs.upd {S : Nat → Prop} {w w' : World} {g : Nat} {v : Value} {l : List UInt8} (h : OutIs w g v l) (hu : Upd S w w') (hg : ¬ S g) (hv : ∀ k, v.ownBlock = some k → ¬ S k) : OutIs w' g v l :=
  ⟨h.blk.upd hu hg, hu.owns h.own hv, h.ne⟩
theorem ByW.upd {w0 w1 w2 : World} {g : Nat} {cs : Array Value} {v : Value} {m : List UInt8} (h : ByW w0 g cs v m w1) {r : Nat} (hu : Upd (fun k => k = r) w1 w2) (h1 : g < r) (h2 : ∀ k, v.ownBlock = some k → k ≠ r) : ByW w0 g cs v m w2 := by
  have ho' := h.ord
  exact ⟨h.bl.trans (hu.below h.bl.size (fun k _ e => by omega)), h.cm.upd hu (by omega), h.out.upd hu (by omega) h2, h.far, h.ord⟩
/-- what a round over the letters keeps -/
structure ByR (w0 : World) (g r : Nat) (cs : Array Value) (q : ByteArray) (v : Value) (m : List UInt8) (j : Nat) (w : World) : Prop where
  by_ : ByW w0 g cs v m w
  it : StrIt w r q j
  gr : g < r
  vr : ∀ k, v.ownBlock = some k → k ≠ r
theorem ByR.below {w0 w1 w2 : World} {g r : Nat} {cs : Array Value} {q : ByteArray} {v : Value} {m : List UInt8} {j : Nat} (h : ByR w0 g r cs q v m j w1) (hb : Below w1.heap.size w1 w2) : ByR w0 g r cs q v m j w2 :=
  ⟨h.by_.below hb, h.it.below hb, h.gr, h.vr⟩
theorem ByR.step {w0 w1 w2 : World} {g r : Nat} {cs : Array Value} {q : ByteArray} {v v' : Value} {m m' : List UInt8} {j : Nat} (h : ByR w0 g r cs q v m j w1) (ho : OutIs w2 g v' m') (hs : OutStep g v v' w1 w2) : ByR w0 g r cs q v' m' j w2 :=
  ⟨h.by_.step ho hs, h.it.upd hs.upd (fun e => by rcases e with e | e; have := h.gr; omega; exact h.vr _ e rfl), h.gr, fun k hk => by rcases hs.wh k hk with e | e; exact h.vr k e; have := h.it.lt; omega⟩
theorem ByR.next {w0 w1 w2 : World} {g r : Nat} {cs : Array Value} {q : ByteArray} {v : Value} {m : List UInt8} {j j' : Nat} (h : ByR w0 g r cs q v m j w1) (hi : StrIt w2 r q j') (hu : Upd (fun k => k = r) w1 w2) : ByR w0 g r cs q v m j' w2 :=
  ⟨h.by_.upd hu h.gr h.vr, hi, h.gr, h.vr⟩
def ByL (w0 : World) (g r : Nat) (cs : Array Value) (q : ByteArray) (parts : Nat → List UInt8) (all : List UInt8) (w : World) : Prop :=
  ∃ (j : Nat) (v : Value) (m : List UInt8), j ≤ q.size ∧ Hid (ByR w0 g r cs q v m j w) ∧ Hid (m ++ parts j = all) ∧ Hid (m.length ≤ 20 + 200 * j)
def cmA (ses who kind a b c d : Int) (text login : ByteArray) : Array Value := #[.int .i64 ses, .int .i64 who, .int .i64 kind, .int .i64 a, .int .i64 b, .int .i64 c, .int .i64 d, .string text, .string login]
theorem cm_at (ses who kind a b c d : Int) (t l : ByteArray) (j : Nat) (hj : j < 4) : (cmA ses who kind a b c d t l)[3 + j]? = some (.int .i64 (num4 a b c d j)) := by
  match j, hj with
  | 0, _ => rfl
  | 1, _ => rfl
  | 2, _ => rfl
  | 3, _ => rfl
theorem order_BytesNo (ses who kind a b c d : Int) (text login : ByteArray) (w : World) (hl : login.size ≤ 100) (ht : text.size ≤ 100) (hR : Hid ((cmOf ses who kind a b c d text login).right = false)) :
    Calls Tryd.prog 30 #[.agg #[.int .i64 ses, .int .i64 who, .int .i64 kind, .int .i64 a, .int .i64 b, .int .i64 c, .int .i64 d, .string text, .string login]] w fun e w' => e = .returned (.tuple #[.slice none 0 0, .int .i64 10]) ∧ Below w.heap.size w w' := by
  go_enter Tryd.func30, Tryd.ntmps30
  go_wp2_with fail
  generalize hw1 : World.alloc w _ = w1
  have HB1 : Hid (Below w.heap.size w w1) := hid (by rw [← hw1]; exact Below.new _ _)
  clear hw1
  refine (order_Right ses who kind a b c d text login w1 (by omega) (by omega) false hR).mono ?_
  rintro e w2 ⟨rfl, hb2⟩
  have HB2 := hid (Below.next HB1.out hb2)
  clear hb2
  go_wp2_with fail
  go_ret2
  exact ⟨rfl, HB2.out⟩
set_option maxRecDepth 100000 in
set_option maxHeartbeats 4000000 in
theorem order_BytesYes (ses who kind a b c d : Int) (text login : ByteArray) (w : World) (hl : login.size ≤ 100) (ht : text.size ≤ 100) (hok : Hid ((cmOf ses who kind a b c d text login).Ok)) (hR : Hid ((cmOf ses who kind a b c d text login).right = true)) (all : List UInt8) (hall : Hid ((cmOf ses who kind a b c d text login).bytes = all)) :
    Calls Tryd.prog 30 #[.agg #[.int .i64 ses, .int .i64 who, .int .i64 kind, .int .i64 a, .int .i64 b, .int .i64 c, .int .i64 d, .string text, .string login]] w fun e w' => ∃ v, e = .returned (.tuple #[v, .int .i64 0]) ∧ w'.ownsRow w.heap.size 5 1 v all.length (bv all) ∧ Below w.heap.size w w' := by
  have s1 := hok.out.s1
  have s2 := hok.out.s2
  have k1 := hok.out.k1
  have k2 := hok.out.k2
  simp only [cmOf] at s1 s2 k1 k2
  have HS := hid (And.intro s1 s2)
  have HK := hid (And.intro k1 k2)
  clear s1 s2 k1 k2
  go_enter Tryd.func30, Tryd.ntmps30
  go_wp2_with fail
  generalize hw1 : World.alloc w _ = w1
  have HB1 : Hid (Below w.heap.size w w1) := hid (by rw [← hw1]; exact Below.new _ _)
  have HC1 : Hid (Blk w1 w.heap.size (cmA ses who kind a b c d text login)) := hid (by rw [← hw1]; exact Blk.new w _ _)
  clear hw1
  refine (order_Right ses who kind a b c d text login w1 (by omega) (by omega) true hR).mono ?_
  rintro e w2 ⟨rfl, hb2⟩
  have HW : ∃ w3 g, w3 = w2.alloc (.cells #[.slice none 0 0] 96) ∧ g = w2.heap.size ∧ ByW w g (cmA ses who kind a b c d text login) (.slice none 0 0) [] w3 :=
    ⟨_, _, rfl, rfl, ⟨Below.next (Below.next HB1.out hb2) (Below.new _ _), Blk.below (Below.new _ _) (Blk.below hb2 HC1.out), OutIs.fresh w2, fun k hk => by simp [Value.ownBlock] at hk, (Blk.below hb2 HC1.out).lt⟩⟩
  obtain ⟨w3, g, hw3, hg, hw⟩ := HW
  have HW3 := hid hw
  clear hw hb2
  go_upto_region 4 with fail
  rw [← hw3, ← hg]
  clear hw3 hg
  obtain ⟨bb, hbb⟩ : ∃ bb, bb = w.heap.size := ⟨_, rfl⟩
  have k0 : ∀ y, Blk y bb (cmA ses who kind a b c d text login) → y.cell? ⟨bb, 0, none⟩ = some (.int .i64 ses) := fun y hy => by rw [hy.cell]; rfl
  have k2 : ∀ y, Blk y bb (cmA ses who kind a b c d text login) → y.cell? ⟨bb, 2, none⟩ = some (.int .i64 kind) := fun y hy => by rw [hy.cell]; rfl
  have hK3 := HW3.out.cm
  rw [← hbb] at hK3
  rw [← hbb]
  have HBB := hid hbb
  clear hbb
  have hK3d : Blk w3.drew bb (cmA ses who kind a b c d text login) := hK3.below (Below.refl _ _).drew
  refine wp_region_kept [] (fun y => Blk y bb (cmA ses who kind a b c d text login)) (by kernel_rfl) (by assumption) (fun hH => ?_)
  refine wpK.take (i := 0) (v := _) (by simp only [List.getElem?_toArray, List.getElem?_cons_succ, List.getElem?_cons_zero]; rfl) (by kernel_rfl) (by kernel_rfl) (by kernel_rfl) (by kernel_rfl) (by kernel_rfl) (by exact fun _ _ _ h => h) (by first | exact Or.inl ⟨by rfl, by intro w hSw; go_simp; try with_reducible rfl⟩ | exact Or.inr ⟨by rfl, rfl⟩) hH ?_
  try simp only [Act.put, List.setIfInBounds_toArray, List.set_cons_zero, List.set_cons_succ]
  refine wpK.take (i := 1) (v := _) (by simp only [List.getElem?_toArray, List.getElem?_cons_succ, List.getElem?_cons_zero]; rfl) (by kernel_rfl) (by kernel_rfl) (by kernel_rfl) (by kernel_rfl) (by kernel_rfl) (by exact fun _ _ _ h => h) (by first | exact Or.inl ⟨by rfl, by intro w hSw; go_simp; try with_reducible rfl⟩ | exact Or.inr ⟨by rfl, rfl⟩) hH ?_
  try simp only [Act.put, List.setIfInBounds_toArray, List.set_cons_zero, List.set_cons_succ]
  refine wpK.take (i := 3) (v := _) (by simp only [List.getElem?_toArray, List.getElem?_cons_succ, List.getElem?_cons_zero]; rfl) (by kernel_rfl) (by kernel_rfl) (by kernel_rfl) (by kernel_rfl) (by kernel_rfl) (by exact fun _ _ _ h => h) (by first | exact Or.inl ⟨by rfl, by intro w hSw; go_simp; try with_reducible rfl⟩ | exact Or.inr ⟨by rfl, rfl⟩) hH ?_
  try simp only [Act.put, List.setIfInBounds_toArray, List.set_cons_zero, List.set_cons_succ]
  refine wpK.take (i := 4) (v := _) (by simp only [List.getElem?_toArray, List.getElem?_cons_succ, List.getElem?_cons_zero]; rfl) (by kernel_rfl) (by kernel_rfl) (by kernel_rfl) (by kernel_rfl) (by kernel_rfl) (by exact fun _ _ _ h => h) (by first | exact Or.inl ⟨by rfl, by intro w hSw; go_simp; try with_reducible rfl⟩ | exact Or.inr ⟨by rfl, rfl⟩) hH ?_
  try simp only [Act.put, List.setIfInBounds_toArray, List.set_cons_zero, List.set_cons_succ]
  refine wpK.take (i := 5) (v := _) (by simp only [List.getElem?_toArray, List.getElem?_cons_succ, List.getElem?_cons_zero]; rfl) (by kernel_rfl) (by kernel_rfl) (by kernel_rfl) (by kernel_rfl) (by kernel_rfl) (by exact fun _ _ _ h => h) (by first | exact Or.inl ⟨by rfl, by intro w hSw; go_simp; try with_reducible rfl⟩ | exact Or.inr ⟨by rfl, rfl⟩) hH ?_
  try simp only [Act.put, List.setIfInBounds_toArray, List.set_cons_zero, List.set_cons_succ]
  refine wpK.step (i := 2) (by kernel_rfl) (by simp only [List.getElem?_toArray, List.getElem?_cons_succ, List.getElem?_cons_zero]; rfl) (fun K hK => ?_)
  go_simp
  (refine (var_Out_Int ses HS.out.1 HS.out.2 g (.slice none 0 0) [] _ (HW3.out.below (Below.refl _ _).drew).out (by simp)).mono ?_); rintro e w4 ⟨v4, rfl, ho4, hs4, -⟩; (have hw4 := (HW3.out.below (Below.refl _ _).drew).step ho4 hs4); (have hK4 : Blk w4 bb (cmA ses who kind a b c d text login) := by rw [HBB.out]; exact hw4.cm); (have HW4 := hid hw4); clear ho4 hs4 hw4; go_simp
  refine hK.out _ _ (by assumption) (fun hH => ?_)
  clear hK K
  try simp only [Act.put, List.setIfInBounds_toArray, List.set_cons_zero, List.set_cons_succ]
  refine wpK.step (i := 6) (by kernel_rfl) (by simp only [List.getElem?_toArray, List.getElem?_cons_succ, List.getElem?_cons_zero]; rfl) (fun K hK => ?_)
  go_simp
  (refine (var_Out_Int kind HK.out.1 HK.out.2 g v4 _ _ HW4.out.out (by rw [List.nil_append]; have := enc_len10 (zz ses) (zz_lt _ HS.out.1 HS.out.2); omega)).mono ?_); rintro e w5 ⟨v5, rfl, ho5, hs5, -⟩; (have hw5 := HW4.out.step ho5 hs5); (have hK5 : Blk w5 bb (cmA ses who kind a b c d text login) := by rw [HBB.out]; exact hw5.cm); (have HW5 := hid hw5); clear ho5 hs5 hw5; go_simp
  refine hK.out _ _ (by assumption) (fun hH => ?_)
  clear hK K
  try simp only [Act.put, List.setIfInBounds_toArray, List.set_cons_zero, List.set_cons_succ]
  refine wpK.done (by kernel_rfl) ?_ _
  obtain ⟨m5, hm5⟩ : ∃ m, m = [] ++ enc (zz ses) ++ enc (zz kind) := ⟨_, rfl⟩
  rw [← hm5] at HW5
  have hml : m5.length ≤ 20 := by
    have := enc_len10 (zz ses) (zz_lt _ HS.out.1 HS.out.2)
    have := enc_len10 (zz kind) (zz_lt _ HK.out.1 HK.out.2)
    rw [hm5]; simp only [List.nil_append, List.length_append]; omega
  have HML := hid hml
  have HM5 := hid hm5
  clear HW3 HW4 hK3 hK3d hK4 k0 k2 hml hm5
  have k7 : w5.cell? ⟨bb, 7, none⟩ = some (.string text) := by rw [hK5.cell]; rfl
  have k8 : w5.cell? ⟨bb, 8, none⟩ = some (.string login) := by rw [hK5.cell]; rfl
  have k2 : w5.cell? ⟨bb, 2, none⟩ = some (.int .i64 kind) := by rw [hK5.cell]; rfl
  clear hK5
  have htl : text.data.toList.length ≤ 100 := by have : text.data.toList.length = text.size := by { show text.data.toList.length = text.data.size; exact Array.length_toList }; omega
  have hll : login.data.toList.length ≤ 100 := by have : login.data.toList.length = login.size := by { show login.data.toList.length = login.data.size; exact Array.length_toList }; omega
  have HTL := hid htl
  have HLL := hid hll
  clear htl hll
  cases h2 : login.toList.isEmpty with
  | false =>
    have hfin : all = m5 ++ encB login.data.toList := by
      rw [← hall.out, HM5.out]
      unfold Cm.bytes cmOf
      simp only [empty_iff, h2]
      rfl
    have HFIN := hid hfin
    clear hfin
    go_wp2_with fail
    refine (out_TextQ login (by have := HLL.out; omega) g v5 m5 w5 HW5.out.out (by have := HML.out; omega) all HFIN).mono ?_
    rintro e w6 ⟨v6, rfl, ho6, hs6⟩
    have HW6 := hid (HW5.out.step ho6 hs6)
    clear ho6 hs6 k7 k8 k2
    go_wp2_with fail
    refine (out_All g v6 all w6 HW6.out.out (by rw [HFIN.out, List.length_append]; unfold encB; rw [List.length_append]; have := HML.out; have := HLL.out; have := enc_len10 (zz (login.data.toList.length : Int)) (zz_lt _ (by omega) (by omega)); omega)).mono ?_
    rintro e w7 ⟨u, rfl, hu, hb7⟩
    have HU := hid (ownsRow_base hu (HW6.out.bl.size))
    have HB7 := hid (Below.next HW6.out.bl hb7)
    clear hu hb7
    go_wp2_with fail
    go_ret2
    exact ⟨_, rfl, HU.out, HB7.out⟩
  | true =>
    obtain ⟨q, hq⟩ : ∃ q : ByteArray, q = ⟨(fieldsL kind).toArray⟩ := ⟨_, rfl⟩
    have HQ := hid hq
    have HASC := hid (fields_asc kind q hq)
    clear hq
    go_wp2_with fail
    refine (order_Fields kind w5).mono ?_
    rintro e w6 ⟨rfl, hb6⟩
    rw [← HQ.out]
    have HW6 := hid (HW5.out.below hb6)
    clear hb6 k7 k8 k2 hH
    go_wp2_with (at_range; refine wpList_rangeS _ rfl _ rfl Tryd.underlying9 rfl ?_; intro w7 hi7 hb7 hs7)
    go_frame
    obtain ⟨r, hr⟩ : ∃ r, r = w6.heap.size := ⟨_, rfl⟩
    have HW7 : Hid (ByR w g r (cmA ses who kind a b c d text login) q v5 m5 0 w7) := hid ⟨HW6.out.below hb7, by rw [hr]; exact hi7, by rw [hr]; exact HW6.out.out.blk.lt, fun k hk e => by have := ownBlock_lt HW6.out.out.own hk; omega⟩
    rw [← hr]
    clear HW6 hi7 hb7 hs7 hr
    cases hT : usesT kind with
    | true =>
      have HQ2 : Hid (q = ⟨#[84]⟩) := hid (by rw [HQ.out, fieldsL_T hT])
      have HQS : Hid (q.size = 1) := hid (by rw [HQ2.out]; rfl)
      have HQG : Hid (∀ h : 0 < q.size, q[0] = 84) := hid (by
        obtain rfl := HQ2.out
        intro _; rfl)
      have hfin : m5 ++ encB text.data.toList = all := by
        rw [← hall.out, HM5.out]
        unfold Cm.bytes cmOf
        simp only [empty_iff, h2, hT, if_true]
        rfl
      have HFIN := hid hfin
      clear hfin
      go_loopw [6] (fun _ wr => ByL w g r (cmA ses who kind a b c d text login) q (fun j => if j = 0 then encB text.data.toList else []) all wr) (fun _ wr => strN wr r)
      case atStart => exact ⟨0, v5, m5, by omega, HW7, HFIN, hid (by have := HML.out; omega)⟩
      case round =>
        clear HW7
        obtain ⟨j, v, m, hj, HW, HP, HL⟩ := hrel
        have HLEN := hid HW.out.it.len
        by_cases hlt : j < q.size
        · have hj0 : j = 0 := by have := HQS.out; omega
          subst hj0
          have hg1 := HQG.out hlt
          have hne : (((q[0].toNat : Nat) : Int) == 84) = true := by rw [hg1]; rfl
          clear hg1
          go_wp2_with (at_next; refine wpList_nextS _ rfl _ rfl rfl HW.out.it HASC.out (fun h0 => absurd hlt h0) (fun _ w8 hi8 hu8 hs8 => ?_); (have HW8 := hid (HW.out.next hi8 hu8)); (have k7 : w8.cell? ⟨bb, 7, none⟩ = some (.string text) := by rw [HBB.out, HW8.out.by_.cm.cell]; rfl); clear hi8 hu8 hs8)
          refine (out_TextQ text (by have := HTL.out; omega) g v m w8 HW8.out.by_.out (by have := HL.out; omega) all (hid (by rw [← HP.out]; rfl))).mono ?_
          rintro e w9 ⟨v9, rfl, ho9, hs9⟩
          have HW9 := hid (HW8.out.step ho9 hs9)
          clear ho9 hs9 k7
          go_wp2_with fail
          go_roundw
          case rel => exact ⟨1, v9, all, by omega, HW9, hid (by simp), hid (by rw [← HP.out]; simp only [if_true, List.length_append]; unfold encB; rw [List.length_append]; have := HL.out; have := HTL.out; have := enc_len10 (zz (text.data.toList.length : Int)) (zz_lt _ (by omega) (by omega)); omega)⟩
          case measure => rw [HW9.out.it.len, HLEN.out]; omega
        · have hn : j = 1 := by have := HQS.out; omega
          subst hn
          have hm : m = all := by rw [← HP.out]; simp
          subst hm
          go_wp2_with (at_next; refine wpList_nextS _ rfl _ rfl rfl HW.out.it HASC.out (fun _ => ?_) (fun h1 => absurd h1 hlt))
          refine (out_All g v m _ HW.out.by_.out (by have := HL.out; omega)).mono ?_
          rintro e w9 ⟨u, rfl, hu, hb9⟩
          have HU := hid (ownsRow_base hu (HW.out.by_.bl.size))
          have HB9 := hid (Below.next HW.out.by_.bl hb9)
          clear hu hb9
          go_wp2_with fail
          go_ret2
          exact ⟨_, rfl, HU.out, HB9.out⟩
    | false =>
      have HSZ := hid (fields_size hT q HQ.out)
      have HGET := hid (fields_get hT q HQ.out)
      have hfin : m5 ++ encs ((([a, b, c, d] : List Int).take (usesN kind)).drop 0) = all := by
        rw [← hall.out, HM5.out]
        unfold Cm.bytes cmOf
        simp only [empty_iff, h2, hT, if_true]
        rfl
      have HFIN := hid hfin
      have HNB : Hid (∀ j, j < 4 → -9223372036854775808 ≤ num4 a b c d j ∧ num4 a b c d j ≤ 9223372036854775807) := hid (by
        intro j hj
        have hbd := hok.out.bd
        simp only [cmOf] at hbd
        apply hbd
        unfold num4
        match j, hj with
        | 0, _ => simp
        | 1, _ => simp
        | 2, _ => simp
        | 3, _ => simp)
      have HDROP : Hid (∀ j, j < usesN kind → (([a, b, c, d] : List Int).take (usesN kind)).drop j = num4 a b c d j :: (([a, b, c, d] : List Int).take (usesN kind)).drop (j + 1)) := hid (by
        intro j hj
        have h4 := usesN_le kind
        have hl : (([a, b, c, d] : List Int).take (usesN kind)).length = usesN kind := by rw [List.length_take]; simp; omega
        rw [List.drop_eq_getElem_cons (by rw [hl]; exact hj)]
        congr 1
        rw [List.getElem_take]
        unfold num4
        rw [List.getD_eq_getElem?_getD, List.getElem?_eq_getElem (by simp; omega)]
        rfl)
      clear hfin
      go_loopw [6] (fun _ wr => ByL w g r (cmA ses who kind a b c d text login) q (fun j => encs ((([a, b, c, d] : List Int).take (usesN kind)).drop j)) all wr) (fun _ wr => strN wr r)
      case atStart => exact ⟨0, v5, m5, by omega, HW7, HFIN, hid (by have := HML.out; omega)⟩
      case round =>
        clear HW7
        obtain ⟨j, v, m, hj, HW, HP, HL⟩ := hrel
        have HLEN := hid HW.out.it.len
        by_cases hlt : j < q.size
        · obtain ⟨hg1, hg2⟩ := HGET.out j hlt
          have hne : (((q[j].toNat : Nat) : Int) == 84) = false := by rw [hg1]; simp; omega
          have HG1 := hid hg1
          have HG2 := hid hg2
          have HP2 : Hid (m ++ enc (zz (num4 a b c d j)) ++ encs ((([a, b, c, d] : List Int).take (usesN kind)).drop (j + 1)) = all) := hid (by
            have := HP.out
            simp only at this
            rw [HDROP.out j (by have := HSZ.out; omega), encs, ← List.append_assoc] at this
            exact this)
          clear hg1 hg2
          go_wp2_with (at_next; refine wpList_nextS _ rfl _ rfl rfl HW.out.it HASC.out (fun h0 => absurd hlt h0) (fun _ w8 hi8 hu8 hs8 => ?_); (have HW8 := hid (HW.out.next hi8 hu8)); clear hi8 hu8 hs8)
          refine (order_number j HG2.out _ HG1.out _ _ _).mono ?_
          rintro e w9 ⟨rfl, hb9⟩
          have HW9 := hid (HW8.out.below hb9)
          rw [show 1 + 2 + j = 3 + j from rfl]
          have hcell : w9.cell? ⟨bb, 3 + j, none⟩ = some (.int .i64 (num4 a b c d j)) := by rw [HBB.out, HW9.out.by_.cm.cell]; exact cm_at _ _ _ _ _ _ _ _ _ _ HG2.out
          clear hb9
          go_wp2_with fail
          refine (var_Out_Int (num4 a b c d j) (HNB.out j HG2.out).1 (HNB.out j HG2.out).2 g v m w9 HW9.out.by_.out (by have := HL.out; have := HG2.out; omega)).mono ?_
          rintro e w10 ⟨v10, rfl, ho10, hs10, -⟩
          have HW10 := hid (HW9.out.step ho10 hs10)
          clear ho10 hs10 hcell
          go_wp2_with fail
          go_roundw
          case rel => exact ⟨j + 1, v10, _, by omega, HW10, HP2, hid (by rw [List.length_append]; have := HL.out; have := enc_len10 (zz (num4 a b c d j)) (zz_lt _ (HNB.out j HG2.out).1 (HNB.out j HG2.out).2); omega)⟩
          case measure => rw [HW10.out.it.len, HLEN.out]; omega
        · have hn : j = usesN kind := by have := HSZ.out; omega
          subst hn
          have hm : m = all := by
            rw [← HP.out]
            simp only
            rw [List.drop_of_length_le (by rw [List.length_take]; omega), encs, List.append_nil]
          subst hm
          have HU4 := hid (usesN_le kind)
          go_wp2_with (at_next; refine wpList_nextS _ rfl _ rfl rfl HW.out.it HASC.out (fun _ => ?_) (fun h1 => absurd h1 hlt))
          refine (out_All g v m _ HW.out.by_.out (by have := HL.out; have := HU4.out; omega)).mono ?_
          rintro e w9 ⟨u, rfl, hu, hb9⟩
          have HU := hid (ownsRow_base hu (HW.out.by_.bl.size))
          have HB9 := hid (Below.next HW.out.by_.bl hb9)
          clear hu hb9
          go_wp2_with fail
          go_ret2
          exact ⟨_, rfl, HU.out, HB9.out⟩
end Go.Proofs.YtcjdlckfbkdibaaDoor
end
