/- Joined texts, in this order: OrdParse. Each one's first remark says what it proves; no condition beyond those that its theorems name. -/
import Derived.Test.YtcjdlckfbkdibaaDoorJLawOrderReplies19
section
/- Contract of order.Parse. -/
namespace Go.Proofs.YtcjdlckfbkdibaaDoor
open Go.RowKit
open Go.Lib (hid)
set_option linter.unusedVariables false

def g4 (xs : List Int) (i : Nat) : Int := xs.getD i 0
/-- a command's value -/
def cmV (c : Cm) : Value := .agg #[.int .i64 c.ses, .int .i64 c.who, .int .i64 c.kind, .int .i64 (g4 c.ns 0), .int .i64 (g4 c.ns 1), .int .i64 (g4 c.ns 2), .int .i64 (g4 c.ns 3), .string ⟨c.text.toArray⟩, .string ⟨c.login.toArray⟩]
def parseV (l : List UInt8) : Option Cm := if 512 < l.length then none else parseCm l
def PV (l : List UInt8) (V : Value) (E : Int) : Prop := (parseV l = none ∧ V = cmV ⟨0, 0, 0, [], [], []⟩ ∧ E = 30) ∨ ∃ c, parseV l = some c ∧ V = cmV c ∧ E = 0
theorem g4_fill (xs : List Int) (h : xs.length ≤ 4) : [g4 xs 0, g4 xs 1, g4 xs 2, g4 xs 3] = xs ++ List.replicate (4 - xs.length) 0 := by
  match xs, h with
  | [], _ => rfl
  | [_], _ => rfl
  | [_, _], _ => rfl
  | [_, _, _], _ => rfl
  | [_, _, _, _], _ => rfl
theorem g4_fill' (xs : List Int) (h : xs.length ≤ 4) (i : Nat) (hi : i < 4) : g4 (xs ++ List.replicate (4 - xs.length) 0) i = g4 xs i := by
  rw [← g4_fill xs h]
  match i, hi with
  | 0, _ => rfl
  | 1, _ => rfl
  | 2, _ => rfl
  | 3, _ => rfl
theorem cm_set (ses who kind : Int) (xs : List Int) (x : Int) (t l : ByteArray) (j : Nat) (hj : j < 4) (hx : xs.length = j) :
    (cmA ses who kind (g4 xs 0) (g4 xs 1) (g4 xs 2) (g4 xs 3) t l).setIfInBounds (3 + j) (.int .i64 x) = cmA ses who kind (g4 (xs ++ [x]) 0) (g4 (xs ++ [x]) 1) (g4 (xs ++ [x]) 2) (g4 (xs ++ [x]) 3) t l := by
  subst hx
  match xs, hj with
  | [], _ => rfl
  | [_], _ => rfl
  | [_, _], _ => rfl
  | [_, _, _], _ => rfl
theorem inInt_le (s : Option (List UInt8)) : ((inInt s).2.getD []).length ≤ (s.getD []).length := by
  cases h : (inInt s).2 with
  | none => simp
  | some t => have := inInt_less s t h; simp; omega
theorem inTake_le (n : Nat) (s : Option (List UInt8)) : ((inTake n s).2.getD []).length ≤ (s.getD []).length := by
  cases s with
  | none => simp [inTake]
  | some m => simp only [inTake]; split <;> simp
theorem inBytes_le (hi : Int) (s : Option (List UInt8)) : ((inBytes hi s).2.getD []).length ≤ (s.getD []).length := by
  unfold inBytes
  exact Nat.le_trans (inTake_le _ _) (inWithin_less 0 hi s)
theorem inBytes_len (hi : Int) (s : Option (List UInt8)) (h0 : 0 ≤ hi) : ((inBytes hi s).1.length : Int) ≤ hi := by
  unfold inBytes
  have h1 := inTake_len (inWithin 0 hi s).1.toNat (inWithin 0 hi s).2
  have h2 : (inWithin 0 hi s).1 ≤ hi := by
    unfold inWithin
    split
    · exact h0
    · omega
  omega
theorem InIs.redo {w : World} {g D : Nat} {s : Option (List UInt8)} (h : InIs w g D s) (hD : ¬ D < w.heap.size) (D' : Nat) (hn : D' ≠ g) : InIs w g D' s := by
  obtain ⟨⟨a, n, cap, h1, h2, h3⟩, -⟩ := h
  exact ⟨⟨a, n, cap, h1, h2, fun b off e => by obtain ⟨rfl, hlt⟩ := h3 b off e; exact absurd hlt hD⟩, hn⟩
/-- what stands while a command is read -/
structure PaW (w0 : World) (g D bc : Nat) (s : Option (List UInt8)) (cs : Array Value) (w : World) : Prop where
  bl : Below w0.heap.size w0 w
  res : Blk w w0.heap.size (cmA 0 0 0 0 0 0 0 ⟨#[]⟩ ⟨#[]⟩)
  inn : InIs w g D s
  cm : Blk w bc cs
  d : D < w.heap.size
  o1 : w0.heap.size < g
  o2 : w0.heap.size < bc
  o3 : g < bc
  o4 : D ≠ bc
  ln : (s.getD []).length ≤ 512
theorem PaW.below {w0 w1 w2 : World} {g D bc : Nat} {s : Option (List UInt8)} {cs : Array Value} (h : PaW w0 g D bc s cs w1) (hb : Below w1.heap.size w1 w2) : PaW w0 g D bc s cs w2 :=
  ⟨Below.next h.bl hb, h.res.below hb, h.inn.below hb, h.cm.below hb, Nat.lt_of_lt_of_le h.d hb.size, h.o1, h.o2, h.o3, h.o4, h.ln⟩
theorem PaW.read {w0 w1 w2 : World} {g D bc : Nat} {s s' : Option (List UInt8)} {cs : Array Value} (h : PaW w0 g D bc s cs w1) (hi : InIs w2 g D s') (hu : Upd (fun k => k = g) w1 w2) (hl : (s'.getD []).length ≤ (s.getD []).length) : PaW w0 g D bc s' cs w2 := by
  have := h.o1
  have := h.o3
  exact ⟨h.bl.trans (hu.below h.bl.size (fun k _ e => by omega)), h.res.upd hu (by omega), hi, h.cm.upd hu (by omega), Nat.lt_of_lt_of_le h.d hu.size, h.o1, h.o2, h.o3, h.o4, Nat.le_trans hl h.ln⟩
theorem PaW.set {w0 w1 : World} {g D bc : Nat} {s : Option (List UInt8)} {cs : Array Value} (h : PaW w0 g D bc s cs w1) (i : Nat) (v : Value) : PaW w0 g D bc s (cs.setIfInBounds i v) (w1.setCell ⟨bc, i, none⟩ v) := by
  have hu := Upd.setCell w1 bc i v
  have := h.o2
  have := h.o3
  exact ⟨h.bl.trans (hu.below h.bl.size (fun k _ e => by omega)), h.res.upd hu (by omega), h.inn.upd hu (by omega) (fun _ => h.o4), h.cm.set i v, Nat.lt_of_lt_of_le h.d hu.size, h.o1, h.o2, h.o3, h.o4, h.ln⟩
theorem PaW.fin {w0 w1 : World} {g D bc : Nat} {s : Option (List UInt8)} {cs : Array Value} (h : PaW w0 g D bc s cs w1) (u0 u1 u2 u3 u4 u5 u6 u7 u8 : Value) : ∃ wz, wz = ((((((((w1.setCell ⟨w0.heap.size, 0, none⟩ u0).setCell ⟨w0.heap.size, 1, none⟩ u1).setCell ⟨w0.heap.size, 2, none⟩ u2).setCell ⟨w0.heap.size, 3, none⟩ u3).setCell ⟨w0.heap.size, 4, none⟩ u4).setCell ⟨w0.heap.size, 5, none⟩ u5).setCell ⟨w0.heap.size, 6, none⟩ u6).setCell ⟨w0.heap.size, 7, none⟩ u7).setCell ⟨w0.heap.size, 8, none⟩ u8 ∧ Blk wz w0.heap.size #[u0, u1, u2, u3, u4, u5, u6, u7, u8] ∧ Below w0.heap.size w0 wz := by
  have hr := h.res
  unfold cmA at hr
  obtain ⟨wz, h1, h2, h3⟩ := hr.all9 u0 u1 u2 u3 u4 u5 u6 u7 u8
  exact ⟨wz, h1, h2, h.bl.trans (h3.below h.bl.size (fun k _ e => by omega))⟩
theorem PaW.next {w0 w1 w2 : World} {g D bc : Nat} {s : Option (List UInt8)} {cs : Array Value} (h : PaW w0 g D bc s cs w1) {r : Nat} (hu : Upd (fun k => k = r) w1 w2) (hr : bc < r ∧ g < r ∧ D ≠ r) : PaW w0 g D bc s cs w2 := by
  have := h.o2
  have := h.o3
  exact ⟨h.bl.trans (hu.below h.bl.size (fun k _ e => by omega)), h.res.upd hu (by omega), h.inn.upd hu (by omega) (fun _ => hr.2.2), h.cm.upd hu (by omega), Nat.lt_of_lt_of_le h.d hu.size, h.o1, h.o2, h.o3, h.o4, h.ln⟩
def PaL (w0 : World) (g D bc r : Nat) (q : ByteArray) (ses kind : Int) (n : Nat) (fin : List Int) (left : Option (List UInt8)) (T L : ByteArray) (wr : World) : Prop :=
  ∃ (j : Nat) (xs : List Int) (s : Option (List UInt8)), j ≤ q.size ∧ Hid (PaW w0 g D bc s (cmA ses 0 kind (g4 xs 0) (g4 xs 1) (g4 xs 2) (g4 xs 3) T L) wr) ∧ Hid (StrIt wr r q j) ∧ Hid (xs.length = j) ∧ Hid (xs ++ (inNums (n - j) s).1 = fin ∧ (inNums (n - j) s).2 = left)
def PaT (w0 : World) (g D bc r : Nat) (q : ByteArray) (ses kind : Int) (s0 s1 : Option (List UInt8)) (T L : ByteArray) (wr : World) : Prop :=
  ∃ j : Nat, j ≤ q.size ∧ Hid (StrIt wr r q j) ∧ Hid (j = 0 → PaW w0 g D bc s0 (cmA ses 0 kind 0 0 0 0 ⟨#[]⟩ L) wr) ∧ Hid (j = 1 → PaW w0 g D bc s1 (cmA ses 0 kind 0 0 0 0 T L) wr)
theorem pv_no (l : List UInt8) (h : (readCm l).left ≠ some [] ∨ (readCm l).cm.right = false) : PV l (cmV ⟨0, 0, 0, [], [], []⟩) 30 := by
  refine .inl ⟨?_, rfl, rfl⟩
  unfold parseV parseCm
  split
  · rfl
  · rw [if_neg]
    rintro ⟨h1, h2⟩
    rcases h with h | h
    · exact h h1
    · rw [h] at h2; simp at h2
theorem pv_yes (l : List UInt8) (hl : ¬ 512 < l.length) (h1 : (readCm l).left = some []) (h2 : (readCm l).cm.right = true) (V : Value) (hV : V = cmV (readCm l).cm) : PV l V 0 := by
  refine .inr ⟨(readCm l).cm, ?_, hV, rfl⟩
  unfold parseV parseCm
  rw [if_neg hl, if_pos ⟨h1, h2⟩]
theorem cm_of (l : List UInt8) (ses kind : Int) (xs : List Int) (text login : List UInt8) (e1 : (readCm l).ses = ses) (e2 : (readCm l).kind = kind) (e3 : (readCm l).login = login) (e4 : (readCm l).text = text) (e5 : (readCm l).nums = xs) (hx : xs.length ≤ 4) :
    (readCm l).cm = cmOf ses 0 kind (g4 xs 0) (g4 xs 1) (g4 xs 2) (g4 xs 3) ⟨text.toArray⟩ ⟨login.toArray⟩ := by
  unfold Rd0.cm cmOf
  rw [e1, e2, e3, e4, e5, g4_fill xs hx]
set_option maxRecDepth 100000 in
set_option maxHeartbeats 4000000 in
theorem order_Parse (l : List UInt8) (u : Value) (w : World) (hl : SlB w u l) (hb : l.length ≤ 1048576) :
    Calls Tryd.prog 32 #[u] w fun e w' => ∃ V E, e = .returned (.tuple #[V, .int .i64 E]) ∧ PV l V E ∧ Below w.heap.size w w' := by
  have HL := hid hl
  obtain ⟨a, c, rfl, -⟩ := hl
  by_cases h5 : 512 < l.length
  · have i5 : (512 : Int) < (l.length : Int) := by omega
    have hpv : PV l (cmV ⟨0, 0, 0, [], [], []⟩) 30 := .inl ⟨by unfold parseV; rw [if_pos h5], rfl, rfl⟩
    have HPV := hid hpv
    clear hpv h5
    go_enter Tryd.func32, Tryd.ntmps32
    go_wp2_with fail
    (try simp only [Exit.inBlock, Exit.then])
    refine bodyPost_ret (res_cell_tmp rfl _ _ _ rfl (by go_simp; rfl)) rfl ?_
    exact ⟨_, _, rfl, HPV.out, Below.new _ _⟩
  have i5 : ¬ (512 : Int) < (l.length : Int) := by omega
  -- what is read
  obtain ⟨ses, s1, h1⟩ : ∃ x y, inWithin 0 1048576 (some l) = (x, y) := ⟨_, _, rfl⟩
  obtain ⟨kind, s2, h2⟩ : ∃ x y, inInt s1 = (x, y) := ⟨_, _, rfl⟩
  have H1 := hid h1
  have H2 := hid h2
  have hrd : (readCm l).ses = ses ∧ (readCm l).kind = kind ∧ (readCm l).login = (if kind = 0 then inBytes 16 s2 else ([], s2)).1 ∧ (readCm l).text = (if usesT kind then inBytes 16 (if kind = 0 then inBytes 16 s2 else ([], s2)).2 else ([], (if kind = 0 then inBytes 16 s2 else ([], s2)).2)).1 ∧
      (readCm l).nums = (inNums (usesN kind) (if usesT kind then inBytes 16 (if kind = 0 then inBytes 16 s2 else ([], s2)).2 else ([], (if kind = 0 then inBytes 16 s2 else ([], s2)).2)).2).1 ∧ (readCm l).left = (inNums (usesN kind) (if usesT kind then inBytes 16 (if kind = 0 then inBytes 16 s2 else ([], s2)).2 else ([], (if kind = 0 then inBytes 16 s2 else ([], s2)).2)).2).2 := by
    unfold readCm
    simp only [h1, h2]
    exact ⟨trivial, trivial, trivial, trivial, trivial, trivial⟩
  have hl1 : (s1.getD []).length ≤ ((some l).getD []).length := by have := inWithin_less 0 1048576 (some l); rw [h1] at this; exact this
  have hl2 : (s2.getD []).length ≤ (s1.getD []).length := by have := inInt_le s1; rw [h2] at this; exact this
  have HRD := hid hrd
  have HL1 := hid hl1
  have HL2 := hid hl2
  have H5 := hid h5
  clear h1 h2 hrd hl1 hl2 h5
  go_enter Tryd.func32, Tryd.ntmps32
  go_wp2_with fail
  generalize hw0 : World.alloc w _ = w0
  have HB0 : Hid (Below w.heap.size w w0) := hid (by rw [← hw0]; exact Below.new _ _)
  have HR0 : Hid (Blk w0 w.heap.size (cmA 0 0 0 0 0 0 0 ⟨#[]⟩ ⟨#[]⟩)) := hid (by rw [← hw0]; exact Blk.new w _ _)
  clear hw0
  refine (var_NewIn l _ w0 (HL.out.below HB0.out) (by omega)).mono ?_
  rintro e w1 ⟨g, D0, rfl, hi1, hg1, hD1, hb1⟩
  obtain ⟨D, hiD, hDl⟩ : ∃ D, InIs w1 g D (some l) ∧ D < w1.heap.size := by
    by_cases hd : D0 < w1.heap.size
    · exact ⟨D0, hi1, hd⟩
    · have := HR0.out.lt
      exact ⟨w.heap.size, hi1.redo hd _ (by omega), by have := hb1.size; omega⟩
  have HI1 := hid hiD
  have HD1 := hid hDl
  have HG1 : Hid (w.heap.size < g) := hid (by have := HR0.out.lt; omega)
  have HB1 := hid (Below.next HB0.out hb1)
  have HR1 := hid (Blk.below hb1 HR0.out)
  clear hi1 hg1 hD1 hiD hDl hb1 HR0 HB0
  go_wp2_with fail
  refine (in_Within 0 1048576 (some l) g D w1 HI1.out ses s1 H1).mono ?_
  rintro e w2 ⟨rfl, hi2, hu2⟩
  have HW3 : ∃ w3 bc, w3 = w2.alloc (.cells (cmA ses 0 0 0 0 0 0 ⟨#[]⟩ ⟨#[]⟩) 60) ∧ bc = w2.heap.size ∧ PaW w g D bc s1 (cmA ses 0 0 0 0 0 0 ⟨#[]⟩ ⟨#[]⟩) w3 := by
    have hlt := HR1.out.lt
    have hgt := HG1.out
    have hg0 : w.heap.size < g := HG1.out
    have hs := hu2.size
    have hgl := hi2.ex
    obtain ⟨_, _, _, hbk, -⟩ := hgl
    have hgl := hbk.lt
    have hbelow : Below w.heap.size w w2 := HB1.out.trans (hu2.below HB1.out.size (fun k _ e => by omega))
    exact ⟨_, _, rfl, rfl, ⟨Below.next hbelow (Below.new _ _), Blk.below (Below.new _ _) (HR1.out.upd hu2 (by omega)), hi2.below (Below.new _ _), Blk.new _ _ _, by have := HD1.out; simp; omega, hg0, by omega, hgl, by have := HD1.out; omega, by have := HL1.out; have := H5.out; simp at *; omega⟩⟩
  obtain ⟨w3, bc, hw3, hbc, hW3⟩ := HW3
  have HW3 := hid hW3
  clear hW3 hi2 hu2 HI1 HD1 HG1 HB1 HR1
  unfold cmA at hw3
  go_upto_region 5 with fail
  rw [← hw3, ← hbc]
  clear hw3 hbc
  obtain ⟨q, hq⟩ : ∃ q : ByteArray, q = ⟨(fieldsL kind).toArray⟩ := ⟨_, rfl⟩
  have HQ := hid hq
  have HASC := hid (fields_asc kind q hq)
  clear hq
  go_wp2_with fail
  refine (in_Int s1 g D w3 HW3.out.inn kind s2 H2).mono ?_
  rintro e w4 ⟨rfl, hi4, hu4⟩
  have HW4 := hid (HW3.out.read hi4 hu4 HL2.out)
  clear hi4 hu4 HW3
  have hc2 : w4.cell? ⟨bc, 2, none⟩ = some (.int .i64 0) := by rw [HW4.out.cm.cell]; rfl
  have hf2 := HW4.out.cm.unfrozen 2
  have HW5 : Hid (PaW w g D bc s2 (cmA ses 0 kind 0 0 0 0 ⟨#[]⟩ ⟨#[]⟩) (w4.setCell ⟨bc, 2, none⟩ (.int .i64 kind))) := hid (HW4.out.set 2 (.int .i64 kind))
  go_upto_region 6 with fail
  generalize World.setCell w4 _ _ = w5 at HW5
  clear HW4 hc2 hf2
  have hc2 : w5.cell? ⟨bc, 2, none⟩ = some (.int .i64 kind) := by rw [HW5.out.cm.cell]; rfl
  -- the rest
  by_cases hk : kind = 0
  · have hkb : (kind == 0) = true := by simp [hk]
    have hT : usesT kind = false := by rw [hk]; exact usesT_zero
    obtain ⟨lg, s3, h3⟩ : ∃ x y, inBytes 16 s2 = (x, y) := ⟨_, _, rfl⟩
    have hlg : lg.length ≤ 16 := by have := inBytes_len 16 s2 (by omega); rw [h3] at this; simp only at this; omega
    have HLG := hid hlg
    have HS3 := hid (show (s3.getD []).length ≤ (s2.getD []).length by have := inBytes_le 16 s2; rw [h3] at this; exact this)
    have H3 := hid h3
    have HLL : Hid ((⟨lg.toArray⟩ : ByteArray).size ≤ 9223372036854775807) := hid (by show lg.toArray.size ≤ _; rw [List.size_toArray]; omega)
    have HK := hid hk
    clear hk hlg h3
    go_upto_region 7 with fail
    clear hkb hc2
    go_wp2_with fail
    refine (in_Text 16 s2 g D w5 HW5.out.inn (by have := HW5.out.ln; omega) lg s3 H3 (by have := HLG.out; omega)).mono ?_
    rintro e w6 ⟨rfl, hi6, hu6⟩
    have HWa := hid (HW5.out.read hi6 hu6 HS3.out)
    have hco : w6.cell? ⟨bc, 8, none⟩ = some (.string ⟨#[]⟩) := by rw [HWa.out.cm.cell]; rfl
    have hfo := HWa.out.cm.unfrozen 8
    have HW6 : Hid (PaW w g D bc s3 (cmA ses 0 kind 0 0 0 0 ⟨#[]⟩ ⟨lg.toArray⟩) (w6.setCell ⟨bc, 8, none⟩ (.string ⟨lg.toArray⟩))) := hid (HWa.out.set 8 (.string ⟨lg.toArray⟩))
    clear hi6 hu6
    go_upto_region 8 with fail
    generalize World.setCell w6 _ _ = wx at HW6
    clear HWa hco hfo
    have hc2 : wx.cell? ⟨bc, 2, none⟩ = some (.int .i64 kind) := by rw [HW6.out.cm.cell]; rfl
    go_wp2_with fail
    refine (order_Fields kind _).mono ?_
    rintro e w7 ⟨rfl, hb7⟩
    rw [← HQ.out]
    have HW7 := hid (HW6.out.below hb7)
    clear hb7 hc2
    go_wp2_with (at_range; refine wpList_rangeS _ rfl _ rfl Tryd.underlying9 rfl ?_; intro w8 hi8 hb8 hs8)
    go_frame
    obtain ⟨r, hr⟩ : ∃ r, r = w7.heap.size := ⟨_, rfl⟩
    have HW8 := hid (HW7.out.below hb8)
    have HIT8 : Hid (StrIt w8 r q 0) := hid (by rw [hr]; exact hi8)
    have HRB : Hid (bc < r ∧ g < r ∧ D ≠ r) := hid (by rw [hr]; have := HW7.out.cm.lt; have := HW7.out.o3; have := HW7.out.d; omega)
    rw [← hr]
    clear hi8 hb8 hs8 hr HW7
    obtain ⟨fin, left, hfl⟩ : ∃ x y, inNums (usesN kind) s3 = (x, y) := ⟨_, _, rfl⟩
    have hflen : fin.length ≤ 4 := by have := inNums_len (usesN kind) s3; rw [hfl] at this; simp only at this; rw [this]; exact usesN_le kind
    have HLF : Hid ((readCm l).left = left) := hid (by rw [HRD.out.2.2.2.2.2]; simp only [if_pos HK.out, hT, Bool.false_eq_true, if_false, H3.out]; rw [hfl])
    have HCM : Hid ((readCm l).cm = cmOf ses 0 kind (g4 fin 0) (g4 fin 1) (g4 fin 2) (g4 fin 3) ⟨#[]⟩ ⟨lg.toArray⟩) := hid (cm_of l ses kind fin [] lg HRD.out.1 HRD.out.2.1 (by rw [HRD.out.2.2.1]; simp only [if_pos HK.out, hT, Bool.false_eq_true, if_false, H3.out]) (by rw [HRD.out.2.2.2.1]; simp only [if_pos HK.out, hT, Bool.false_eq_true, if_false, H3.out]) (by rw [HRD.out.2.2.2.2.1]; simp only [if_pos HK.out, hT, Bool.false_eq_true, if_false, H3.out]; rw [hfl]) hflen)
    have HFL := hid hfl
    have HSZ := hid (fields_size hT q HQ.out)
    have HGET := hid (fields_get hT q HQ.out)
    have HTL : Hid ((⟨#[]⟩ : ByteArray).size ≤ 9223372036854775807) := hid (by decide)
    clear hfl hflen
    go_loopw [7] (fun _ wr => PaL w g D bc r q ses kind (usesN kind) fin left ⟨#[]⟩ ⟨lg.toArray⟩ wr) (fun _ wr => strN wr r)
    case atStart => exact ⟨0, [], s3, by omega, HW8, HIT8, hid rfl, hid (by rw [Nat.sub_zero, HFL.out]; exact ⟨rfl, rfl⟩)⟩
    case round =>
      clear HW8 HIT8
      obtain ⟨j, xs, s, hj, HW, HIT, HX, HF⟩ := hrel
      have HLEN := hid HIT.out.len
      by_cases hlt : j < q.size
      · obtain ⟨hg1, hg2⟩ := HGET.out j hlt
        have hne : (((q[j].toNat : Nat) : Int) == 84) = false := by rw [hg1]; simp; omega
        have HG1 := hid hg1
        have HG2 := hid hg2
        obtain ⟨x, sx, hx⟩ : ∃ x y, inInt s = (x, y) := ⟨_, _, rfl⟩
        have HXX := hid hx
        have HSX := hid (show (sx.getD []).length ≤ (s.getD []).length by have := inInt_le s; rw [hx] at this; exact this)
        have HF2 : Hid ((xs ++ [x]) ++ (inNums (usesN kind - (j + 1)) sx).1 = fin ∧ (inNums (usesN kind - (j + 1)) sx).2 = left) := hid (by
          have h0 := HF.out
          have : usesN kind - j = (usesN kind - (j + 1)) + 1 := by have := HSZ.out; omega
          rw [this, inNums, hx] at h0
          simpa using h0)
        clear hg1 hg2 hx
        go_wp2_with (at_next; refine wpList_nextS _ rfl _ rfl rfl HIT.out HASC.out (fun h0 => absurd hlt h0) (fun _ w9 hi9 hu9 hs9 => ?_); (have HW9 := hid (HW.out.next hu9 HRB.out)); (have HIT9 := hid hi9); clear hi9 hu9 hs9)
        refine (order_number j HG2.out _ HG1.out _ _ _).mono ?_
        rintro e w10 ⟨rfl, hb10⟩
        have HW10 := hid (HW9.out.below hb10)
        have HIT10 := hid (HIT9.out.below hb10)
        rw [show 1 + 2 + j = 3 + j from rfl]
        clear hb10
        go_wp2_with fail
        refine (in_Int s g D w10 HW10.out.inn x sx HXX).mono ?_
        rintro e w11 ⟨rfl, hi11, hu11⟩
        have HW11 := hid (HW10.out.read hi11 hu11 HSX.out)
        have HIT11 := hid (HIT10.out.upd hu11 (by have := HRB.out; omega))
        obtain ⟨vo, hco⟩ : ∃ v, w11.cell? ⟨bc, 3 + j, none⟩ = some v := ⟨_, by rw [HW11.out.cm.cell]; exact cm_at _ _ _ _ _ _ _ _ _ _ HG2.out⟩
        have hfo := HW11.out.cm.unfrozen (3 + j)
        clear hi11 hu11
        go_wp2_with fail
        have HW12 := HW11.out.set (3 + j) (.int .i64 x)
        rw [cm_set ses 0 kind xs x _ _ j HG2.out HX.out] at HW12
        have HIT12 := HIT11.out.upd (Upd.setCell w11 bc (3 + j) (.int .i64 x)) (by have := HRB.out; omega)
        have HW13 := hid HW12
        have HIT13 := hid HIT12
        clear HW12 HIT12
        go_roundw
        case rel => exact ⟨j + 1, xs ++ [x], sx, by omega, HW13, HIT13, hid (by have := HX.out; simp [this]), HF2⟩
        case measure => rw [HIT13.out.len, HLEN.out]; omega
      · have hn : j = usesN kind := by have := HSZ.out; omega
        subst hn
        have hxf : xs = fin ∧ s = left := by
          have := HF.out
          rw [Nat.sub_self] at this
          simpa [inNums] using this
        obtain ⟨rfl, rfl⟩ := hxf
        go_wp2_with (at_next; refine wpList_nextS _ rfl _ rfl rfl HIT.out HASC.out (fun _ => ?_) (fun h1 => absurd h1 hlt))
        refine (in_Done _ g D _ HW.out.inn).mono ?_
        rintro e w' ⟨rfl, rfl⟩
        cases hdn : inDone s with
        | false =>
          have HPV := hid (pv_no l (.inl (by rw [HLF.out]; intro hh; rw [hh] at hdn; simp [inDone] at hdn)))
          clear hdn
          obtain ⟨f0, f1, f2, f3, f4, f5, f6, f7, f8⟩ := HW.out.res.free9
          have HRES := HW.out.res
          unfold cmA at HRES
          obtain ⟨r0, r1, r2, r3, r4, r5, r6, r7, r8⟩ := HRES.cells9
          obtain ⟨wz, hwz, hbz, hbf⟩ := HW.out.fin (.int .i64 0) (.int .i64 0) (.int .i64 0) (.int .i64 0) (.int .i64 0) (.int .i64 0) (.int .i64 0) (.string ⟨#[]⟩) (.string ⟨#[]⟩)
          have HWZ := hid hwz
          have HBZ := hid hbz
          have HBF := hid hbf
          clear HRES hwz hbz hbf
          go_wp2_with fail
          rw [← HWZ.out]
          clear f0 f1 f2 f3 f4 f5 f6 f7 f8 r0 r1 r2 r3 r4 r5 r6 r7 r8
          obtain ⟨z0, z1, z2, z3, z4, z5, z6, z7, z8⟩ := HBZ.out.cells9
          (try simp only [Exit.inBlock, Exit.then])
          refine bodyPost_ret (res_cell_tmp rfl _ _ _ rfl (by go_simp; rfl)) rfl ?_
          exact ⟨_, _, rfl, HPV.out, HBF.out⟩
        | true =>
          have hds : s = some [] := by simpa [inDone] using hdn
          have HDS := hid hds
          clear hdn hds
          have HCS := HW.out.cm
          unfold cmA at HCS
          obtain ⟨c0, c1, c2, c3, c4, c5, c6, c7, c8⟩ := HCS.cells9
          clear HCS
          obtain ⟨R, hR⟩ : ∃ R, (cmOf ses 0 kind (g4 xs 0) (g4 xs 1) (g4 xs 2) (g4 xs 3) ⟨#[]⟩ ⟨lg.toArray⟩).right = R := ⟨_, rfl⟩
          have HR := hid hR
          clear hR
          go_wp2_with fail
          refine (order_Right ses 0 kind (g4 xs 0) (g4 xs 1) (g4 xs 2) (g4 xs 3) ⟨#[]⟩ ⟨lg.toArray⟩ _ HLL.out HTL.out R HR).mono ?_
          rintro e w9 ⟨rfl, hb9⟩
          have HW9 := hid (HW.out.below hb9)
          clear hb9 c0 c1 c2 c3 c4 c5 c6 c7 c8
          cases R with
          | false =>
            have HPV := hid (pv_no l (.inr (by rw [HCM.out]; exact HR.out)))
            obtain ⟨f0, f1, f2, f3, f4, f5, f6, f7, f8⟩ := HW9.out.res.free9
            have HRES := HW9.out.res
            unfold cmA at HRES
            obtain ⟨r0, r1, r2, r3, r4, r5, r6, r7, r8⟩ := HRES.cells9
            obtain ⟨wz, hwz, hbz, hbf⟩ := HW9.out.fin (.int .i64 0) (.int .i64 0) (.int .i64 0) (.int .i64 0) (.int .i64 0) (.int .i64 0) (.int .i64 0) (.string ⟨#[]⟩) (.string ⟨#[]⟩)
            have HWZ := hid hwz
            have HBZ := hid hbz
            have HBF := hid hbf
            clear HRES hwz hbz hbf
            go_wp2_with fail
            rw [← HWZ.out]
            clear f0 f1 f2 f3 f4 f5 f6 f7 f8 r0 r1 r2 r3 r4 r5 r6 r7 r8
            obtain ⟨z0, z1, z2, z3, z4, z5, z6, z7, z8⟩ := HBZ.out.cells9
            (try simp only [Exit.inBlock, Exit.then])
            refine bodyPost_ret (res_cell_tmp rfl _ _ _ rfl (by go_simp; rfl)) rfl ?_
            exact ⟨_, _, rfl, HPV.out, HBF.out⟩
          | true =>
            have HPV : Hid (PV l (.agg #[.int .i64 ses, .int .i64 0, .int .i64 kind, .int .i64 (g4 xs 0), .int .i64 (g4 xs 1), .int .i64 (g4 xs 2), .int .i64 (g4 xs 3), .string ⟨#[]⟩, .string ⟨lg.toArray⟩]) 0) := hid (pv_yes l H5.out (by rw [HLF.out]; exact HDS.out) (by rw [HCM.out]; exact HR.out) _ (by rw [HCM.out]; rfl))
            have HCS := HW9.out.cm
            unfold cmA at HCS
            obtain ⟨c0, c1, c2, c3, c4, c5, c6, c7, c8⟩ := HCS.cells9
            obtain ⟨f0, f1, f2, f3, f4, f5, f6, f7, f8⟩ := HW9.out.res.free9
            have HRES := HW9.out.res
            unfold cmA at HRES
            obtain ⟨r0, r1, r2, r3, r4, r5, r6, r7, r8⟩ := HRES.cells9
            obtain ⟨wz, hwz, hbz, hbf⟩ := HW9.out.fin (.int .i64 ses) (.int .i64 0) (.int .i64 kind) (.int .i64 (g4 xs 0)) (.int .i64 (g4 xs 1)) (.int .i64 (g4 xs 2)) (.int .i64 (g4 xs 3)) (.string ⟨#[]⟩) (.string ⟨lg.toArray⟩)
            have HWZ := hid hwz
            have HBZ := hid hbz
            have HBF := hid hbf
            clear HCS HRES hwz hbz hbf
            go_wp2_with fail
            rw [← HWZ.out]
            clear c0 c1 c2 c3 c4 c5 c6 c7 c8 f0 f1 f2 f3 f4 f5 f6 f7 f8 r0 r1 r2 r3 r4 r5 r6 r7 r8
            obtain ⟨z0, z1, z2, z3, z4, z5, z6, z7, z8⟩ := HBZ.out.cells9
            (try simp only [Exit.inBlock, Exit.then])
            refine bodyPost_ret (res_cell_tmp rfl _ _ _ rfl (by go_simp; rfl)) rfl ?_
            exact ⟨_, _, rfl, HPV.out, HBF.out⟩
  · have hkb : (kind == 0) = false := by simp [hk]
    have HW6 := HW5
    go_upto_region 8 with fail
    clear hkb hc2 HW5
    have hc2 : w5.cell? ⟨bc, 2, none⟩ = some (.int .i64 kind) := by rw [HW6.out.cm.cell]; rfl
    go_wp2_with fail
    refine (order_Fields kind _).mono ?_
    rintro e w7 ⟨rfl, hb7⟩
    rw [← HQ.out]
    have HW7 := hid (HW6.out.below hb7)
    clear hb7 hc2
    go_wp2_with (at_range; refine wpList_rangeS _ rfl _ rfl Tryd.underlying9 rfl ?_; intro w8 hi8 hb8 hs8)
    go_frame
    obtain ⟨r, hr⟩ : ∃ r, r = w7.heap.size := ⟨_, rfl⟩
    have HW8 := hid (HW7.out.below hb8)
    have HIT8 : Hid (StrIt w8 r q 0) := hid (by rw [hr]; exact hi8)
    have HRB : Hid (bc < r ∧ g < r ∧ D ≠ r) := hid (by rw [hr]; have := HW7.out.cm.lt; have := HW7.out.o3; have := HW7.out.d; omega)
    rw [← hr]
    clear hi8 hb8 hs8 hr HW7
    cases hT : usesT kind with
    | true =>
      obtain ⟨tx, s4, h4⟩ : ∃ x y, inBytes 16 s2 = (x, y) := ⟨_, _, rfl⟩
      have htx : tx.length ≤ 16 := by have := inBytes_len 16 s2 (by omega); rw [h4] at this; simp only at this; omega
      have hs4 : (s4.getD []).length ≤ (s2.getD []).length := by have := inBytes_le 16 s2; rw [h4] at this; exact this
      have hN := usesT_N hT
      have HLF : Hid ((readCm l).left = s4) := hid (by rw [HRD.out.2.2.2.2.2, hN]; simp only [hk, hT, if_true, if_false, inNums, h4])
      have HCM : Hid ((readCm l).cm = cmOf ses 0 kind 0 0 0 0 ⟨tx.toArray⟩ ⟨#[]⟩) := hid (cm_of l ses kind [] tx [] HRD.out.1 HRD.out.2.1 (by rw [HRD.out.2.2.1]; simp only [hk, if_false]) (by rw [HRD.out.2.2.2.1]; simp only [hk, hT, if_true, if_false, h4]) (by rw [HRD.out.2.2.2.2.1, hN]; rfl) (by simp))
      have HTX := hid htx
      have HS4 := hid hs4
      have H4 := hid h4
      have HQ2 : Hid (q = ⟨#[84]⟩) := hid (by rw [HQ.out, fieldsL_T hT])
      have HQS : Hid (q.size = 1) := hid (by rw [HQ2.out]; rfl)
      have HQG : Hid (∀ h : 0 < q.size, q[0] = 84) := hid (by
        obtain rfl := HQ2.out
        intro _; rfl)
      have HLL : Hid ((⟨#[]⟩ : ByteArray).size ≤ 9223372036854775807) := hid (by decide)
      have HTL : Hid ((⟨tx.toArray⟩ : ByteArray).size ≤ 9223372036854775807) := hid (by show tx.toArray.size ≤ _; rw [List.size_toArray]; omega)
      clear h4 htx hs4 hN
      go_loopw [7] (fun _ wr => PaT w g D bc r q ses kind s2 s4 ⟨tx.toArray⟩ ⟨#[]⟩ wr) (fun _ wr => strN wr r)
      case atStart => exact ⟨0, by omega, HIT8, hid (fun _ => HW8.out), hid (fun h => by omega)⟩
      case round =>
        clear HW8 HIT8
        obtain ⟨j, hj, HIT, HW0, HW1⟩ := hrel
        have HLEN := hid HIT.out.len
        by_cases hlt : j < q.size
        · have hj0 : j = 0 := by have := HQS.out; omega
          subst hj0
          have HW := hid (HW0.out rfl)
          have hg1 := HQG.out hlt
          have hne : (((q[0].toNat : Nat) : Int) == 84) = true := by rw [hg1]; rfl
          clear hg1 HW0 HW1
          go_wp2_with (at_next; refine wpList_nextS _ rfl _ rfl rfl HIT.out HASC.out (fun h0 => absurd hlt h0) (fun _ w9 hi9 hu9 hs9 => ?_); (have HW9 := hid (HW.out.next hu9 HRB.out)); (have HIT9 := hid hi9); clear hi9 hu9 hs9)
          refine (in_Text 16 s2 g D w9 HW9.out.inn (by have := HW9.out.ln; omega) tx s4 H4 (by have := HTX.out; omega)).mono ?_
          rintro e w11 ⟨rfl, hi11, hu11⟩
          have HW11 := hid (HW9.out.read hi11 hu11 HS4.out)
          have HIT11 := hid (HIT9.out.upd hu11 (by have := HRB.out; omega))
          have hco : w11.cell? ⟨bc, 7, none⟩ = some (.string ⟨#[]⟩) := by rw [HW11.out.cm.cell]; rfl
          have hfo := HW11.out.cm.unfrozen 7
          clear hi11 hu11
          go_wp2_with fail
          have HW13 := hid (HW11.out.set 7 (.string ⟨tx.toArray⟩))
          have HIT13 := hid (HIT11.out.upd (Upd.setCell w11 bc 7 (.string ⟨tx.toArray⟩)) (by have := HRB.out; omega))
          go_roundw
          case rel => exact ⟨1, by omega, HIT13, hid (fun h => by omega), hid (fun _ => HW13.out)⟩
          case measure => rw [HIT13.out.len, HLEN.out]; omega
        · have hn : j = 1 := by have := HQS.out; omega
          subst hn
          have HW := hid (HW1.out rfl)
          clear HW0 HW1
          go_wp2_with (at_next; refine wpList_nextS _ rfl _ rfl rfl HIT.out HASC.out (fun _ => ?_) (fun h1 => absurd h1 hlt))
          refine (in_Done _ g D _ HW.out.inn).mono ?_
          rintro e w' ⟨rfl, rfl⟩
          cases hdn : inDone s4 with
          | false =>
            have HPV := hid (pv_no l (.inl (by rw [HLF.out]; intro hh; rw [hh] at hdn; simp [inDone] at hdn)))
            clear hdn
            obtain ⟨f0, f1, f2, f3, f4, f5, f6, f7, f8⟩ := HW.out.res.free9
            have HRES := HW.out.res
            unfold cmA at HRES
            obtain ⟨r0, r1, r2, r3, r4, r5, r6, r7, r8⟩ := HRES.cells9
            obtain ⟨wz, hwz, hbz, hbf⟩ := HW.out.fin (.int .i64 0) (.int .i64 0) (.int .i64 0) (.int .i64 0) (.int .i64 0) (.int .i64 0) (.int .i64 0) (.string ⟨#[]⟩) (.string ⟨#[]⟩)
            have HWZ := hid hwz
            have HBZ := hid hbz
            have HBF := hid hbf
            clear HRES hwz hbz hbf
            go_wp2_with fail
            rw [← HWZ.out]
            clear f0 f1 f2 f3 f4 f5 f6 f7 f8 r0 r1 r2 r3 r4 r5 r6 r7 r8
            obtain ⟨z0, z1, z2, z3, z4, z5, z6, z7, z8⟩ := HBZ.out.cells9
            (try simp only [Exit.inBlock, Exit.then])
            refine bodyPost_ret (res_cell_tmp rfl _ _ _ rfl (by go_simp; rfl)) rfl ?_
            exact ⟨_, _, rfl, HPV.out, HBF.out⟩
          | true =>
            have hds : s4 = some [] := by simpa [inDone] using hdn
            have HDS := hid hds
            clear hdn hds
            have HCS := HW.out.cm
            unfold cmA at HCS
            obtain ⟨c0, c1, c2, c3, c4, c5, c6, c7, c8⟩ := HCS.cells9
            clear HCS
            obtain ⟨R, hR⟩ : ∃ R, (cmOf ses 0 kind 0 0 0 0 ⟨tx.toArray⟩ ⟨#[]⟩).right = R := ⟨_, rfl⟩
            have HR := hid hR
            clear hR
            go_wp2_with fail
            refine (order_Right ses 0 kind 0 0 0 0 ⟨tx.toArray⟩ ⟨#[]⟩ _ HLL.out HTL.out R HR).mono ?_
            rintro e w9 ⟨rfl, hb9⟩
            have HW9 := hid (HW.out.below hb9)
            clear hb9 c0 c1 c2 c3 c4 c5 c6 c7 c8
            cases R with
            | false =>
              have HPV := hid (pv_no l (.inr (by rw [HCM.out]; exact HR.out)))
              obtain ⟨f0, f1, f2, f3, f4, f5, f6, f7, f8⟩ := HW9.out.res.free9
              have HRES := HW9.out.res
              unfold cmA at HRES
              obtain ⟨r0, r1, r2, r3, r4, r5, r6, r7, r8⟩ := HRES.cells9
              obtain ⟨wz, hwz, hbz, hbf⟩ := HW9.out.fin (.int .i64 0) (.int .i64 0) (.int .i64 0) (.int .i64 0) (.int .i64 0) (.int .i64 0) (.int .i64 0) (.string ⟨#[]⟩) (.string ⟨#[]⟩)
              have HWZ := hid hwz
              have HBZ := hid hbz
              have HBF := hid hbf
              clear HRES hwz hbz hbf
              go_wp2_with fail
              rw [← HWZ.out]
              clear f0 f1 f2 f3 f4 f5 f6 f7 f8 r0 r1 r2 r3 r4 r5 r6 r7 r8
              obtain ⟨z0, z1, z2, z3, z4, z5, z6, z7, z8⟩ := HBZ.out.cells9
              (try simp only [Exit.inBlock, Exit.then])
              refine bodyPost_ret (res_cell_tmp rfl _ _ _ rfl (by go_simp; rfl)) rfl ?_
              exact ⟨_, _, rfl, HPV.out, HBF.out⟩
            | true =>
              have HPV : Hid (PV l (.agg #[.int .i64 ses, .int .i64 0, .int .i64 kind, .int .i64 0, .int .i64 0, .int .i64 0, .int .i64 0, .string ⟨tx.toArray⟩, .string ⟨#[]⟩]) 0) := hid (pv_yes l H5.out (by rw [HLF.out]; exact HDS.out) (by rw [HCM.out]; exact HR.out) _ (by rw [HCM.out]; rfl))
              have HCS := HW9.out.cm
              unfold cmA at HCS
              obtain ⟨c0, c1, c2, c3, c4, c5, c6, c7, c8⟩ := HCS.cells9
              obtain ⟨f0, f1, f2, f3, f4, f5, f6, f7, f8⟩ := HW9.out.res.free9
              have HRES := HW9.out.res
              unfold cmA at HRES
              obtain ⟨r0, r1, r2, r3, r4, r5, r6, r7, r8⟩ := HRES.cells9
              obtain ⟨wz, hwz, hbz, hbf⟩ := HW9.out.fin (.int .i64 ses) (.int .i64 0) (.int .i64 kind) (.int .i64 0) (.int .i64 0) (.int .i64 0) (.int .i64 0) (.string ⟨tx.toArray⟩) (.string ⟨#[]⟩)
              have HWZ := hid hwz
              have HBZ := hid hbz
              have HBF := hid hbf
              clear HCS HRES hwz hbz hbf
              go_wp2_with fail
              rw [← HWZ.out]
              clear c0 c1 c2 c3 c4 c5 c6 c7 c8 f0 f1 f2 f3 f4 f5 f6 f7 f8 r0 r1 r2 r3 r4 r5 r6 r7 r8
              obtain ⟨z0, z1, z2, z3, z4, z5, z6, z7, z8⟩ := HBZ.out.cells9
              (try simp only [Exit.inBlock, Exit.then])
              refine bodyPost_ret (res_cell_tmp rfl _ _ _ rfl (by go_simp; rfl)) rfl ?_
              exact ⟨_, _, rfl, HPV.out, HBF.out⟩
    | false =>
      have HLL : Hid ((⟨#[]⟩ : ByteArray).size ≤ 9223372036854775807) := hid (by decide)
      obtain ⟨fin, left, hfl⟩ : ∃ x y, inNums (usesN kind) s2 = (x, y) := ⟨_, _, rfl⟩
      have hflen : fin.length ≤ 4 := by have := inNums_len (usesN kind) s2; rw [hfl] at this; simp only at this; rw [this]; exact usesN_le kind
      have HLF : Hid ((readCm l).left = left) := hid (by rw [HRD.out.2.2.2.2.2]; simp only [hk, if_false, hT, Bool.false_eq_true]; rw [hfl])
      have HCM : Hid ((readCm l).cm = cmOf ses 0 kind (g4 fin 0) (g4 fin 1) (g4 fin 2) (g4 fin 3) ⟨#[]⟩ ⟨#[]⟩) := hid (cm_of l ses kind fin [] [] HRD.out.1 HRD.out.2.1 (by rw [HRD.out.2.2.1]; simp only [hk, if_false, hT, Bool.false_eq_true]) (by rw [HRD.out.2.2.2.1]; simp only [hk, if_false, hT, Bool.false_eq_true]) (by rw [HRD.out.2.2.2.2.1]; simp only [hk, if_false, hT, Bool.false_eq_true]; rw [hfl]) hflen)
      have HFL := hid hfl
      have HSZ := hid (fields_size hT q HQ.out)
      have HGET := hid (fields_get hT q HQ.out)
      have HTL : Hid ((⟨#[]⟩ : ByteArray).size ≤ 9223372036854775807) := hid (by decide)
      clear hfl hflen
      go_loopw [7] (fun _ wr => PaL w g D bc r q ses kind (usesN kind) fin left ⟨#[]⟩ ⟨#[]⟩ wr) (fun _ wr => strN wr r)
      case atStart => exact ⟨0, [], s2, by omega, HW8, HIT8, hid rfl, hid (by rw [Nat.sub_zero, HFL.out]; exact ⟨rfl, rfl⟩)⟩
      case round =>
        clear HW8 HIT8
        obtain ⟨j, xs, s, hj, HW, HIT, HX, HF⟩ := hrel
        have HLEN := hid HIT.out.len
        by_cases hlt : j < q.size
        · obtain ⟨hg1, hg2⟩ := HGET.out j hlt
          have hne : (((q[j].toNat : Nat) : Int) == 84) = false := by rw [hg1]; simp; omega
          have HG1 := hid hg1
          have HG2 := hid hg2
          obtain ⟨x, sx, hx⟩ : ∃ x y, inInt s = (x, y) := ⟨_, _, rfl⟩
          have HXX := hid hx
          have HSX := hid (show (sx.getD []).length ≤ (s.getD []).length by have := inInt_le s; rw [hx] at this; exact this)
          have HF2 : Hid ((xs ++ [x]) ++ (inNums (usesN kind - (j + 1)) sx).1 = fin ∧ (inNums (usesN kind - (j + 1)) sx).2 = left) := hid (by
            have h0 := HF.out
            have : usesN kind - j = (usesN kind - (j + 1)) + 1 := by have := HSZ.out; omega
            rw [this, inNums, hx] at h0
            simpa using h0)
          clear hg1 hg2 hx
          go_wp2_with (at_next; refine wpList_nextS _ rfl _ rfl rfl HIT.out HASC.out (fun h0 => absurd hlt h0) (fun _ w9 hi9 hu9 hs9 => ?_); (have HW9 := hid (HW.out.next hu9 HRB.out)); (have HIT9 := hid hi9); clear hi9 hu9 hs9)
          refine (order_number j HG2.out _ HG1.out _ _ _).mono ?_
          rintro e w10 ⟨rfl, hb10⟩
          have HW10 := hid (HW9.out.below hb10)
          have HIT10 := hid (HIT9.out.below hb10)
          rw [show 1 + 2 + j = 3 + j from rfl]
          clear hb10
          go_wp2_with fail
          refine (in_Int s g D w10 HW10.out.inn x sx HXX).mono ?_
          rintro e w11 ⟨rfl, hi11, hu11⟩
          have HW11 := hid (HW10.out.read hi11 hu11 HSX.out)
          have HIT11 := hid (HIT10.out.upd hu11 (by have := HRB.out; omega))
          obtain ⟨vo, hco⟩ : ∃ v, w11.cell? ⟨bc, 3 + j, none⟩ = some v := ⟨_, by rw [HW11.out.cm.cell]; exact cm_at _ _ _ _ _ _ _ _ _ _ HG2.out⟩
          have hfo := HW11.out.cm.unfrozen (3 + j)
          clear hi11 hu11
          go_wp2_with fail
          have HW12 := HW11.out.set (3 + j) (.int .i64 x)
          rw [cm_set ses 0 kind xs x _ _ j HG2.out HX.out] at HW12
          have HIT12 := HIT11.out.upd (Upd.setCell w11 bc (3 + j) (.int .i64 x)) (by have := HRB.out; omega)
          have HW13 := hid HW12
          have HIT13 := hid HIT12
          clear HW12 HIT12
          go_roundw
          case rel => exact ⟨j + 1, xs ++ [x], sx, by omega, HW13, HIT13, hid (by have := HX.out; simp [this]), HF2⟩
          case measure => rw [HIT13.out.len, HLEN.out]; omega
        · have hn : j = usesN kind := by have := HSZ.out; omega
          subst hn
          have hxf : xs = fin ∧ s = left := by
            have := HF.out
            rw [Nat.sub_self] at this
            simpa [inNums] using this
          obtain ⟨rfl, rfl⟩ := hxf
          go_wp2_with (at_next; refine wpList_nextS _ rfl _ rfl rfl HIT.out HASC.out (fun _ => ?_) (fun h1 => absurd h1 hlt))
          refine (in_Done _ g D _ HW.out.inn).mono ?_
          rintro e w' ⟨rfl, rfl⟩
          cases hdn : inDone s with
          | false =>
            have HPV := hid (pv_no l (.inl (by rw [HLF.out]; intro hh; rw [hh] at hdn; simp [inDone] at hdn)))
            clear hdn
            obtain ⟨f0, f1, f2, f3, f4, f5, f6, f7, f8⟩ := HW.out.res.free9
            have HRES := HW.out.res
            unfold cmA at HRES
            obtain ⟨r0, r1, r2, r3, r4, r5, r6, r7, r8⟩ := HRES.cells9
            obtain ⟨wz, hwz, hbz, hbf⟩ := HW.out.fin (.int .i64 0) (.int .i64 0) (.int .i64 0) (.int .i64 0) (.int .i64 0) (.int .i64 0) (.int .i64 0) (.string ⟨#[]⟩) (.string ⟨#[]⟩)
            have HWZ := hid hwz
            have HBZ := hid hbz
            have HBF := hid hbf
            clear HRES hwz hbz hbf
            go_wp2_with fail
            rw [← HWZ.out]
            clear f0 f1 f2 f3 f4 f5 f6 f7 f8 r0 r1 r2 r3 r4 r5 r6 r7 r8
            obtain ⟨z0, z1, z2, z3, z4, z5, z6, z7, z8⟩ := HBZ.out.cells9
            (try simp only [Exit.inBlock, Exit.then])
            refine bodyPost_ret (res_cell_tmp rfl _ _ _ rfl (by go_simp; rfl)) rfl ?_
            exact ⟨_, _, rfl, HPV.out, HBF.out⟩
          | true =>
            have hds : s = some [] := by simpa [inDone] using hdn
            have HDS := hid hds
            clear hdn hds
            have HCS := HW.out.cm
            unfold cmA at HCS
            obtain ⟨c0, c1, c2, c3, c4, c5, c6, c7, c8⟩ := HCS.cells9
            clear HCS
            obtain ⟨R, hR⟩ : ∃ R, (cmOf ses 0 kind (g4 xs 0) (g4 xs 1) (g4 xs 2) (g4 xs 3) ⟨#[]⟩ ⟨#[]⟩).right = R := ⟨_, rfl⟩
            have HR := hid hR
            clear hR
            go_wp2_with fail
            refine (order_Right ses 0 kind (g4 xs 0) (g4 xs 1) (g4 xs 2) (g4 xs 3) ⟨#[]⟩ ⟨#[]⟩ _ HLL.out HTL.out R HR).mono ?_
            rintro e w9 ⟨rfl, hb9⟩
            have HW9 := hid (HW.out.below hb9)
            clear hb9 c0 c1 c2 c3 c4 c5 c6 c7 c8
            cases R with
            | false =>
              have HPV := hid (pv_no l (.inr (by rw [HCM.out]; exact HR.out)))
              obtain ⟨f0, f1, f2, f3, f4, f5, f6, f7, f8⟩ := HW9.out.res.free9
              have HRES := HW9.out.res
              unfold cmA at HRES
              obtain ⟨r0, r1, r2, r3, r4, r5, r6, r7, r8⟩ := HRES.cells9
              obtain ⟨wz, hwz, hbz, hbf⟩ := HW9.out.fin (.int .i64 0) (.int .i64 0) (.int .i64 0) (.int .i64 0) (.int .i64 0) (.int .i64 0) (.int .i64 0) (.string ⟨#[]⟩) (.string ⟨#[]⟩)
              have HWZ := hid hwz
              have HBZ := hid hbz
              have HBF := hid hbf
              clear HRES hwz hbz hbf
              go_wp2_with fail
              rw [← HWZ.out]
              clear f0 f1 f2 f3 f4 f5 f6 f7 f8 r0 r1 r2 r3 r4 r5 r6 r7 r8
              obtain ⟨z0, z1, z2, z3, z4, z5, z6, z7, z8⟩ := HBZ.out.cells9
              (try simp only [Exit.inBlock, Exit.then])
              refine bodyPost_ret (res_cell_tmp rfl _ _ _ rfl (by go_simp; rfl)) rfl ?_
              exact ⟨_, _, rfl, HPV.out, HBF.out⟩
            | true =>
              have HPV : Hid (PV l (.agg #[.int .i64 ses, .int .i64 0, .int .i64 kind, .int .i64 (g4 xs 0), .int .i64 (g4 xs 1), .int .i64 (g4 xs 2), .int .i64 (g4 xs 3), .string ⟨#[]⟩, .string ⟨#[]⟩]) 0) := hid (pv_yes l H5.out (by rw [HLF.out]; exact HDS.out) (by rw [HCM.out]; exact HR.out) _ (by rw [HCM.out]; rfl))
              have HCS := HW9.out.cm
              unfold cmA at HCS
              obtain ⟨c0, c1, c2, c3, c4, c5, c6, c7, c8⟩ := HCS.cells9
              obtain ⟨f0, f1, f2, f3, f4, f5, f6, f7, f8⟩ := HW9.out.res.free9
              have HRES := HW9.out.res
              unfold cmA at HRES
              obtain ⟨r0, r1, r2, r3, r4, r5, r6, r7, r8⟩ := HRES.cells9
              obtain ⟨wz, hwz, hbz, hbf⟩ := HW9.out.fin (.int .i64 ses) (.int .i64 0) (.int .i64 kind) (.int .i64 (g4 xs 0)) (.int .i64 (g4 xs 1)) (.int .i64 (g4 xs 2)) (.int .i64 (g4 xs 3)) (.string ⟨#[]⟩) (.string ⟨#[]⟩)
              have HWZ := hid hwz
              have HBZ := hid hbz
              have HBF := hid hbf
              clear HCS HRES hwz hbz hbf
              go_wp2_with fail
              rw [← HWZ.out]
              clear c0 c1 c2 c3 c4 c5 c6 c7 c8 f0 f1 f2 f3 f4 f5 f6 f7 f8 r0 r1 r2 r3 r4 r5 r6 r7 r8
              obtain ⟨z0, z1, z2, z3, z4, z5, z6, z7, z8⟩ := HBZ.out.cells9
              (try simp only [Exit.inBlock, Exit.then])
              refine bodyPost_ret (res_cell_tmp rfl _ _ _ rfl (by go_simp; rfl)) rfl ?_
              exact ⟨_, _, rfl, HPV.out, HBF.out⟩
end Go.Proofs.YtcjdlckfbkdibaaDoor
end
