/- Joined texts, in this order: OrdUsed. Each one's first remark says what it proves; no condition beyond those that its theorems name. -/
import Derived.Test.YtcjdlckfbkdibaaDoorJLawOrderBytes14
import Derived.Test.YtcjdlckfbkdibaaDoorJLawOrderBytes15
import Derived.Test.YtcjdlckfbkdibaaDoorJLawOrderBytes17
section
/- Contract of order.used. -/
namespace Go.Proofs.YtcjdlckfbkdibaaDoor
open Go.RowKit
open Go.Lib (hid)
set_option linter.unusedVariables false

/-- the number at place i, if n are used -/
def pf (n i : Nat) (x : Int) : Int := if i < n then x else 0
/-- an order's cells -/
def ordA (who kind a b c d : Int) (t : ByteArray) : Array Value := #[.int .i64 who, .int .i64 kind, .int .i64 a, .int .i64 b, .int .i64 c, .int .i64 d, .string t]
def num4 (a b c d : Int) (j : Nat) : Int := [a, b, c, d].getD j 0
theorem ord_set (kind a b c d : Int) (t : ByteArray) (j : Nat) (hj : j < 4) : (ordA 0 kind (pf j 0 a) (pf j 1 b) (pf j 2 c) (pf j 3 d) t).setIfInBounds (2 + j) (.int .i64 (num4 a b c d j)) = ordA 0 kind (pf (j + 1) 0 a) (pf (j + 1) 1 b) (pf (j + 1) 2 c) (pf (j + 1) 3 d) t := by
  match j, hj with
  | 0, _ => rfl
  | 1, _ => rfl
  | 2, _ => rfl
  | 3, _ => rfl
theorem ord_at (who kind a b c d : Int) (t : ByteArray) (j : Nat) (hj : j < 4) : (ordA who kind a b c d t)[2 + j]? = some (.int .i64 (num4 a b c d j)) := by
  match j, hj with
  | 0, _ => rfl
  | 1, _ => rfl
  | 2, _ => rfl
  | 3, _ => rfl
theorem fieldsL_T {k : Int} (h : usesT k = true) : fieldsL k = [84] := by unfold fieldsL; rw [if_pos h]
theorem fieldsL_N {k : Int} (h : usesT k = false) : fieldsL k = ([65, 66, 67, 68] : List UInt8).take (usesN k) := by unfold fieldsL; rw [h]; rfl
theorem fields_size {k : Int} (h : usesT k = false) (q : ByteArray) (hq : q = ⟨(fieldsL k).toArray⟩) : q.size = usesN k := by
  subst hq
  show (fieldsL k).toArray.size = _
  rw [List.size_toArray, fieldsL_N h, List.length_take, Nat.min_eq_left (by simpa using usesN_le k)]
theorem fields_get {k : Int} (h : usesT k = false) (q : ByteArray) (hq : q = ⟨(fieldsL k).toArray⟩) (j : Nat) (hj : j < q.size) : ((q[j]'hj).toNat : Int) = ((65 + j : Nat) : Int) ∧ j < 4 := by
  have hs := fields_size h q hq
  have h4 := usesN_le k
  have hl := Lib.data_getElem? q j hj
  have e : (fieldsL k)[j]? = some (q[j]'hj) := by subst hq; exact hl
  rw [fieldsL_N h, List.getElem?_take, if_pos (by omega)] at e
  refine ⟨?_, by omega⟩
  have hj4 : j = 0 ∨ j = 1 ∨ j = 2 ∨ j = 3 := by omega
  rcases hj4 with rfl | rfl | rfl | rfl <;> (simp at e; rw [← e]; rfl)
theorem fields_asc (k : Int) (q : ByteArray) (hq : q = ⟨(fieldsL k).toArray⟩) : ∀ c ∈ q.data.toList, c.toNat < 128 := by
  subst hq
  intro c hc
  have hc : c ∈ fieldsL k := by simpa using hc
  unfold fieldsL at hc
  split at hc
  · simp at hc; subst hc; decide
  · have := List.mem_of_mem_take hc
    simp at this
    rcases this with rfl | rfl | rfl | rfl <;> decide
theorem Blk.new3 (w : World) (x y z : Array Value) (e f g : TypeId) : Blk (((w.alloc (.cells x e)).alloc (.cells y f)).alloc (.cells z g)) w.heap.size x ∧ Blk (((w.alloc (.cells x e)).alloc (.cells y f)).alloc (.cells z g)) (w.heap.size + 1) y ∧
    Blk (((w.alloc (.cells x e)).alloc (.cells y f)).alloc (.cells z g)) (w.heap.size + 1 + 1) z ∧ Below w.heap.size w (((w.alloc (.cells x e)).alloc (.cells y f)).alloc (.cells z g)) := by
  have h2 := Blk.new (w.alloc (.cells x e)) y f
  have h3 := Blk.new ((w.alloc (.cells x e)).alloc (.cells y f)) z g
  have e2 : (w.alloc (.cells x e)).heap.size = w.heap.size + 1 := by simp
  have e3 : ((w.alloc (.cells x e)).alloc (.cells y f)).heap.size = w.heap.size + 1 + 1 := by simp
  rw [e2] at h2
  rw [e3] at h3
  exact ⟨Blk.below (Below.new _ _) (Blk.below (Below.new _ _) (Blk.new w x e)), Blk.below (Below.new _ _) h2, h3, Below.next (Below.next (Below.new _ _) (Below.new _ _)) (Below.new _ _)⟩
/-- what a round of the loop keeps -/
structure UsW (B : Nat) (w : World) (b r : Nat) (q : ByteArray) (x y z : Array Value) (j : Nat) : Prop where
  p : Blk w b x
  res : Blk w (b + 1) y
  out : Blk w (b + 1 + 1) z
  it : StrIt w r q j
  far : b + 1 + 1 < r
  lt : r < w.heap.size
def UsR (w : World) (r : Nat) (q : ByteArray) (who kind a b c d : Int) (t : ByteArray) (wr : World) : Prop :=
  ∃ j : Nat, j ≤ q.size ∧ Hid (Below w.heap.size w wr) ∧ Hid (UsW 0 wr w.heap.size r q (ordA who kind a b c d t) (ordA 0 0 0 0 0 0 ⟨#[]⟩) (ordA 0 kind (pf j 0 a) (pf j 1 b) (pf j 2 c) (pf j 3 d) ⟨#[]⟩) j)
def UsR2 (w : World) (r : Nat) (q : ByteArray) (who kind a b c d : Int) (t : ByteArray) (wr : World) : Prop :=
  ∃ j : Nat, j ≤ q.size ∧ Hid (Below w.heap.size w wr) ∧ Hid (UsW 0 wr w.heap.size r q (ordA who kind a b c d t) (ordA 0 0 0 0 0 0 ⟨#[]⟩) (ordA 0 kind 0 0 0 0 (if j = 0 then ⟨#[]⟩ else t)) j)
set_option maxRecDepth 100000 in
set_option maxHeartbeats 4000000 in
theorem order_used (who kind a b c d : Int) (t : ByteArray) (w : World) :
    Calls Tryd.prog 65 #[.agg #[.int .i64 who, .int .i64 kind, .int .i64 a, .int .i64 b, .int .i64 c, .int .i64 d, .string t]] w fun e w' => e = .returned (.agg #[.int .i64 0, .int .i64 kind, .int .i64 (pf (usesN kind) 0 a), .int .i64 (pf (usesN kind) 1 b), .int .i64 (pf (usesN kind) 2 c), .int .i64 (pf (usesN kind) 3 d), .string (if usesT kind then t else ⟨#[]⟩)]) ∧ Below w.heap.size w w' := by
  obtain ⟨q, hq⟩ : ∃ q : ByteArray, q = ⟨(fieldsL kind).toArray⟩ := ⟨_, rfl⟩
  have HQ := hid hq
  obtain ⟨tt, htt⟩ : ∃ tt : ByteArray, tt = if usesT kind then t else ⟨#[]⟩ := ⟨_, rfl⟩
  rw [← htt]
  have HTT := hid htt
  clear htt
  obtain ⟨n, hn⟩ : ∃ n : Nat, n = usesN kind := ⟨_, rfl⟩
  rw [← hn]
  have HN := hid hn
  clear hn
  have HASC := hid (fields_asc kind q hq)
  clear hq
  go_enter Tryd.func65, Tryd.ntmps65
  go_wp2_with fail
  generalize hw0 : World.alloc (World.alloc (World.alloc w _) _) _ = w0
  obtain ⟨hp0, hr0, ho0, hb0⟩ : Blk w0 w.heap.size (ordA who kind a b c d t) ∧ Blk w0 (w.heap.size + 1) (ordA 0 0 0 0 0 0 ⟨#[]⟩) ∧ Blk w0 (w.heap.size + 1 + 1) (ordA 0 kind (pf 0 0 a) (pf 0 1 b) (pf 0 2 c) (pf 0 3 d) ⟨#[]⟩) ∧ Below w.heap.size w w0 := by
    rw [← hw0]; exact Blk.new3 w _ _ _ _ _ _
  clear hw0
  refine (order_Fields kind w0).mono ?_
  rintro e w1 ⟨rfl, hb1⟩
  rw [← HQ.out]
  have HP1 := hid (Blk.below hb1 hp0)
  have HR1 := hid (Blk.below hb1 hr0)
  have HO1 := hid (Blk.below hb1 ho0)
  have HB1 := hid (Below.next hb0 hb1)
  clear hp0 hr0 ho0 hb0 hb1
  go_wp2_with (at_range; refine wpList_rangeS _ rfl _ rfl Tryd.underlying9 rfl ?_; intro w2 hi2 hb2 hs2)
  go_frame
  obtain ⟨r, hr⟩ : ∃ r, r = w1.heap.size := ⟨_, rfl⟩
  have HW2 : Hid (UsW 0 w2 w.heap.size r q (ordA who kind a b c d t) (ordA 0 0 0 0 0 0 ⟨#[]⟩) (ordA 0 kind (pf 0 0 a) (pf 0 1 b) (pf 0 2 c) (pf 0 3 d) ⟨#[]⟩) 0) := hid ⟨Blk.below hb2 HP1.out, Blk.below hb2 HR1.out, Blk.below hb2 HO1.out, by rw [hr]; exact hi2, by rw [hr]; exact HO1.out.lt, by rw [hr]; exact hi2.lt⟩
  have HB2 := hid (Below.next HB1.out hb2)
  rw [← hr]
  clear HP1 HR1 HO1 HB1 hi2 hb2 hs2 hr
  cases hT : usesT kind with
  | true =>
    have hN := usesT_N hT
    have htt2 : tt = t := by rw [HTT.out, hT]; rfl
    subst htt2
    have hn0 : n = 0 := by rw [HN.out, hN]
    subst hn0
    have HQ2 : Hid (q = ⟨#[84]⟩) := hid (by rw [HQ.out, fieldsL_T hT])
    have HQS : Hid (q.size = 1) := hid (by rw [HQ2.out]; rfl)
    have HQG : Hid (∀ h : 0 < q.size, q[0] = 84) := hid (by
      obtain rfl := HQ2.out
      intro _; rfl)
    clear hN
    go_loopw [5] (fun _ wr => UsR2 w r q who kind a b c d tt wr) (fun _ wr => strN wr r)
    case atStart => exact ⟨0, by omega, HB2, HW2⟩
    case round =>
      clear HW2 HB2
      obtain ⟨j, hj, HB, HW⟩ := hrel
      have HLEN := hid HW.out.it.len
      by_cases hlt : j < q.size
      · have hj0 : j = 0 := by have := HQS.out; omega
        subst hj0
        have hg1 := HQG.out hlt
        have hne : (((q[0].toNat : Nat) : Int) == 84) = true := by rw [hg1]; rfl
        clear hg1
        have hcp : wr.cell? ⟨w.heap.size, 6, none⟩ = some (.string tt) := by rw [HW.out.p.cell]; rfl
        go_wp2_with (at_next; refine wpList_nextS _ rfl _ rfl rfl HW.out.it HASC.out (fun h0 => absurd hlt h0) (fun _ w3 hi3 hu3 hs3 => ?_); (have HU3 := hid hu3); (have HI3 := hid hi3); (have hcp3 : w3.cell? ⟨w.heap.size, 6, none⟩ = some (.string tt) := by rw [(HW.out.p.upd hu3 (by have := HW.out.far; omega)).cell]; rfl); (have HO3 := hid (HW.out.out.upd hu3 (by have := HW.out.far; omega))); (have hco3 : w3.cell? ⟨w.heap.size + 1 + 1, 6, none⟩ = some (.string ⟨#[]⟩) := by rw [HO3.out.cell]; rfl); (have hfo3 := HO3.out.unfrozen 6); clear hi3 hu3 hs3 hcp)
        go_roundw
        case rel =>
          have hset := HO3.out.set 6 (.string tt)
          have hu5 := Upd.setCell w3 (w.heap.size + 1 + 1) 6 (.string tt)
          have hfar := HW.out.far
          have hs3 := HU3.out.size
          have hs0 := HB.out.size
          have hl := HO3.out.lt
          refine ⟨1, by omega, hid ?_, hid ⟨(HW.out.p.upd HU3.out (by omega)).upd hu5 (by omega), (HW.out.res.upd HU3.out (by omega)).upd hu5 (by omega), hset, HI3.out.upd hu5 (by omega), hfar, Nat.lt_of_lt_of_le HI3.out.lt hu5.size⟩⟩
          exact (HB.out.trans (HU3.out.below HB.out.size (fun k _ e => by omega))).trans (hu5.below (by omega) (fun k _ e => by omega))
        case measure =>
          have hset := Upd.setCell w3 (w.heap.size + 1 + 1) 6 (.string tt)
          have := (HI3.out.upd hset (by have := HW.out.far; omega)).len
          rw [this, HLEN.out]; omega
      · have hn : j = 1 := by have := HQS.out; omega
        subst hn
        have HOUT := HW.out.out
        unfold ordA at HOUT
        obtain ⟨o0, o1, o2, o3, o4, o5, o6⟩ := HOUT.cells7
        have HRES := HW.out.res
        obtain ⟨f0, f1, f2, f3, f4, f5, f6⟩ := HRES.free7
        unfold ordA at HRES
        obtain ⟨r0, r1, r2, r3, r4, r5, r6⟩ := HRES.cells7
        obtain ⟨wz, hwz, hbz, huz⟩ := HRES.all7 (.int .i64 0) (.int .i64 kind) (.int .i64 0) (.int .i64 0) (.int .i64 0) (.int .i64 0) (.string tt)
        have HWZ := hid hwz
        have HBZ := hid hbz
        have HBF := hid (HB.out.trans (huz.below HB.out.size (fun k _ e => by omega)))
        clear HOUT HRES hwz hbz huz
        go_wp2_with (at_next; refine wpList_nextS _ rfl _ rfl rfl HW.out.it HASC.out (fun _ => ?_) (fun h1 => absurd h1 hlt))
        rw [← HWZ.out]
        clear o0 o1 o2 o3 o4 o5 o6 r0 r1 r2 r3 r4 r5 r6 f0 f1 f2 f3 f4 f5 f6
        obtain ⟨z0, z1, z2, z3, z4, z5, z6⟩ := HBZ.out.cells7
        (try simp only [Exit.inBlock, Exit.then])
        refine bodyPost_ret (res_cell1 rfl _ _ _ rfl (by go_simp; rfl)) rfl ?_
        exact ⟨by first | rfl | simp [*], HBF.out⟩
  | false =>
    have htt2 : tt = ⟨#[]⟩ := by rw [HTT.out, hT]; rfl
    subst htt2
    have HSZ : Hid (q.size = n) := hid (by rw [HN.out]; exact fields_size hT q HQ.out)
    have HGET := hid (fields_get hT q HQ.out)
    go_loopw [5] (fun _ wr => UsR w r q who kind a b c d t wr) (fun _ wr => strN wr r)
    case atStart => exact ⟨0, by omega, HB2, HW2⟩
    case round =>
      clear HW2 HB2
      obtain ⟨j, hj, HB, HW⟩ := hrel
      have HLEN := hid HW.out.it.len
      by_cases hlt : j < q.size
      · obtain ⟨hg1, hg2⟩ := HGET.out j hlt
        have hne : (((q[j].toNat : Nat) : Int) == 84) = false := by rw [hg1]; simp; omega
        have HG1 := hid hg1
        have HG2 := hid hg2
        clear hg1 hg2
        go_wp2_with (at_next; refine wpList_nextS _ rfl _ rfl rfl HW.out.it HASC.out (fun h0 => absurd hlt h0) (fun _ w3 hi3 hu3 hs3 => ?_))
        have HU3 := hid hu3
        have HW3 : Hid (UsW 0 w3 w.heap.size r q (ordA who kind a b c d t) (ordA 0 0 0 0 0 0 ⟨#[]⟩) (ordA 0 kind (pf j 0 a) (pf j 1 b) (pf j 2 c) (pf j 3 d) ⟨#[]⟩) (j + 1)) := hid (by
          have hf := HW.out.far
          exact ⟨HW.out.p.upd hu3 (by omega), HW.out.res.upd hu3 (by omega), HW.out.out.upd hu3 (by omega), hi3, hf, hi3.lt⟩)
        clear hi3 hu3 hs3
        refine (order_number j HG2.out _ HG1.out _ _ _).mono ?_
        rintro e w4 ⟨rfl, hb4⟩
        rw [Nat.zero_add]
        have HB4 := hid hb4
        have HW4 : Hid (UsW 0 w4 w.heap.size r q (ordA who kind a b c d t) (ordA 0 0 0 0 0 0 ⟨#[]⟩) (ordA 0 kind (pf j 0 a) (pf j 1 b) (pf j 2 c) (pf j 3 d) ⟨#[]⟩) (j + 1)) := hid
          ⟨HW3.out.p.below hb4, HW3.out.res.below hb4, HW3.out.out.below hb4, HW3.out.it.below hb4, HW3.out.far, Nat.lt_of_lt_of_le HW3.out.lt hb4.size⟩
        clear hb4
        go_wp2_with fail
        refine (order_number j HG2.out _ HG1.out _ _ _).mono ?_
        rintro e w5 ⟨rfl, hb5⟩
        rw [Nat.zero_add]
        have HB5 := hid hb5
        have HW5 : Hid (UsW 0 w5 w.heap.size r q (ordA who kind a b c d t) (ordA 0 0 0 0 0 0 ⟨#[]⟩) (ordA 0 kind (pf j 0 a) (pf j 1 b) (pf j 2 c) (pf j 3 d) ⟨#[]⟩) (j + 1)) := hid
          ⟨HW4.out.p.below hb5, HW4.out.res.below hb5, HW4.out.out.below hb5, HW4.out.it.below hb5, HW4.out.far, Nat.lt_of_lt_of_le HW4.out.lt hb5.size⟩
        clear hb5
        have hcp : w5.cell? ⟨w.heap.size, 2 + j, none⟩ = some (.int .i64 (num4 a b c d j)) := by rw [HW5.out.p.cell]; exact ord_at _ _ _ _ _ _ _ _ HG2.out
        have hco : ∃ v, w5.cell? ⟨w.heap.size + 1 + 1, 2 + j, none⟩ = some v := ⟨_, by rw [HW5.out.out.cell]; exact ord_at _ _ _ _ _ _ _ _ HG2.out⟩
        obtain ⟨vo, hco⟩ := hco
        have hfo : w5.frozen? ⟨w.heap.size + 1 + 1, 2 + j, none⟩ = false := HW5.out.out.unfrozen _
        go_wp2_with fail
        go_roundw
        case rel =>
          have hset := HW5.out.out.set (2 + j) (.int .i64 (num4 a b c d j))
          rw [ord_set kind a b c d _ j HG2.out] at hset
          have hu5 := Upd.setCell w5 (w.heap.size + 1 + 1) (2 + j) (.int .i64 (num4 a b c d j))
          have hfar := HW5.out.far
          have hs3 := HU3.out.size
          have hs4 := HB4.out.size
          have hs5 := HB5.out.size
          have hs0 := HB.out.size
          refine ⟨j + 1, by omega, hid ?_, hid ⟨HW5.out.p.upd hu5 (by omega), HW5.out.res.upd hu5 (by omega), hset, HW5.out.it.upd hu5 (by omega), hfar, Nat.lt_of_lt_of_le HW5.out.lt hu5.size⟩⟩
          have hl : w.heap.size < w3.heap.size := HW3.out.p.lt
          exact (Below.next (Below.next (HB.out.trans (HU3.out.below HB.out.size (fun k _ e => by omega))) HB4.out) HB5.out).trans (hu5.below (by omega) (fun k _ e => by omega))
        case measure =>
          have hset := Upd.setCell w5 (w.heap.size + 1 + 1) (2 + j) (.int .i64 (num4 a b c d j))
          have := (HW5.out.it.upd hset (by have := HW5.out.far; omega)).len
          rw [this, HLEN.out]; omega
      · have hn : n = j := by have := HSZ.out; omega
        subst hn
        have HOUT := HW.out.out
        unfold ordA at HOUT
        obtain ⟨o0, o1, o2, o3, o4, o5, o6⟩ := HOUT.cells7
        have HRES := HW.out.res
        obtain ⟨f0, f1, f2, f3, f4, f5, f6⟩ := HRES.free7
        unfold ordA at HRES
        obtain ⟨r0, r1, r2, r3, r4, r5, r6⟩ := HRES.cells7
        obtain ⟨wz, hwz, hbz, huz⟩ := HRES.all7 (.int .i64 0) (.int .i64 kind) (.int .i64 (pf (n) 0 a)) (.int .i64 (pf (n) 1 b)) (.int .i64 (pf (n) 2 c)) (.int .i64 (pf (n) 3 d)) (.string ⟨#[]⟩)
        have HWZ := hid hwz
        have HBZ := hid hbz
        have HBF := hid (HB.out.trans (huz.below HB.out.size (fun k _ e => by omega)))
        clear HOUT HRES hwz hbz huz
        go_wp2_with (at_next; refine wpList_nextS _ rfl _ rfl rfl HW.out.it HASC.out (fun _ => ?_) (fun h1 => absurd h1 hlt))
        rw [← HWZ.out]
        clear o0 o1 o2 o3 o4 o5 o6 r0 r1 r2 r3 r4 r5 r6 f0 f1 f2 f3 f4 f5 f6
        obtain ⟨z0, z1, z2, z3, z4, z5, z6⟩ := HBZ.out.cells7
        (try simp only [Exit.inBlock, Exit.then])
        refine bodyPost_ret (res_cell1 rfl _ _ _ rfl (by go_simp; rfl)) rfl ?_
        exact ⟨by first | rfl | simp [*], HBF.out⟩
end Go.Proofs.YtcjdlckfbkdibaaDoor
end
