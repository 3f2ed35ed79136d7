/- Joined texts, in this order: ThingKey, ResCell, Pairs, Ref17Name. Each one's first remark says what it proves; no condition beyond those that its theorems name. -/
import Derived.Test.YtdoflhiogoefjaaDoorJLawThingCopies05
import Derived.Test.YtdoflhiogoefjaaDoorJLawThingCopies06
import Derived.Test.YtdoflhiogoefjaaDoorJLawThingCopies07
import Derived.Laws.StructEq
section
/- Places as keys of maps; equality of structs of things. -/
namespace Go.Proofs.YtdoflhiogoefjaaDoor
open Go.RowKit
open Go.Lib (hid)
set_option linter.unusedVariables false

theorem placeKey : MP.KeyP Tryd.prog 23 where
  und := ⟨_, Tryd.underlying23⟩
  chk := fun e k w => by
    obtain ⟨a, b, c⟩ := k
    kernel_rfl
  eql := fun x y w => by
    have u3 := Tryd.underlying3
    have hS : Tryd.prog.underlying 23 = some (.struct (Tryd.prog.fieldsOf 23)) := by kernel_rfl
    have hp : Tryd.prog.stoodInHeld 23 = false := by kernel_rfl
    have h0 : (Op.equal 23 (MP.encP x) (MP.encP y)).run Tryd.prog w = (Op.equalIn (9999 + 1) 23 (MP.encP x) (MP.encP y)).run Tryd.prog w := rfl
    rw [h0]
    simp only [MP.encP]
    rw [run_equalIn_agg w 9999 23 _ _ hS hp]
    simp only [Program.fieldsOf, Tryd.underlying23]
    obtain ⟨x1, x2, x3⟩ := x
    obtain ⟨y1, y2, y3⟩ := y
    go_simp
    by_cases h1 : x1 = y1 <;> by_cases h2 : x2 = y2 <;> by_cases h3 : x3 = y3 <;> simp [h1, h2, h3]
end Go.Proofs.YtdoflhiogoefjaaDoor
end
section
/- Results in memory cells; blocks of seven and of nine cells. -/
namespace Go.Proofs.YtdoflhiogoefjaaDoor
open Go.RowKit
open Go.Lib (hid)
set_option linter.unusedVariables false

theorem res_cell1 {fn : Func} {a : Tmp} {t : TypeId} (h : fn.results = #[.cell a t]) (tmps : Array Value) (P : Program) (w : World) {x : Addr} {v : Value} (ha : tmps.getD a undef = .pointer (some x)) (hl : (loadVar t x).run P w = .ok v w) : (results fn tmps).run P w = .ok v w := by
  have ha' : tmps[a]?.getD undef = .pointer (some x) := by rw [← ha]; simp
  simp [results, h, ha', asAddr, hl, Result.andThen]
theorem res_cell_tmp {fn : Func} {a u : Tmp} {t : TypeId} (h : fn.results = #[.cell a t, .tmp u]) (tmps : Array Value) (P : Program) (w : World) {x : Addr} {v : Value} (ha : tmps.getD a undef = .pointer (some x)) (hl : (loadVar t x).run P w = .ok v w) : (results fn tmps).run P w = .ok (.tuple #[v, tmps.getD u undef]) w := by
  have ha' : tmps[a]?.getD undef = .pointer (some x) := by rw [← ha]; simp
  simp [results, h, ha', asAddr, hl, Result.andThen]
section
variable {w : World} {g : Nat} {c0 c1 c2 c3 c4 c5 c6 c7 c8 : Value}
theorem Blk.cells7 (h : Blk w g #[c0, c1, c2, c3, c4, c5, c6]) : w.cell? ⟨g, 0, none⟩ = some c0 ∧ w.cell? ⟨g, 1, none⟩ = some c1 ∧ w.cell? ⟨g, 2, none⟩ = some c2 ∧ w.cell? ⟨g, 3, none⟩ = some c3 ∧ w.cell? ⟨g, 4, none⟩ = some c4 ∧ w.cell? ⟨g, 5, none⟩ = some c5 ∧ w.cell? ⟨g, 6, none⟩ = some c6 :=
  ⟨by rw [h.cell]; rfl, by rw [h.cell]; rfl, by rw [h.cell]; rfl, by rw [h.cell]; rfl, by rw [h.cell]; rfl, by rw [h.cell]; rfl, by rw [h.cell]; rfl⟩
theorem Blk.cells9 (h : Blk w g #[c0, c1, c2, c3, c4, c5, c6, c7, c8]) : w.cell? ⟨g, 0, none⟩ = some c0 ∧ w.cell? ⟨g, 1, none⟩ = some c1 ∧ w.cell? ⟨g, 2, none⟩ = some c2 ∧ w.cell? ⟨g, 3, none⟩ = some c3 ∧ w.cell? ⟨g, 4, none⟩ = some c4 ∧ w.cell? ⟨g, 5, none⟩ = some c5 ∧ w.cell? ⟨g, 6, none⟩ = some c6 ∧ w.cell? ⟨g, 7, none⟩ = some c7 ∧ w.cell? ⟨g, 8, none⟩ = some c8 :=
  ⟨by rw [h.cell]; rfl, by rw [h.cell]; rfl, by rw [h.cell]; rfl, by rw [h.cell]; rfl, by rw [h.cell]; rfl, by rw [h.cell]; rfl, by rw [h.cell]; rfl, by rw [h.cell]; rfl, by rw [h.cell]; rfl⟩
theorem Blk.free7 {cs : Array Value} (h : Blk w g cs) : w.frozen? ⟨g, 0, none⟩ = false ∧ w.frozen? ⟨g, 1, none⟩ = false ∧ w.frozen? ⟨g, 2, none⟩ = false ∧ w.frozen? ⟨g, 3, none⟩ = false ∧ w.frozen? ⟨g, 4, none⟩ = false ∧ w.frozen? ⟨g, 5, none⟩ = false ∧ w.frozen? ⟨g, 6, none⟩ = false :=
  ⟨h.unfrozen _, h.unfrozen _, h.unfrozen _, h.unfrozen _, h.unfrozen _, h.unfrozen _, h.unfrozen _⟩
theorem Blk.free9 {cs : Array Value} (h : Blk w g cs) : w.frozen? ⟨g, 0, none⟩ = false ∧ w.frozen? ⟨g, 1, none⟩ = false ∧ w.frozen? ⟨g, 2, none⟩ = false ∧ w.frozen? ⟨g, 3, none⟩ = false ∧ w.frozen? ⟨g, 4, none⟩ = false ∧ w.frozen? ⟨g, 5, none⟩ = false ∧ w.frozen? ⟨g, 6, none⟩ = false ∧ w.frozen? ⟨g, 7, none⟩ = false ∧ w.frozen? ⟨g, 8, none⟩ = false :=
  ⟨h.unfrozen _, h.unfrozen _, h.unfrozen _, h.unfrozen _, h.unfrozen _, h.unfrozen _, h.unfrozen _, h.unfrozen _, h.unfrozen _⟩
theorem Upd.set2 {S : Nat → Prop} {x y : World} {g : Nat} (h : Upd S x y) (hg : S g) (i : Nat) (u : Value) : Upd S x (y.setCell ⟨g, i, none⟩ u) := h.trans (Upd.setCell y g i u) (fun k _ q => by rw [q]; exact hg)
theorem Blk.all7 (h : Blk w g #[c0, c1, c2, c3, c4, c5, c6]) (u0 u1 u2 u3 u4 u5 u6 : Value) : ∃ wz, wz = ((((((w.setCell ⟨g, 0, none⟩ u0).setCell ⟨g, 1, none⟩ u1).setCell ⟨g, 2, none⟩ u2).setCell ⟨g, 3, none⟩ u3).setCell ⟨g, 4, none⟩ u4).setCell ⟨g, 5, none⟩ u5).setCell ⟨g, 6, none⟩ u6 ∧ Blk wz g #[u0, u1, u2, u3, u4, u5, u6] ∧ Upd (fun k => k = g) w wz :=
  ⟨_, rfl, by simpa using ((((((h.set 0 u0).set 1 u1).set 2 u2).set 3 u3).set 4 u4).set 5 u5).set 6 u6, ((((((Upd.setCell w g 0 u0).set2 rfl 1 u1).set2 rfl 2 u2).set2 rfl 3 u3).set2 rfl 4 u4).set2 rfl 5 u5).set2 rfl 6 u6⟩
theorem Blk.all9 (h : Blk w g #[c0, c1, c2, c3, c4, c5, c6, c7, c8]) (u0 u1 u2 u3 u4 u5 u6 u7 u8 : Value) : ∃ wz, wz = ((((((((w.setCell ⟨g, 0, none⟩ u0).setCell ⟨g, 1, none⟩ u1).setCell ⟨g, 2, none⟩ u2).setCell ⟨g, 3, none⟩ u3).setCell ⟨g, 4, none⟩ u4).setCell ⟨g, 5, none⟩ u5).setCell ⟨g, 6, none⟩ u6).setCell ⟨g, 7, none⟩ u7).setCell ⟨g, 8, none⟩ u8 ∧ Blk wz g #[u0, u1, u2, u3, u4, u5, u6, u7, u8] ∧ Upd (fun k => k = g) w wz :=
  ⟨_, rfl, by simpa using ((((((((h.set 0 u0).set 1 u1).set 2 u2).set 3 u3).set 4 u4).set 5 u5).set 6 u6).set 7 u7).set 8 u8, ((((((((Upd.setCell w g 0 u0).set2 rfl 1 u1).set2 rfl 2 u2).set2 rfl 3 u3).set2 rfl 4 u4).set2 rfl 5 u5).set2 rfl 6 u6).set2 rfl 7 u7).set2 rfl 8 u8⟩
end
end Go.Proofs.YtdoflhiogoefjaaDoor
end
section
/- Slices of structs of two numbers. No program in sight. -/
namespace Go.Proofs.YtdoflhiogoefjaaDoor
open Go.RowKit
open Go.Lib (hid)
set_option linter.unusedVariables false

/-- the cells of a list of pairs -/
def pv (X : List (Int × Int)) : List Value := X.flatMap fun p => [Value.int .i64 p.1, .int .i64 p.2]
theorem pv_length (X : List (Int × Int)) : (pv X).length = X.length * 2 := by
  unfold pv
  induction X with
  | nil => rfl
  | cons p X ih => rw [List.flatMap_cons, List.length_append, ih]; simp; omega
theorem pv_append (X Y : List (Int × Int)) : pv (X ++ Y) = pv X ++ pv Y := by unfold pv; rw [List.flatMap_append]
theorem pv_one (p : Int × Int) : pv [p] = [.int .i64 p.1, .int .i64 p.2] := rfl
theorem pv_oneCell (X : List (Int × Int)) : ∀ u ∈ pv X, u.oneCell' = true := by
  intro u hu
  unfold pv at hu
  obtain ⟨p, -, hp⟩ := List.mem_flatMap.1 hu
  simp at hp
  rcases hp with rfl | rfl <;> rfl
theorem pv_at : ∀ (X : List (Int × Int)) (i : Nat) (p : Int × Int), X[i]? = some p → (pv X)[i * 2]? = some (.int .i64 p.1) ∧ (pv X)[i * 2 + 1]? = some (.int .i64 p.2)
  | [], i, p, h => by simp at h
  | q :: X, 0, p, h => by simp at h; subst h; exact ⟨rfl, rfl⟩
  | q :: X, i + 1, p, h => by
    simp at h
    have := pv_at X i p h
    have e : pv (q :: X) = .int .i64 q.1 :: .int .i64 q.2 :: pv X := rfl
    rw [e, show (i + 1) * 2 = i * 2 + 1 + 1 by omega]
    simpa using this
theorem pv_set2 : ∀ (X : List (Int × Int)) (j : Nat) (h x y : Int), X[j]? = some (h, x) → pv (X.set j (h, y)) = (pv X).set (j * 2 + 1) (.int .i64 y)
  | [], j, h, x, y, e => by simp at e
  | q :: X, 0, h, x, y, e => by simp at e; subst e; rfl
  | q :: X, j + 1, h, x, y, e => by
    simp at e
    have ih := pv_set2 X j h x y e
    have e1 : ∀ X : List (Int × Int), pv (q :: X) = .int .i64 q.1 :: .int .i64 q.2 :: pv X := fun _ => rfl
    rw [List.set_cons_succ, e1, e1, ih, show (j + 1) * 2 + 1 = (j * 2 + 1) + 1 + 1 by omega, List.set_cons_succ, List.set_cons_succ]
theorem Rd.pair {w : World} {a : Option Addr} {X : List (Int × Int)} (h : Rd w a (pv X)) (i : Nat) (hi : i < X.length) :
    ∃ b off x y, a = some ⟨b, off, none⟩ ∧ w.cell? ⟨b, off + i * 2, none⟩ = some (.int .i64 x) ∧ w.cell? ⟨b, off + i * 2 + 1, none⟩ = some (.int .i64 y) ∧ X[i]? = some (x, y) ∧ X.drop i = (x, y) :: X.drop (i + 1) ∧ X.take (i + 1) = X.take i ++ [(x, y)] := by
  have hx : X[i]? = some X[i] := List.getElem?_eq_getElem hi
  obtain ⟨h1, h2⟩ := pv_at X i _ hx
  obtain ⟨b, off, ha, hc⟩ := h (i * 2) (by rw [pv_length]; omega)
  obtain ⟨b', off', ha', hc'⟩ := h (i * 2 + 1) (by rw [pv_length]; omega)
  rw [ha] at ha'
  simp at ha'
  obtain ⟨rfl, rfl⟩ := ha'
  exact ⟨b, off, X[i].1, X[i].2, ha, by rw [hc, h1], by rw [Nat.add_assoc, hc', h2], hx, List.drop_eq_getElem_cons hi, by rw [List.take_succ_eq_append_getElem hi]⟩
/-- the slice reads as the list of pairs -/
def SlP (w : World) (v : Value) (X : List (Int × Int)) : Prop := ∃ a cap, v = .slice a X.length cap ∧ Rd w a (pv X) ∧ X.length ≤ cap ∧ cap ≤ 9223372036854775807 ∧ (a = none → cap = 0)
theorem SlP.nil (w : World) : SlP w (.slice none 0 0) [] := ⟨none, 0, rfl, Rd.nil _ _, by simp, by omega, fun _ => rfl⟩
theorem SlP.below {w w' : World} {v : Value} {X : List (Int × Int)} (h : SlP w v X) (hb : Below w.heap.size w w') : SlP w' v X := by
  obtain ⟨a, c, rfl, h2, h3⟩ := h
  exact ⟨a, c, rfl, h2.below' hb, h3⟩
theorem SlP.upd {S : Nat → Prop} {w w' : World} {v : Value} {X : List (Int × Int)} (h : SlP w v X) (hu : Upd S w w') (hn : ∀ k, v.ownBlock = some k → ¬ S k) : SlP w' v X := by
  obtain ⟨a, c, rfl, h2, h3⟩ := h
  exact ⟨a, c, rfl, hu.rd h2 (fun b off e => hn _ (by rw [e]; rfl)), h3⟩
theorem SlP.of_own {w : World} {base : Nat} {e : TypeId} {v : Value} {X : List (Int × Int)} (h : w.ownsRow base e 2 v X.length (pv X)) : SlP w v X := by
  obtain ⟨a, cap, rfl, h1, h2, hr, h3⟩ := ownsRow.rd h
  exact ⟨a, cap, rfl, hr, h1, by unfold maxLen at h2; omega, h3⟩
end Go.Proofs.YtdoflhiogoefjaaDoor
end
section
/- Contract of the document's Name. -/
namespace Go.Proofs.YtdoflhiogoefjaaDoor
open Go.RowKit
open Go.Lib (hid)
set_option linter.unusedVariables false

theorem getB (q : ByteArray) (k : Nat) (h : k < q.size) : q.data.toList.drop k = q[k] :: q.data.toList.drop (k + 1) := by
  have hlen : q.data.toList.length = q.size := by show q.data.toList.length = q.data.size; exact Array.length_toList
  have h2 := Lib.data_getElem? q k h
  obtain ⟨h3, h4⟩ := List.getElem?_eq_some_iff.1 h2
  rw [List.drop_eq_getElem_cons h3, h4]
theorem isLetB_nat (c : UInt8) : isLetB c = (decide (97 ≤ c.toNat) && decide (c.toNat ≤ 122) || (decide (48 ≤ c.toNat) && decide (c.toNat ≤ 57)) || decide (c.toNat = 45)) := by
  unfold isLetB isFirstB
  congr 1
  rw [Bool.eq_iff_iff]
  simp [← UInt8.toNat_inj]
def NmL (q : ByteArray) (nb : Bool) (v3 : Value) : Prop := ∃ k : Nat, v3 = .int .i64 k ∧ k ≤ q.size ∧ (q.data.toList.drop k).all isLetB = nb
set_option maxRecDepth 100000 in
set_option maxHeartbeats 4000000 in
theorem ref17_Name (q : ByteArray) (w : World) (hq : q.size ≤ 9223372036854775807) : Calls Tryd.prog 42 #[.string q] w fun e w' => e = .returned (.bool (nameB q.data.toList)) ∧ w = w' := by
  have hlen : q.data.toList.length = q.size := by show q.data.toList.length = q.data.size; exact Array.length_toList
  have hn : nameB q.data.toList = (decide (1 ≤ q.size) && decide (q.size ≤ 16) && isFirstB (q.data.toList.getD 0 0) && q.data.toList.all isLetB) := by unfold nameB; rw [hlen]
  obtain ⟨nb, hnb⟩ : ∃ nb, nb = nameB q.data.toList := ⟨_, rfl⟩
  rw [← hnb] at hn ⊢
  have HN := hid hn
  clear hn hnb hlen
  by_cases h0 : q.size < 1
  · have i0 : (q.size : Int) < 1 := by omega
    have : nb = false := by rw [HN.out]; simp; omega
    subst this
    go_enter Tryd.func42, Tryd.ntmps42
    go_wp2_with fail
    go_ret
    exact ⟨rfl, rfl⟩
  have i0 : ¬ (q.size : Int) < 1 := by omega
  by_cases h1 : 16 < q.size
  · have i1 : (16 : Int) < (q.size : Int) := by omega
    have : nb = false := by rw [HN.out]; simp; omega
    subst this
    go_enter Tryd.func42, Tryd.ntmps42
    go_wp2_with fail
    go_ret
    exact ⟨rfl, rfl⟩
  have i1 : ¬ (16 : Int) < (q.size : Int) := by omega
  have hpos : 0 < q.size := by omega
  have hg : q.data.toList.getD 0 0 = q[0] := by
    rw [List.getD_eq_getElem?_getD, Lib.data_getElem? q 0 hpos]; rfl
  have hN2 : nb = (isFirstB q[0] && q.data.toList.all isLetB) := by
    rw [HN.out, hg]
    have e1 : decide (1 ≤ q.size) = true := by simp; omega
    have e2 : decide (q.size ≤ 16) = true := by simp; omega
    rw [e1, e2]; simp
  have HN2 := hid hN2
  clear hN2 hg
  by_cases h2 : q[0].toNat < 97
  · have i2 : ((q[0].toNat : Nat) : Int) < 97 := by omega
    have : nb = false := by
      rw [HN2.out]
      have : isFirstB q[0] = false := by unfold isFirstB; simp; omega
      rw [this]; rfl
    subst this
    go_enter Tryd.func42, Tryd.ntmps42
    go_wp2_with fail
    go_ret
    exact ⟨rfl, rfl⟩
  have i2 : ¬ ((q[0].toNat : Nat) : Int) < 97 := by omega
  by_cases h3 : 122 < q[0].toNat
  · have i3 : (122 : Int) < ((q[0].toNat : Nat) : Int) := by omega
    have : nb = false := by
      rw [HN2.out]
      have : isFirstB q[0] = false := by unfold isFirstB; simp; omega
      rw [this]; rfl
    subst this
    go_enter Tryd.func42, Tryd.ntmps42
    go_wp2_with fail
    go_ret
    exact ⟨rfl, rfl⟩
  have i3 : ¬ (122 : Int) < ((q[0].toNat : Nat) : Int) := by omega
  have HST : Hid (q.data.toList.all isLetB = nb) := hid (by
    rw [HN2.out]
    have : isFirstB q[0] = true := by unfold isFirstB; simp; omega
    rw [this]; rfl)
  clear h2 h3
  go_enter Tryd.func42, Tryd.ntmps42
  go_wp2_with fail
  clear HN2
  go_loop [3] (fun v3 => NmL q nb v3) (fun v3 => q.size - (intOf v3).toNat)
  case atStart => exact ⟨0, rfl, by omega, HST.out⟩
  case round =>
    obtain ⟨k, rfl, hk, hall⟩ := hrel
    have HA := hid hall
    clear hall
    by_cases hlt : k < q.size
    · have k0 : (0 : Int) ≤ (k : Int) := by omega
      have k1 : (k : Int) < (q.size : Int) := by omega
      have hstep : (isLetB q[k] && (q.data.toList.drop (k + 1)).all isLetB) = nb := by
        rw [← HA.out, getB q k hlt]; rfl
      have HS := hid hstep
      clear hstep
      have hcase : (97 ≤ q[k].toNat ∧ q[k].toNat ≤ 122) ∨ (97 ≤ q[k].toNat ∧ 122 < q[k].toNat) ∨ (q[k].toNat < 97 ∧ 48 ≤ q[k].toNat ∧ q[k].toNat ≤ 57) ∨ (q[k].toNat < 97 ∧ 48 ≤ q[k].toNat ∧ 57 < q[k].toNat) ∨ (q[k].toNat < 48 ∧ q[k].toNat = 45) ∨ (q[k].toNat < 48 ∧ q[k].toNat ≠ 45) := by omega
      rcases hcase with h | h | h | h | h | h
      · have hl : isLetB q[k] = true := by rw [isLetB_nat]; simp; omega
        have HS2 := HS.out
        rw [hl] at HS2
        have fge97 : (97 : Int) ≤ ((q[k].toNat : Nat) : Int) := by omega
        have fle122 : ((q[k].toNat : Nat) : Int) ≤ 122 := by omega
        have HS3 : Hid ((q.data.toList.drop (k + 1)).all isLetB = nb) := hid (by simpa using HS2)
        clear hl HS2 h
        go_wp2_with fail
        go_round
        case rel => exact ⟨k + 1, by go_num, by omega, HS3.out⟩
        case measure => simp [intOf]; omega
      · have hl : isLetB q[k] = false := by rw [isLetB_nat]; simp; omega
        have HS2 := HS.out
        rw [hl] at HS2
        have fge97 : (97 : Int) ≤ ((q[k].toNat : Nat) : Int) := by omega
        have fle122 : ¬ ((q[k].toNat : Nat) : Int) ≤ 122 := by omega
        have fle57 : ¬ ((q[k].toNat : Nat) : Int) ≤ 57 := by omega
        have f45 : ((((q[k].toNat : Nat) : Int)) == 45) = false := by simp; omega
        have hnb : nb = false := by rw [← HS2]; rfl
        subst hnb
        clear hl HS2 h
        go_wp2_with fail
        go_ret
        exact ⟨rfl, rfl⟩
      · have hl : isLetB q[k] = true := by rw [isLetB_nat]; simp; omega
        have HS2 := HS.out
        rw [hl] at HS2
        have fge48 : (48 : Int) ≤ ((q[k].toNat : Nat) : Int) := by omega
        have fle57 : ((q[k].toNat : Nat) : Int) ≤ 57 := by omega
        have fge97 : ¬ (97 : Int) ≤ ((q[k].toNat : Nat) : Int) := by omega
        have HS3 : Hid ((q.data.toList.drop (k + 1)).all isLetB = nb) := hid (by simpa using HS2)
        clear hl HS2 h
        go_wp2_with fail
        go_round
        case rel => exact ⟨k + 1, by go_num, by omega, HS3.out⟩
        case measure => simp [intOf]; omega
      · have hl : isLetB q[k] = false := by rw [isLetB_nat]; simp; omega
        have HS2 := HS.out
        rw [hl] at HS2
        have fge48 : (48 : Int) ≤ ((q[k].toNat : Nat) : Int) := by omega
        have fge97 : ¬ (97 : Int) ≤ ((q[k].toNat : Nat) : Int) := by omega
        have fle57 : ¬ ((q[k].toNat : Nat) : Int) ≤ 57 := by omega
        have f45 : ((((q[k].toNat : Nat) : Int)) == 45) = false := by simp; omega
        have hnb : nb = false := by rw [← HS2]; rfl
        subst hnb
        clear hl HS2 h
        go_wp2_with fail
        go_ret
        exact ⟨rfl, rfl⟩
      · have hl : isLetB q[k] = true := by rw [isLetB_nat]; simp; omega
        have HS2 := HS.out
        rw [hl] at HS2
        have fge97 : ¬ (97 : Int) ≤ ((q[k].toNat : Nat) : Int) := by omega
        have fge48 : ¬ (48 : Int) ≤ ((q[k].toNat : Nat) : Int) := by omega
        have f45 : ((((q[k].toNat : Nat) : Int)) == 45) = true := by simp; omega
        have HS3 : Hid ((q.data.toList.drop (k + 1)).all isLetB = nb) := hid (by simpa using HS2)
        clear hl HS2 h
        go_wp2_with fail
        go_round
        case rel => exact ⟨k + 1, by go_num, by omega, HS3.out⟩
        case measure => simp [intOf]; omega
      · have hl : isLetB q[k] = false := by rw [isLetB_nat]; simp; omega
        have HS2 := HS.out
        rw [hl] at HS2
        have fge97 : ¬ (97 : Int) ≤ ((q[k].toNat : Nat) : Int) := by omega
        have fge48 : ¬ (48 : Int) ≤ ((q[k].toNat : Nat) : Int) := by omega
        have f45 : ((((q[k].toNat : Nat) : Int)) == 45) = false := by simp; omega
        have hnb : nb = false := by rw [← HS2]; rfl
        subst hnb
        clear hl HS2 h
        go_wp2_with fail
        go_ret
        exact ⟨rfl, rfl⟩
    · have k1 : ¬ (k : Int) < (q.size : Int) := by omega
      have : nb = true := by rw [← HA.out, List.drop_of_length_le (by show q.data.toList.length ≤ k; rw [Array.length_toList]; show q.size ≤ k; omega)]; rfl
      subst this
      go_wp2_with fail
      go_ret
      exact ⟨rfl, rfl⟩
end Go.Proofs.YtdoflhiogoefjaaDoor
end
