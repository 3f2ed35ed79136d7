/- Joined texts, in this order: Ref23. Each one's first remark says what it proves; no condition beyond those that its theorems name. -/
import Derived.Test.YtajfjgekcjkedaaJLawStallCopies13
section
/- Contracts of the document's stalls: Has, Find, Of. -/
namespace Go.Proofs.Ytajfjgekcjkedaa
open Go.RowKit
open Go.Lib (hid)
set_option linter.unusedVariables false

abbrev G3 := Int × Int × Int
def tv (G : List G3) : List Value := G.flatMap fun g => [Value.int .i64 g.1, .int .i64 g.2.1, .int .i64 g.2.2]
theorem tv_length (G : List G3) : (tv G).length = G.length * 3 := by
  unfold tv
  induction G with
  | nil => rfl
  | cons p G ih => rw [List.flatMap_cons, List.length_append, ih]; simp; omega
theorem tv_append (X Y : List G3) : tv (X ++ Y) = tv X ++ tv Y := by unfold tv; rw [List.flatMap_append]
theorem tv_oneCell (G : List G3) : ∀ u ∈ tv G, u.oneCell' = true := by
  intro u hu
  unfold tv at hu
  obtain ⟨p, -, hp⟩ := List.mem_flatMap.1 hu
  simp only [List.mem_cons, List.not_mem_nil, or_false] at hp
  rcases hp with rfl | rfl | rfl <;> rfl
theorem tv_at : ∀ (G : List G3) (i : Nat) (g : G3), G[i]? = some g → (tv G)[i * 3]? = some (.int .i64 g.1) ∧ (tv G)[i * 3 + 1]? = some (.int .i64 g.2.1) ∧ (tv G)[i * 3 + 2]? = some (.int .i64 g.2.2)
  | [], i, g, h => by simp at h
  | q :: G, 0, g, h => by simp at h; subst h; exact ⟨rfl, rfl, rfl⟩
  | q :: G, i + 1, g, h => by
    simp at h
    have := tv_at G i g h
    have e : tv (q :: G) = .int .i64 q.1 :: .int .i64 q.2.1 :: .int .i64 q.2.2 :: tv G := rfl
    rw [e, show (i + 1) * 3 = i * 3 + 1 + 1 + 1 by omega]
    simpa using this
def Sl3 (w : World) (v : Value) (G : List G3) : Prop := ∃ a cap, v = .slice a G.length cap ∧ Rd w a (tv G) ∧ G.length ≤ cap ∧ cap ≤ 9223372036854775807 ∧ (a = none → cap = 0)
theorem Sl3.nil (w : World) : Sl3 w (.slice none 0 0) [] := ⟨none, 0, rfl, Rd.nil _ _, by simp, by omega, fun _ => rfl⟩
theorem Sl3.below {w w' : World} {v : Value} {G : List G3} (h : Sl3 w v G) (hb : Below w.heap.size w w') : Sl3 w' v G := by
  obtain ⟨a, c, e, h1, h2⟩ := h
  exact ⟨a, c, e, h1.below' hb, h2⟩
theorem Sl3.upd {S : Nat → Prop} {w w' : World} {v : Value} {G : List G3} (h : Sl3 w v G) (hu : Upd S w w') (hn : ∀ k, v.ownBlock = some k → ¬ S k) : Sl3 w' v G := by
  obtain ⟨a, c, rfl, h1, h2⟩ := h
  exact ⟨a, c, rfl, hu.rd h1 (fun b off e => hn b (by rw [e]; rfl)), h2⟩
theorem Sl3.of_own {w : World} {base : Nat} {e : TypeId} {v : Value} {G : List G3} (h : w.ownsRow base e 3 v G.length (tv G)) : Sl3 w v G := by
  obtain ⟨a, c, rfl, h1, h2, h3, h4⟩ := ownsRow.rd h
  exact ⟨a, c, rfl, h3, h1, by unfold maxLen at h2; omega, h4⟩
theorem Rd.triple {w : World} {a : Option Addr} {G : List G3} (h : Rd w a (tv G)) (i : Nat) (hi : i < G.length) :
    ∃ b off x y z, a = some ⟨b, off, none⟩ ∧ w.cell? ⟨b, off + i * 3, none⟩ = some (.int .i64 x) ∧ w.cell? ⟨b, off + i * 3 + 1, none⟩ = some (.int .i64 y) ∧ w.cell? ⟨b, off + i * 3 + 2, none⟩ = some (.int .i64 z) ∧ G[i]? = some (x, y, z) ∧ G.drop i = (x, y, z) :: G.drop (i + 1) ∧ G.take (i + 1) = G.take i ++ [(x, y, z)] := by
  have hx : G[i]? = some G[i] := List.getElem?_eq_getElem hi
  obtain ⟨h1, h2, h3⟩ := tv_at G i _ hx
  obtain ⟨b, off, ha, hc⟩ := h (i * 3) (by rw [tv_length]; omega)
  obtain ⟨b', off', ha', hc'⟩ := h (i * 3 + 1) (by rw [tv_length]; omega)
  obtain ⟨b'', off'', ha'', hc''⟩ := h (i * 3 + 2) (by rw [tv_length]; omega)
  rw [ha] at ha' ha''
  simp at ha' ha''
  obtain ⟨rfl, rfl⟩ := ha'
  obtain ⟨rfl, rfl⟩ := ha''
  exact ⟨b, off, G[i].1, G[i].2.1, G[i].2.2, ha, by rw [hc, h1], by rw [Nat.add_assoc, hc', h2], by rw [Nat.add_assoc, hc'', h3], hx, List.drop_eq_getElem_cons hi, by rw [List.take_succ_eq_append_getElem hi]⟩
theorem T_till : SlT Try.prog 43 78 (.agg #[.int .i64 0, .int .i64 0]) 2 16 := SlT.mk' Try.underlying43 (by kernel_rfl) rfl (by decide) (by decide)
theorem T_g3 : SlT Try.prog 44 81 (.agg #[.int .i64 0, .int .i64 0, .int .i64 0]) 3 24 := SlT.mk' Try.underlying44 (by kernel_rfl) rfl (by decide) (by decide)
/-- the document's stalls, as a value: two slices -/
structure RefX (w : World) (at_ : Option Addr) (ct : Nat) (ag : Option Addr) (cg : Nat) (X : StX) : Prop where
  t : SlP w (.slice at_ X.tills.length ct) X.tills
  g : Sl3 w (.slice ag X.goods.length cg) X.goods
  lt : X.tills.length ≤ 100000
  lg : X.goods.length ≤ 100000
def refV (at_ : Option Addr) (ct : Nat) (ag : Option Addr) (cg : Nat) (X : StX) : Value := .agg #[.slice at_ X.tills.length ct, .slice ag X.goods.length cg]
theorem RefX.below {w w' : World} {at_ ag : Option Addr} {ct cg : Nat} {X : StX} (h : RefX w at_ ct ag cg X) (hb : Below w.heap.size w w') : RefX w' at_ ct ag cg X := ⟨h.t.below hb, h.g.below hb, h.lt, h.lg⟩
/-- where a key stands; -1: nowhere -/
def HasT (T : List (Int × Int)) (h r : Int) : Prop := (∃ (i : Nat) (g : Int), r = (i : Int) ∧ T[i]? = some (h, g) ∧ T.lookup h = some g) ∨ (r = -1 ∧ T.lookup h = none)
def FindG (G : List G3) (t r : Int) : Prop := (∃ (i : Nat) (g : G3), r = (i : Int) ∧ G[i]? = some g ∧ fdX G t = some g) ∨ (r = -1 ∧ fdX G t = none)
def HasPost (w : World) (T : List (Int × Int)) (h : Int) (e : Ending) (w' : World) : Prop := ∃ r : Int, e = .returned (.int .i64 r) ∧ HasT T h r ∧ Below w.heap.size w w'
def FindPost3 (w : World) (G : List G3) (t : Int) (e : Ending) (w' : World) : Prop := ∃ r : Int, e = .returned (.int .i64 r) ∧ FindG G t r ∧ Below w.heap.size w w'
set_option maxRecDepth 100000 in
set_option maxHeartbeats 1000000 in
theorem ref23_Has {at_ ag : Option Addr} {ct cg : Nat} {X : StX} (w : World) (h : RefX w at_ ct ag cg X) (k : Int) :
    Calls Try.prog 27 #[.agg #[.slice at_ X.tills.length ct, .slice ag X.goods.length cg], .int .i64 k] w (HasPost w X.tills k) := by
  have H := hid h
  have hl := h.lt
  clear h
  go_enter Try.func27, Try.ntmps27
  go_upto_region 1 with fail
  generalize hw2 : World.alloc w _ = w2
  obtain ⟨bs, hbs⟩ : ∃ b, b = w.heap.size := ⟨_, rfl⟩
  rw [← hbs]
  have hb2 : Below w.heap.size w w2 := by rw [← hw2]; exact Below.new _ _
  have HK : Hid (Blk w2 bs #[.slice at_ X.tills.length ct, .slice ag X.goods.length cg]) := hid (by rw [← hw2, hbs]; exact Blk.new w _ _)
  have H2 := hid (H.out.below hb2)
  have HB2 := hid hb2
  have c0 : w2.cell? ⟨bs, 0, none⟩ = some (.slice at_ X.tills.length ct) := by rw [HK.out.cell]; rfl
  clear hw2 hbs hb2
  go_wp2_with fail
  go_loop [5] (fun v5 => ∃ j : Nat, v5 = .int .i64 (j : Int) ∧ j ≤ X.tills.length ∧ Hid (X.tills.lookup k = (X.tills.drop j).lookup k)) (fun v5 => X.tills.length - (intOf v5).toNat)
  case atStart => exact ⟨0, rfl, by omega, hid (by simp)⟩
  case round =>
    obtain ⟨j, rfl, hj, HJ⟩ := hrel
    by_cases hlt : j < X.tills.length
    · have j1 : (j : Int) < (X.tills.length : Int) := by omega
      have j0 : (0 : Int) ≤ (j : Int) := by omega
      obtain ⟨a', c', e', hrd, -⟩ := H2.out.t
      simp only [Value.slice.injEq, true_and] at e'
      obtain ⟨rfl, rfl⟩ := e'
      obtain ⟨b0, off, x, y, rfl, d0, d1, hat, hd, -⟩ := hrd.pair j hlt
      have HAT := hid hat
      have hj2 := HJ.out
      rw [hd, List.lookup_cons] at hj2
      clear hrd hat hd
      by_cases hx : x = k
      · subst hx
        simp only [beq_self_eq_true] at hj2
        have HJ2 := hid hj2
        have hxx : (x == x) = true := by simp
        clear hj2 HJ
        go_wp2_with fail
        go_ret
        exact ⟨_, rfl, .inl ⟨j, y, rfl, HAT.out, HJ2.out⟩, HB2.out⟩
      · have hxk : (x == k) = false := by simpa using hx
        have hkx : (k == x) = false := by simpa using fun e : k = x => hx e.symm
        rw [hkx] at hj2
        have HJ2 : Hid (X.tills.lookup k = (X.tills.drop (j + 1)).lookup k) := hid hj2
        clear hj2 HJ hx hkx
        go_wp2_with fail
        go_round
        case rel => exact ⟨j + 1, by go_num, by omega, HJ2⟩
        case measure => simp [intOf]; omega
    · have j1 : ¬ (j : Int) < (X.tills.length : Int) := by omega
      have hn : X.tills.lookup k = none := by rw [HJ.out, List.drop_of_length_le (by omega)]; rfl
      have HN := hid hn
      clear hn HJ
      go_wp2_with fail
      go_ret
      exact ⟨_, rfl, .inr ⟨rfl, HN.out⟩, HB2.out⟩
set_option maxRecDepth 100000 in
set_option maxHeartbeats 1000000 in
theorem ref23_Find {at_ ag : Option Addr} {ct cg : Nat} {X : StX} (w : World) (h : RefX w at_ ct ag cg X) (k : Int) :
    Calls Try.prog 25 #[.agg #[.slice at_ X.tills.length ct, .slice ag X.goods.length cg], .int .i64 k] w (FindPost3 w X.goods k) := by
  have H := hid h
  have hl := h.lg
  clear h
  go_enter Try.func25, Try.ntmps25
  go_upto_region 1 with fail
  generalize hw2 : World.alloc w _ = w2
  obtain ⟨bs, hbs⟩ : ∃ b, b = w.heap.size := ⟨_, rfl⟩
  rw [← hbs]
  have hb2 : Below w.heap.size w w2 := by rw [← hw2]; exact Below.new _ _
  have HK : Hid (Blk w2 bs #[.slice at_ X.tills.length ct, .slice ag X.goods.length cg]) := hid (by rw [← hw2, hbs]; exact Blk.new w _ _)
  have H2 := hid (H.out.below hb2)
  have HB2 := hid hb2
  have c1 : w2.cell? ⟨bs, 1, none⟩ = some (.slice ag X.goods.length cg) := by rw [HK.out.cell]; rfl
  clear hw2 hbs hb2
  go_wp2_with fail
  go_loop [5] (fun v5 => ∃ j : Nat, v5 = .int .i64 (j : Int) ∧ j ≤ X.goods.length ∧ Hid (fdX X.goods k = fdX (X.goods.drop j) k)) (fun v5 => X.goods.length - (intOf v5).toNat)
  case atStart => exact ⟨0, rfl, by omega, hid (by simp)⟩
  case round =>
    obtain ⟨j, rfl, hj, HJ⟩ := hrel
    by_cases hlt : j < X.goods.length
    · have j1 : (j : Int) < (X.goods.length : Int) := by omega
      have j0 : (0 : Int) ≤ (j : Int) := by omega
      obtain ⟨a', c', e', hrd, -⟩ := H2.out.g
      simp only [Value.slice.injEq, true_and] at e'
      obtain ⟨rfl, rfl⟩ := e'
      obtain ⟨b0, off, x, y, z, rfl, d0, d1, d2, hat, hd, -⟩ := hrd.triple j hlt
      have HAT := hid hat
      have hj2 := HJ.out
      unfold fdX at hj2
      rw [hd, List.find?_cons] at hj2
      clear hrd hat hd
      by_cases hx : y = k
      · subst hx
        simp only [beq_self_eq_true] at hj2
        have HJ2 : Hid (fdX X.goods y = some (x, y, z)) := hid hj2
        have hxx : (y == y) = true := by simp
        clear hj2 HJ
        go_wp2_with fail
        go_ret
        exact ⟨_, rfl, .inl ⟨j, _, rfl, HAT.out, HJ2.out⟩, HB2.out⟩
      · have hxk : (y == k) = false := by simpa using hx
        simp only [hxk] at hj2
        have HJ2 : Hid (fdX X.goods k = fdX (X.goods.drop (j + 1)) k) := hid hj2
        clear hj2 HJ hx
        go_wp2_with fail
        go_round
        case rel => exact ⟨j + 1, by go_num, by omega, HJ2⟩
        case measure => simp [intOf]; omega
    · have j1 : ¬ (j : Int) < (X.goods.length : Int) := by omega
      have hn : fdX X.goods k = none := by rw [HJ.out, List.drop_of_length_le (by omega)]; rfl
      have HN := hid hn
      clear hn HJ
      go_wp2_with fail
      go_ret
      exact ⟨_, rfl, .inr ⟨rfl, HN.out⟩, HB2.out⟩
end Go.Proofs.Ytajfjgekcjkedaa
end
