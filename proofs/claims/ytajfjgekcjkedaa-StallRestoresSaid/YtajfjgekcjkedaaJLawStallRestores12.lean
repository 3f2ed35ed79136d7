/- Joined texts, in this order: Ref23, Ref23b. Each one's first remark says what it proves; no condition beyond those that its theorems name. -/
import Derived.Test.YtajfjgekcjkedaaJLawStallRestores11
section
/- Contracts of the document's stalls: Has, Find, Of. -/
namespace Go.Proofs.Ytajfjgekcjkedaa
open Go.RowKit
open Go.Lib (hid)
set_option linter.unusedVariables false

abbrev G3 := Int × Int × Int
def tv (G : List G3) : List Value := G.flatMap fun g => [Value.int .i64 g.1, .int .i64 g.2.1, .int .i64 g.2.2]
theorem tv_length (G : List G3) : (tv G).length = G.length * 3 := by
  unfold tv
  induction G with
  | nil => rfl
  | cons p G ih => rw [List.flatMap_cons, List.length_append, ih]; simp; omega
theorem tv_append (X Y : List G3) : tv (X ++ Y) = tv X ++ tv Y := by unfold tv; rw [List.flatMap_append]
theorem tv_oneCell (G : List G3) : ∀ u ∈ tv G, u.oneCell' = true := by
  intro u hu
  unfold tv at hu
  obtain ⟨p, -, hp⟩ := List.mem_flatMap.1 hu
  simp only [List.mem_cons, List.not_mem_nil, or_false] at hp
  rcases hp with rfl | rfl | rfl <;> rfl
theorem tv_at : ∀ (G : List G3) (i : Nat) (g : G3), G[i]? = some g → (tv G)[i * 3]? = some (.int .i64 g.1) ∧ (tv G)[i * 3 + 1]? = some (.int .i64 g.2.1) ∧ (tv G)[i * 3 + 2]? = some (.int .i64 g.2.2)
  | [], i, g, h => by simp at h
  | q :: G, 0, g, h => by simp at h; subst h; exact ⟨rfl, rfl, rfl⟩
  | q :: G, i + 1, g, h => by
    simp at h
    have := tv_at G i g h
    have e : tv (q :: G) = .int .i64 q.1 :: .int .i64 q.2.1 :: .int .i64 q.2.2 :: tv G := rfl
    rw [e, show (i + 1) * 3 = i * 3 + 1 + 1 + 1 by omega]
    simpa using this
def Sl3 (w : World) (v : Value) (G : List G3) : Prop := ∃ a cap, v = .slice a G.length cap ∧ Rd w a (tv G) ∧ G.length ≤ cap ∧ cap ≤ 9223372036854775807 ∧ (a = none → cap = 0)
theorem Sl3.nil (w : World) : Sl3 w (.slice none 0 0) [] := ⟨none, 0, rfl, Rd.nil _ _, by simp, by omega, fun _ => rfl⟩
theorem Sl3.below {w w' : World} {v : Value} {G : List G3} (h : Sl3 w v G) (hb : Below w.heap.size w w') : Sl3 w' v G := by
  obtain ⟨a, c, e, h1, h2⟩ := h
  exact ⟨a, c, e, h1.below' hb, h2⟩
theorem Sl3.upd {S : Nat → Prop} {w w' : World} {v : Value} {G : List G3} (h : Sl3 w v G) (hu : Upd S w w') (hn : ∀ k, v.ownBlock = some k → ¬ S k) : Sl3 w' v G := by
  obtain ⟨a, c, rfl, h1, h2⟩ := h
  exact ⟨a, c, rfl, hu.rd h1 (fun b off e => hn b (by rw [e]; rfl)), h2⟩
theorem Sl3.of_own {w : World} {base : Nat} {e : TypeId} {v : Value} {G : List G3} (h : w.ownsRow base e 3 v G.length (tv G)) : Sl3 w v G := by
  obtain ⟨a, c, rfl, h1, h2, h3, h4⟩ := ownsRow.rd h
  exact ⟨a, c, rfl, h3, h1, by unfold maxLen at h2; omega, h4⟩
theorem Rd.triple {w : World} {a : Option Addr} {G : List G3} (h : Rd w a (tv G)) (i : Nat) (hi : i < G.length) :
    ∃ b off x y z, a = some ⟨b, off, none⟩ ∧ w.cell? ⟨b, off + i * 3, none⟩ = some (.int .i64 x) ∧ w.cell? ⟨b, off + i * 3 + 1, none⟩ = some (.int .i64 y) ∧ w.cell? ⟨b, off + i * 3 + 2, none⟩ = some (.int .i64 z) ∧ G[i]? = some (x, y, z) ∧ G.drop i = (x, y, z) :: G.drop (i + 1) ∧ G.take (i + 1) = G.take i ++ [(x, y, z)] := by
  have hx : G[i]? = some G[i] := List.getElem?_eq_getElem hi
  obtain ⟨h1, h2, h3⟩ := tv_at G i _ hx
  obtain ⟨b, off, ha, hc⟩ := h (i * 3) (by rw [tv_length]; omega)
  obtain ⟨b', off', ha', hc'⟩ := h (i * 3 + 1) (by rw [tv_length]; omega)
  obtain ⟨b'', off'', ha'', hc''⟩ := h (i * 3 + 2) (by rw [tv_length]; omega)
  rw [ha] at ha' ha''
  simp at ha' ha''
  obtain ⟨rfl, rfl⟩ := ha'
  obtain ⟨rfl, rfl⟩ := ha''
  exact ⟨b, off, G[i].1, G[i].2.1, G[i].2.2, ha, by rw [hc, h1], by rw [Nat.add_assoc, hc', h2], by rw [Nat.add_assoc, hc'', h3], hx, List.drop_eq_getElem_cons hi, by rw [List.take_succ_eq_append_getElem hi]⟩
theorem T_till : SlT Try.prog 43 78 (.agg #[.int .i64 0, .int .i64 0]) 2 16 := SlT.mk' Try.underlying43 (by kernel_rfl) rfl (by decide) (by decide)
theorem T_g3 : SlT Try.prog 44 81 (.agg #[.int .i64 0, .int .i64 0, .int .i64 0]) 3 24 := SlT.mk' Try.underlying44 (by kernel_rfl) rfl (by decide) (by decide)
/-- the document's stalls, as a value: two slices -/
structure RefX (w : World) (at_ : Option Addr) (ct : Nat) (ag : Option Addr) (cg : Nat) (X : StX) : Prop where
  t : SlP w (.slice at_ X.tills.length ct) X.tills
  g : Sl3 w (.slice ag X.goods.length cg) X.goods
  lt : X.tills.length ≤ 100000
  lg : X.goods.length ≤ 100000
def refV (at_ : Option Addr) (ct : Nat) (ag : Option Addr) (cg : Nat) (X : StX) : Value := .agg #[.slice at_ X.tills.length ct, .slice ag X.goods.length cg]
theorem RefX.below {w w' : World} {at_ ag : Option Addr} {ct cg : Nat} {X : StX} (h : RefX w at_ ct ag cg X) (hb : Below w.heap.size w w') : RefX w' at_ ct ag cg X := ⟨h.t.below hb, h.g.below hb, h.lt, h.lg⟩
/-- where a key stands; -1: nowhere -/
def HasT (T : List (Int × Int)) (h r : Int) : Prop := (∃ (i : Nat) (g : Int), r = (i : Int) ∧ T[i]? = some (h, g) ∧ T.lookup h = some g) ∨ (r = -1 ∧ T.lookup h = none)
def FindG (G : List G3) (t r : Int) : Prop := (∃ (i : Nat) (g : G3), r = (i : Int) ∧ G[i]? = some g ∧ fdX G t = some g) ∨ (r = -1 ∧ fdX G t = none)
def HasPost (w : World) (T : List (Int × Int)) (h : Int) (e : Ending) (w' : World) : Prop := ∃ r : Int, e = .returned (.int .i64 r) ∧ HasT T h r ∧ Below w.heap.size w w'
def FindPost3 (w : World) (G : List G3) (t : Int) (e : Ending) (w' : World) : Prop := ∃ r : Int, e = .returned (.int .i64 r) ∧ FindG G t r ∧ Below w.heap.size w w'
set_option maxRecDepth 100000 in
set_option maxHeartbeats 1000000 in
theorem ref23_Has {at_ ag : Option Addr} {ct cg : Nat} {X : StX} (w : World) (h : RefX w at_ ct ag cg X) (k : Int) :
    Calls Try.prog 27 #[.agg #[.slice at_ X.tills.length ct, .slice ag X.goods.length cg], .int .i64 k] w (HasPost w X.tills k) := by
  have H := hid h
  have hl := h.lt
  clear h
  go_enter Try.func27, Try.ntmps27
  go_upto_region 1 with fail
  generalize hw2 : World.alloc w _ = w2
  obtain ⟨bs, hbs⟩ : ∃ b, b = w.heap.size := ⟨_, rfl⟩
  rw [← hbs]
  have hb2 : Below w.heap.size w w2 := by rw [← hw2]; exact Below.new _ _
  have HK : Hid (Blk w2 bs #[.slice at_ X.tills.length ct, .slice ag X.goods.length cg]) := hid (by rw [← hw2, hbs]; exact Blk.new w _ _)
  have H2 := hid (H.out.below hb2)
  have HB2 := hid hb2
  have c0 : w2.cell? ⟨bs, 0, none⟩ = some (.slice at_ X.tills.length ct) := by rw [HK.out.cell]; rfl
  clear hw2 hbs hb2
  go_wp2_with fail
  go_loop [5] (fun v5 => ∃ j : Nat, v5 = .int .i64 (j : Int) ∧ j ≤ X.tills.length ∧ Hid (X.tills.lookup k = (X.tills.drop j).lookup k)) (fun v5 => X.tills.length - (intOf v5).toNat)
  case atStart => exact ⟨0, rfl, by omega, hid (by simp)⟩
  case round =>
    obtain ⟨j, rfl, hj, HJ⟩ := hrel
    by_cases hlt : j < X.tills.length
    · have j1 : (j : Int) < (X.tills.length : Int) := by omega
      have j0 : (0 : Int) ≤ (j : Int) := by omega
      obtain ⟨a', c', e', hrd, -⟩ := H2.out.t
      simp only [Value.slice.injEq, true_and] at e'
      obtain ⟨rfl, rfl⟩ := e'
      obtain ⟨b0, off, x, y, rfl, d0, d1, hat, hd, -⟩ := hrd.pair j hlt
      have HAT := hid hat
      have hj2 := HJ.out
      rw [hd, List.lookup_cons] at hj2
      clear hrd hat hd
      by_cases hx : x = k
      · subst hx
        simp only [beq_self_eq_true] at hj2
        have HJ2 := hid hj2
        have hxx : (x == x) = true := by simp
        clear hj2 HJ
        go_wp2_with fail
        go_ret
        exact ⟨_, rfl, .inl ⟨j, y, rfl, HAT.out, HJ2.out⟩, HB2.out⟩
      · have hxk : (x == k) = false := by simpa using hx
        have hkx : (k == x) = false := by simpa using fun e : k = x => hx e.symm
        rw [hkx] at hj2
        have HJ2 : Hid (X.tills.lookup k = (X.tills.drop (j + 1)).lookup k) := hid hj2
        clear hj2 HJ hx hkx
        go_wp2_with fail
        go_round
        case rel => exact ⟨j + 1, by go_num, by omega, HJ2⟩
        case measure => simp [intOf]; omega
    · have j1 : ¬ (j : Int) < (X.tills.length : Int) := by omega
      have hn : X.tills.lookup k = none := by rw [HJ.out, List.drop_of_length_le (by omega)]; rfl
      have HN := hid hn
      clear hn HJ
      go_wp2_with fail
      go_ret
      exact ⟨_, rfl, .inr ⟨rfl, HN.out⟩, HB2.out⟩
set_option maxRecDepth 100000 in
set_option maxHeartbeats 1000000 in
theorem ref23_Find {at_ ag : Option Addr} {ct cg : Nat} {X : StX} (w : World) (h : RefX w at_ ct ag cg X) (k : Int) :
    Calls Try.prog 25 #[.agg #[.slice at_ X.tills.length ct, .slice ag X.goods.length cg], .int .i64 k] w (FindPost3 w X.goods k) := by
  have H := hid h
  have hl := h.lg
  clear h
  go_enter Try.func25, Try.ntmps25
  go_upto_region 1 with fail
  generalize hw2 : World.alloc w _ = w2
  obtain ⟨bs, hbs⟩ : ∃ b, b = w.heap.size := ⟨_, rfl⟩
  rw [← hbs]
  have hb2 : Below w.heap.size w w2 := by rw [← hw2]; exact Below.new _ _
  have HK : Hid (Blk w2 bs #[.slice at_ X.tills.length ct, .slice ag X.goods.length cg]) := hid (by rw [← hw2, hbs]; exact Blk.new w _ _)
  have H2 := hid (H.out.below hb2)
  have HB2 := hid hb2
  have c1 : w2.cell? ⟨bs, 1, none⟩ = some (.slice ag X.goods.length cg) := by rw [HK.out.cell]; rfl
  clear hw2 hbs hb2
  go_wp2_with fail
  go_loop [5] (fun v5 => ∃ j : Nat, v5 = .int .i64 (j : Int) ∧ j ≤ X.goods.length ∧ Hid (fdX X.goods k = fdX (X.goods.drop j) k)) (fun v5 => X.goods.length - (intOf v5).toNat)
  case atStart => exact ⟨0, rfl, by omega, hid (by simp)⟩
  case round =>
    obtain ⟨j, rfl, hj, HJ⟩ := hrel
    by_cases hlt : j < X.goods.length
    · have j1 : (j : Int) < (X.goods.length : Int) := by omega
      have j0 : (0 : Int) ≤ (j : Int) := by omega
      obtain ⟨a', c', e', hrd, -⟩ := H2.out.g
      simp only [Value.slice.injEq, true_and] at e'
      obtain ⟨rfl, rfl⟩ := e'
      obtain ⟨b0, off, x, y, z, rfl, d0, d1, d2, hat, hd, -⟩ := hrd.triple j hlt
      have HAT := hid hat
      have hj2 := HJ.out
      unfold fdX at hj2
      rw [hd, List.find?_cons] at hj2
      clear hrd hat hd
      by_cases hx : y = k
      · subst hx
        simp only [beq_self_eq_true] at hj2
        have HJ2 : Hid (fdX X.goods y = some (x, y, z)) := hid hj2
        have hxx : (y == y) = true := by simp
        clear hj2 HJ
        go_wp2_with fail
        go_ret
        exact ⟨_, rfl, .inl ⟨j, _, rfl, HAT.out, HJ2.out⟩, HB2.out⟩
      · have hxk : (y == k) = false := by simpa using hx
        simp only [hxk] at hj2
        have HJ2 : Hid (fdX X.goods k = fdX (X.goods.drop (j + 1)) k) := hid hj2
        clear hj2 HJ hx
        go_wp2_with fail
        go_round
        case rel => exact ⟨j + 1, by go_num, by omega, HJ2⟩
        case measure => simp [intOf]; omega
    · have j1 : ¬ (j : Int) < (X.goods.length : Int) := by omega
      have hn : fdX X.goods k = none := by rw [HJ.out, List.drop_of_length_le (by omega)]; rfl
      have HN := hid hn
      clear hn HJ
      go_wp2_with fail
      go_ret
      exact ⟨_, rfl, .inr ⟨rfl, HN.out⟩, HB2.out⟩
end Go.Proofs.Ytajfjgekcjkedaa
end
section
/- Contracts of the document's stalls: Of, Take, Set, Close, Open, Put, Sell. -/
namespace Go.Proofs.Ytajfjgekcjkedaa
open Go.RowKit
open Go.Lib (hid)
set_option linter.unusedVariables false

def aB (a : Option Addr) (k : Nat) : Prop := (Value.slice a 0 0).ownBlock = some k
theorem aB_own {a : Option Addr} {n c k : Nat} (h : (Value.slice a n c).ownBlock = some k) : aB a k := by
  cases a with
  | none => simp [Value.ownBlock] at h
  | some x => exact h
/-- behind a call of the document's -/
def R23Post (w : World) (at_ ag : Option Addr) (X' : StX) (E : Int) (e : Ending) (w' : World) : Prop :=
  ∃ at' ct' ag' cg', e = .returned (.tuple #[.agg #[.slice at' X'.tills.length ct', .slice ag' X'.goods.length cg'], .int .i64 E]) ∧ RefX w' at' ct' ag' cg' X' ∧ Below w.heap.size w w' ∧ ∀ k, (aB at' k ∨ aB ag' k) → k < w'.heap.size ∧ ((aB at_ k ∨ aB ag k) ∨ w.heap.size ≤ k)
def R23Set (w : World) (at_ ag : Option Addr) (X' : StX) (e : Ending) (w' : World) : Prop :=
  ∃ at' ct' ag' cg', e = .returned (.agg #[.slice at' X'.tills.length ct', .slice ag' X'.goods.length cg']) ∧ RefX w' at' ct' ag' cg' X' ∧ Below w.heap.size w w' ∧ ∀ k, (aB at' k ∨ aB ag' k) → k < w'.heap.size ∧ ((aB at_ k ∨ aB ag k) ∨ w.heap.size ≤ k)
theorem SlP.lt2 {w : World} {v : Value} {X : List (Int × Int)} (h : SlP w v X) (h0 : 0 < X.length) : ∀ k, v.ownBlock = some k → k < w.heap.size := by
  obtain ⟨a, c, rfl, hrd, -⟩ := h
  obtain ⟨b, off, x, y, rfl, d0, -⟩ := hrd.pair 0 h0
  intro k hk
  simp [Value.ownBlock] at hk
  subst hk
  exact World.block_lt_of_cell? w _ d0
theorem owns_sl {w : World} {base size : Nat} {e : TypeId} {v : Value} {n : Nat} {xs : List Value} (h : w.ownsRow base e size v n xs) : ∃ a c, v = .slice a n c ∧ ∀ k, aB a k → base ≤ k ∧ k < w.heap.size := by
  obtain ⟨a, c, rfl, -⟩ := ownsRow.rd h
  exact ⟨a, c, rfl, fun k hk => h.lt k (by cases a with | none => simp [aB, Value.ownBlock] at hk | some x => exact hk)⟩
theorem SlP.set4 {w : World} {a : Option Addr} {c b4 i : Nat} {X : List (Int × Int)} {u : Value} (h : SlP w (.slice a X.length c) X) (hn : ∀ k, aB a k → k ≠ b4) : SlP (w.setCell ⟨b4, i, none⟩ u) (.slice a X.length c) X :=
  h.upd (Upd.setCell w b4 i u) (fun k hk q => hn k (aB_own hk) q)
theorem Sl3.set4 {w : World} {a : Option Addr} {c b4 i : Nat} {X : List G3} {u : Value} (h : Sl3 w (.slice a X.length c) X) (hn : ∀ k, aB a k → k ≠ b4) : Sl3 (w.setCell ⟨b4, i, none⟩ u) (.slice a X.length c) X :=
  h.upd (Upd.setCell w b4 i u) (fun k hk q => hn k (aB_own hk) q)
theorem sortK_idx {α : Type} (key : α → Int) {l : List α} (hs : SortK key l) {i j : Nat} {x y : α} (hi : l[i]? = some x) (hj : l[j]? = some y) (e : key x = key y) : i = j := by
  have li := (List.getElem?_eq_some_iff.1 hi).1
  have lj := (List.getElem?_eq_some_iff.1 hj).1
  have ei := (List.getElem?_eq_some_iff.1 hi).2
  have ej := (List.getElem?_eq_some_iff.1 hj).2
  have hp := List.pairwise_iff_getElem.1 hs
  rcases Nat.lt_trichotomy i j with h | h | h
  · have := hp i j li lj h; rw [ei, ej] at this; omega
  · exact h
  · have := hp j i lj li h; rw [ei, ej] at this; omega
/-- slices of the document's that stand below a block: apart from it -/
def Low (at_ ag : Option Addr) (n : Nat) : Prop := ∀ k, (aB at_ k ∨ aB ag k) → k < n
set_option maxRecDepth 100000 in
set_option maxHeartbeats 1000000 in
theorem ref23_Of {at_ ag : Option Addr} {ct cg : Nat} {X : StX} (w : World) (h : RefX w at_ ct ag cg X) (k : Int) :
    Calls Try.prog 37 #[.agg #[.slice at_ X.tills.length ct, .slice ag X.goods.length cg], .int .i64 k] w fun e w' => ∃ v, e = .returned v ∧ w'.ownsRow w.heap.size 81 3 v (X.goods.filter (fun g => g.1 == k)).length (tv (X.goods.filter (fun g => g.1 == k))) ∧ Below w.heap.size w w' := by
  have H := hid h
  have hl := h.lg
  clear h
  go_enter Try.func37, Try.ntmps37
  go_upto_region 1 with fail
  generalize hw2 : World.alloc w _ = w2
  obtain ⟨bs, hbs⟩ : ∃ b, b = w.heap.size := ⟨_, rfl⟩
  rw [← hbs]
  have hb2 : Below w.heap.size w w2 := by rw [← hw2]; exact Below.new _ _
  have HK : Hid (Blk w2 bs #[.slice at_ X.tills.length ct, .slice ag X.goods.length cg]) := hid (by rw [← hw2, hbs]; exact Blk.new w _ _)
  have H2 := hid (H.out.below hb2)
  have HB2 := hid hb2
  clear hw2 hbs hb2
  go_wp2_with fail
  go_loopw [5, 6] (fun vo vi wr => ∃ (j : Nat), vi = .int .i64 (j : Int) ∧ j ≤ X.goods.length ∧ Hid (wr.ownsRow w2.heap.size 81 3 vo ((X.goods.take j).filter (fun g => g.1 == k)).length (tv ((X.goods.take j).filter (fun g => g.1 == k)))) ∧ Hid (Below w2.heap.size w2 wr)) (fun _ vi _ => X.goods.length - (intOf vi).toNat)
  case atStart => exact ⟨0, rfl, by omega, hid (by simpa [tv] using World.ownsRow_nil _ _ _ _), hid (Below.refl _ _)⟩
  case round =>
    obtain ⟨j, rfl, hj, hown, hb⟩ := hrel
    have c1 : wr.cell? ⟨bs, 1, none⟩ = some (.slice ag X.goods.length cg) := by rw [(HK.out.below hb.out).cell]; rfl
    by_cases hlt : j < X.goods.length
    · have j1 : (j : Int) < (X.goods.length : Int) := by omega
      have j0 : (0 : Int) ≤ (j : Int) := by omega
      obtain ⟨a', c', e', hrd, -⟩ := H2.out.g.below hb.out
      simp only [Value.slice.injEq, true_and] at e'
      obtain ⟨rfl, rfl⟩ := e'
      obtain ⟨b0, off, x, y, z, rfl, d0, d1, d2, -, -, htk⟩ := hrd.triple j hlt
      have hsz := hb.out.size
      have hfl : ((X.goods.take j).filter (fun g => g.1 == k)).length ≤ 100000 := Nat.le_trans (List.length_filter_le _ _) (by rw [List.length_take]; omega)
      clear hrd
      by_cases hx : x = k
      · subst hx
        have hw : (X.goods.take (j + 1)).filter (fun g => g.1 == x) = (X.goods.take j).filter (fun g => g.1 == x) ++ [(x, y, z)] := by rw [htk, List.filter_append]; simp
        have HW := hid hw
        have hxx : (x == x) = true := by simp
        clear hw htk
        go_wp2_with (at_builtin; refine wpList_append1w T_g3 _ rfl _ _ #[.int .i64 x, .int .i64 y, .int .i64 z] rfl w2.heap.size _ _ _ rfl hown.out rfl rfl ?c1 ?c2 ?c3 ?_)
        case c1 => exact ⟨rfl, rfl, rfl⟩
        case c2 => omega
        case c3 => omega
        intro v' w1 hown' hgrow hne hwh
        have HO : Hid (w1.ownsRow w2.heap.size 81 3 v' ((X.goods.take (j + 1)).filter (fun g => g.1 == x)).length (tv ((X.goods.take (j + 1)).filter (fun g => g.1 == x)))) := hid (by
          rw [HW.out, tv_append, List.length_append]; exact hown')
        have HB : Hid (Below w2.heap.size w2 w1) := hid (hb.out.grown hgrow hsz (fun j hj => (hown.out.lt j hj).1))
        clear hown' hgrow hwh hne c1
        go_wp2
        go_roundw
        case rel => exact ⟨j + 1, by go_num, by omega, HO, HB⟩
        case measure => simp [intOf]; omega
      · have hx' : (x == k) = false := by simpa using hx
        have hw : (X.goods.take (j + 1)).filter (fun g => g.1 == k) = (X.goods.take j).filter (fun g => g.1 == k) := by rw [htk, List.filter_append]; simp [hx']
        have HW := hid hw
        clear hw htk
        go_wp2
        go_roundw
        case rel => exact ⟨j + 1, by go_num, by omega, by rw [HW.out]; exact hown, hb⟩
        case measure => simp [intOf]; omega
    · have e1 : X.goods.take j = X.goods := List.take_of_length_le (by omega)
      rw [e1] at hown
      have j1 : ¬ (j : Int) < (X.goods.length : Int) := by omega
      go_wp2
      go_ret
      exact ⟨_, rfl, ownsRow_base hown.out HB2.out.size, Below.next HB2.out hb.out⟩
set_option maxRecDepth 100000 in
set_option maxHeartbeats 2000000 in
theorem ref23_Take {at_ ag : Option Addr} {ct cg : Nat} {X : StX} (w : World) (h : RefX w at_ ct ag cg X) (hlow : Low at_ ag w.heap.size) (hi : XInv X) (k : Int) :
    Calls Try.prog 43 #[.agg #[.slice at_ X.tills.length ct, .slice ag X.goods.length cg], .int .i64 k] w (R23Post w at_ ag (if takeE X k = 0 then takeX X k else X) (takeE X k)) := by
  have H := hid h
  have HLOW := hid hlow
  have hlt_ := h.lt
  have hlg_ := h.lg
  clear h hlow
  cases hf : fdX X.goods k with
  | none =>
    rw [takeE_none hf, if_neg (by omega)]
    have HF := hid hf
    clear hi hf
    go_enter Try.func43, Try.ntmps43
    go_upto_region 1 with fail
    generalize hw2 : World.alloc (World.alloc w _) _ = w2
    obtain ⟨bs, hbs⟩ : ∃ b, b = w.heap.size := ⟨_, rfl⟩
    obtain ⟨b4, hb4⟩ : ∃ b, b = w.heap.size + 1 := ⟨_, rfl⟩
    have hz1 : (World.alloc w (.cells #[.slice at_ X.tills.length ct, .slice ag X.goods.length cg] 46)).heap.size = w.heap.size + 1 := by simp
    try rw [hz1]
    try rw [← hb4]
    try rw [← hbs]
    have hb2 : Below w.heap.size w w2 := by rw [← hw2]; exact Below.next (Below.new _ _) (Below.new _ _)
    have HK : Hid (Blk w2 bs #[.slice at_ X.tills.length ct, .slice ag X.goods.length cg]) := hid (by rw [← hw2, hbs]; exact (Blk.new w _ _).below (Below.new _ _))
    have HK4 : Hid (Blk w2 b4 #[.slice none 0 0, .slice none 0 0]) := hid (by rw [← hw2, hb4, ← hz1]; exact Blk.new _ _ _)
    have H2 := hid (H.out.below hb2)
    have HB2 := hid hb2
    have HB4 : Hid (w.heap.size ≤ b4 ∧ b4 < w2.heap.size ∧ b4 ≠ bs) := hid (by have := HK4.out.lt; omega)
    clear hw2 hbs hb4 hz1 hb2
    have c0 : w2.cell? ⟨bs, 0, none⟩ = some (.slice at_ X.tills.length ct) := by rw [HK.out.cell]; rfl
    have c1 : w2.cell? ⟨bs, 1, none⟩ = some (.slice ag X.goods.length cg) := by rw [HK.out.cell]; rfl
    go_wp2_with fail
    refine (ref23_Find w2 H2.out k).mono ?_
    rintro e w3 ⟨r, rfl, hr, hb3⟩
    obtain rfl : r = -1 := by
      rcases hr with ⟨i, g, -, -, q⟩ | ⟨q, -⟩
      · rw [HF.out] at q; simp at q
      · exact q
    have HK3 := hid (HK.out.below hb3)
    have HK43 := hid (HK4.out.below hb3)
    have H3 := hid (H2.out.below hb3)
    have HB3 := hid (Below.next HB2.out hb3)
    clear hr hb3 c0 c1
    have c0 : w3.cell? ⟨bs, 0, none⟩ = some (.slice at_ X.tills.length ct) := by rw [HK3.out.cell]; rfl
    have c1 : w3.cell? ⟨bs, 1, none⟩ = some (.slice ag X.goods.length cg) := by rw [HK3.out.cell]; rfl
    have q0 : w3.cell? ⟨b4, 0, none⟩ = some (.slice none 0 0) := by rw [HK43.out.cell]; rfl
    have q1 : w3.cell? ⟨b4, 1, none⟩ = some (.slice none 0 0) := by rw [HK43.out.cell]; rfl
    have f0 : w3.frozen? ⟨b4, 0, none⟩ = false := HK43.out.unfrozen 0
    have f1 : w3.frozen? ⟨b4, 1, none⟩ = false := HK43.out.unfrozen 1
    go_wp2_with fail
    have HK5 : Hid (Blk ((w3.setCell ⟨b4, 0, none⟩ (.slice at_ X.tills.length ct)).setCell ⟨b4, 1, none⟩ (.slice ag X.goods.length cg)) b4 #[.slice at_ X.tills.length ct, .slice ag X.goods.length cg]) := hid (by simpa using (HK43.out.set 0 (.slice at_ X.tills.length ct)).set 1 (.slice ag X.goods.length cg))
    have HT5 := hid (((H3.out.t).set4 (b4 := b4) (i := 0) (u := .slice at_ X.tills.length ct) (fun k hk => by have := HLOW.out k (.inl hk); have := HB4.out.1; omega)).set4 (b4 := b4) (i := 1) (u := .slice ag X.goods.length cg) (fun k hk => by have := HLOW.out k (.inl hk); have := HB4.out.1; omega))
    have HG5 := hid (((H3.out.g).set4 (b4 := b4) (i := 0) (u := .slice at_ X.tills.length ct) (fun k hk => by have := HLOW.out k (.inr hk); have := HB4.out.1; omega)).set4 (b4 := b4) (i := 1) (u := .slice ag X.goods.length cg) (fun k hk => by have := HLOW.out k (.inr hk); have := HB4.out.1; omega))
    have HB5 : Hid (Below w.heap.size w ((w3.setCell ⟨b4, 0, none⟩ (.slice at_ X.tills.length ct)).setCell ⟨b4, 1, none⟩ (.slice ag X.goods.length cg))) := hid (by
      have hb := HB3.out
      have u := (Upd.setCell w3 b4 0 (.slice at_ X.tills.length ct)).trans (Upd.setCell _ b4 1 (.slice ag X.goods.length cg)) (fun _ _ q => q)
      exact hb.trans (u.below hb.size (fun j _ q => by have := HB4.out.1; omega)))
    have HSZ9 : Hid (w3.heap.size ≤ ((w3.setCell ⟨b4, 0, none⟩ (.slice at_ X.tills.length ct)).setCell ⟨b4, 1, none⟩ (.slice ag X.goods.length cg)).heap.size) := hid (by simp [World.setCell])
    generalize World.setCell (World.setCell w3 _ _) _ _ = w9 at HK5 HT5 HG5 HB5 HSZ9
    have k0 : w9.cell? ⟨b4, 0, none⟩ = some (.slice at_ X.tills.length ct) := by rw [HK5.out.cell]; rfl
    have k1 : w9.cell? ⟨b4, 1, none⟩ = some (.slice ag X.goods.length cg) := by rw [HK5.out.cell]; rfl
    clear q0 q1 f0 f1
    refine bodyPost_ret (res_cell_tmp rfl _ _ _ rfl (by go_simp; rfl)) rfl ?_
    exact ⟨_, _, _, _, rfl, ⟨HT5.out, HG5.out, H.out.lt, H.out.lg⟩, HB5.out, fun k hk => ⟨by have := HLOW.out k hk; have := HB5.out.size; omega, .inl hk⟩⟩
  | some g0 =>
    rw [takeE_some hf, if_pos rfl]
    have HF := hid hf
    have HG1 := hid hi.g1
    clear hi hf
    go_enter Try.func43, Try.ntmps43
    go_upto_region 1 with fail
    generalize hw2 : World.alloc (World.alloc w _) _ = w2
    obtain ⟨bs, hbs⟩ : ∃ b, b = w.heap.size := ⟨_, rfl⟩
    obtain ⟨b4, hb4⟩ : ∃ b, b = w.heap.size + 1 := ⟨_, rfl⟩
    have hz1 : (World.alloc w (.cells #[.slice at_ X.tills.length ct, .slice ag X.goods.length cg] 46)).heap.size = w.heap.size + 1 := by simp
    try rw [hz1]
    try rw [← hb4]
    try rw [← hbs]
    have hb2 : Below w.heap.size w w2 := by rw [← hw2]; exact Below.next (Below.new _ _) (Below.new _ _)
    have HK : Hid (Blk w2 bs #[.slice at_ X.tills.length ct, .slice ag X.goods.length cg]) := hid (by rw [← hw2, hbs]; exact (Blk.new w _ _).below (Below.new _ _))
    have HK4 : Hid (Blk w2 b4 #[.slice none 0 0, .slice none 0 0]) := hid (by rw [← hw2, hb4, ← hz1]; exact Blk.new _ _ _)
    have H2 := hid (H.out.below hb2)
    have HB2 := hid hb2
    have HB4 : Hid (w.heap.size ≤ b4 ∧ b4 < w2.heap.size ∧ b4 ≠ bs) := hid (by have := HK4.out.lt; omega)
    clear hw2 hbs hb4 hz1 hb2
    have c0 : w2.cell? ⟨bs, 0, none⟩ = some (.slice at_ X.tills.length ct) := by rw [HK.out.cell]; rfl
    have c1 : w2.cell? ⟨bs, 1, none⟩ = some (.slice ag X.goods.length cg) := by rw [HK.out.cell]; rfl
    go_wp2_with fail
    refine (ref23_Find w2 H2.out k).mono ?_
    rintro e w3 ⟨r, rfl, hr, hb3⟩
    obtain ⟨i0, rfl, hat⟩ : ∃ i0 : Nat, r = (i0 : Int) ∧ X.goods[i0]? = some g0 := by
      rcases hr with ⟨i, g, q1, q2, q3⟩ | ⟨-, q⟩
      · rw [HF.out] at q3; obtain rfl := Option.some.inj q3; exact ⟨i, q1, q2⟩
      · rw [HF.out] at q; simp at q
    have HAT := hid hat
    have i00 : ¬ (i0 : Int) < 0 := by omega
    have HK3 := hid (HK.out.below hb3)
    have HK43 := hid (HK4.out.below hb3)
    have H3 := hid (H2.out.below hb3)
    have HB3 := hid (Below.next HB2.out hb3)
    have HBN : Hid (b4 < w3.heap.size) := hid HK43.out.lt
    clear hr hb3 hat c0 c1
    go_wp2_with fail
    go_loopw [7, 8] (fun vo vi wr => ∃ (j : Nat), vi = .int .i64 (j : Int) ∧ j ≤ X.goods.length ∧ Hid (wr.ownsRow w3.heap.size 81 3 vo (delG (X.goods.take j) k).length (tv (delG (X.goods.take j) k))) ∧ Hid (Below w3.heap.size w3 wr)) (fun _ vi _ => X.goods.length - (intOf vi).toNat)
    case atStart => exact ⟨0, rfl, by omega, hid (by simpa [tv, delG] using World.ownsRow_nil _ _ _ _), hid (Below.refl _ _)⟩
    case round =>
      obtain ⟨j, rfl, hj, hown, hb⟩ := hrel
      have HKR := hid (HK3.out.below hb.out)
      have HK4R := hid (HK43.out.below hb.out)
      have c0 : wr.cell? ⟨bs, 0, none⟩ = some (.slice at_ X.tills.length ct) := by rw [HKR.out.cell]; rfl
      have c1 : wr.cell? ⟨bs, 1, none⟩ = some (.slice ag X.goods.length cg) := by rw [HKR.out.cell]; rfl
      by_cases hlt : j < X.goods.length
      · have j1 : (j : Int) < (X.goods.length : Int) := by omega
        have j0 : (0 : Int) ≤ (j : Int) := by omega
        obtain ⟨a', c', e', hrd, -⟩ := H3.out.g.below hb.out
        simp only [Value.slice.injEq, true_and] at e'
        obtain ⟨rfl, rfl⟩ := e'
        obtain ⟨b0, off, x, y, z, rfl, d0, d1, d2, hatj, -, htk⟩ := hrd.triple j hlt
        have hsz := hb.out.size
        have hfl : (delG (X.goods.take j) k).length ≤ 100000 := Nat.le_trans (List.length_filter_le _ _) (by rw [List.length_take]; omega)
        clear hrd
        by_cases hij : j = i0
        · subst hij
          have hyk : y = k := by
            have h1 := HAT.out
            rw [hatj] at h1
            obtain rfl := Option.some.inj h1
            exact ((fdX_some HG1.out).1 HF.out).2
          have hw : delG (X.goods.take (j + 1)) k = delG (X.goods.take j) k := by unfold delG; rw [htk, List.filter_append]; simp [hyk]
          have HW := hid hw
          have hjj : ((j : Int) == (j : Int)) = true := by simp
          clear hw htk hyk hatj
          go_wp2
          go_roundw
          case rel => exact ⟨j + 1, by go_num, by omega, by rw [HW.out]; exact hown, hb⟩
          case measure => simp [intOf]; omega
        · have hyk : y ≠ k := by
            intro e
            have h1 := (fdX_some HG1.out).1 HF.out
            have h3 := sortK_idx kG HG1.out hatj HAT.out (by unfold kG; rw [h1.2]; exact e)
            exact hij h3
          have hw : delG (X.goods.take (j + 1)) k = delG (X.goods.take j) k ++ [(x, y, z)] := by unfold delG; rw [htk, List.filter_append]; simp [hyk]
          have HW := hid hw
          have hjj : ((j : Int) == (i0 : Int)) = false := by simp; omega
          clear hw htk hyk hatj hij
          go_wp2_with (at_builtin; refine wpList_append1w T_g3 _ rfl _ _ #[.int .i64 x, .int .i64 y, .int .i64 z] rfl w3.heap.size _ _ _ rfl hown.out rfl rfl ?c1 ?c2 ?c3 ?_)
          case c1 => exact ⟨rfl, rfl, rfl⟩
          case c2 => omega
          case c3 => omega
          intro v' w1 hown' hgrow hne hwh
          have HO : Hid (w1.ownsRow w3.heap.size 81 3 v' (delG (X.goods.take (j + 1)) k).length (tv (delG (X.goods.take (j + 1)) k))) := hid (by
            rw [HW.out, tv_append, List.length_append]; exact hown')
          have HB : Hid (Below w3.heap.size w3 w1) := hid (hb.out.grown hgrow hsz (fun j hj => (hown.out.lt j hj).1))
          clear hown' hgrow hwh hne c0 c1
          go_wp2
          go_roundw
          case rel => exact ⟨j + 1, by go_num, by omega, HO, HB⟩
          case measure => simp [intOf]; omega
      · have e1 : X.goods.take j = X.goods := List.take_of_length_le (by omega)
        rw [e1] at hown
        have j1 : ¬ (j : Int) < (X.goods.length : Int) := by omega
        obtain ⟨av, cv, rfl, hlo⟩ := owns_sl hown.out
        have HLO := hid hlo
        have HSL := hid (Sl3.of_own hown.out)
        have HR := hid (H3.out.below hb.out)
        have HBR := hid (Below.next HB3.out hb.out)
        have hdl : (delG X.goods k).length ≤ 100000 := Nat.le_trans (List.length_filter_le _ _) hlg_
        obtain ⟨N, hN⟩ : ∃ N, N = (delG X.goods k).length := ⟨_, rfl⟩
        have HNN := hid hN
        clear hlo hown e1
        rw [← hN]
        clear hN
        have q0 : wr.cell? ⟨b4, 0, none⟩ = some (.slice none 0 0) := by rw [HK4R.out.cell]; rfl
        have q1 : wr.cell? ⟨b4, 1, none⟩ = some (.slice none 0 0) := by rw [HK4R.out.cell]; rfl
        have f0 : wr.frozen? ⟨b4, 0, none⟩ = false := HK4R.out.unfrozen 0
        have f1 : wr.frozen? ⟨b4, 1, none⟩ = false := HK4R.out.unfrozen 1
        go_wp2_with fail
        have HK5 : Hid (Blk ((wr.setCell ⟨b4, 0, none⟩ (.slice at_ X.tills.length ct)).setCell ⟨b4, 1, none⟩ (.slice av N cv)) b4 #[.slice at_ X.tills.length ct, .slice av N cv]) := hid (by simpa using (HK4R.out.set 0 (.slice at_ X.tills.length ct)).set 1 (.slice av N cv))
        have HT5 := hid (((HR.out.t).set4 (b4 := b4) (i := 0) (u := .slice at_ X.tills.length ct) (fun k hk => by have := HLOW.out k (.inl hk); have := HB4.out.1; omega)).set4 (b4 := b4) (i := 1) (u := .slice av N cv) (fun k hk => by have := HLOW.out k (.inl hk); have := HB4.out.1; omega))
        have HG5 := hid (((show Sl3 wr (.slice av (delG X.goods k).length cv) (delG X.goods k) from HSL.out).set4 (b4 := b4) (i := 0) (u := .slice at_ X.tills.length ct) (fun q hq => by have := (HLO.out q hq).1; have := HBN.out; omega)).set4 (b4 := b4) (i := 1) (u := .slice av N cv) (fun q hq => by have := (HLO.out q hq).1; have := HBN.out; omega))
        have HB5 : Hid (Below w.heap.size w ((wr.setCell ⟨b4, 0, none⟩ (.slice at_ X.tills.length ct)).setCell ⟨b4, 1, none⟩ (.slice av N cv))) := hid (by
          have hb := HBR.out
          have u := (Upd.setCell wr b4 0 (.slice at_ X.tills.length ct)).trans (Upd.setCell _ b4 1 (.slice av N cv)) (fun _ _ q => q)
          exact hb.trans (u.below hb.size (fun j _ q => by have := HB4.out.1; omega)))
        have HSZ9 : Hid (wr.heap.size ≤ ((wr.setCell ⟨b4, 0, none⟩ (.slice at_ X.tills.length ct)).setCell ⟨b4, 1, none⟩ (.slice av N cv)).heap.size) := hid (by simp [World.setCell])
        generalize World.setCell (World.setCell wr _ _) _ _ = w9 at HK5 HT5 HG5 HB5 HSZ9
        have k0 : w9.cell? ⟨b4, 0, none⟩ = some (.slice at_ X.tills.length ct) := by rw [HK5.out.cell]; rfl
        have k1 : w9.cell? ⟨b4, 1, none⟩ = some (.slice av N cv) := by rw [HK5.out.cell]; rfl
        clear q0 q1 f0 f1
        refine bodyPost_ret (res_cell_tmp rfl _ _ _ rfl (by go_simp; rfl)) rfl ?_
        refine ⟨at_, ct, av, cv, by rw [HNN.out]; rfl, ⟨HT5.out, HG5.out, H.out.lt, hdl⟩, HB5.out, fun q hq => ?_⟩
        rcases hq with hq | hq
        · exact ⟨by have := HLOW.out q (.inl hq); have := HB5.out.size; omega, .inl (.inl hq)⟩
        · exact ⟨by have := (HLO.out q hq).2; have := HSZ9.out; omega, .inr (by have := (HLO.out q hq).1; have := HB3.out.size; omega)⟩
end Go.Proofs.Ytajfjgekcjkedaa
end
