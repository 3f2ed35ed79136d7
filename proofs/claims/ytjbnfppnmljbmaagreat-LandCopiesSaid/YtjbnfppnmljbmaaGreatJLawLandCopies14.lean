/- Joined texts, in this order: QuadMem, QuadSet. Each one's first remark says what it proves; no condition beyond those that its theorems name. -/
import Derived.Test.YtjbnfppnmljbmaaGreatJLawLandCopies13
section
/- A quadtree in memory: what a store on a rectangle leaves, round by round. -/
namespace Go.Proofs.YtjbnfppnmljbmaaGreat
open Go.RowKit
open Go.Lib (hid)
set_option linter.unusedVariables false

def c0S (s : Sq) : Value := if s.ks = [] then .pointer none else .pointer (some ⟨s.b, 0, none⟩)
theorem cellS_eq (s : Sq) : cellS s = [c0S s, .int .u8 s.v] := rfl
theorem c0S_leaf {s : Sq} (h : s.ks = []) : c0S s = .pointer none := by unfold c0S; rw [if_pos h]
theorem c0S_node {s : Sq} (h : s.ks ≠ []) : c0S s = .pointer (some ⟨s.b, 0, none⟩) := by unfold c0S; rw [if_neg h]
def set2 (cs : Array Value) (off : Nat) (s : Sq) : Array Value := (cs.setIfInBounds off (c0S s)).setIfInBounds (off + 1) (.int .u8 s.v)
theorem set2_get {cs : Array Value} {off : Nat} {u0 u1 : Value} (h0 : cs[off]? = some u0) (h1 : cs[off + 1]? = some u1) (s : Sq) : (set2 cs off s)[off]? = some (c0S s) ∧ (set2 cs off s)[off + 1]? = some (.int .u8 s.v) := by
  have hl : off + 1 < cs.size := (Array.getElem?_eq_some_iff.1 h1).1
  unfold set2
  constructor
  · rw [Array.getElem?_setIfInBounds_ne (by omega), Array.getElem?_setIfInBounds_self_of_lt (by omega)]
  · rw [Array.getElem?_setIfInBounds_self_of_lt (by simpa using hl)]
theorem set2_same {cs : Array Value} {off : Nat} {s : Sq} (h0 : cs[off]? = some (c0S s)) (h1 : cs[off + 1]? = some (.int .u8 s.v)) : set2 cs off s = cs := by
  apply Array.ext_getElem?
  intro i
  by_cases e1 : i = off
  · subst e1; rw [(set2_get h0 h1 s).1, h0]
  · by_cases e2 : i = off + 1
    · subst e2; rw [(set2_get h0 h1 s).2, h1]
    · unfold set2; rw [Array.getElem?_setIfInBounds_ne (by omega), Array.getElem?_setIfInBounds_ne (by omega)]
theorem set2_ptr {cs : Array Value} {off : Nat} {u0 : Value} {s : Sq} (h0 : cs[off]? = some u0) (h1 : cs[off + 1]? = some (.int .u8 s.v)) : set2 cs off s = cs.setIfInBounds off (c0S s) := by
  apply Array.ext_getElem?
  intro i
  have hl : off + 1 < cs.size := (Array.getElem?_eq_some_iff.1 h1).1
  by_cases e2 : i = off + 1
  · subst e2; rw [(set2_get h0 h1 s).2, Array.getElem?_setIfInBounds_ne (by omega), h1]
  · unfold set2; rw [Array.getElem?_setIfInBounds_ne (by omega)]
theorem set2_set2 {cs : Array Value} {off : Nat} {u0 u1 : Value} (h0 : cs[off]? = some u0) (h1 : cs[off + 1]? = some u1) (s t : Sq) : set2 (set2 cs off s) off t = set2 cs off t := by
  apply Array.ext_getElem?
  intro i
  have hg := set2_get h0 h1 s
  by_cases e1 : i = off
  · subst e1; rw [(set2_get hg.1 hg.2 t).1, (set2_get h0 h1 t).1]
  · by_cases e2 : i = off + 1
    · subst e2; rw [(set2_get hg.1 hg.2 t).2, (set2_get h0 h1 t).2]
    · unfold set2; rw [Array.getElem?_setIfInBounds_ne (by omega), Array.getElem?_setIfInBounds_ne (by omega), Array.getElem?_setIfInBounds_ne (by omega), Array.getElem?_setIfInBounds_ne (by omega), Array.getElem?_setIfInBounds_ne (by omega), Array.getElem?_setIfInBounds_ne (by omega)]
theorem list4q {α : Type} : ∀ {l : List α}, l.length = 4 → ∃ a b c d, l = [a, b, c, d]
  | [a, b, c, d], _ => ⟨a, b, c, d, rfl⟩
theorem kid_cells {ms : List Sq} (h : ms.length = 4) {i : Nat} (hi : i < 4) : (ms.flatMap cellS).toArray[i * 2]? = some (c0S (ms.getD i default)) ∧ (ms.flatMap cellS).toArray[i * 2 + 1]? = some (.int .u8 (ms.getD i default).v) := by
  obtain ⟨a, b, c, d, rfl⟩ := list4q h
  have : i = 0 ∨ i = 1 ∨ i = 2 ∨ i = 3 := by omega
  rcases this with rfl | rfl | rfl | rfl <;> exact ⟨rfl, rfl⟩
theorem kid_set {ms : List Sq} (h : ms.length = 4) {i : Nat} (hi : i < 4) (m : Sq) : set2 (ms.flatMap cellS).toArray (i * 2) m = ((ms.set i m).flatMap cellS).toArray := by
  obtain ⟨a, b, c, d, rfl⟩ := list4q h
  have : i = 0 ∨ i = 1 ∨ i = 2 ∨ i = 3 := by omega
  rcases this with rfl | rfl | rfl | rfl <;> simp [set2, cellS_eq]
def SetPost (k : Nat) (w : World) (b0 off : Nat) (cs : Array Value) (s : Sq) (X Y : Int) (r : R4) (v : Int) (e : Ending) (w' : World) : Prop :=
  ∃ s', e = .returned (.tuple #[]) ∧ SqAt k w' s' ∧ Blk w' b0 (set2 cs off s') ∧ (b0 :: blkS k s').Nodup ∧ (∀ q ∈ blkS k s', q ∈ blkS k s ∨ w.heap.size ≤ q) ∧ Upd (fun q => q = b0 ∨ q ∈ blkS k s) w w' ∧ SetOk k s s' X Y r v
def oneS (ms : List Sq) (i : Nat) : Bool := (List.range i).all fun j => decide ((ms.getD j default).ks = []) && decide ((ms.getD j default).v = (ms.getD 0 default).v)
/-- the rounds over the four children -/
structure QI (k : Nat) (w wr : World) (b0 off g : Nat) (cs : Array Value) (s : Sq) (ks ms : List Sq) (sv : Int) (X Y : Int) (r : R4) (v : Int) (i : Nat) : Prop where
  len : ms.length = 4
  blk0 : Blk wr b0 (set2 cs off ⟨g, sv, ms⟩)
  blkg : Blk wr g (ms.flatMap cellS).toArray
  kids : ∀ m ∈ ms, SqAt k wr m
  nd : (b0 :: g :: ms.flatMap (blkS k)).Nodup
  fr : ∀ q ∈ g :: ms.flatMap (blkS k), q ∈ blkS (k + 1) s ∨ w.heap.size ≤ q
  upd : Upd (fun q => q = b0 ∨ q ∈ blkS (k + 1) s) w wr
  done : ∀ j, j < i → SetOk k (ks.getD j default) (ms.getD j default) (quX X (sd k) j) (quY Y (sd k) j) r v
  rest : ∀ j, i ≤ j → j < 4 → ms.getD j default = ks.getD j default
theorem c0S_irrel {g : Nat} {sv : Int} {ms ns : List Sq} (h : ms.length = 4) (h' : ns.length = 4) : c0S ⟨g, sv, ms⟩ = c0S ⟨g, sv, ns⟩ := by
  obtain ⟨a, b, c, d, rfl⟩ := list4q h
  obtain ⟨a', b', c', d', rfl⟩ := list4q h'
  rfl
theorem QI.below {k : Nat} {w wr wx : World} {b0 off g : Nat} {cs : Array Value} {s : Sq} {ks ms : List Sq} {sv X Y : Int} {r : R4} {v : Int} {i : Nat} (h : QI k w wr b0 off g cs s ks ms sv X Y r v i) (hb : Below wr.heap.size wr wx) : QI k w wx b0 off g cs s ks ms sv X Y r v i :=
  ⟨h.len, h.blk0.below hb, h.blkg.below hb, fun m hm => (h.kids m hm).below hb, h.nd, h.fr, h.upd.trans (Upd.of_below hb) (fun _ _ q => q), h.done, h.rest⟩
theorem split_at {ms : List Sq} {i : Nat} (hi : i < ms.length) : ms = ms.take i ++ ms.getD i default :: ms.drop (i + 1) ∧ ∀ m, ms.set i m = ms.take i ++ m :: ms.drop (i + 1) := by
  have e : ms.getD i default = ms[i] := by rw [List.getD_eq_getElem?_getD, List.getElem?_eq_getElem hi]; rfl
  constructor
  · rw [e, ← List.drop_eq_getElem_cons hi, List.take_append_drop]
  · intro m; exact List.set_eq_take_append_cons_drop.trans (if_pos hi)
theorem QI.next {k : Nat} {w wr w' : World} {b0 off g : Nat} {cs : Array Value} {s : Sq} {ks ms : List Sq} {sv X Y : Int} {r : R4} {v : Int} {i : Nat} (h : QI k w wr b0 off g cs s ks ms sv X Y r v i) (hi : i < 4)
    {e : Ending} (hp : SetPost k wr g (i * 2) (ms.flatMap cellS).toArray (ms.getD i default) (quX X (sd k) i) (quY Y (sd k) i) r v e w') : e = .returned (.tuple #[]) ∧ ∃ m, QI k w w' b0 off g cs s ks (ms.set i m) sv X Y r v (i + 1) ∧ (ms.set i m).getD i default = m ∧ SqAt k w' m := by
  obtain ⟨m, h1, h2, h3, h4, h5, h6, h7⟩ := hp
  refine ⟨h1, m, ?_⟩
  have hil : i < ms.length := by rw [h.len]; exact hi
  obtain ⟨es, et⟩ := split_at hil
  have hm' := et m
  have hz := h6.size
  obtain ⟨n1, n2⟩ := List.nodup_cons.1 h.nd
  obtain ⟨n3, n4⟩ := List.nodup_cons.1 n2
  have hbl : ms.flatMap (blkS k) = (ms.take i).flatMap (blkS k) ++ (blkS k (ms.getD i default) ++ (ms.drop (i + 1)).flatMap (blkS k)) := by
    conv => lhs; rw [es]
    rw [List.flatMap_append, List.flatMap_cons]
  have hbl' : (ms.set i m).flatMap (blkS k) = (ms.take i).flatMap (blkS k) ++ (blkS k m ++ (ms.drop (i + 1)).flatMap (blkS k)) := by
    rw [hm', List.flatMap_append, List.flatMap_cons]
  rw [hbl] at n4 n3 n1
  obtain ⟨p1, p2, p3⟩ := List.nodup_append.1 n4
  obtain ⟨p4, p5, p6⟩ := List.nodup_append.1 p2
  have hlt : ∀ q ∈ ms.flatMap (blkS k), q < wr.heap.size := fun q hq => by
    obtain ⟨m', hm', hq⟩ := List.mem_flatMap.1 hq
    exact (h.kids m' hm').lt q hq
  have hgl := h.blkg.lt
  have hb0l := h.blk0.lt
  have hget : (ms.set i m).getD i default = m := by rw [List.getD_eq_getElem?_getD, List.getElem?_set_self hil]; rfl
  have hge : ∀ j, j ≠ i → (ms.set i m).getD j default = ms.getD j default := fun j hj => by rw [List.getD_eq_getElem?_getD, List.getElem?_set_ne (fun e => hj e.symm), ← List.getD_eq_getElem?_getD]
  -- the other children lie apart
  have hoth : ∀ m' ∈ ms.take i ++ ms.drop (i + 1), ∀ q ∈ blkS k m', ¬ (q = g ∨ q ∈ blkS k (ms.getD i default)) := fun m' hm' q hq z => by
    rcases List.mem_append.1 hm' with hm' | hm'
    · have hq2 : q ∈ (ms.take i).flatMap (blkS k) := List.mem_flatMap.2 ⟨m', hm', hq⟩
      rcases z with z | z
      · subst z; exact n3 (List.mem_append_left _ hq2)
      · exact p3 q hq2 q (List.mem_append_left _ z) rfl
    · have hq2 : q ∈ (ms.drop (i + 1)).flatMap (blkS k) := List.mem_flatMap.2 ⟨m', hm', hq⟩
      rcases z with z | z
      · subst z; exact n3 (List.mem_append_right _ (List.mem_append_right _ hq2))
      · exact p6 q z q hq2 rfl
  have hmem : ∀ m' ∈ ms.set i m, m' = m ∨ m' ∈ ms.take i ++ ms.drop (i + 1) := fun m' hm2 => by
    rw [hm'] at hm2
    simp only [List.mem_append, List.mem_cons] at hm2 ⊢
    rcases hm2 with q | q | q
    · exact .inr (.inl q)
    · exact .inl q
    · exact .inr (.inr q)
  have hsub : ∀ m' ∈ ms.take i ++ ms.drop (i + 1), m' ∈ ms := fun m' hm2 => by
    rcases List.mem_append.1 hm2 with q | q
    · exact List.mem_of_mem_take q
    · exact List.mem_of_mem_drop q
  refine ⟨⟨by simpa using h.len, ?_, ?_, ?_, ?_, ?_, ?_, ?_, ?_⟩, hget, h2⟩
  · have e : set2 cs off ⟨g, sv, ms.set i m⟩ = set2 cs off ⟨g, sv, ms⟩ := by
      unfold set2; rw [c0S_irrel (g := g) (sv := sv) (show (ms.set i m).length = 4 by simpa using h.len) h.len]
    rw [e]
    refine h.blk0.upd h6 (fun z => ?_)
    rcases z with z | z
    · exact n1 (by rw [z]; simp)
    · exact n1 (List.mem_cons_of_mem _ (List.mem_append_right _ (List.mem_append_left _ z)))
  · rw [← kid_set h.len hi m]; exact h3
  · intro m' hm2
    rcases hmem m' hm2 with rfl | q
    · exact h2
    · exact (h.kids m' (hsub m' q)).upd h6 (fun x hx z => hoth m' q x hx z)
  · obtain ⟨g1, g2⟩ := List.nodup_cons.1 h4
    have hnew : ∀ q ∈ blkS k m, q ∈ blkS k (ms.getD i default) ∨ wr.heap.size ≤ q := h5
    have hA : ∀ q ∈ (ms.take i).flatMap (blkS k), q < wr.heap.size := fun q hq => hlt q (by rw [hbl]; exact List.mem_append_left _ hq)
    have hB : ∀ q ∈ (ms.drop (i + 1)).flatMap (blkS k), q < wr.heap.size := fun q hq => hlt q (by rw [hbl]; exact List.mem_append_right _ (List.mem_append_right _ hq))
    rw [hbl']
    rw [List.nodup_cons, List.nodup_cons, List.nodup_append, List.nodup_append]
    refine ⟨fun z => ?_, fun z => ?_, p1, ⟨g2, p5, fun x hx y hy e => ?_⟩, fun x hx y hy e => ?_⟩
    · simp only [List.mem_cons, List.mem_append] at z n1
      rcases z with z | z | z | z
      · exact n1 (.inl z)
      · exact n1 (.inr (.inl z))
      · rcases hnew _ z with q | q
        · exact n1 (.inr (.inr (.inl q)))
        · omega
      · exact n1 (.inr (.inr (.inr z)))
    · simp only [List.mem_append] at z n3
      rcases z with z | z | z
      · exact n3 (.inl z)
      · exact g1 z
      · exact n3 (.inr (.inr z))
    · subst e
      rcases hnew x hx with q | q
      · exact p6 x q x hy rfl
      · have := hB x hy; omega
    · subst e
      rcases List.mem_append.1 hy with hy | hy
      · rcases hnew x hy with q | q
        · exact p3 x hx x (List.mem_append_left _ q) rfl
        · have := hA x hx; omega
      · exact p3 x hx x (List.mem_append_right _ hy) rfl
  · intro q hq
    rw [hbl'] at hq
    simp only [List.mem_cons, List.mem_append] at hq
    have hw := h.upd.size
    rcases hq with q1 | q1 | q1 | q1
    · exact h.fr q (by rw [q1]; simp)
    · exact h.fr q (by rw [hbl]; simp only [List.mem_cons, List.mem_append]; exact .inr (.inl q1))
    · rcases h5 q q1 with z | z
      · exact h.fr q (by rw [hbl]; simp only [List.mem_cons, List.mem_append]; exact .inr (.inr (.inl z)))
      · exact .inr (by omega)
    · exact h.fr q (by rw [hbl]; simp only [List.mem_cons, List.mem_append]; exact .inr (.inr (.inr q1)))
  · refine h.upd.trans h6 (fun q hq z => ?_)
    have hq2 : q ∈ g :: ms.flatMap (blkS k) := by
      rcases z with z | z
      · rw [z]; simp
      · rw [hbl]; simp only [List.mem_cons, List.mem_append]; exact .inr (.inr (.inl z))
    rcases h.fr q hq2 with y | y
    · exact .inr y
    · omega
  · intro j hj
    by_cases e : j = i
    · subst e
      rw [hget, ← h.rest j (Nat.le_refl _) hi]; exact h7
    · rw [hge j e]; exact h.done j (by omega)
  · intro j hj hj4
    rw [hge j (by omega)]; exact h.rest j (by omega) hj4
theorem oneS_zero (ms : List Sq) : oneS ms 0 = true := rfl
theorem oneS_succ (ms : List Sq) (i : Nat) : oneS ms (i + 1) = (oneS ms i && (decide ((ms.getD i default).ks = []) && decide ((ms.getD i default).v = (ms.getD 0 default).v))) := by
  unfold oneS; rw [List.range_succ, List.all_append]; simp
theorem oneS_set (ms : List Sq) (i : Nat) (m : Sq) (hi : 1 ≤ i) : oneS (ms.set i m) i = oneS ms i := by
  unfold oneS
  rw [Bool.eq_iff_iff, List.all_eq_true, List.all_eq_true]
  have h0 : (ms.set i m).getD 0 default = ms.getD 0 default := by rw [List.getD_eq_getElem?_getD, List.getElem?_set_ne (by omega), ← List.getD_eq_getElem?_getD]
  have hj : ∀ j ∈ List.range i, (ms.set i m).getD j default = ms.getD j default := fun j hj => by
    have : j < i := by simpa using hj
    rw [List.getD_eq_getElem?_getD, List.getElem?_set_ne (by omega), ← List.getD_eq_getElem?_getD]
  constructor
  · intro q j hjr; have := q j hjr; rw [hj j hjr, h0] at this; exact this
  · intro q j hjr; have := q j hjr; rw [hj j hjr, h0]; exact this
end Go.Proofs.YtjbnfppnmljbmaaGreat
end
section
/- Contract of quad's store of a value on a rectangle, square by square. -/
namespace Go.Proofs.YtjbnfppnmljbmaaGreat
open Go.RowKit Go.Deep
open Go.Lib (hid)
set_option linter.unusedVariables false
attribute [local go_sem] Oper.semAt_some

theorem blkS_node {k : Nat} {s : Sq} (h : s.ks ≠ []) : blkS (k + 1) s = s.b :: s.ks.flatMap (blkS k) := by unfold blkS; rw [if_neg h]
def SetSpec (k : Nat) : Prop := ∀ (s : Sq) (X Y rx ry ra rb v : Int) (w : World) (b0 off : Nat) (cs : Array Value), SqAt k w s → Blk w b0 cs → cs[off]? = some (c0S s) → cs[off + 1]? = some (.int .u8 s.v) → (b0 :: blkS k s).Nodup → OwnOk k X Y → ByteI v →
  Calls Tryz.prog 70 #[.pointer (some ⟨b0, off, none⟩), .agg #[.int .i64 X, .int .i64 Y, .int .i64 (sd k), .int .i64 (sd k)], .agg #[.int .i64 rx, .int .i64 ry, .int .i64 ra, .int .i64 rb], .int .u8 v] w (SetPost k w b0 off cs s X Y (rx, ry, ra, rb) v)
theorem SetPost.same {k : Nat} {w w' : World} {b0 off : Nat} {cs : Array Value} {s : Sq} {X Y : Int} {r : R4} {v : Int} (hs : SqAt k w s) (hb : Blk w b0 cs) (h0 : cs[off]? = some (c0S s)) (h1 : cs[off + 1]? = some (.int .u8 s.v)) (hn : (b0 :: blkS k s).Nodup) (hbw : Below w.heap.size w w') (ho : SetOk k s s X Y r v) : SetPost k w b0 off cs s X Y r v (.returned (.tuple #[])) w' :=
  ⟨s, rfl, hs.below hbw, by rw [set2_same h0 h1]; exact hb.below hbw, hn, fun q hq => .inl hq, Upd.of_below hbw, ho⟩
theorem SetPost.leaf {k : Nat} {w w1 : World} {b0 off : Nat} {cs : Array Value} {s : Sq} {X Y : Int} {r : R4} {v u : Int} (hb : Blk w b0 cs) (hbw : Below w.heap.size w w1) (hu : ByteI u) (ho : ∀ s' : Sq, s'.ks = [] → s'.v = u → SetOk k s s' X Y r v) : SetPost k w b0 off cs s X Y r v (.returned (.tuple #[])) ((w1.setCell ⟨b0, off, none⟩ (.pointer none)).setCell ⟨b0, off + 1, none⟩ (.int .u8 u)) := by
  have h1 := ((hb.below hbw).set off (.pointer none)).set (off + 1) (.int .u8 u)
  refine ⟨⟨0, u, []⟩, rfl, ?_, h1, ?_, ?_, ?_, ho _ rfl rfl⟩
  · cases k with
    | zero => exact ⟨hu, rfl⟩
    | succ k => exact ⟨hu, .inl rfl⟩
  · cases k <;> simp [blkS]
  · intro q hq; cases k <;> simp [blkS] at hq
  · exact ((Upd.of_below (S := fun q => q = b0 ∨ q ∈ blkS k s) hbw).trans (Upd.setCell w1 b0 off _) (fun _ _ q => .inl q)).trans (Upd.setCell _ b0 (off + 1) _) (fun _ _ q => .inl q)
theorem rect_QuartersS (X Y q S : Int) (hS : 2 * q = S) (w : World) (h0 : 1 ≤ q) (hX : 0 ≤ X) (hX2 : X + S ≤ 256) (hY : 0 ≤ Y) (hY2 : Y + S ≤ 256) :
    Calls Tryz.prog 97 #[.agg #[.int .i64 X, .int .i64 Y, .int .i64 S, .int .i64 S]] w fun e w' => e = .returned (quArr X Y q) ∧ Below w.heap.size w w' := by
  subst hS; exact rect_Quarters X Y q w h0 hX hX2 hY hY2
/-- where the two ways meet: a square with children -/
structure SplitI (k : Nat) (w wx : World) (b0 off g : Nat) (cs : Array Value) (s : Sq) (ks : List Sq) : Prop where
  len : ks.length = 4
  blk0 : Blk wx b0 (set2 cs off ⟨g, s.v, ks⟩)
  blkg : Blk wx g (ks.flatMap cellS).toArray
  kids : ∀ m ∈ ks, SqAt k wx m
  nd : (b0 :: g :: ks.flatMap (blkS k)).Nodup
  fr : ∀ q ∈ g :: ks.flatMap (blkS k), q ∈ blkS (k + 1) s ∨ w.heap.size ≤ q
  upd : Upd (fun q => q = b0 ∨ q ∈ blkS (k + 1) s) w wx
  was : s.ks = ks ∨ (s.ks = [] ∧ ∀ m ∈ ks, m.ks = [] ∧ m.v = s.v)
theorem SplitI.qi {k : Nat} {w wx : World} {b0 off g : Nat} {cs : Array Value} {s : Sq} {ks : List Sq} (h : SplitI k w wx b0 off g cs s ks) (X Y : Int) (r : R4) (v : Int) : QI k w wx b0 off g cs s ks ks s.v X Y r v 0 :=
  ⟨h.len, h.blk0, h.blkg, h.kids, h.nd, h.fr, h.upd, fun j hj => by omega, fun j _ _ => rfl⟩
theorem SplitI.node {k : Nat} {w wx : World} {b0 off : Nat} {cs : Array Value} {s : Sq} (hs : SqAt (k + 1) w s) (hne : s.ks ≠ []) (hb : Blk w b0 cs) (h0 : cs[off]? = some (c0S s)) (h1 : cs[off + 1]? = some (.int .u8 s.v)) (hn : (b0 :: blkS (k + 1) s).Nodup) (hbw : Below w.heap.size w wx) : SplitI k w wx b0 off s.b cs s s.ks := by
  obtain ⟨hv, h | ⟨h4, h5, h6⟩⟩ := hs
  · exact absurd h hne
  have e : blkS (k + 1) s = s.b :: s.ks.flatMap (blkS k) := blkS_node hne
  rw [e] at hn
  exact ⟨h4, by rw [set2_same (s := ⟨s.b, s.v, s.ks⟩) h0 h1]; exact hb.below hbw, h5.below hbw, fun m hm => (h6 m hm).below hbw, hn, fun q hq => .inl (by rw [e]; exact hq), Upd.of_below hbw, .inl rfl⟩
def leaf4 (u : Int) : List Sq := List.replicate 4 ⟨0, u, []⟩
theorem SplitI.leaf {k : Nat} {w w2 w3 : World} {b0 off g : Nat} {cs : Array Value} {s : Sq} (hu : ByteI s.v) (hne : s.ks = []) (hb : Blk w b0 cs) (h0 : cs[off]? = some (c0S s)) (h1 : cs[off + 1]? = some (.int .u8 s.v)) (hn : (b0 :: blkS (k + 1) s).Nodup) (hbw : Below w.heap.size w w2) (hg : Blk w3 g (leaf4 s.v |>.flatMap cellS).toArray) (hgw : w.heap.size ≤ g) (hb3 : Below w2.heap.size w2 w3) : SplitI k w (w3.setCell ⟨b0, off, none⟩ (.pointer (some ⟨g, 0, none⟩))) b0 off g cs s (leaf4 s.v) := by
  have hlt := hb.lt
  have hb4 := Below.next hbw hb3
  have hbl : (leaf4 s.v).flatMap (blkS k) = [] := by
    cases k <;> simp [leaf4, blkS, List.replicate]
  have hng : ¬ g = b0 := by omega
  refine ⟨rfl, ?_, hg.upd (Upd.setCell w3 b0 off _) hng, ?_, ?_, ?_, ?_, .inr ⟨hne, ?_⟩⟩
  · rw [set2_ptr (u0 := c0S s) (s := ⟨g, s.v, leaf4 s.v⟩) h0 h1]
    exact (hb.below hb4).set off _
  · intro m hm
    simp only [leaf4, List.mem_replicate] at hm
    rw [hm.2]
    cases k with
    | zero => exact ⟨hu, rfl⟩
    | succ k => exact ⟨hu, .inl rfl⟩
  · rw [hbl]; simp; omega
  · rw [hbl]; intro q hq; simp at hq; subst hq; exact .inr hgw
  · exact (Upd.of_below hb4).trans (Upd.setCell w3 b0 off _) (fun _ _ q => .inl q)
  · intro m hm
    simp only [leaf4, List.mem_replicate] at hm
    rw [hm.2]; exact ⟨rfl, rfl⟩
/-- all four rounds are done -/
theorem QI.all {k : Nat} {w wr : World} {b0 off g : Nat} {cs : Array Value} {s : Sq} {ks ms : List Sq} {X Y : Int} {r : R4} {v : Int} (h : QI k w wr b0 off g cs s ks ms s.v X Y r v 4) (hu : ByteI s.v) (ho : OwnOk (k + 1) X Y) (hk4 : ks.length = 4) (hw : s.ks = ks ∨ (s.ks = [] ∧ ∀ m ∈ ks, m.ks = [] ∧ m.v = s.v)) : SetPost (k + 1) w b0 off cs s X Y r v (.returned (.tuple #[])) wr := by
  have hne : ms ≠ [] := fun e => by have := h.len; rw [e] at this; simp at this
  have e : blkS (k + 1) ⟨g, s.v, ms⟩ = g :: ms.flatMap (blkS k) := blkS_node hne
  exact ⟨⟨g, s.v, ms⟩, rfl, ⟨hu, .inr ⟨h.len, h.blkg, h.kids⟩⟩, h.blk0, by rw [e]; exact h.nd, fun q hq => h.fr q (by rw [e] at hq; exact hq), h.upd, setOk_node ho hk4 h.len hw (fun i hi => h.done i hi)⟩
theorem oneS_all {ms : List Sq} (h : oneS ms 4 = true) : ∀ i, i < 4 → (ms.getD i default).ks = [] ∧ (ms.getD i default).v = (ms.getD 0 default).v := fun i hi => by
  unfold oneS at h
  have := List.all_eq_true.1 h i (by simpa using hi)
  simpa using this
theorem QI.fold {k : Nat} {w wr : World} {b0 off g : Nat} {cs : Array Value} {s : Sq} {ks ms : List Sq} {X Y : Int} {r : R4} {v : Int} (h : QI k w wr b0 off g cs s ks ms s.v X Y r v 4) (hu : ByteI s.v) (ho : OwnOk (k + 1) X Y) (hk4 : ks.length = 4) (hw : s.ks = ks ∨ (s.ks = [] ∧ ∀ m ∈ ks, m.ks = [] ∧ m.v = s.v)) (h1 : oneS ms 4 = true) {u0 u1 : Value} (hc0 : cs[off]? = some u0) (hc1 : cs[off + 1]? = some u1) :
    SetPost (k + 1) w b0 off cs s X Y r v (.returned (.tuple #[])) ((wr.setCell ⟨b0, off, none⟩ (.pointer none)).setCell ⟨b0, off + 1, none⟩ (.int .u8 (ms.getD 0 default).v)) := by
  have hm0 : ms.getD 0 default ∈ ms := by
    rw [List.getD_eq_getElem?_getD, List.getElem?_eq_getElem (by rw [h.len]; omega)]; simp
  have hall := oneS_all h1
  refine ⟨⟨0, (ms.getD 0 default).v, []⟩, rfl, ⟨(h.kids _ hm0).byte, .inl rfl⟩, ?_, by simp [blkS], fun q hq => by simp [blkS] at hq, ?_, ?_⟩
  · have h2 := (h.blk0.set off (.pointer none)).set (off + 1) (.int .u8 (ms.getD 0 default).v)
    rw [← set2_set2 hc0 hc1 ⟨g, s.v, ms⟩]
    exact h2
  · exact (h.upd.trans (Upd.setCell wr b0 off _) (fun _ _ q => .inl q)).trans (Upd.setCell _ b0 (off + 1) _) (fun _ _ q => .inl q)
  · obtain ⟨s1, -, h2, h3, h4, h5, h6, h7⟩ := h.all hu ho hk4 hw
    exact setOk_fold (s1 := ⟨g, s.v, ms⟩) ho (setOk_node ho hk4 h.len hw (fun i hi => h.done i hi)) h.len rfl (fun i hi => hall i hi)
end Go.Proofs.YtjbnfppnmljbmaaGreat
end
