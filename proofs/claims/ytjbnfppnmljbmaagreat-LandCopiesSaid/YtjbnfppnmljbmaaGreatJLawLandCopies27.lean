/- Joined texts, in this order: LandIter, Law19Same. Each one's first remark says what it proves; no condition beyond those that its theorems name. -/
import Derived.Test.YtjbnfppnmljbmaaGreatJLawLandCopies21
import Derived.Test.YtjbnfppnmljbmaaGreatJLawLandCopies26
import Derived.Test.YtjbnfppnmljbmaaGreatJLawLandCopies25
section
/- Land's iterator: All. -/
namespace Go.Proofs.YtjbnfppnmljbmaaGreat
open Go.RowKit
open Go.Lib (hid)
set_option linter.unusedVariables false
attribute [local go_sem] Oper.semAt_some

theorem wpListIn_lookL {F : Fence} {nF : Nat} {P : Program} (w : World) {ops : Array Oper} {rest : List Oper} {o : Oper} {a : Act} {Q : Exit → Act → World → Prop} {t kt et : TypeId} {b : Nat} {m : List (Int × Value)} (hg : o.guard = none) (mo x : Operand) (hop : o.op = Op.lookup t mo x false) (ht : P.underlying t = some (.map kt et)) (hk : P.underlying kt = some (.int .i64)) (z : Value) (hz : ∀ w, (zeroValue et).run P w = .ok z w)
    (hm : a.eval mo = .map (some b)) (h : MapE w b m) (k : Int) (hx : a.eval x = .int .i64 k) (r : Value) (hr : Hid ((m.lookup k).getD z = r))
    (hK : wpListIn F nF P ops Q rest (a.put o.dst r) w) : wpListIn F nF P ops Q (o :: rest) a w := by
  refine wpListIn_plain hg fun K' hK' => ?_
  have hrun := h.run_lookup ht hk z (hz w) k false
  unfold Oper.wpIn
  refine ⟨by simp [Oper.about, hop], ?_⟩
  rw [Oper.semAt_plain F _ _ (by rw [hop]; intro c hc'; cases hc')]
  simp [execOp, hop, hm, hx, hrun, Result.andThen]
  exact hK' _ _ (by rw [hr.out]; exact hK)
theorem sortK_extP {α : Type} (key : α → Int) : ∀ {l m : List α}, SortK key l → SortK key m → (∀ x, x ∈ l ↔ x ∈ m) → l = m
  | [], [], _, _, _ => rfl
  | [], y :: m, _, _, h => by have := (h y).2 (by simp); simp at this
  | x :: l, [], _, _, h => by have := (h x).1 (by simp); simp at this
  | x :: l, y :: m, hl, hm, h => by
    have h1 := List.pairwise_cons.1 hl
    have h2 := List.pairwise_cons.1 hm
    have hxy : x = y := by
      rcases List.mem_cons.1 ((h x).1 (by simp)) with e | e
      · exact e
      · rcases List.mem_cons.1 ((h y).2 (by simp)) with e2 | e2
        · exact e2.symm
        · have a := h2.1 x e
          have b := h1.1 y e2
          omega
    subst hxy
    rw [sortK_extP key h1.2 h2.2 (fun z => ?_)]
    constructor
    · intro hz
      rcases List.mem_cons.1 ((h z).1 (by simp [hz])) with e | e
      · subst e; have := h1.1 z hz; omega
      · exact e
    · intro hz
      rcases List.mem_cons.1 ((h z).2 (by simp [hz])) with e | e
      · subst e; have := h2.1 z hz; omega
      · exact e
def keyI (x : Int) : Int := x
theorem keysP_of {M P : List Pl} (hp : M.Perm P) (hs : SortK keyP P) : keysL (mapR M) = P.map (·.1) := by
  have hperm : (keysL (mapR M)).Perm (P.map (·.1)) := by
    refine (List.mergeSort_perm _ _).trans ?_
    unfold mapR
    rw [List.map_map]
    exact hp.map (·.1)
  have hnd : (P.map (·.1)).Nodup := SortK.nodup keyP hs
  have h1 : (keysL (mapR M)).Pairwise (fun a b => decide (a ≤ b) = true) := List.pairwise_mergeSort (fun a b c h1 h2 => by simp at *; omega) (fun a b => by simp; omega) _
  have h2 : (keysL (mapR M)).Nodup := hperm.nodup_iff.2 hnd
  refine sortK_extP keyI ?_ ?_ (fun x => hperm.mem_iff)
  · unfold SortK
    refine (h1.and h2).imp ?_
    intro a b h
    have := h.1
    have := h.2
    simp only [keyI]
    simp at *
    omega
  · unfold SortK
    rw [List.pairwise_map]
    exact hs
theorem KeepQ.cell {n0 B : Nat} {W W' : World} (h : KeepQ n0 B W W') {a : Addr} {v : Value} (hB : B ≤ a.block) (hc : W.cell? a = some v) : W'.cell? a = some v := by
  unfold World.cell? at hc ⊢
  cases ho : W.heap[a.block]? with
  | none => rw [ho] at hc; simp at hc
  | some o =>
    have hcell : o.isCells = true := by
      rw [ho] at hc
      cases o <;> simp_all [Obj.isCells]
    rw [h.cells a.block o hB ho hcell]
    rw [ho] at hc
    exact hc
theorem KeepQ.land {n0 B : Nat} {W W' : World} (h : KeepQ n0 B W W') {l : Nat} {F : Nat → Prop} {k : Nat} {Bs : List R4} {P : List Pl} (hx : LandIs W l F k Bs P) (hF : ∀ b, F b → b < n0) : LandIs W' l F k Bs P :=
  hx.upd h.upd (fun b q y => by have := hF b y; omega)
/-- the numbers that a sorted row has -/
def IdsP (B : Nat) (W : World) (a : Option Addr) (L : List Pl) : Prop := ∀ j x, L[j]? = some x → ∃ g off, a = some ⟨g, off, none⟩ ∧ B ≤ g ∧ W.cell? ⟨g, off + j, none⟩ = some (.int .i64 x.1)
theorem IdsP.keep {n0 B : Nat} {W W' : World} (h : KeepQ n0 B W W') {a : Option Addr} {L : List Pl} (hi : IdsP B W a L) : IdsP B W' a L := fun j x hx => by
  obtain ⟨g, off, h1, h2, h3⟩ := hi j x hx
  exact ⟨g, off, h1, h2, h.cell h2 h3⟩
theorem LandIs.lookP {w : World} {l : Nat} {F : Nat → Prop} {k : Nat} {B : List R4} {P : List Pl} (h : LandIs w l F k B P) : ∃ mb M, MapE w mb (mapR M) ∧ M.Perm P ∧ w.cell? ⟨l, 2, none⟩ = some (.map (some mb)) ∧ ∀ id, ((mapR M).lookup id).getD (.agg #[.int .i64 0, .int .i64 0, .int .i64 0, .int .i64 0]) = rV ((P.lookup id).getD zR) := by
  obtain ⟨q, t, mb, Fq, Ft, s, M, h⟩ := h
  exact ⟨mb, M, h.map, h.perm, h.c3.2.2, fun id => (h.look id).1⟩
set_option maxRecDepth 100000 in
set_option maxHeartbeats 4000000 in
theorem all1_P (n : Nat) (hn : 1 ≤ n) (l bT s n0 B k : Nat) (F : Nat → Prop) (Bs : List R4) (P : List Pl) (J Jx : List Pl → World → Prop) (W : World)
    (hY : ∀ pre x W1, J pre W1 → pre.length < P.length → YieldAt Fence.wide (n - 1) Tryz.prog l #[.int .i64 x.1, rV x.2] W1 fun e W' => (e = .returned (.bool true) ∧ J (pre ++ [x]) W' ∧ KeepQ n0 B W1 W') ∨ (e = .returned (.bool false) ∧ Jx (pre ++ [x]) W'))
    (hJ : AbidesFrom W.heap.size J) (hB : B ≤ W.heap.size) (hn0 : n0 ≤ B)
    (hT : Blk W bT #[.pointer (some ⟨s, 0, none⟩)]) (hTn : bT < n0 ∨ B ≤ bT)
    (hX : LandIs W s F k Bs P) (hF : ∀ b, F b → b < n0) (h0 : J [] W) (hwf : ∀ p ∈ P, (Lit.int .i64 p.1).wf = true) :
    CallsIn Fence.wide n Tryz.prog 61 #[.func (.yield l) #[] #[], .pointer (some ⟨bT, 0, none⟩)] W fun e W' => (∃ v, e = .returned v) ∧ ((∃ ys, ys = P ∧ J ys W') ∨ (∃ pre, pre <+: P ∧ Jx pre W')) := by
  obtain ⟨mb, M, hm, hp, c2, -⟩ := hX.lookP
  have t0 : W.cell? ⟨bT, 0, none⟩ = some (.pointer (some ⟨s, 0, none⟩)) := by rw [hT.cell]; rfl
  have HM := hid hm
  have HWF : Hid (∀ p ∈ mapR M, (Lit.int .i64 p.1).wf = true) := hid (fun p hpm => by
    obtain ⟨x, hx, rfl⟩ := List.mem_map.1 hpm
    exact hwf x (hp.mem_iff.1 hx))
  have HLEN : Hid ((mapR M).length ≤ 1000000) := hid (by unfold mapR; rw [List.length_map, hp.length_eq]; have := hX.inv.len; omega)
  obtain ⟨N, hN⟩ : ∃ N, P.length = N := ⟨_, rfl⟩
  have HN := hid hN
  have HN2 : Hid (N ≤ 256) := hid (by have := hX.inv.len; omega)
  have HKEY : Hid (keysL (mapR M) = P.map (·.1)) := hid (keysP_of hp hX.inv.sorted)
  clear hm hp hwf
  refine callsIn_of_wp Tryz.func61 rfl trivial ?_ rfl
  simp only [Tryz.ntmps61, List.size_toArray, List.length_cons, List.length_nil, Nat.reduceAdd, Nat.reduceSub, Array.replicate_succ, Array.replicate_zero, List.push_toArray, List.append_toArray, List.nil_append, List.cons_append]
  gi_wp2_with (first | (refine ⟨trivial, ?_⟩; gi_at_call 63; refine (callsIn_wide.2 (keys_LR (some mb) _)).mono ?_; rintro e w' ⟨rfl, rfl⟩) | (refine ⟨trivial, ?_⟩; gi_at_call 62; refine (callsIn_wide.2 (sorted_LR mb _ W HM.out HWF.out HLEN.out)).mono ?_; rintro e w2 ⟨v, rfl, hown, hbW⟩; rw [HKEY.out, List.length_map, HN.out] at hown; obtain ⟨av, cv, rfl, -, -, hrd, -⟩ := ownsRow.rd hown))
  have hids : IdsP B w2 av P := fun j x hx => by
    obtain ⟨g, off, ha, hc⟩ := hrd j (by rw [List.length_map, List.length_map]; exact (List.getElem?_eq_some_iff.1 hx).1)
    refine ⟨g, off, ha, ?_, ?_⟩
    · have h1 := hown.lt g (by rw [ha]; rfl)
      omega
    · rw [hc, List.getElem?_map, List.getElem?_map, hx]; rfl
  have hJ2 : J [] w2 := hJ _ _ _ none h0 (grown_belowR hbW) (fun r e => by cases e)
  have hX2 := hX.below hbW
  have hT2 := hT.below hbW
  have hz2 := hbW.size
  clear hown hrd hbW t0 c2 h0 hX hT
  gi_loopw [12] (fun v14 wr => ∃ k1 : Nat, v14 = .int .i64 (k1 : Int) ∧ k1 ≤ N ∧ Hid (J (P.take k1) wr ∧ LandIs wr s F k Bs P ∧ Blk wr bT #[.pointer (some ⟨s, 0, none⟩)] ∧ IdsP B wr av P ∧ W.heap.size ≤ wr.heap.size)) (fun v14 _ => N - (intOf v14).toNat)
  case atStart => exact ⟨0, rfl, by omega, hid ⟨hJ2, hX2, hT2, hids, hz2⟩⟩
  case round =>
    clear hJ2 hX2 hT2 hids hz2
    obtain ⟨j, rfl, hk, HR⟩ := hrel
    by_cases hlt : j < N
    · have k1 : (j : Int) < (N : Int) := by omega
      have k0 : (0 : Int) ≤ (j : Int) := by omega
      have hk63 : (j : Int) ≤ 900 := by have := HN2.out; omega
      obtain ⟨x, hx⟩ : ∃ x, P[j]? = some x := ⟨_, List.getElem?_eq_getElem (by have := HN.out; omega)⟩
      obtain ⟨g, off, rfl, hBg, d0⟩ := HR.out.2.2.2.1 j x hx
      have t0 : wr.cell? ⟨bT, 0, none⟩ = some (.pointer (some ⟨s, 0, none⟩)) := by rw [HR.out.2.2.1.cell]; rfl
      obtain ⟨mb', M', hm', hp', c2, hlk⟩ := HR.out.2.1.lookP
      have HM' := hid hm'
      have HLK : Hid (((mapR M').lookup x.1).getD (.agg #[.int .i64 0, .int .i64 0, .int .i64 0, .int .i64 0]) = rV x.2) := hid (by rw [hlk, (lookup_mem_iff (SortK.nodup keyP HR.out.2.1.inv.sorted)).2 (List.mem_of_getElem? hx)]; rfl)
      have HTK : Hid (P.take (j + 1) = P.take j ++ [x]) := hid (by
        obtain ⟨h1, h2⟩ := List.getElem?_eq_some_iff.1 hx
        rw [List.take_succ_eq_append_getElem h1, h2])
      have HPX : Hid ((P.take j).length < P.length) := hid (by rw [List.length_take]; have := HN.out; omega)
      have HPF : Hid (P.take (j + 1) <+: P) := hid (List.take_prefix _ _)
      have hy := hY (P.take j) x wr HR.out.1 HPX.out
      obtain ⟨xi, x1, x2, x3, x4⟩ := x
      simp only [rV] at d0 HLK hy
      obtain ⟨fn, tmps, assign, body, hy, hR⟩ := hy
      clear hx hm' hp' hlk
      gi_wp2_with (gi_at_lookup; refine wpListIn_lookL _ rfl _ _ rfl Tryz.underlying74 Tryz.underlying3 _ zero_rect rfl HM'.out xi rfl _ HLK ?_)
      have HQ4 : Hid (LandIs wr s F k Bs P ∧ Blk wr bT #[.pointer (some ⟨s, 0, none⟩)] ∧ IdsP B wr (some ⟨g, off, none⟩) P ∧ W.heap.size ≤ wr.heap.size) := hid HR.out.2
      clear hy t0 d0 c2
      refine hR.mono ?_
      clear hR
      rintro e W3 (⟨rfl, hJ3, hk3⟩ | ⟨rfl, hJx3⟩)
      · have HR3 : Hid (J (P.take (j + 1)) W3 ∧ LandIs W3 s F k Bs P ∧ Blk W3 bT #[.pointer (some ⟨s, 0, none⟩)] ∧ IdsP B W3 (some ⟨g, off, none⟩) P ∧ W.heap.size ≤ W3.heap.size) := hid ⟨by rw [HTK.out]; exact hJ3, hk3.land HQ4.out.1 hF, hTn.elim (fun z => hk3.blkLow z HQ4.out.2.1) (fun z => hk3.blk z HQ4.out.2.1), HQ4.out.2.2.1.keep hk3, by have := HQ4.out.2.2.2; have := hk3.size; omega⟩
        clear hJ3 hk3
        gi_wp2
        go_roundw
        case rel => exact ⟨j + 1, by go_num, by omega, HR3⟩
        case measure => simp [intOf]; omega
      · have HJX : Hid (Jx (P.take (j + 1)) W3) := hid (by rw [HTK.out]; exact hJx3)
        clear hJx3
        gi_wp2
        refine bodyPost_ret (results_none rfl _ _ _) rfl ?_
        exact ⟨⟨_, rfl⟩, .inr ⟨_, HPF.out, HJX.out⟩⟩
    · have k1 : ¬ (j : Int) < (N : Int) := by omega
      have HJE : Hid (J P wr) := hid (by
        have := HR.out.1
        rw [List.take_of_length_le (by have := HN.out; omega)] at this
        exact this)
      gi_wp2
      go_end0
      exact ⟨⟨_, rfl⟩, .inl HJE.out⟩
set_option maxRecDepth 100000 in
theorem land_All (w : World) (s : Nat) :
    Calls Tryz.prog 42 #[.pointer (some ⟨s, 0, none⟩)] w fun e w' => ∃ bT, e = .returned (.func (.func 61) #[] #[.pointer (some ⟨bT, 0, none⟩)]) ∧ Blk w' bT #[.pointer (some ⟨s, 0, none⟩)] ∧ w.heap.size ≤ bT ∧ Below w.heap.size w w' := by
  go_enter Tryz.func42, Tryz.ntmps42
  go_wp2_with fail
  go_ret
  exact ⟨w.heap.size, rfl, Blk.new w _ _, Nat.le_refl _, Below.new _ _⟩
theorem stops_allP (bT s n0 B k : Nat) (F : Nat → Prop) (Bs : List R4) (P : List Pl) (w0 : World) (hn0 : n0 ≤ B) (hB : B ≤ w0.heap.size)
    (hT : Blk w0 bT #[.pointer (some ⟨s, 0, none⟩)]) (hTn : bT < n0 ∨ B ≤ bT) (hX : LandIs w0 s F k Bs P) (hF : ∀ b, F b → b < n0) (hwf : ∀ p ∈ P, (Lit.int .i64 p.1).wf = true) :
    SeqStopsK Fence.wide 4 Tryz.prog 61 #[.pointer (some ⟨bT, 0, none⟩)] (fun x : Pl => #[.int .i64 x.1, rV x.2]) (KeepQ n0 B) (fun ys => ys = P) (fun pre => pre <+: P) P.length w0 := fun l J Jx W hW hJ _ hY h0 =>
  all1_P 4 (by omega) l bT s n0 B k F Bs P J Jx W hY (fun pre W1 W2 row h hg hr => hJ pre W1 W2 row h hg hr) (Nat.le_trans hB hW.size) hn0 (hT.below hW) hTn (hX.below hW) hF h0 hwf
end Go.Proofs.YtjbnfppnmljbmaaGreat
end
section
/- Law 19: same. -/
namespace Go.Proofs.YtjbnfppnmljbmaaGreat
open Go.RowKit Go.Deep
open Go.Lib (hid)
set_option linter.unusedVariables false
attribute [local go_sem] Oper.semAt_some

theorem areaX_snoc (P : List Pl) (p : Pl) : areaX (P ++ [p]) = areaX P + areaN p.2 := by unfold areaX; simp
theorem Blk.c1v {w : World} {g : Nat} {c0 : Value} (h : Blk w g #[c0]) : w.cell? ⟨g, 0, none⟩ = some c0 := by rw [h.cell]; rfl
theorem prefix_snocL {α : Type} {pre L : List α} {x y : α} (h : pre <+: L) (hy : L[pre.length]? = some y) : pre ++ [x] <+: L ↔ x = y := by
  obtain ⟨r, rfl⟩ := h
  rw [List.prefix_append_right_inj]
  rw [List.getElem?_append_right (Nat.le_refl _), Nat.sub_self] at hy
  cases r with
  | nil => simp at hy
  | cons z r =>
    simp at hy
    subst hy
    simp [List.cons_prefix_cons]
theorem ite5 {β : Type} {a0 a1 a2 a3 a4 b0 b1 b2 b3 b4 : Int} {t f : β} (h : ¬ ((a0, a1, a2, a3, a4) : Pl) = (b0, b1, b2, b3, b4)) :
    (if b0 = a0 then if b1 = a1 then if b2 = a2 then if b3 = a3 then if b4 = a4 then t else f else f else f else f else f) = f := by
  simp only [Prod.mk.injEq] at h
  by_cases h1 : a0 = b0 <;> by_cases h2 : a1 = b1 <;> by_cases h3 : a2 = b2 <;> by_cases h4 : a3 = b3 <;> by_cases h5 : a4 = b4 <;> simp [h1, h2, h3, h4, h5, eq_comm] at h ⊢
set_option maxRecDepth 100000 in
set_option maxHeartbeats 8000000 in
theorem law19_same0 (S : Int) (sa ap : Option Addr) (nb cb cp : Nat) (k : Nat) (B : List R4) (P : List Pl) (s : Nat) (F : Nat → Prop) (w : World) (h : BothL w s F k B (.slice sa nb cb) (.slice ap P.length cp) P) (hS : sd k = S) (hwf : KeyWf P) (hFl : ∀ b, F b → b < w.heap.size) :
    Calls Tryz.prog 23 #[.pointer (some ⟨s, 0, none⟩), .agg #[.int .i64 S, .slice sa nb cb, .slice ap P.length cp]] w fun e w' => e = .returned (.bool true) ∧ Below w.heap.size w w' := by
  have HH := hid h
  have HSD := hid hS
  have HWF := hid hwf
  have HFL := hid hFl
  have hlen : P.length ≤ 256 := h.land.inv.len
  have HLEN := hid hlen
  obtain ⟨np, hnp⟩ : ∃ np, P.length = np := ⟨_, rfl⟩
  rw [hnp] at hlen ⊢
  have HNP := hid hnp
  clear h hS hwf hFl hnp
  refine (callsIn_wide (n := 5)).1 ?_
  refine callsIn_of_wp_marks Tryz.func23 rfl trivial ?_ rfl
  simp only [Tryz.ntmps23, List.size_toArray, List.length_cons, List.length_nil, Nat.reduceAdd, Nat.reduceSub, Array.replicate_succ, Array.replicate_zero, List.push_toArray, List.append_toArray, List.nil_append, List.cons_append]
  gi_wp2_with (refine ⟨trivial, ?_⟩; refine (callsIn_wide.2 (land_All _ s)).mono ?_; rintro e w1 ⟨bT, rfl, hT, hT2, hb⟩)
  obtain ⟨w2, hw2⟩ : ∃ w2, w2 = (((w.alloc (.cells #[.int .i64 S, .slice sa nb cb, .slice ap np cp] 32)).alloc (.cells #[.bool false] 4)).alloc (.cells #[.int .i64 0] 3)).alloc (.cells #[.int .i64 0] 3) := ⟨_, rfl⟩
  rw [← hw2] at hb hT2
  obtain ⟨b6, hb6⟩ : ∃ z, z = w.heap.size + 1 + 1 + 1 := ⟨_, rfl⟩
  obtain ⟨b5, hb5⟩ : ∃ z, z = w.heap.size + 1 + 1 := ⟨_, rfl⟩
  obtain ⟨b4, hb4⟩ : ∃ z, z = w.heap.size + 1 := ⟨_, rfl⟩
  obtain ⟨b3, hb3⟩ : ∃ z, z = w.heap.size := ⟨_, rfl⟩
  have hz1 : (World.alloc w (.cells #[.int .i64 S, .slice sa nb cb, .slice ap np cp] 32)).heap.size = w.heap.size + 1 := by simp
  have hz2 : (World.alloc (World.alloc w (.cells #[.int .i64 S, .slice sa nb cb, .slice ap np cp] 32)) (.cells #[.bool false] 4)).heap.size = w.heap.size + 1 + 1 := by simp
  have hz3 : (World.alloc (World.alloc (World.alloc w (.cells #[.int .i64 S, .slice sa nb cb, .slice ap np cp] 32)) (.cells #[.bool false] 4)) (.cells #[.int .i64 0] 3)).heap.size = w.heap.size + 1 + 1 + 1 := by simp
  try rw [← hb6]
  try rw [← hb5]
  try rw [← hb4]
  try rw [← hb3]
  have hb2 : Below w.heap.size w w2 := by rw [hw2]; exact Below.next (Below.next (Below.next (Below.new _ _) (Below.new _ _)) (Below.new _ _)) (Below.new _ _)
  have HK3 : Hid (Blk w1 b3 #[.int .i64 S, .slice sa nb cb, .slice ap np cp]) := hid ((show Blk w2 b3 #[.int .i64 S, .slice sa nb cb, .slice ap np cp] by rw [hw2, hb3]; exact (((Blk.new _ _ _).below (Below.new _ _)).below (Below.new _ _)).below (Below.new _ _)).below hb)
  have HK4 : Hid (Blk w1 b4 #[.bool false]) := hid ((show Blk w2 b4 #[.bool false] by rw [hw2, hb4, ← hz1]; exact ((Blk.new _ _ _).below (Below.new _ _)).below (Below.new _ _)).below hb)
  have HK5 : Hid (Blk w1 b5 #[.int .i64 ((0 : Nat) : Int)]) := hid ((show Blk w2 b5 #[.int .i64 0] by rw [hw2, hb5, ← hz2]; exact (Blk.new _ _ _).below (Below.new _ _)).below hb)
  have HK6 : Hid (Blk w1 b6 #[.int .i64 ((0 : Nat) : Int)]) := hid ((show Blk w2 b6 #[.int .i64 0] by rw [hw2, hb6, ← hz3]; exact Blk.new _ _ _).below hb)
  have HB1 := hid (Below.next hb2 hb)
  have HZ : Hid (b3 = w.heap.size ∧ b4 = w.heap.size + 1 ∧ b5 = w.heap.size + 2 ∧ b6 = w.heap.size + 3 ∧ b6 < w1.heap.size ∧ b6 < w2.heap.size) := hid (by have := HK6.out.lt; have : w2.heap.size = w.heap.size + 4 := (by rw [hw2]; simp); omega)
  have HT1 := hid (HH.out.below HB1.out)
  have HTI := hid hT
  have HTB := hid hT2
  have HS2 : Hid (w.heap.size ≤ w2.heap.size ∧ w2.heap.size ≤ w1.heap.size) := hid ⟨hb2.size, hb.size⟩
  clear hw2 hb hb3 hb4 hb5 hb6 hz1 hz2 hz3 hb2 hT hT2
  have hl1 : w1.heap.size ≤ w1.heap.size := Nat.le_refl _
  refine wpIn_rangeFunc_ownH (F := Fence.wide) (n := 5) (α := Pl) rfl (by omega) (gf := 61) (lb := #[.pointer (some ⟨bT, 0, none⟩)]) rfl trivial (enters_of Tryz.func61 (by kernel_rfl) rfl)
    (stops_allP bT s w.heap.size w2.heap.size k F B P w1 HS2.out.1 HS2.out.2 HTI.out (.inr HTB.out) HT1.out.land (fun b hb => by have := HFL.out b hb; omega) HWF.out)
    (fun h k => h.trans k) (fun W l o o' hlo ho hc _ => KeepQ.put HS2.out.1 W l o o' (Nat.le_trans HS2.out.2 hlo) ho hc) (Below.refl _ _) (fun _ => rfl)
    (fun pre W => (Blk W b3 #[.int .i64 S, .slice sa nb cb, .slice ap np cp] ∧ Blk W b4 #[.bool false] ∧ Blk W b5 #[.int .i64 (pre.length : Int)] ∧ Blk W b6 #[.int .i64 (areaX pre : Int)] ∧ pre <+: P) ∧ Below w.heap.size w W ∧ w1.heap.size ≤ W.heap.size)
    (fun c pre W => c = .ret ∧ ¬ (pre <+: P))
    ?hI ?hIx ?h0
    (fun z a' W => ∃ Bx, w1.heap.size ≤ Bx ∧ Blk W Bx #[.int .i64 z.2.1, .int .i64 z.2.2.1, .int .i64 z.2.2.2.1, .int .i64 z.2.2.2.2] ∧ a' = { tmps := #[.pointer (some ⟨s, 0, none⟩), .agg #[.int .i64 S, .slice sa nb cb, .slice ap np cp], undef, .pointer (some ⟨b3, 0, none⟩), .pointer (some ⟨b4, 0, none⟩), .pointer (some ⟨b5, 0, none⟩), .pointer (some ⟨b6, 0, none⟩), .int .i64 z.1, .pointer (some ⟨Bx, 0, none⟩), .pointer (some ⟨s, 0, none⟩), .func (.func 61) #[] #[.pointer (some ⟨bT, 0, none⟩)], .int .i64 z.1, rV z.2, undef, undef, undef, undef, undef, undef, undef, undef, undef, undef, undef, undef, undef, undef, undef, undef, undef, undef, undef, undef, undef, undef, undef, undef, undef, undef, undef, undef, undef, undef, undef, undef, undef, undef, undef, undef, undef, undef, undef, undef, undef, undef, undef, undef, undef, undef, undef, undef, undef, undef], defers := [] })
    ?hAx ?assign ?body ?done ?stop
  case hI =>
    rintro pre W W' row ⟨⟨h1, h2, h3, h4, h5⟩, hb, hz⟩ hg hr
    exact ⟨⟨own_blkR hg hr h1, own_blkR hg hr h2, own_blkR hg hr h3, own_blkR hg hr h4, h5⟩, hb.grown hg hb.size (fun j hj => by have := (hr j hj).1; have := HB1.out.size; omega), Nat.le_trans hz hg.size⟩
  case hIx =>
    rintro c pre W W' row h1 hg hr
    exact h1
  case h0 => exact ⟨⟨HK3.out, HK4.out, HK5.out, HK6.out, List.nil_prefix⟩, HB1.out, Nat.le_refl _⟩
  case hAx =>
    rintro x a' u W W' row ⟨Bx, h1, h2, h3⟩ hg hr
    exact ⟨Bx, h1, own_blkR hg hr h2, h3⟩
  case assign =>
    rintro l pre ⟨zi, zx, zy, za, zb⟩ W K hI hK
    simp only [rV] at hK ⊢
    gi_wp2
    have hb := Below.new W (.cells #[.int .i64 zx, .int .i64 zy, .int .i64 za, .int .i64 zb] 25)
    exact hK _ _ ((KeepsOthers.alloc _ _).from _) (KeepQ.of_below hb (by have := hI.2.2; have := HB1.out.size; omega))
      ⟨⟨hI.1.1.below hb, hI.1.2.1.below hb, hI.1.2.2.1.below hb, hI.1.2.2.2.1.below hb, hI.1.2.2.2.2⟩, Below.next hI.2.1 hb, by have := hI.2.2; have := hb.size; omega⟩ ⟨W.heap.size, hI.2.2, Blk.new _ _ _, rfl⟩
  case body =>
    rintro l pre ⟨zi, zx, zy, za, zb⟩ a' W hl hrec hI ⟨Bx, hBx, hkx, rfl⟩ hlen2
    simp only [rV]
    simp only at hkx
    have HI2 := hid hI
    have HKX := hid hkx
    have HBX := hid hBx
    obtain ⟨a3, c3, e3, hrd, -⟩ := (HH.out.below hI.2.1).pl
    simp only [Value.slice.injEq] at e3
    obtain ⟨rfl, -, rfl⟩ := e3
    obtain ⟨b0, off, y, rfl, d0, d1, d2, d3, d4, hat, -, -⟩ := hrd.fiveP pre.length hlen2
    have HPS := hid (prefix_snocL (x := ((zi, zx, zy, za, zb) : Pl)) hI.1.2.2.2.2 hat)
    have HYM := hid (List.mem_of_getElem? hat)
    obtain ⟨yi, y1, y2, y3, y4⟩ := y
    simp only at d0 d1 d2 d3 d4
    obtain ⟨x0, x1, x2, x3⟩ := hkx.c4r
    have k3 := hI.1.1.c3v.2.2
    have k4 := hI.1.2.1.c1v
    have k5 := hI.1.2.2.1.c1v
    have k6 := hI.1.2.2.2.1.c1v
    obtain ⟨i, hi⟩ : ∃ i, pre.length = i := ⟨_, rfl⟩
    obtain ⟨A, hA⟩ : ∃ A, areaX pre = A := ⟨_, rfl⟩
    rw [hi] at k5 d0 d1 d2 d3 d4
    rw [hA] at k6
    have HII := hid (And.intro hi hA)
    have i1 : (i : Int) < (np : Int) := by have := HNP.out; omega
    have i0 : (0 : Int) ≤ (i : Int) := by omega
    have i3 : decide (np ≤ i) = false := decide_eq_false (by omega)
    have i4 : i < np := by omega
    have i5 : (i : Int) ≤ 256 := by have := HLEN.out; have := HNP.out; omega
    clear hi hA hat hrd hI hkx hBx hlen2
    gi_wp2
    replace x0 := fun (z : World) (hz : Below W.heap.size W z) => cellOf_belowR hz x0
    replace x1 := fun (z : World) (hz : Below W.heap.size W z) => cellOf_belowR hz x1
    replace x2 := fun (z : World) (hz : Below W.heap.size W z) => cellOf_belowR hz x2
    replace x3 := fun (z : World) (hz : Below W.heap.size W z) => cellOf_belowR hz x3
    replace k3 := fun (z : World) (hz : Below W.heap.size W z) => cellOf_belowR hz k3
    replace k5 := fun (z : World) (hz : Below W.heap.size W z) => cellOf_belowR hz k5
    replace k6 := fun (z : World) (hz : Below W.heap.size W z) => cellOf_belowR hz k6
    replace d0 := fun (z : World) (hz : Below W.heap.size W z) => cellOf_belowR hz d0
    replace d1 := fun (z : World) (hz : Below W.heap.size W z) => cellOf_belowR hz d1
    replace d2 := fun (z : World) (hz : Below W.heap.size W z) => cellOf_belowR hz d2
    replace d3 := fun (z : World) (hz : Below W.heap.size W z) => cellOf_belowR hz d3
    replace d4 := fun (z : World) (hz : Below W.heap.size W z) => cellOf_belowR hz d4
    have hyd := (Below.refl W.heap.size W).drew
    by_cases hq : ((zi, zx, zy, za, zb) : Pl) = (yi, y1, y2, y3, y4)
    · simp only [Prod.mk.injEq] at hq
      obtain ⟨rfl, rfl, rfl, rfl, rfl⟩ := hq
      refine wpIn_region_kept [] (fun z => Below W.heap.size W z) (by kernel_rfl) (by assumption) (fun hH => ?_)
      refine wpK.take (i := 0) (v := _) (by simp only [List.getElem?_toArray, List.getElem?_cons_succ, List.getElem?_cons_zero]; rfl) (by kernel_rfl) (by kernel_rfl) (by kernel_rfl) (by kernel_rfl) (by kernel_rfl) (by exact fun _ _ _ h => h) (by first | exact Or.inl ⟨by rfl, by intro w hSw; go_simp; try with_reducible rfl⟩ | exact Or.inr ⟨by rfl, rfl⟩) hH ?_
      try simp only [Act.put, List.setIfInBounds_toArray, List.set_cons_zero, List.set_cons_succ]
      refine wpK.take (i := 1) (v := _) (by simp only [List.getElem?_toArray, List.getElem?_cons_succ, List.getElem?_cons_zero]; rfl) (by kernel_rfl) (by kernel_rfl) (by kernel_rfl) (by kernel_rfl) (by kernel_rfl) (by exact fun _ _ _ h => h) (by first | exact Or.inl ⟨by rfl, by intro w hSw; go_simp; try with_reducible rfl⟩ | exact Or.inr ⟨by rfl, rfl⟩) hH ?_
      try simp only [Act.put, List.setIfInBounds_toArray, List.set_cons_zero, List.set_cons_succ]
      refine wpK.take (i := 2) (v := _) (by simp only [List.getElem?_toArray, List.getElem?_cons_succ, List.getElem?_cons_zero]; rfl) (by kernel_rfl) (by kernel_rfl) (by kernel_rfl) (by kernel_rfl) (by kernel_rfl) (by exact fun _ _ _ h => h) (by first | exact Or.inl ⟨by rfl, by intro w hSw; go_simp; try with_reducible rfl⟩ | exact Or.inr ⟨by rfl, rfl⟩) hH ?_
      try simp only [Act.put, List.setIfInBounds_toArray, List.set_cons_zero, List.set_cons_succ]
      refine wpK.take (i := 3) (v := _) (by simp only [List.getElem?_toArray, List.getElem?_cons_succ, List.getElem?_cons_zero]; rfl) (by kernel_rfl) (by kernel_rfl) (by kernel_rfl) (by kernel_rfl) (by kernel_rfl) (by exact fun _ _ _ h => h) (by first | exact Or.inl ⟨by rfl, by intro w hSw; go_simp; try with_reducible rfl⟩ | exact Or.inr ⟨by rfl, rfl⟩) hH ?_
      try simp only [Act.put, List.setIfInBounds_toArray, List.set_cons_zero, List.set_cons_succ]
      refine wpK.take (i := 4) (v := _) (by simp only [List.getElem?_toArray, List.getElem?_cons_succ, List.getElem?_cons_zero]; rfl) (by kernel_rfl) (by kernel_rfl) (by kernel_rfl) (by kernel_rfl) (by kernel_rfl) (by exact fun _ _ _ h => h) (by first | exact Or.inl ⟨by rfl, by intro w hSw; go_simp; try with_reducible rfl⟩ | exact Or.inr ⟨by rfl, rfl⟩) hH ?_
      try simp only [Act.put, List.setIfInBounds_toArray, List.set_cons_zero, List.set_cons_succ]
      refine wpK.take (i := 5) (v := _) (by simp only [List.getElem?_toArray, List.getElem?_cons_succ, List.getElem?_cons_zero]; rfl) (by kernel_rfl) (by kernel_rfl) (by kernel_rfl) (by kernel_rfl) (by kernel_rfl) (by exact fun _ _ _ h => h) (by first | exact Or.inl ⟨by rfl, by intro w hSw; go_simp; try with_reducible rfl⟩ | exact Or.inr ⟨by rfl, rfl⟩) hH ?_
      try simp only [Act.put, List.setIfInBounds_toArray, List.set_cons_zero, List.set_cons_succ]
      refine wpK.take (i := 6) (v := _) (by simp only [List.getElem?_toArray, List.getElem?_cons_succ, List.getElem?_cons_zero]; rfl) (by kernel_rfl) (by kernel_rfl) (by kernel_rfl) (by kernel_rfl) (by kernel_rfl) (by exact fun _ _ _ h => h) (by first | exact Or.inl ⟨by rfl, by intro w hSw; go_simp; try with_reducible rfl⟩ | exact Or.inr ⟨by rfl, rfl⟩) hH ?_
      try simp only [Act.put, List.setIfInBounds_toArray, List.set_cons_zero, List.set_cons_succ]
      refine wpK.take (i := 7) (v := _) (by simp only [List.getElem?_toArray, List.getElem?_cons_succ, List.getElem?_cons_zero]; rfl) (by kernel_rfl) (by kernel_rfl) (by kernel_rfl) (by kernel_rfl) (by kernel_rfl) (by exact fun _ _ _ h => h) (by first | exact Or.inl ⟨by rfl, by intro w hSw; go_simp; try with_reducible rfl⟩ | exact Or.inr ⟨by rfl, rfl⟩) hH ?_
      try simp only [Act.put, List.setIfInBounds_toArray, List.set_cons_zero, List.set_cons_succ]
      refine wpK.take (i := 8) (v := _) (by simp only [List.getElem?_toArray, List.getElem?_cons_succ, List.getElem?_cons_zero]; rfl) (by kernel_rfl) (by kernel_rfl) (by kernel_rfl) (by kernel_rfl) (by kernel_rfl) (by exact fun _ _ _ h => h) (by first | exact Or.inl ⟨by rfl, by intro w hSw; go_simp; try with_reducible rfl⟩ | exact Or.inr ⟨by rfl, rfl⟩) hH ?_
      try simp only [Act.put, List.setIfInBounds_toArray, List.set_cons_zero, List.set_cons_succ]
      refine wpK.take (i := 9) (v := _) (by simp only [List.getElem?_toArray, List.getElem?_cons_succ, List.getElem?_cons_zero]; rfl) (by kernel_rfl) (by kernel_rfl) (by kernel_rfl) (by kernel_rfl) (by kernel_rfl) (by exact fun _ _ _ h => h) (by first | exact Or.inl ⟨by rfl, by intro w hSw; go_simp; try with_reducible rfl⟩ | exact Or.inr ⟨by rfl, rfl⟩) hH ?_
      try simp only [Act.put, List.setIfInBounds_toArray, List.set_cons_zero, List.set_cons_succ]
      refine wpK.take (i := 10) (v := _) (by simp only [List.getElem?_toArray, List.getElem?_cons_succ, List.getElem?_cons_zero]; rfl) (by kernel_rfl) (by kernel_rfl) (by kernel_rfl) (by kernel_rfl) (by kernel_rfl) (by exact fun _ _ _ h => h) (by first | exact Or.inl ⟨by rfl, by intro w hSw; go_simp; try with_reducible rfl⟩ | exact Or.inr ⟨by rfl, rfl⟩) hH ?_
      try simp only [Act.put, List.setIfInBounds_toArray, List.set_cons_zero, List.set_cons_succ]
      refine wpK.take (i := 11) (v := _) (by simp only [List.getElem?_toArray, List.getElem?_cons_succ, List.getElem?_cons_zero]; rfl) (by kernel_rfl) (by kernel_rfl) (by kernel_rfl) (by kernel_rfl) (by kernel_rfl) (by exact fun _ _ _ h => h) (by first | exact Or.inl ⟨by rfl, by intro w hSw; go_simp; try with_reducible rfl⟩ | exact Or.inr ⟨by rfl, rfl⟩) hH ?_
      try simp only [Act.put, List.setIfInBounds_toArray, List.set_cons_zero, List.set_cons_succ]
      refine wpK.take (i := 12) (v := _) (by simp only [List.getElem?_toArray, List.getElem?_cons_succ, List.getElem?_cons_zero]; rfl) (by kernel_rfl) (by kernel_rfl) (by kernel_rfl) (by kernel_rfl) (by kernel_rfl) (by exact fun _ _ _ h => h) (by first | exact Or.inl ⟨by rfl, by intro w hSw; go_simp; try with_reducible rfl⟩ | exact Or.inr ⟨by rfl, rfl⟩) hH ?_
      try simp only [Act.put, List.setIfInBounds_toArray, List.set_cons_zero, List.set_cons_succ]
      refine wpK.step (i := 13) (by kernel_rfl) (by simp only [List.getElem?_toArray, List.getElem?_cons_succ, List.getElem?_cons_zero]; rfl) (fun K hK => ?_)
      go_simp
      (refine (law19_ref zx zy za zb _).mono ?_); rintro e w3 ⟨rfl, hb3⟩; (have hk3 := Below.next hH hb3); go_simp
      refine hK.out _ _ (by assumption) (fun hH => ?_)
      clear hK K
      try simp only [Act.put, List.setIfInBounds_toArray, List.set_cons_zero, List.set_cons_succ]
      refine wpK.take (i := 14) (v := _) (by simp only [List.getElem?_toArray, List.getElem?_cons_succ, List.getElem?_cons_zero]; rfl) (by kernel_rfl) (by kernel_rfl) (by kernel_rfl) (by kernel_rfl) (by kernel_rfl) (by exact fun _ _ _ h => h) (by first | exact Or.inl ⟨by rfl, by intro w hSw; go_simp; try with_reducible rfl⟩ | exact Or.inr ⟨by rfl, rfl⟩) hH ?_
      try simp only [Act.put, List.setIfInBounds_toArray, List.set_cons_zero, List.set_cons_succ]
      refine wpK.take (i := 15) (v := _) (by simp only [List.getElem?_toArray, List.getElem?_cons_succ, List.getElem?_cons_zero]; rfl) (by kernel_rfl) (by kernel_rfl) (by kernel_rfl) (by kernel_rfl) (by kernel_rfl) (by exact fun _ _ _ h => h) (by first | exact Or.inl ⟨by rfl, by intro w hSw; go_simp; try with_reducible rfl⟩ | exact Or.inr ⟨by rfl, rfl⟩) hH ?_
      try simp only [Act.put, List.setIfInBounds_toArray, List.set_cons_zero, List.set_cons_succ]
      refine wpK.take (i := 16) (v := _) (by simp only [List.getElem?_toArray, List.getElem?_cons_succ, List.getElem?_cons_zero]; rfl) (by kernel_rfl) (by kernel_rfl) (by kernel_rfl) (by kernel_rfl) (by kernel_rfl) (by exact fun _ _ _ h => h) (by first | exact Or.inl ⟨by rfl, by intro w hSw; go_simp; try with_reducible rfl⟩ | exact Or.inr ⟨by rfl, rfl⟩) hH ?_
      try simp only [Act.put, List.setIfInBounds_toArray, List.set_cons_zero, List.set_cons_succ]
      refine wpK.done (by kernel_rfl) ?_ _
      have HB3 := hid hk3
      have hN : pre ++ [((zi, zx, zy, za, zb) : Pl)] <+: P := HPS.out.2 rfl
      have hwi := HT1.out.land.inv.within _ HYM.out
      obtain ⟨e1, e2, e3⟩ := area_small hwi
      simp only at e1 e2 e3
      have hl3 : areaX (pre ++ [((zi, zx, zy, za, zb) : Pl)]) = A + areaN (zx, zy, za, zb) := by rw [areaX_snoc, HII.out.2]
      obtain ⟨m, hm⟩ : ∃ m, areaN (zx, zy, za, zb) = m := ⟨_, rfl⟩
      rw [hm] at e1 e2 hl3
      have hA9 : A ≤ 65536 := by
        have h1 : areaX pre ≤ pre.length * 256 := by
          have := sum_le (fun p : Pl => areaN p.2) 256 pre (fun p hp => (area_small (HT1.out.land.inv.within p (by
            obtain ⟨t, ht⟩ := hN
            rw [← ht]
            exact List.mem_append_left _ (List.mem_append_left _ hp)))).2.1)
          exact this
        have h2 := HII.out.1
        have h3 := HII.out.2
        have : pre.length * 256 ≤ 256 * 256 := Nat.mul_le_mul_right _ (by omega)
        omega
      have hmul : IntKind.i64.wrap (za * zb) = (m : Int) := by rw [IntKind.wrap_i64 (za * zb), ← e3, e1]; omega
      obtain ⟨A2, hA2⟩ : ∃ A2, A + m = A2 := ⟨_, rfl⟩
      have hadd : IntKind.i64.wrap ((A : Int) + (m : Int)) = (A2 : Int) := by rw [IntKind.wrap_i64]; omega
      have hwr : IntKind.i64.wrap ((i : Int) + 1) = (i : Int) + 1 := by rw [IntKind.wrap_i64]; omega
      rw [hA2] at hl3
      have HNN := hid (And.intro hN hl3)
      have c3 := (HI2.out.1.1.below hk3)
      have c4 := (HI2.out.1.2.1.below hk3)
      have c5 := (HI2.out.1.2.2.1.below hk3)
      have c6 := (HI2.out.1.2.2.2.1.below hk3)
      have HC := hid (And.intro c3 (And.intro c4 (And.intro c5 c6)))
      replace k5 := k5 w3 hk3
      replace k6 := k6 w3 hk3
      replace x2 := x2 w3 hk3
      replace x3 := x3 w3 hk3
      have f5 : w3.frozen? ⟨b5, 0, none⟩ = false := c5.unfrozen 0
      have f6 : w3.frozen? ⟨b6, 0, none⟩ = false := c6.unfrozen 0
      have n56 : ¬ b5 = b6 := by have := HZ.out; omega
      have n65 : ¬ b6 = b5 := by have := HZ.out; omega
      clear c3 c4 c5 c6 hN e1 e2 e3 hl3 hm hA9 hA2 hwi hk3 hyd x0 x1 d0 d1 d2 d3 d4 k3 hb3 hH
      gi_wp2
      have hz := HZ.out
      have hs1 := HI2.out.2.1.size
      have hs2 := HB3.out.size
      have hs3 := HS2.out
      have hb4 : Blk (w3.setCell ⟨b5, 0, none⟩ (.int .i64 ((i : Int) + 1))) b5 #[.int .i64 ((i : Int) + 1)] := by simpa using HC.out.2.2.1.set 0 (.int .i64 ((i : Int) + 1))
      have hu5 := Upd.setCell w3 b5 0 (.int .i64 ((i : Int) + 1))
      have hu6 := Upd.setCell (w3.setCell ⟨b5, 0, none⟩ (.int .i64 ((i : Int) + 1))) b6 0 (.int .i64 (A2 : Int))
      have hu := (hu5.mono (fun _ _ q => Or.inl q)).trans hu6 (fun b _ q => (Or.inr q : b = b5 ∨ b = b6))
      have hsz := hu.size
      have hBx := HBX.out
      refine ⟨((keepsFrom_belowR HB3.out).trans ((KeepsOthers.setCell _ _ _).from _)).trans ((KeepsOthers.setCell _ _ _).from _), (KeepQ.of_below HB3.out (by omega)).trans (KeepQ.of_upd hu (by omega) (fun b _ q => by rcases q with q | q <;> omega)), ⟨HC.out.1.upd hu (by omega), HC.out.2.1.upd hu (by omega), ?_, ?_, HNN.out.1⟩, (HI2.out.2.1.trans (HB3.out.mono hs1)).trans (hu.below (by omega) (fun b _ q => by rcases q with q | q <;> omega)), by have := HI2.out.2.2; omega⟩
      · have h5 := hb4.upd hu6 n56
        have hl5 : ((pre ++ [((zi, zx, zy, za, zb) : Pl)]).length : Int) = (i : Int) + 1 := by have := HII.out.1; simp; omega
        rw [hl5]
        exact h5
      · have h6 := (HC.out.2.2.2.upd hu5 n65).set 0 (.int .i64 (A2 : Int))
        rw [HNN.out.2]
        simpa using h6
    · have HNE := hid hq
      clear hq
      refine wpIn_region_kept [] (fun z => Below W.heap.size W z) (by kernel_rfl) (by assumption) (fun hH => ?_)
      refine wpK.take (i := 0) (v := _) (by simp only [List.getElem?_toArray, List.getElem?_cons_succ, List.getElem?_cons_zero]; rfl) (by kernel_rfl) (by kernel_rfl) (by kernel_rfl) (by kernel_rfl) (by kernel_rfl) (by exact fun _ _ _ h => h) (by first | exact Or.inl ⟨by rfl, by intro w hSw; go_simp; try with_reducible rfl⟩ | exact Or.inr ⟨by rfl, rfl⟩) hH ?_
      try simp only [Act.put, List.setIfInBounds_toArray, List.set_cons_zero, List.set_cons_succ]
      refine wpK.take (i := 1) (v := _) (by simp only [List.getElem?_toArray, List.getElem?_cons_succ, List.getElem?_cons_zero]; rfl) (by kernel_rfl) (by kernel_rfl) (by kernel_rfl) (by kernel_rfl) (by kernel_rfl) (by exact fun _ _ _ h => h) (by first | exact Or.inl ⟨by rfl, by intro w hSw; go_simp; try with_reducible rfl⟩ | exact Or.inr ⟨by rfl, rfl⟩) hH ?_
      try simp only [Act.put, List.setIfInBounds_toArray, List.set_cons_zero, List.set_cons_succ]
      refine wpK.take (i := 2) (v := _) (by simp only [List.getElem?_toArray, List.getElem?_cons_succ, List.getElem?_cons_zero]; rfl) (by kernel_rfl) (by kernel_rfl) (by kernel_rfl) (by kernel_rfl) (by kernel_rfl) (by exact fun _ _ _ h => h) (by first | exact Or.inl ⟨by rfl, by intro w hSw; go_simp; try with_reducible rfl⟩ | exact Or.inr ⟨by rfl, rfl⟩) hH ?_
      try simp only [Act.put, List.setIfInBounds_toArray, List.set_cons_zero, List.set_cons_succ]
      refine wpK.take (i := 3) (v := _) (by simp only [List.getElem?_toArray, List.getElem?_cons_succ, List.getElem?_cons_zero]; rfl) (by kernel_rfl) (by kernel_rfl) (by kernel_rfl) (by kernel_rfl) (by kernel_rfl) (by exact fun _ _ _ h => h) (by first | exact Or.inl ⟨by rfl, by intro w hSw; go_simp; try with_reducible rfl⟩ | exact Or.inr ⟨by rfl, rfl⟩) hH ?_
      try simp only [Act.put, List.setIfInBounds_toArray, List.set_cons_zero, List.set_cons_succ]
      refine wpK.take (i := 4) (v := _) (by simp only [List.getElem?_toArray, List.getElem?_cons_succ, List.getElem?_cons_zero]; rfl) (by kernel_rfl) (by kernel_rfl) (by kernel_rfl) (by kernel_rfl) (by kernel_rfl) (by exact fun _ _ _ h => h) (by first | exact Or.inl ⟨by rfl, by intro w hSw; go_simp; try with_reducible rfl⟩ | exact Or.inr ⟨by rfl, rfl⟩) hH ?_
      try simp only [Act.put, List.setIfInBounds_toArray, List.set_cons_zero, List.set_cons_succ]
      refine wpK.take (i := 5) (v := _) (by simp only [List.getElem?_toArray, List.getElem?_cons_succ, List.getElem?_cons_zero]; rfl) (by kernel_rfl) (by kernel_rfl) (by kernel_rfl) (by kernel_rfl) (by kernel_rfl) (by exact fun _ _ _ h => h) (by first | exact Or.inl ⟨by rfl, by intro w hSw; go_simp; try with_reducible rfl⟩ | exact Or.inr ⟨by rfl, rfl⟩) hH ?_
      try simp only [Act.put, List.setIfInBounds_toArray, List.set_cons_zero, List.set_cons_succ]
      refine wpK.take (i := 6) (v := _) (by simp only [List.getElem?_toArray, List.getElem?_cons_succ, List.getElem?_cons_zero]; rfl) (by kernel_rfl) (by kernel_rfl) (by kernel_rfl) (by kernel_rfl) (by kernel_rfl) (by exact fun _ _ _ h => h) (by first | exact Or.inl ⟨by rfl, by intro w hSw; go_simp; try with_reducible rfl⟩ | exact Or.inr ⟨by rfl, rfl⟩) hH ?_
      try simp only [Act.put, List.setIfInBounds_toArray, List.set_cons_zero, List.set_cons_succ]
      refine wpK.take (i := 7) (v := _) (by simp only [List.getElem?_toArray, List.getElem?_cons_succ, List.getElem?_cons_zero]; rfl) (by kernel_rfl) (by kernel_rfl) (by kernel_rfl) (by kernel_rfl) (by kernel_rfl) (by exact fun _ _ _ h => h) (by first | exact Or.inl ⟨by rfl, by intro w hSw; go_simp; try with_reducible rfl⟩ | exact Or.inr ⟨by rfl, rfl⟩) hH ?_
      try simp only [Act.put, List.setIfInBounds_toArray, List.set_cons_zero, List.set_cons_succ]
      refine wpK.take (i := 8) (v := _) (by simp only [List.getElem?_toArray, List.getElem?_cons_succ, List.getElem?_cons_zero]; rfl) (by kernel_rfl) (by kernel_rfl) (by kernel_rfl) (by kernel_rfl) (by kernel_rfl) (by exact fun _ _ _ h => h) (by first | exact Or.inl ⟨by rfl, by intro w hSw; go_simp; try with_reducible rfl⟩ | exact Or.inr ⟨by rfl, rfl⟩) hH ?_
      try simp only [Act.put, List.setIfInBounds_toArray, List.set_cons_zero, List.set_cons_succ]
      refine wpK.take (i := 9) (v := _) (by simp only [List.getElem?_toArray, List.getElem?_cons_succ, List.getElem?_cons_zero]; rfl) (by kernel_rfl) (by kernel_rfl) (by kernel_rfl) (by kernel_rfl) (by kernel_rfl) (by exact fun _ _ _ h => h) (by first | exact Or.inl ⟨by rfl, by intro w hSw; go_simp; try with_reducible rfl⟩ | exact Or.inr ⟨by rfl, rfl⟩) hH ?_
      try simp only [Act.put, List.setIfInBounds_toArray, List.set_cons_zero, List.set_cons_succ]
      refine wpK.take (i := 10) (v := _) (by simp only [List.getElem?_toArray, List.getElem?_cons_succ, List.getElem?_cons_zero]; rfl) (by kernel_rfl) (by kernel_rfl) (by kernel_rfl) (by kernel_rfl) (by kernel_rfl) (by exact fun _ _ _ h => h) (by first | exact Or.inl ⟨by rfl, by intro w hSw; go_simp; try with_reducible rfl⟩ | exact Or.inr ⟨by rfl, rfl⟩) hH ?_
      try simp only [Act.put, List.setIfInBounds_toArray, List.set_cons_zero, List.set_cons_succ]
      refine wpK.take (i := 11) (v := _) (by simp only [List.getElem?_toArray, List.getElem?_cons_succ, List.getElem?_cons_zero]; rfl) (by kernel_rfl) (by kernel_rfl) (by kernel_rfl) (by kernel_rfl) (by kernel_rfl) (by exact fun _ _ _ h => h) (by first | exact Or.inl ⟨by rfl, by intro w hSw; go_simp; try with_reducible rfl⟩ | exact Or.inr ⟨by rfl, rfl⟩) hH ?_
      try simp only [Act.put, List.setIfInBounds_toArray, List.set_cons_zero, List.set_cons_succ]
      refine wpK.take (i := 12) (v := _) (by simp only [List.getElem?_toArray, List.getElem?_cons_succ, List.getElem?_cons_zero]; rfl) (by kernel_rfl) (by kernel_rfl) (by kernel_rfl) (by kernel_rfl) (by kernel_rfl) (by exact fun _ _ _ h => h) (by first | exact Or.inl ⟨by rfl, by intro w hSw; go_simp; try with_reducible rfl⟩ | exact Or.inr ⟨by rfl, rfl⟩) hH ?_
      try simp only [Act.put, List.setIfInBounds_toArray, List.set_cons_zero, List.set_cons_succ]
      refine wpK.step (i := 13) (by kernel_rfl) (by simp only [List.getElem?_toArray, List.getElem?_cons_succ, List.getElem?_cons_zero]; rfl) (fun K hK => ?_)
      go_simp
      (refine (law19_ref zx zy za zb _).mono ?_); rintro e w3 ⟨rfl, hb3⟩; (have hk3 := Below.next hH hb3); go_simp
      refine hK.out _ _ (by assumption) (fun hH => ?_)
      clear hK K
      try simp only [Act.put, List.setIfInBounds_toArray, List.set_cons_zero, List.set_cons_succ]
      refine wpK.take (i := 14) (v := _) (by simp only [List.getElem?_toArray, List.getElem?_cons_succ, List.getElem?_cons_zero]; rfl) (by kernel_rfl) (by kernel_rfl) (by kernel_rfl) (by kernel_rfl) (by kernel_rfl) (by exact fun _ _ _ h => h) (by first | exact Or.inl ⟨by rfl, by intro w hSw; go_simp; try with_reducible rfl⟩ | exact Or.inr ⟨by rfl, rfl⟩) hH ?_
      try simp only [Act.put, List.setIfInBounds_toArray, List.set_cons_zero, List.set_cons_succ]
      refine wpK.step (i := 15) (by kernel_rfl) (by simp only [List.getElem?_toArray, List.getElem?_cons_succ, List.getElem?_cons_zero]; rfl) (fun K hK => ?_)
      go_simp
      rw [ite5 HNE.out]; go_simp
      refine hK.out _ _ (by assumption) (fun hH => ?_)
      clear hK K
      try simp only [Act.put, List.setIfInBounds_toArray, List.set_cons_zero, List.set_cons_succ]
      refine wpK.take (i := 16) (v := _) (by simp only [List.getElem?_toArray, List.getElem?_cons_succ, List.getElem?_cons_zero]; rfl) (by kernel_rfl) (by kernel_rfl) (by kernel_rfl) (by kernel_rfl) (by kernel_rfl) (by exact fun _ _ _ h => h) (by first | exact Or.inl ⟨by rfl, by intro w hSw; go_simp; try with_reducible rfl⟩ | exact Or.inr ⟨by rfl, rfl⟩) hH ?_
      try simp only [Act.put, List.setIfInBounds_toArray, List.set_cons_zero, List.set_cons_succ]
      refine wpK.done (by kernel_rfl) ?_ _
      have HB3 := hid hk3
      have c4 := (HI2.out.1.2.1.below hk3)
      have HC := hid c4
      have k4 := c4.c1v
      have f4 : w3.frozen? ⟨b4, 0, none⟩ = false := c4.unfrozen 0
      clear c4 hk3 hyd x0 x1 x2 x3 d0 d1 d2 d3 d4 k3 k5 k6 hb3 hH
      gi_wp2
      have hN : ¬ (pre ++ [((zi, zx, zy, za, zb) : Pl)] <+: P) := fun k => HNE.out (HPS.out.1 k)
      exact ⟨(keepsFrom_belowR HB3.out).trans ((KeepsOthers.setCell _ _ _).from _), rfl, hN⟩
  case done =>
    rintro D ys W hD hys ⟨⟨h3, h4, h5, h6, hp⟩, hb, hz⟩ hK
    have hys2 := hys.symm
    subst hys2
    obtain ⟨k30, k31, k32⟩ := h3.c3v
    have k5 := h5.c1v
    have k6 := h6.c1v
    rw [HNP.out] at k5
    have HLI := hid (HH.out.below hb).land
    obtain ⟨A, hA⟩ : ∃ A, areaX P = A := ⟨_, rfl⟩
    rw [hA] at k6
    have HLC : Hid (∀ z, Below W.heap.size W z → Calls Tryz.prog 29 #[.pointer (some ⟨s, 0, none⟩)] z fun e w' => e = .returned (.int .i64 (np : Int)) ∧ w' = z) := hid (fun z hz => by
      have := land_Len z s F k B P (HLI.out.below hz)
      rw [HNP.out] at this
      exact this)
    have HAC : Hid (∀ z, Below W.heap.size W z → Calls Tryz.prog 30 #[.pointer (some ⟨s, 0, none⟩)] z fun e w' => e = .returned (.int .i64 (A : Int)) ∧ Below z.heap.size z w') := hid (fun z hz => by
      have := land_Area z s F k B P (HLI.out.below hz)
      rw [hA] at this
      exact this)
    have H4 := hid h4
    have HKD := hid hK
    have HB := hid hb
    have HZZ := hid hz
    clear h3 h4 h5 h6 hp hA hK hb hz hys
    replace k30 := fun (z : World) (hz : Below W.heap.size W z) => cellOf_belowR hz k30
    replace k32 := fun (z : World) (hz : Below W.heap.size W z) => cellOf_belowR hz k32
    replace k5 := fun (z : World) (hz : Below W.heap.size W z) => cellOf_belowR hz k5
    replace k6 := fun (z : World) (hz : Below W.heap.size W z) => cellOf_belowR hz k6
    have hyd := (Below.refl W.heap.size W).drew
    gi_wp2
    rename_i K0 hK0
    refine wpIn_mono (Q := Exit.then K0 (fun _ _ _ => False)) ?_ (fun e a w he => by cases e <;> first | exact he | exact he.elim)
    refine wpIn_region_keptY [24] (fun z => Below W.heap.size W z) (by kernel_rfl) (by assumption) (fun hH => ?_)
    refine wpKY.take (i := 0) (v := _) (by simp only [List.getElem?_toArray, List.getElem?_cons_succ, List.getElem?_cons_zero]; rfl) (by kernel_rfl) (by kernel_rfl) (by kernel_rfl) (by kernel_rfl) (by exact fun _ _ _ h => h) (by first | exact Or.inl ⟨by rfl, by intro w hSw; go_simp; try with_reducible rfl⟩ | exact Or.inr ⟨by rfl, rfl⟩) hH ?_
    try simp only [Act.put, List.setIfInBounds_toArray, List.set_cons_zero, List.set_cons_succ]
    refine wpKY.take (i := 1) (v := _) (by simp only [List.getElem?_toArray, List.getElem?_cons_succ, List.getElem?_cons_zero]; rfl) (by kernel_rfl) (by kernel_rfl) (by kernel_rfl) (by kernel_rfl) (by exact fun _ _ _ h => h) (by first | exact Or.inl ⟨by rfl, by intro w hSw; go_simp; try with_reducible rfl⟩ | exact Or.inr ⟨by rfl, rfl⟩) hH ?_
    try simp only [Act.put, List.setIfInBounds_toArray, List.set_cons_zero, List.set_cons_succ]
    refine wpKY.take (i := 2) (v := _) (by simp only [List.getElem?_toArray, List.getElem?_cons_succ, List.getElem?_cons_zero]; rfl) (by kernel_rfl) (by kernel_rfl) (by kernel_rfl) (by kernel_rfl) (by exact fun _ _ _ h => h) (by first | exact Or.inl ⟨by rfl, by intro w hSw; go_simp; try with_reducible rfl⟩ | exact Or.inr ⟨by rfl, rfl⟩) hH ?_
    try simp only [Act.put, List.setIfInBounds_toArray, List.set_cons_zero, List.set_cons_succ]
    refine wpKY.take (i := 3) (v := _) (by simp only [List.getElem?_toArray, List.getElem?_cons_succ, List.getElem?_cons_zero]; rfl) (by kernel_rfl) (by kernel_rfl) (by kernel_rfl) (by kernel_rfl) (by exact fun _ _ _ h => h) (by first | exact Or.inl ⟨by rfl, by intro w hSw; go_simp; try with_reducible rfl⟩ | exact Or.inr ⟨by rfl, rfl⟩) hH ?_
    try simp only [Act.put, List.setIfInBounds_toArray, List.set_cons_zero, List.set_cons_succ]
    refine wpKY.take (i := 4) (v := _) (by simp only [List.getElem?_toArray, List.getElem?_cons_succ, List.getElem?_cons_zero]; rfl) (by kernel_rfl) (by kernel_rfl) (by kernel_rfl) (by kernel_rfl) (by exact fun _ _ _ h => h) (by first | exact Or.inl ⟨by rfl, by intro w hSw; go_simp; try with_reducible rfl⟩ | exact Or.inr ⟨by rfl, rfl⟩) hH ?_
    try simp only [Act.put, List.setIfInBounds_toArray, List.set_cons_zero, List.set_cons_succ]
    refine wpKY.take (i := 5) (v := _) (by simp only [List.getElem?_toArray, List.getElem?_cons_succ, List.getElem?_cons_zero]; rfl) (by kernel_rfl) (by kernel_rfl) (by kernel_rfl) (by kernel_rfl) (by exact fun _ _ _ h => h) (by first | exact Or.inl ⟨by rfl, by intro w hSw; go_simp; try with_reducible rfl⟩ | exact Or.inr ⟨by rfl, rfl⟩) hH ?_
    try simp only [Act.put, List.setIfInBounds_toArray, List.set_cons_zero, List.set_cons_succ]
    refine wpKY.take (i := 6) (v := _) (by simp only [List.getElem?_toArray, List.getElem?_cons_succ, List.getElem?_cons_zero]; rfl) (by kernel_rfl) (by kernel_rfl) (by kernel_rfl) (by kernel_rfl) (by exact fun _ _ _ h => h) (by first | exact Or.inl ⟨by rfl, by intro w hSw; go_simp; try with_reducible rfl⟩ | exact Or.inr ⟨by rfl, rfl⟩) hH ?_
    try simp only [Act.put, List.setIfInBounds_toArray, List.set_cons_zero, List.set_cons_succ]
    refine wpKY.take (i := 8) (v := _) (by simp only [List.getElem?_toArray, List.getElem?_cons_succ, List.getElem?_cons_zero]; rfl) (by kernel_rfl) (by kernel_rfl) (by kernel_rfl) (by kernel_rfl) (by exact fun _ _ _ h => h) (by first | exact Or.inl ⟨by rfl, by intro w hSw; go_simp; try with_reducible rfl⟩ | exact Or.inr ⟨by rfl, rfl⟩) hH ?_
    try simp only [Act.put, List.setIfInBounds_toArray, List.set_cons_zero, List.set_cons_succ]
    refine wpKY.step (i := 7) (by kernel_rfl) (by simp only [List.getElem?_toArray, List.getElem?_cons_succ, List.getElem?_cons_zero]; rfl) (fun K hK => ?_)
    go_simp
    refine ⟨trivial, ?_⟩; (refine (callsIn_wide.2 (HLC.out _ hH)).mono ?_); rintro e w3 ⟨rfl, rfl⟩; go_simp
    refine hK.out _ _ (by assumption) (fun hH => ?_)
    clear hK K
    try simp only [Act.put, List.setIfInBounds_toArray, List.set_cons_zero, List.set_cons_succ]
    refine wpKY.take (i := 9) (v := _) (by simp only [List.getElem?_toArray, List.getElem?_cons_succ, List.getElem?_cons_zero]; rfl) (by kernel_rfl) (by kernel_rfl) (by kernel_rfl) (by kernel_rfl) (by exact fun _ _ _ h => h) (by first | exact Or.inl ⟨by rfl, by intro w hSw; go_simp; try with_reducible rfl⟩ | exact Or.inr ⟨by rfl, rfl⟩) hH ?_
    try simp only [Act.put, List.setIfInBounds_toArray, List.set_cons_zero, List.set_cons_succ]
    refine wpKY.take (i := 10) (v := _) (by simp only [List.getElem?_toArray, List.getElem?_cons_succ, List.getElem?_cons_zero]; rfl) (by kernel_rfl) (by kernel_rfl) (by kernel_rfl) (by kernel_rfl) (by exact fun _ _ _ h => h) (by first | exact Or.inl ⟨by rfl, by intro w hSw; go_simp; try with_reducible rfl⟩ | exact Or.inr ⟨by rfl, rfl⟩) hH ?_
    try simp only [Act.put, List.setIfInBounds_toArray, List.set_cons_zero, List.set_cons_succ]
    refine wpKY.take (i := 11) (v := _) (by simp only [List.getElem?_toArray, List.getElem?_cons_succ, List.getElem?_cons_zero]; rfl) (by kernel_rfl) (by kernel_rfl) (by kernel_rfl) (by kernel_rfl) (by exact fun _ _ _ h => h) (by first | exact Or.inl ⟨by rfl, by intro w hSw; go_simp; try with_reducible rfl⟩ | exact Or.inr ⟨by rfl, rfl⟩) hH ?_
    try simp only [Act.put, List.setIfInBounds_toArray, List.set_cons_zero, List.set_cons_succ]
    refine wpKY.take (i := 12) (v := _) (by simp only [List.getElem?_toArray, List.getElem?_cons_succ, List.getElem?_cons_zero]; rfl) (by kernel_rfl) (by kernel_rfl) (by kernel_rfl) (by kernel_rfl) (by exact fun _ _ _ h => h) (by first | exact Or.inl ⟨by rfl, by intro w hSw; go_simp; try with_reducible rfl⟩ | exact Or.inr ⟨by rfl, rfl⟩) hH ?_
    try simp only [Act.put, List.setIfInBounds_toArray, List.set_cons_zero, List.set_cons_succ]
    refine wpKY.take (i := 14) (v := _) (by simp only [List.getElem?_toArray, List.getElem?_cons_succ, List.getElem?_cons_zero]; rfl) (by kernel_rfl) (by kernel_rfl) (by kernel_rfl) (by kernel_rfl) (by exact fun _ _ _ h => h) (by first | exact Or.inl ⟨by rfl, by intro w hSw; go_simp; try with_reducible rfl⟩ | exact Or.inr ⟨by rfl, rfl⟩) hH ?_
    try simp only [Act.put, List.setIfInBounds_toArray, List.set_cons_zero, List.set_cons_succ]
    refine wpKY.take (i := 15) (v := _) (by simp only [List.getElem?_toArray, List.getElem?_cons_succ, List.getElem?_cons_zero]; rfl) (by kernel_rfl) (by kernel_rfl) (by kernel_rfl) (by kernel_rfl) (by exact fun _ _ _ h => h) (by first | exact Or.inl ⟨by rfl, by intro w hSw; go_simp; try with_reducible rfl⟩ | exact Or.inr ⟨by rfl, rfl⟩) hH ?_
    try simp only [Act.put, List.setIfInBounds_toArray, List.set_cons_zero, List.set_cons_succ]
    refine wpKY.step (i := 13) (by kernel_rfl) (by simp only [List.getElem?_toArray, List.getElem?_cons_succ, List.getElem?_cons_zero]; rfl) (fun K hK => ?_)
    go_simp
    refine ⟨trivial, ?_⟩; (refine (callsIn_wide.2 (land_Side _ s F k B P (HLI.out.below hH) S HSD.out)).mono ?_); rintro e w3 ⟨rfl, rfl⟩; go_simp
    refine hK.out _ _ (by assumption) (fun hH => ?_)
    clear hK K
    try simp only [Act.put, List.setIfInBounds_toArray, List.set_cons_zero, List.set_cons_succ]
    refine wpKY.take (i := 16) (v := _) (by simp only [List.getElem?_toArray, List.getElem?_cons_succ, List.getElem?_cons_zero]; rfl) (by kernel_rfl) (by kernel_rfl) (by kernel_rfl) (by kernel_rfl) (by exact fun _ _ _ h => h) (by first | exact Or.inl ⟨by rfl, by intro w hSw; go_simp; try with_reducible rfl⟩ | exact Or.inr ⟨by rfl, rfl⟩) hH ?_
    try simp only [Act.put, List.setIfInBounds_toArray, List.set_cons_zero, List.set_cons_succ]
    refine wpKY.take (i := 17) (v := _) (by simp only [List.getElem?_toArray, List.getElem?_cons_succ, List.getElem?_cons_zero]; rfl) (by kernel_rfl) (by kernel_rfl) (by kernel_rfl) (by kernel_rfl) (by exact fun _ _ _ h => h) (by first | exact Or.inl ⟨by rfl, by intro w hSw; go_simp; try with_reducible rfl⟩ | exact Or.inr ⟨by rfl, rfl⟩) hH ?_
    try simp only [Act.put, List.setIfInBounds_toArray, List.set_cons_zero, List.set_cons_succ]
    refine wpKY.take (i := 18) (v := _) (by simp only [List.getElem?_toArray, List.getElem?_cons_succ, List.getElem?_cons_zero]; rfl) (by kernel_rfl) (by kernel_rfl) (by kernel_rfl) (by kernel_rfl) (by exact fun _ _ _ h => h) (by first | exact Or.inl ⟨by rfl, by intro w hSw; go_simp; try with_reducible rfl⟩ | exact Or.inr ⟨by rfl, rfl⟩) hH ?_
    try simp only [Act.put, List.setIfInBounds_toArray, List.set_cons_zero, List.set_cons_succ]
    refine wpKY.take (i := 19) (v := _) (by simp only [List.getElem?_toArray, List.getElem?_cons_succ, List.getElem?_cons_zero]; rfl) (by kernel_rfl) (by kernel_rfl) (by kernel_rfl) (by kernel_rfl) (by exact fun _ _ _ h => h) (by first | exact Or.inl ⟨by rfl, by intro w hSw; go_simp; try with_reducible rfl⟩ | exact Or.inr ⟨by rfl, rfl⟩) hH ?_
    try simp only [Act.put, List.setIfInBounds_toArray, List.set_cons_zero, List.set_cons_succ]
    refine wpKY.take (i := 21) (v := _) (by simp only [List.getElem?_toArray, List.getElem?_cons_succ, List.getElem?_cons_zero]; rfl) (by kernel_rfl) (by kernel_rfl) (by kernel_rfl) (by kernel_rfl) (by exact fun _ _ _ h => h) (by first | exact Or.inl ⟨by rfl, by intro w hSw; go_simp; try with_reducible rfl⟩ | exact Or.inr ⟨by rfl, rfl⟩) hH ?_
    try simp only [Act.put, List.setIfInBounds_toArray, List.set_cons_zero, List.set_cons_succ]
    refine wpKY.step (i := 20) (by kernel_rfl) (by simp only [List.getElem?_toArray, List.getElem?_cons_succ, List.getElem?_cons_zero]; rfl) (fun K hK => ?_)
    go_simp
    refine ⟨trivial, ?_⟩; (refine (callsIn_wide.2 (HAC.out _ hH)).mono ?_); rintro e w5 ⟨rfl, hb5⟩; (have hk5 := Below.next hH hb5); go_simp
    refine hK.out _ _ (by assumption) (fun hH => ?_)
    clear hK K
    try simp only [Act.put, List.setIfInBounds_toArray, List.set_cons_zero, List.set_cons_succ]
    refine wpKY.take (i := 22) (v := _) (by simp only [List.getElem?_toArray, List.getElem?_cons_succ, List.getElem?_cons_zero]; rfl) (by kernel_rfl) (by kernel_rfl) (by kernel_rfl) (by kernel_rfl) (by exact fun _ _ _ h => h) (by first | exact Or.inl ⟨by rfl, by intro w hSw; go_simp; try with_reducible rfl⟩ | exact Or.inr ⟨by rfl, rfl⟩) hH ?_
    try simp only [Act.put, List.setIfInBounds_toArray, List.set_cons_zero, List.set_cons_succ]
    refine wpKY.take (i := 23) (v := _) (by simp only [List.getElem?_toArray, List.getElem?_cons_succ, List.getElem?_cons_zero]; rfl) (by kernel_rfl) (by kernel_rfl) (by kernel_rfl) (by kernel_rfl) (by exact fun _ _ _ h => h) (by first | exact Or.inl ⟨by rfl, by intro w hSw; go_simp; try with_reducible rfl⟩ | exact Or.inr ⟨by rfl, rfl⟩) hH ?_
    try simp only [Act.put, List.setIfInBounds_toArray, List.set_cons_zero, List.set_cons_succ]
    refine wpKY.late (i := 24) (by kernel_rfl) (by simp only [List.getElem?_toArray, List.getElem?_cons_succ, List.getElem?_cons_zero]; rfl) (by kernel_rfl) (fun K hK => ?_)
    (have hr := H4.out.below hH); (have p0 := hr.c1v); (have f0 := hr.unfrozen 0); go_simp
    refine hK.out _ _ ?_
    clear hK K
    try simp only [Act.put, List.setIfInBounds_toArray, List.set_cons_zero, List.set_cons_succ]
    refine wpKY.done (by kernel_rfl) ?_ _
    gi_wp2
    have hKD : w5.heap[D]? = some (.deferred (some [])) := (hk5.block D (Array.getElem?_eq_some_iff.1 HKD.out).1).trans HKD.out
    have hK' := (KeepsOthers.setCell w5 ⟨b4, 0, none⟩ (.bool true)).same D _ hKD rfl
    refine ⟨by simp, .inl ⟨_, _, rfl, run_takeDeferred hK', ?_⟩⟩
    have hc4 := cell_kept (World.cell?_setCell_same' w5 ⟨b4, 0, none⟩ (.bool true) (by rw [p0]; rfl)) (grownBy_putObj' _ D (.deferred none)) (fun r e => by cases e; exact ⟨_, hK', rfl⟩)
    refine ⟨.bool true, ?_, rfl, (((HB.out.trans (hk5.mono HB.out.size)).setCell (p := ⟨b4, 0, none⟩) (by have := HZ.out; show _ ≤ b4; omega) _)).trans (belowK_b (w := w) (Nat.le_refl _) _ D _ _ (by have := HB.out.size; have := HB1.out.size; omega) hK' rfl rfl)⟩
    simp [results, Tryz.f23, go_sem, hc4]
  case stop =>
    rintro D c pre W hD hpre ⟨rfl, hin⟩ hK
    exact absurd hpre hin
theorem law19_same (S : Int) (vs vp : Value) (k : Nat) (B : List R4) (P : List Pl) (s : Nat) (F : Nat → Prop) (w : World) (h : BothL w s F k B vs vp P) (hS : sd k = S) (hwf : KeyWf P) :
    Calls Tryz.prog 23 #[.pointer (some ⟨s, 0, none⟩), xV S vs vp] w fun e w' => e = .returned (.bool true) ∧ Below w.heap.size w w' := by
  obtain ⟨sa, cb, rfl, -⟩ := id h.st
  obtain ⟨ap, cp, rfl, -⟩ := id h.pl
  exact law19_same0 S sa ap _ cb cp k B P s (fun b => F b ∧ b < w.heap.size) w ⟨h.land.weaken (fun b y z => ⟨y, z⟩), h.st, h.pl, fun b e y => h.ns b e y.1, fun b e y => h.np b e y.1, h.ls, h.lp⟩ hS hwf (fun b y => y.2)
end Go.Proofs.YtjbnfppnmljbmaaGreat
end
